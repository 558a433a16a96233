/- The document's own way with a text: what it says; the line that says so. -/
import Derived.Test.YtmanfmpdmmhbfaaDoorText16
namespace Go.Proofs.YtmanfmpdmmhbfaaDoor
open Go.Den
set_option maxRecDepth 100000
set_option maxHeartbeats 4000000

/-! ### A line the document's way -/
structure Rn where
  k : Int := 0
  q : Int := 0
  o : Int := 0
  ns : List Int := []

def toL (x : Ln) : Rn :=
  if x.k = 1 then { k := 1, ns := x.c0 :: x.c1 :: x.c2 :: x.c3 :: x.cls }
  else if x.k = 2 then { k := 2, q := x.rk, o := x.of, ns := [x.wk, x.rn] }
  else if x.k = 3 then { k := 3, ns := [x.wk, x.tm] }
  else if x.k = 4 then { k := 4, ns := [x.tm] }
  else if x.k = 5 then { k := 5, ns := [x.wk] }
  else { k := x.k }

/-- What it answers: a line, or that it is none. -/
def RefP (p : Option Ln) (r : Rn) (t : Bool) : Prop := t = true ∧ (∃ x, p = some x ∧ r = toL x) ∨ t = false ∧ p = none

abbrev rnL (r : Rn) (a : Option Addr) (l c : Nat) : List Value := [.int .i64 r.k, .int .i64 r.q, .int .i64 r.o, .slice a l c]
abbrev rnV (r : Rn) (a : Option Addr) (l c : Nat) : Value := .agg #[.int .i64 r.k, .int .i64 r.q, .int .i64 r.o, .slice a l c]

def GoodK (k l : Nat) : Prop := k = 1 ∧ 4 ≤ l ∧ l ≤ 32 ∨ k = 3 ∧ l = 2 ∨ k = 4 ∧ l = 1 ∨ k = 5 ∧ l = 1 ∨ 6 ≤ k ∧ l = 0
instance (k l : Nat) : Decidable (GoodK k l) := by unfold GoodK; infer_instance

theorem line_good {k : Nat} {ns : List Int} (h : GoodK k ns.length) : ∃ x, lineF k ns = some x ∧ ({ k := k, ns := ns } : Rn) = toL x := by
  rcases h with ⟨rfl, h1, h2⟩ | ⟨rfl, h⟩ | ⟨rfl, h⟩ | ⟨rfl, h⟩ | ⟨hk, h⟩
  · rcases ns with _ | ⟨a, _ | ⟨b, _ | ⟨c, _ | ⟨d, r⟩⟩⟩⟩
    · simp at h1
    · simp at h1
    · simp at h1
    · simp at h1
    · refine ⟨{ k := 1, c0 := a, c1 := b, c2 := c, c3 := d, cls := r }, ?_, rfl⟩
      unfold lineF
      rw [if_pos rfl]
      dsimp only
      rw [if_pos (by simp at h2; omega)]
  · rcases ns with _ | ⟨a, _ | ⟨b, _ | ⟨c, r⟩⟩⟩
    · simp at h
    · simp at h
    · exact ⟨{ k := 3, wk := a, tm := b }, rfl, rfl⟩
    · simp at h
  · rcases ns with _ | ⟨a, _ | ⟨b, r⟩⟩
    · simp at h
    · exact ⟨{ k := 4, tm := a }, rfl, rfl⟩
    · simp at h
  · rcases ns with _ | ⟨a, _ | ⟨b, r⟩⟩
    · simp at h
    · exact ⟨{ k := 5, wk := a }, rfl, rfl⟩
    · simp at h
  · have : ns = [] := List.length_eq_zero_iff.1 h
    subst this
    refine ⟨{ k := k }, ?_, ?_⟩
    · unfold lineF
      rw [if_neg (by omega), if_neg (by omega), if_neg (by omega), if_neg (by omega), if_pos hk]
    · unfold toL
      rw [if_neg (by show ¬ (k : Int) = 1; omega), if_neg (by show ¬ (k : Int) = 2; omega), if_neg (by show ¬ (k : Int) = 3; omega), if_neg (by show ¬ (k : Int) = 4; omega), if_neg (by show ¬ (k : Int) = 5; omega)]

theorem line_bad {k : Nat} {ns : List Int} (hk : k ≠ 2) (h : ¬ GoodK k ns.length) : lineF k ns = none := by
  unfold GoodK at h
  exact lineF_none (by omega) (by omega) (by omega) (by omega) (by omega) hk

section
variable {w : World}

theorem LD4 {b : Nat} {r : Rn} {a : Option Addr} {l c : Nat} {t : TypeId} {K : Int → Int → Int → Option Addr → Nat → Nat → Prop} (hb : w.heap[b]? = some (.cells (rnL r a l c).toArray t (0, 0)))
    (hK : K r.k r.q r.o a l c) :
    LDi .i64 w ⟨b, 0, none⟩ fun k => LDi .i64 w ⟨b, 1, none⟩ fun q => LDi .i64 w ⟨b, 2, none⟩ fun o => LDl w ⟨b, 3, none⟩ fun a l c => K k q o a l c := by
  rw [LDi_of (cellH_of hb 0), LDi_of (cellH_of hb 1), LDi_of (cellH_of hb 2), LDl_of (cellH_of hb 3)]
  exact hK

theorem FIN4 {w₀ w : World} {b : Nat} {x0 x1 x2 x3 : Value} {r : Rn} {a : Option Addr} {l c : Nat} {t : TypeId} {K : World → Int → Int → Int → Option Addr → Nat → Nat → Prop} (hE : Eff w₀ w []) (hb0 : w₀.heap.size ≤ b)
    (hb : w.heap[b]? = some (.cells [x0, x1, x2, x3].toArray t (0, 0)))
    (hK : ∀ w', Eff w₀ w' [] → Eff w w' [b] → K w' r.k r.q r.o a l c) :
    ST1 w ⟨b, 0, none⟩ (.int .i64 r.k) fun w => ST1 w ⟨b, 1, none⟩ (.int .i64 r.q) fun w => ST1 w ⟨b, 2, none⟩ (.int .i64 r.o) fun w => ST1 w ⟨b, 3, none⟩ (.slice a l c) fun w =>
      LDi .i64 w ⟨b, 0, none⟩ fun k => LDi .i64 w ⟨b, 1, none⟩ fun q => LDi .i64 w ⟨b, 2, none⟩ fun o => LDl w ⟨b, 3, none⟩ fun a l c => K w k q o a l c :=
  ST4_of trivial trivial trivial trivial hE hb0 hb fun w' hE' hb' hE'' => LD4 hb' (hK w' hE' hE'')

theorem TUP_rnb {r : Rn} {a : Option Addr} {l c : Nat} {t : Bool} {K : Int → Int → Int → Option Addr → Nat → Nat → Bool → Prop} :
    (TUPV (.tuple #[rnV r a l c, .bool t]) fun cs => GETV cs 0 fun v => AGGV v fun ds => GETV ds 0 fun v => INTV .i64 v fun k => GETV ds 1 fun v => INTV .i64 v fun q => GETV ds 2 fun v => INTV .i64 v fun o => GETV ds 3 fun v => SLV v fun a l c => LEN ds 4 (
      GETV cs 1 fun v => BOOLV v fun t => LEN cs 2 (K k q o a l c t))) = K r.k r.q r.o a l c t := rfl

theorem ask25_spec {a : Option Addr} {l c : Nat} {ws : List Str} (hs : SlS w.heap a l ws) (hw : ∀ x ∈ ws, x.length ≤ 1000000000) :
    CALL Pg F_r25_ask [.slice a l c] w fun v w' => Eff w w' [] ∧ ∃ r a l c t, v = .tuple #[rnV r a l c, .bool t] ∧ SlI w'.heap a l r.ns ∧ RefP (askF ws) r t ∧ l ≤ c ∧ NewAt w w' a := by
  apply C_r25_ask
  unfold D_r25_ask
  have hll := hs.1
  intro b1 w1 hE1 hs1 hb1
  refine ITE_ne (fun h => ?_) (fun h => ?_)
  · refine FIN4 (r := {}) hE1 hs1 hb1 fun w5 hE5 _ => ⟨hE5, {}, none, 0, 0, false, rfl, ⟨rfl, .inl rfl⟩, .inr ⟨rfl, ?_⟩, Nat.le_refl _, .none⟩
    rcases ws with _ | ⟨_, _ | ⟨_, _ | ⟨_, _ | ⟨_, _ | ⟨_, _⟩⟩⟩⟩⟩
    · rfl
    · rfl
    · rfl
    · rfl
    · simp at hll; omega
    · rfl
  obtain ⟨p, aw, rw', y, rfl⟩ : ∃ p aw rw' y, ws = [p, aw, rw', y] := by
    rcases ws with _ | ⟨p, _ | ⟨aw, _ | ⟨rw', _ | ⟨y, _ | ⟨_, _⟩⟩⟩⟩⟩
    · simp at hll; omega
    · simp at hll; omega
    · simp at hll; omega
    · simp at hll; omega
    · exact ⟨p, aw, rw', y, rfl⟩
    · simp at hll; omega
  have hask : askF [p, aw, rw', y] = match numF aw, numF (wordN y) with
    | some w, some n => if reqF rw' = 0 ∨ y.head? = some 35 ∧ n < 1 then none
        else if y.head? = some 35 then some { k := 2, wk := w, rk := reqF rw', of := n } else some { k := 2, wk := w, rk := reqF rw', rn := n }
    | _, _ => none := rfl
  refine IDX_s (hs.eff hE1) (by omega) (by omega) fun b o hc => ?_
  rw [LDs_of hc]
  have e2 : bs ([p, aw, rw', y].getD (2 : Int).toNat []) = bs rw' := rfl
  rw [e2]
  refine request25_spec.mono fun v w6 ⟨hE6, hv⟩ => ?_
  subst hv
  rw [INTV_int]
  have er : (bs rw').data.toList = rw' := rfl
  rw [er]
  intro b3 w7 hE7 hs7 hb7
  refine ST4_of trivial trivial trivial trivial hE7 hs7 hb7 fun w11 hE11 hb311 _ => ?_
  have hE011 := (hE1.trans0 hE6).trans0 hE11
  have hb111 := (hE6.trans0 hE11).obj0 hb1
  have hl1 := obj_lt hb1
  have hs6 := hE6.size
  refine IDX_s (hs.eff hE011) (by omega) (by omega) fun b o hc => ?_
  rw [LDs_of hc]
  have e1 : bs ([p, aw, rw', y].getD (1 : Int).toNat []) = bs aw := rfl
  rw [e1]
  refine (Number_spec (by rw [bs_size]; exact hw _ (by simp))).mono fun v w12 ⟨hE12, n5, t1, hv, hin5, hp5⟩ => ?_
  subst hv
  rw [TUP_ib]
  have ea : (bs aw).data.toList = aw := rfl
  rw [ea] at hp5
  have hE012 := hE011.trans0 hE12
  have hb112 := hE12.obj0 hb111
  have hb312 := hE12.obj0 hb311
  refine IDX_s (hs.eff hE012) (by omega) (by omega) fun b o hc => ?_
  rw [LDs_of hc]
  have e3 : bs ([p, aw, rw', y].getD (3 : Int).toNat []) = bs y := rfl
  rw [e3]
  have hy : y.length ≤ 1000000000 := hw _ (by simp)
  refine ⟨fun vs w' => w' = w12 ∧ vs = [.bool (decide (y.head? = some 35))], ?_, ?_⟩
  · refine ITE_d (fun h2 => ?_) (fun h2 => ⟨rfl, ?_⟩)
    · refine SILN_sidx u_string (by omega) (by omega) ?_
      rw [INTV_int]
      refine ⟨rfl, ?_⟩
      rcases y with _ | ⟨c0, r0⟩
      · rw [bs_size, List.length_nil] at h2; omega
      · show [Value.bool ((c0.toNat : Int) == 35)] = _
        congr 2
        rw [Bool.eq_iff_iff, beq_iff_eq, decide_eq_true_eq]
        constructor
        · intro h
          have : c0 = 35 := UInt8.toNat_inj.1 (by show c0.toNat = 35; omega)
          rw [this]; rfl
        · intro h
          have : c0 = 35 := by simpa using h
          rw [this]; rfl
    · rw [bs_size] at h2
      have : y = [] := List.length_eq_zero_iff.1 (by omega)
      rw [this]; rfl
  intro w13 v6 ⟨hw13, hv⟩
  subst hw13
  cases hv
  rw [BOOLV_bool]
  refine ⟨fun vs w' => w' = w13 ∧ vs = [.string (bs (wordN y))], ⟨fun vs w' => w' = w13 ∧ vs = [.bool (decide (y.head? = some 35))], ⟨rfl, rfl⟩, ?_⟩, ?_⟩
  · intro w14 v7 ⟨hw14, hv⟩
    subst hw14
    cases hv
    rw [BOOLV_bool]
    refine ITE_d (fun h2 => ?_) (fun h2 => ⟨rfl, ?_⟩)
    · have hy0 : 1 ≤ y.length := by
        cases y with
        | nil => cases h2
        | cons _ _ => simp
      refine SILN_subl u_string (by omega) (by rw [bs_size]; omega) ?_
      rw [STRV_string]
      refine ⟨rfl, ?_⟩
      unfold wordN
      rw [if_pos h2]
      show [Value.string (bs (y.drop 1))] = _
      rw [List.drop_one]
    · unfold wordN
      rw [if_neg h2]
  intro w15 v9 ⟨hw15, hv⟩
  subst hw15
  cases hv
  rw [STRV_string]
  have hwn : (wordN y).length ≤ 1000000000 := by
    unfold wordN
    split
    · rw [List.length_tail]; omega
    · exact hy
  refine (Number_spec (by rw [bs_size]; exact hwn)).mono fun v w16 ⟨hE16, n7, t4, hv, hin7, hp7⟩ => ?_
  subst hv
  rw [TUP_ib]
  have ew : (bs (wordN y)).data.toList = wordN y := rfl
  rw [ew] at hp7
  have hE016 := hE012.trans0 hE16
  have hb116 := hE16.obj0 hb112
  have hb316 := hE16.obj0 hb312
  refine ⟨fun vs w' => w' = w16 ∧ vs = [.bool false] ∧ t1 = true ∧ t4 = true ∧ reqF rw' ≠ 0 ∧ ¬ (y.head? = some 35 ∧ n7 < 1), ⟨fun vs w' => w' = w16 ∧ vs = [.bool (decide (t1 = false ∨ t4 = false ∨ reqF rw' = 0 ∨ y.head? = some 35 ∧ n7 < 1))], ?_, ?_⟩, ?_⟩
  · refine ITE_intro (fun h2 => ⟨rfl, by rw [decide_eq_true (.inl (by simpa using h2))]⟩) (fun h2 => ?_)
    have h2 : t1 = true := by simpa using h2
    refine ITE_intro (fun h3 => ⟨rfl, by rw [decide_eq_true (.inr (.inl (by simpa using h3)))]⟩) (fun h3 => ?_)
    have h3 : t4 = true := by simpa using h3
    rw [LDi_of (n := (reqF rw' : Nat)) (cellH_of hb316 1)]
    refine ITE_eq (fun h4 => ⟨rfl, by rw [decide_eq_true (.inr (.inr (.inl (by omega))))]⟩) (fun h4 => ?_)
    refine ITE_d (fun h5 => ⟨rfl, ?_⟩) (fun h5 => ⟨rfl, ?_⟩)
    · rw [decide_eq_decide.2 (show n7 < 1 ↔ (t1 = false ∨ t4 = false ∨ reqF rw' = 0 ∨ y.head? = some 35 ∧ n7 < 1) from ⟨fun h => .inr (.inr (.inr ⟨h5, h⟩)), ?_⟩)]
      rintro (h | h | h | h)
      · rw [h2] at h; cases h
      · rw [h3] at h; cases h
      · omega
      · exact h.2
    · rw [decide_eq_false]
      rintro (h | h | h | h)
      · rw [h2] at h; cases h
      · rw [h3] at h; cases h
      · omega
      · exact h5 h.1
  · intro w17 v13 ⟨hw17, hv⟩
    subst hw17
    cases hv
    rw [BOOLV_bool]
    refine ITE_d (fun h2 => ?_) (fun h2 => ?_)
    · refine FIN4 (r := {}) hE016 hs1 hb116 fun w21 hE21 _ => ⟨hE21, {}, none, 0, 0, false, rfl, ⟨rfl, .inl rfl⟩, .inr ⟨rfl, ?_⟩, Nat.le_refl _, .none⟩
      rw [hask]
      rcases h2 with h2 | h2 | h2
      · rcases hp5 with ⟨_, h3⟩ | ⟨h3, _⟩
        · rw [h3] at h2; cases h2
        · rw [h3]
      · rcases hp7 with ⟨_, h3⟩ | ⟨h3, _⟩
        · rw [h3] at h2; cases h2
        · rw [h3]; cases numF aw <;> rfl
      · rcases hp7 with ⟨h3, _⟩ | ⟨h3, _⟩
        · rw [h3]
          cases numF aw with
          | none => rfl
          | some _ => dsimp only; rw [if_pos h2]
        · rw [h3]; cases numF aw <;> rfl
    · rw [not_or, not_or, not_or] at h2
      exact ⟨rfl, rfl, by simpa using h2.1, by simpa using h2.2.1, h2.2.2.1, h2.2.2.2⟩
  intro w22 v14 ⟨hw22, hv, ht1, ht4, hrq, hof⟩
  subst hw22
  cases hv
  rw [BOOLV_bool]
  have hgood : askF [p, aw, rw', y] = if y.head? = some 35 then some { k := 2, wk := n5, rk := reqF rw', of := n7 } else some { k := 2, wk := n5, rk := reqF rw', rn := n7 } := by
    rw [hask]
    rcases hp5 with ⟨h3, _⟩ | ⟨_, h3⟩
    · rcases hp7 with ⟨h4, _⟩ | ⟨_, h4⟩
      · rw [h3, h4]
        dsimp only
        rw [if_neg]
        rintro (h | h)
        · exact hrq h
        · exact hof h
      · rw [ht4] at h4; cases h4
    · rw [ht1] at h3; cases h3
  have hl3 := obj_lt hb311
  have hl316 := obj_lt hb316
  have hne13 : b1 ≠ b3 := by omega
  have hs0 := hE016.size
  intro b6 w23 hE23 hs23 hb23
  have hE023 := hE016.trans0 hE23
  have hb123 := hE23.obj0 hb116
  have hb323 := hE23.obj0 hb316
  have hw3 : w.heap.size ≤ b3 := by have := hE1.size; omega
  refine ST1_of trivial hb323 (by simp) fun w24 hb324 hE24 => ?_
  have hE024 : Eff w w24 [] := hE023.own hE24 (by simpa using hw3)
  have hb124 := hE24.obj hb123 (by simpa using hne13)
  have hb624 := hE24.obj hb23 (by simp; omega)
  have hsl24 : SlI w24.heap (some ⟨b6, 0, none⟩) 2 [n5, n7] := sl_one (xs := [n5, n7]) (fun _ => rfl) (by omega) hb624 (by simp)
  refine ⟨fun vs w' => vs = [] ∧ ∃ (b : Nat) (o : Int) (ns : List Int), (∃ x, askF [p, aw, rw', y] = some x ∧ ({ k := 2, q := reqF rw', o := o, ns := ns } : Rn) = toL x) ∧ Eff w w' [] ∧ b1 < b ∧ b < w'.heap.size ∧ SlI w'.heap (some ⟨b, 0, none⟩) 2 ns ∧
      w'.heap[b1]? = some (.cells (rnL {} none 0 0).toArray T_chandleryref25_Line_r25_Line (0, 0)) ∧ w'.heap[b3]? = some (.cells (rnL { k := 2, q := reqF rw', o := o } (some ⟨b, 0, none⟩) 2 2).toArray T_chandleryref25_Line_r25_Line (0, 0)),
    ⟨fun vs w' => w' = w24 ∧ vs = [.bool (decide (y.head? = some 35))], ⟨rfl, rfl⟩, ?_⟩, ?_⟩
  · intro w25 v15 ⟨hw25, hv⟩
    subst hw25
    cases hv
    rw [BOOLV_bool]
    refine ITE_d (fun h2 => ?_) (fun h2 => ?_)
    · rw [if_pos h2] at hgood
      refine ST1_of trivial hb324 (by simp) fun w26 hb326 hE26 => ?_
      intro b7 w27 hE27 hs27 hb27
      refine ST1_of trivial (hE27.obj0 hb326) (by simp) fun w28 hb328 hE28 => ?_
      have hl326 := obj_lt hb326
      have hb728 := hE28.obj hb27 (by simp; omega)
      refine ⟨rfl, b7, n7, [n5, 0], ⟨_, hgood, rfl⟩, ((hE024.own hE26 (by simpa using hw3)).trans0 hE27).own hE28 (by simpa using hw3), ?_, obj_lt hb728, sl_one (xs := [n5, 0]) (fun _ => rfl) (by omega) hb728 (by simp), ?_, hb328⟩
      · have := obj_lt hb124
        have := hE26.size
        omega
      · exact hE28.obj (hE27.obj0 (hE26.obj hb124 (by simpa using hne13))) (by simpa using hne13)
    · rw [if_neg h2] at hgood
      exact ⟨rfl, b6, 0, [n5, n7], ⟨_, hgood, rfl⟩, hE024, by have := obj_lt hb116; omega, obj_lt hb624, hsl24, hb124, hb324⟩
  · intro w29 ⟨_, b, o, ns, hx, hE29, hb1b, hbl, hsl, hb129, hb329⟩
    refine LD4 (r := { k := 2, q := reqF rw', o := o, ns := ns }) hb329 ?_
    refine FIN4 (r := { k := 2, q := reqF rw', o := o, ns := ns }) hE29 hs1 hb129 fun w33 hE33 hE33' => ⟨hE33, { k := 2, q := reqF rw', o := o, ns := ns }, _, _, _, true, rfl, ?_, .inl ⟨rfl, ?_⟩, Nat.le_refl _, ?_⟩
    · refine Sl.same hsl fun b' o' hb' => ?_
      cases hb'
      exact hE33'.keep b hbl (by simp; omega)
    · exact hx
    · intro b' o' hb'
      cases hb'
      have := hE33'.size
      exact ⟨by omega, by omega⟩

theorem numsF_none {ps : List Str} {u : Str} (h : u ∈ ps) (hn : numF u = none) : numsF ps = none := numsF_bad h hn

theorem Parse25_spec {s : ByteArray} (hs : s.size ≤ 1000000000) :
    CALL Pg F_r25_Parse [.string s] w fun v w' => Eff w w' [] ∧ ∃ r a l c t, v = .tuple #[rnV r a l c, .bool t] ∧ SlI w'.heap a l r.ns ∧ RefP (parseF (cut s.data.toList)) r t ∧ l ≤ c ∧ NewAt w w' a := by
  apply C_r25_Parse
  unfold D_r25_Parse
  intro b1 w1 hE1 hs1 hb1
  refine (Cut_spec hs).mono fun v w2 ⟨hE2, a1, c1, hv, hc1, hsl⟩ => ?_
  subst hv
  obtain ⟨ps, hps⟩ : ∃ ps, ps = cut s.data.toList := ⟨_, rfl⟩
  rw [← hps] at hsl hc1 ⊢
  obtain ⟨p, r, hpr⟩ := cut_cons s.data.toList
  have hw : ∀ x ∈ ps, x.length ≤ 1000000000 := fun x hx => by
    have := word_le x (hps ▸ hx)
    rw [← size_list] at this; omega
  have hpl : ps.length ≤ 1000000001 := by
    have := cut_len s.data.toList
    rw [← size_list] at this
    rw [hps]; omega
  rw [← hps] at hpr
  have hl0 : 1 ≤ ps.length := by rw [hpr]; simp
  rw [SLV_slice]
  have hE02 := hE1.trans0 hE2
  have hb12 := hE2.obj0 hb1
  refine IDX_s hsl (by omega) (by omega) fun b o hc => ?_
  rw [LDs_of hc]
  have e0 : bs (ps.getD (0 : Int).toNat []) = bs p := by rw [hpr]; rfl
  rw [e0]
  refine kind25_spec.mono fun v w3 ⟨hE3, hv⟩ => ?_
  subst hv
  rw [INTV_int]
  have er : (bs p).data.toList = p := rfl
  rw [er]
  intro b3 w4 hE4 hs4 hb4
  refine ST4_of trivial trivial trivial trivial hE4 hs4 hb4 fun w8 hE8 hb38 _ => ?_
  have hE08 := (hE02.trans0 hE3).trans0 hE8
  have hb18 := (hE3.trans0 hE8).obj0 hb12
  have hl1 := obj_lt hb12
  have hs3 := hE3.size
  have hs2 := hE02.size
  have hb13 : b1 < b3 := by omega
  have hw3 : w.heap.size ≤ b3 := by omega
  have hparse : parseF ps = if kindF p = 2 then askF (p :: r) else match numsF r with
    | none => none
    | some ns => lineF (kindF p) ns := by rw [hpr]; exact parseF_cons p r
  rw [LDi_of (n := (kindF p : Nat)) (cellH_of hb38 0)]
  refine ITE_eq (fun h2 => ?_) (fun h2 => ?_)
  · have hk2 : kindF p = 2 := by omega
    rw [if_pos hk2, ← hpr] at hparse
    refine (ask25_spec (hsl.eff (hE3.trans0 hE8)) hw).mono fun v w9 ⟨hE9, q, a2, l2, c2, t, hv, hsl2, hr, hlc, hn⟩ => ?_
    subst hv
    have hb19 := hE9.obj0 hb18
    rw [TUP_rnb]
    refine FIN4 (w₀ := w) (r := q) (hE08.trans0 hE9) hs1 hb19 fun w13 hE13 hE13' => ⟨hE13, q, a2, l2, c2, t, rfl, ?_, ?_, hlc, ?_⟩
    · have hl8 := obj_lt hb18
      refine Sl.same hsl2 fun b o hb => ?_
      obtain ⟨q1, q2⟩ := hn b o hb
      exact hE13'.keep b q2 (by simp; omega)
    · rw [hparse]; exact hr
    · intro b o hb
      obtain ⟨q1, q2⟩ := hn b o hb
      have := hE08.size
      have := hE13'.size
      exact ⟨by omega, by omega⟩
  have hk2 : kindF p ≠ 2 := by omega
  rw [if_neg hk2] at hparse
  have hzero : parseF ps = none → ∀ {w' : World}, Eff w w' [] → (Eff w w' [] ∧ ∃ r a l c t, Value.tuple #[rnV {} none 0 0, .bool false] = .tuple #[rnV r a l c, .bool t] ∧ SlI w'.heap a l r.ns ∧ RefP (parseF ps) r t ∧ l ≤ c ∧ NewAt w w' a) := fun h w' hE =>
    ⟨hE, {}, none, 0, 0, false, rfl, ⟨rfl, .inl rfl⟩, .inr ⟨rfl, h⟩, Nat.le_refl _, .none⟩
  have hrl : ps.length = r.length + 1 := by rw [hpr]; rfl
  refine LOOP_of (fun vs w' => ∃ (i : Nat) (ns : List Int) (a2 : Option Addr) (c2 : Nat), vs = [.bool false, .int .i64 ((i : Int) + 1)] ∧ i ≤ r.length ∧ Eff w w' [] ∧ Eff w2 w' [] ∧ numsF (r.take i) = some ns ∧ OwI w' (.slice a2 ns.length c2) ns ∧ (∀ b ∈ ownL (.slice a2 ns.length c2), b3 < b) ∧
      w'.heap[b1]? = some (.cells (rnL {} none 0 0).toArray T_chandleryref25_Line_r25_Line (0, 0)) ∧ w'.heap[b3]? = some (.cells (rnL { k := kindF p } a2 ns.length c2).toArray T_chandleryref25_Line_r25_Line (0, 0)))
    (fun vs _ => match vs with | [_, .int _ n] => r.length + 1 - n.toNat | _ => 0) ⟨0, [], none, 0, rfl, by omega, hE08, hE3.trans0 hE8, rfl, OwI.nil, by simp [ownL, Value.ownBlock], hb18, hb38⟩ ?_
  intro w14 v10 v11 ⟨i, ns, a2, c2, hv, hi, hE14, hE214, hns, ho, hown, hb114, hb314⟩
  cases hv
  rw [INTV_int, BOOLV_bool]
  have hnl : ns.length = i := by
    have := (numsF_spec.1 hns).2
    have := congrArg List.length this
    simp only [List.length_take, List.length_map] at this
    omega
  refine ITE_d (fun h1 => ?_) (fun h1 => ?_)
  · refine IDX_s (hsl.eff hE214) (by omega) h1 fun b o hc => ?_
    rw [LDs_of hc]
    refine (Number_spec (str_at hw _)).mono fun v w15 ⟨hE15, n, t, hv, hin, hnp⟩ => ?_
    subst hv
    rw [TUP_ib]
    have ei : ((i : Int) + 1).toNat = i + 1 := by omega
    rw [ei] at hnp
    have hd : (bs (ps.getD (i + 1) [])).data.toList = r.getD i [] := by
      show ps.getD (i + 1) [] = _
      rw [hpr]; simp
    rw [hd] at hnp
    have hir : i < r.length := by omega
    have hE015 := hE14.trans0 hE15
    have hb115 := hE15.obj0 hb114
    have hb315 := hE15.obj0 hb314
    rcases hnp with ⟨hn, rfl⟩ | ⟨hn, rfl⟩
    · refine ITE_intro (fun h => by cases h) (fun _ => ?_)
      rw [LDl_of (cellH_of hb315 3)]
      intro b5 w20 hE20 hs20 hb20
      have ho20 := ho.eff (hE15.trans0 hE20)
      have hb120 := hE20.obj0 hb115
      have hb320 := hE20.obj0 hb315
      have hl3 := obj_lt hb320
      refine SEML_int ho20 (by omega) hb20 fun a' c' w21 ho21 hE21 hb21 => ?_
      rw [SLV_slice]
      have hge : ∀ b ∈ ownL (.slice a2 ns.length c2), w.heap.size ≤ b := fun b hb => by have := hown b hb; omega
      have hown' : ∀ b ∈ ownL (.slice a' (ns.length + 1) c'), b3 < b := fun b hb => by
        rcases hb21 b hb with h | h
        · exact hown b h
        · omega
      have hb321 := hE21.obj hb320 (fun h => by have := hown _ h; omega)
      have hb121 := hE21.obj hb120 (fun h => by have := hown _ h; omega)
      refine ST1_of trivial hb321 (by simp) fun w22 hb322 hE22 => ?_
      have hwk : r.take (i + 1) = r.take i ++ [r.getD i []] := by
        have e : r.getD i [] = r[i] := by simp [hir]
        rw [e, List.take_succ_eq_append_getElem hir]
      have hE022 : Eff w w22 [] := ((hE015.trans0 hE20).own hE21 hge).own hE22 (by simpa using hw3)
      have hs2' := hE2.size
      have hE222 : Eff w2 w22 [] := (((hE214.trans0 hE15).trans0 hE20).own hE21 (fun b hb => by have := hown b hb; omega)).own hE22 (by simp; omega)
      have ho22 : OwI w22 (.slice a' (ns ++ [n]).length c') (ns ++ [n]) := by
        rw [List.length_append]
        unfold OwI at ho21 ⊢
        rw [List.length_append] at ho21 ⊢
        exact own_eff ho21 hE22 (fun b hb => by have := hown' b hb; simp; omega)
      refine BINDw (by omega) (by omega) ⟨⟨i + 1, ns ++ [n], a', c', by simp, by omega, hE022, hE222, by rw [hwk]; exact numsF_snoc hns hn, ho22, by simpa using hown', hE22.obj hb121 (by simp; omega), by simpa using hb322⟩, by first | omega | (dsimp only; omega)⟩
    · refine ITE_intro (fun _ => ?_) (fun h => by cases h)
      refine FIN4 (r := {}) hE015 hs1 hb115 fun w19 hE19 _ => hzero ?_ hE19
      have hm : r.getD i [] ∈ r := by
        have e : r.getD i [] = r[i] := by simp [hir]
        rw [e]; exact List.getElem_mem _
      rw [hparse, numsF_bad hm hn]
  · have hir : i = r.length := by omega
    rw [hir, List.take_length] at hns
    rw [hns] at hparse
    dsimp only at hparse
    rw [LDl_of (cellH_of hb314 3)]
    refine ⟨fun vs w' => w' = w14 ∧ vs = [.bool (decide (GoodK (kindF p) ns.length))], ?_, ?_⟩
    · rw [LDi_of (n := (kindF p : Nat)) (cellH_of hb314 0)]
      have T : GoodK (kindF p) ns.length → (w14 = w14 ∧ [Value.bool true] = [.bool (decide (GoodK (kindF p) ns.length))]) := fun h => ⟨rfl, by rw [decide_eq_true h]⟩
      have F : ¬ GoodK (kindF p) ns.length → (w14 = w14 ∧ [Value.bool false] = [.bool (decide (GoodK (kindF p) ns.length))]) := fun h => ⟨rfl, by rw [decide_eq_false h]⟩
      have Z : (ns.length = 0 ↔ GoodK (kindF p) ns.length) → (w14 = w14 ∧ [Value.bool ((ns.length : Int) == 0)] = [.bool (decide (GoodK (kindF p) ns.length))]) := fun h => ⟨rfl, by
        rw [show ((ns.length : Int) == 0) = decide (GoodK (kindF p) ns.length) from by rw [Bool.eq_iff_iff, beq_iff_eq, decide_eq_true_eq, ← h]; omega]⟩
      unfold GoodK at T F Z
      repeat' first
        | exact T (by omega)
        | exact F (by omega)
        | exact Z (by omega)
        | refine ITE_eq (fun _ => ?_) (fun _ => ?_)
        | refine ITE_d (fun _ => ?_) (fun _ => ?_)
        | rw [LDi_of (n := (kindF p : Nat)) (cellH_of hb314 0)]
    · intro w23 v16 ⟨hw23, hv⟩
      subst hw23
      cases hv
      rw [BOOLV_bool]
      by_cases hg : GoodK (kindF p) ns.length
      · rw [decide_eq_true hg]
        refine ITE_intro (fun h => by cases h) (fun _ => ?_)
        refine LD4 (r := { k := kindF p, ns := ns }) hb314 ?_
        refine FIN4 (r := { k := kindF p, ns := ns }) hE14 hs1 hb114 fun w31 hE31 hE31' => ⟨hE31, { k := kindF p, ns := ns }, _, _, _, true, rfl, ?_, .inl ⟨rfl, ?_⟩, own_cap ho, ?_⟩
        · refine Sl.same ho.sl.2 fun b o hb => ?_
          obtain ⟨q1, q2⟩ := own_blk ho hb
          have := hown b q1
          exact hE31'.keep b q2 (by simp; omega)
        · rw [hparse]; exact line_good hg
        · intro b o hb
          obtain ⟨q1, q2⟩ := own_blk ho hb
          have := hown b q1
          have := hE31'.size
          exact ⟨by omega, by omega⟩
      · rw [decide_eq_false hg]
        refine ITE_intro (fun _ => ?_) (fun h => by cases h)
        refine FIN4 (r := {}) hE14 hs1 hb114 fun w27 hE27 _ => hzero ?_ hE27
        rw [hparse]; exact line_bad hk2 hg
end
end Go.Proofs.YtmanfmpdmmhbfaaDoor
