/- What is asked for; what a text says. -/
import Derived.Test.YtmanfmpdmmhbfaaDoorText6
namespace Go.Proofs.YtmanfmpdmmhbfaaDoor
open Go.Den
set_option maxRecDepth 100000
set_option maxHeartbeats 4000000

/-- What is asked for, of two words: which request, its number, whose answer. -/
def reqS : List Str → Option (Int × Int × Int)
  | [r, x] => match numF (wordN x) with
    | some n => if reqF r = 0 ∨ x.head? = some 35 ∧ n < 1 then none else some (if x.head? = some 35 then ((reqF r : Int), 0, n) else ((reqF r : Int), n, 0))
    | none => none
  | _ => none

theorem reqS_two (r x : Str) : reqS [r, x] = match numF (wordN x) with
    | some n => if reqF r = 0 ∨ x.head? = some 35 ∧ n < 1 then none else some (if x.head? = some 35 then ((reqF r : Int), 0, n) else ((reqF r : Int), n, 0))
    | none => none := rfl

theorem askF_reqS (p a : Str) (r : List Str) : askF (p :: a :: r) = match numF a, reqS r with
    | some w, some (k, n, o) => some { k := 2, wk := w, rk := k, rn := n, of := o }
    | _, _ => none := by
  rcases r with _ | ⟨r1, _ | ⟨x, _ | ⟨y, r⟩⟩⟩
  · unfold askF reqS; cases numF a <;> rfl
  · unfold askF reqS; cases numF a <;> rfl
  · unfold askF reqS
    dsimp only
    rcases h1 : numF a with _ | w
    · rcases numF (wordN x) with _ | n <;> rfl
    · rcases h2 : numF (wordN x) with _ | n
      · rfl
      · dsimp only
        by_cases h : reqF r1 = 0 ∨ x.head? = some 35 ∧ n < 1
        · rw [if_pos h, if_pos h]
        · rw [if_neg h, if_neg h]
          by_cases h2 : x.head? = some 35
          · rw [if_pos h2, if_pos h2]
          · rw [if_neg h2, if_neg h2]
  · unfold askF reqS; cases numF a <;> rfl

section
variable {w : World}

theorem TUP_req {q0 q1 o : Int} {t : Bool} {K : Int → Int → Int → Bool → Prop} :
    (TUPV (.tuple #[.agg #[.int .i64 q0, .int .i64 q1], .int .i64 o, .bool t]) fun cs => GETV cs 0 fun a => AGGV a fun ds => GETV ds 0 fun v => INTV .i64 v fun n => GETV ds 1 fun v2 => INTV .i64 v2 fun m => LEN ds 2 (GETV cs 1 fun u => INTV .i64 u fun o => GETV cs 2 fun u => BOOLV u fun t => LEN cs 3 (K n m o t))) = K q0 q1 o t := rfl

theorem TUP_lnb {y : Ln} {a : Option Addr} {l c : Nat} {t : Bool} {K : Int → Int → Int → Int → Int → Int → Int → Option Addr → Nat → Nat → Int → Int → Int → Bool → Prop} :
    (TUPV (.tuple #[lnV y a l c, .bool t]) fun cs => GETV cs 0 fun v => AGGV v fun ds => GETV ds 0 fun v => INTV .i64 v fun k => GETV ds 1 fun v => INTV .i64 v fun wk => GETV ds 2 fun v => INTV .i64 v fun tm => GETV ds 3 fun v => INTV .i64 v fun c0 => GETV ds 4 fun v => INTV .i64 v fun c1 =>
      GETV ds 5 fun v => INTV .i64 v fun c2 => GETV ds 6 fun v => INTV .i64 v fun c3 => GETV ds 7 fun v => SLV v fun a l c => GETV ds 8 fun v => INTV .i64 v fun rk => GETV ds 9 fun v => INTV .i64 v fun rn => GETV ds 10 fun v => INTV .i64 v fun of => LEN ds 11 (
      GETV cs 1 fun u => BOOLV u fun t => LEN cs 2 (K k wk tm c0 c1 c2 c3 a l c rk rn of t))) = K y.k y.wk y.tm y.c0 y.c1 y.c2 y.c3 a l c y.rk y.rn y.of t := rfl

theorem request_spec (hg : Glo w) {a : Option Addr} {l c : Nat} {ws : List Str} (hs : SlS w.heap a l ws) (hw : ∀ x ∈ ws, x.length ≤ 1000000000) :
    CALL Pg F_text_request [.slice a l c] w fun v w' => Eff w w' [] ∧ ∃ q0 q1 o t, v = .tuple #[.agg #[.int .i64 q0, .int .i64 q1], .int .i64 o, .bool t] ∧ (t = true ∧ reqS ws = some (q0, q1, o) ∨ t = false ∧ reqS ws = none) := by
  apply C_text_request
  unfold D_text_request
  have hll := hs.1
  intro b1 w1 hE1 hs1 hb1
  refine ITE_ne (fun h => ?_) (fun h => ?_)
  · refine ST2_of trivial trivial hE1 hs1 hb1 fun w3 hE3 hb3 _ => ?_
    rw [LDi_of (cellH_of hb3 0), LDi_of (cellH_of hb3 1)]
    refine ⟨hE3, 0, 0, 0, false, rfl, .inr ⟨rfl, ?_⟩⟩
    rcases ws with _ | ⟨_, _ | ⟨_, _ | ⟨_, _⟩⟩⟩
    · rfl
    · rfl
    · simp at hll; omega
    · rfl
  obtain ⟨r, x, rfl⟩ : ∃ r x, ws = [r, x] := by
    rcases ws with _ | ⟨r, _ | ⟨x, _ | ⟨_, _⟩⟩⟩
    · simp at hll; omega
    · simp at hll; omega
    · exact ⟨r, x, rfl⟩
    · simp at hll; omega
  have hl2 : l = 2 := by omega
  refine kinds_spec.mono fun v w4 ⟨hE4, hv⟩ => ?_
  subst hv
  rw [AGG_kinds]
  have hE04 := hE1.trans0 hE4
  refine LOOP_of (fun vs w' => w' = w4 ∧ ∃ i : Nat, vs = [.int .i64 (lastM kinds r i : Nat), .int .i64 i] ∧ i ≤ 4)
    (fun vs _ => match vs with | [_, .int _ n] => 4 - n.toNat | _ => 0) ⟨rfl, 0, rfl, by omega⟩ ?_
  intro w5 v6 v7 ⟨hw5, i, hv, hi⟩
  simp only [List.cons.injEq, and_true] at hv
  obtain ⟨rfl, rfl⟩ := hv
  subst hw5
  rw [INTV_int, INTV_int]
  refine ITE_d (fun h1 => ?_) (fun h1 => ?_)
  · refine SILN_kind (by omega) (by omega) ?_
    rw [STRV_string, Int.toNat_natCast]
    refine ⟨fun vs w' => w' = w5 ∧ vs = [.bool (decide (0 < i ∧ kinds.getD i [] = r))], ?_, ?_⟩
    · refine ITE_d (fun h2 => ?_) (fun h2 => ⟨rfl, by rw [decide_eq_false (by omega)]⟩)
      refine IDX_s (hs.eff hE04) (by omega) (by omega) fun b o hc => ?_
      rw [LDs_of hc, bs_beq]
      refine ⟨rfl, ?_⟩
      have e : (bs ([r, x].getD (0 : Int).toNat [])).data.toList = r := rfl
      rw [e, decide_eq_decide.2 (show kinds.getD i [] = r ↔ (0 < i ∧ kinds.getD i [] = r) from ⟨fun h => ⟨by omega, h⟩, fun h => h.2⟩)]
    · intro w6 v9 ⟨hw6, hv⟩
      subst hw6
      cases hv
      rw [BOOLV_bool]
      refine ITE_d (fun h2 => ?_) (fun h2 => ?_)
      · refine BINDw (by omega) (by omega) ⟨⟨rfl, i + 1, ?_, by omega⟩, by first | omega | (dsimp only; omega)⟩
        have : lastM kinds r (i + 1) = i := by rw [lastM, if_pos h2]
        rw [this]; rfl
      · refine BINDw (by omega) (by omega) ⟨⟨rfl, i + 1, ?_, by omega⟩, by first | omega | (dsimp only; omega)⟩
        have : lastM kinds r (i + 1) = lastM kinds r i := by rw [lastM, if_neg h2]
        rw [this]; rfl
  have hi4 : i = 4 := by omega
  subst hi4
  have hrq : lastM kinds r 4 = reqF r := rfl
  rw [hrq]
  refine IDX_s (hs.eff hE04) (by omega) (by omega) fun b o hc => ?_
  rw [LDs_of hc]
  have hx : (bs ([r, x].getD (1 : Int).toNat [])) = bs x := rfl
  rw [hx]
  refine CutPrefix_spec.mono fun v w7 ⟨hw7, hv⟩ => ?_
  subst hw7 hv
  have hd : (bs x).data.toList = x := rfl
  rw [TUP_sb, hd]
  have hwx : (bs (wordN x)).size ≤ 1000000000 := by
    rw [bs_size]
    have := hw x (by simp)
    unfold wordN
    split
    · rw [List.length_tail]; omega
    · exact this
  refine (number_spec (hg.eff hE04) hwx).mono fun v w8 ⟨hE8, n, t, hv, hin, hnp⟩ => ?_
  subst hv
  rw [TUP_ib]
  have hd2 : (bs (wordN x)).data.toList = wordN x := rfl
  rw [hd2] at hnp
  have hE08 := hE04.trans0 hE8
  have hb18 := (hE4.trans0 hE8).obj0 hb1
  have hbad : (reqF r = 0 ∨ t = false ∨ x.head? = some 35 ∧ n < 1) → reqS [r, x] = none := fun h => by
    rw [reqS_two]
    rcases hnp with ⟨h2, ht⟩ | ⟨h2, ht⟩
    · rw [h2]
      dsimp only
      rw [if_pos]
      rcases h with h | h | h
      · exact .inl h
      · rw [ht] at h; cases h
      · exact .inr h
    · rw [h2]
  refine ⟨fun vs w' => w' = w8 ∧ vs = [.int .i64 0, .bool false] ∧ reqF r ≠ 0 ∧ t = true ∧ ¬ (x.head? = some 35 ∧ n < 1),
    ⟨fun vs w' => w' = w8 ∧ vs = [.bool (decide (reqF r = 0 ∨ t = false ∨ x.head? = some 35 ∧ n < 1))], ?_, ?_⟩, ?_⟩
  · refine ITE_eq (fun h2 => ⟨rfl, by rw [decide_eq_true (.inl (by omega))]⟩) (fun h2 => ?_)
    refine ITE_intro (fun h3 => ⟨rfl, by rw [decide_eq_true (.inr (.inl (by simpa using h3)))]⟩) (fun h3 => ?_)
    have h3 : t = true := by simpa using h3
    refine ITE_d (fun h4 => ?_) (fun h4 => ?_)
    · refine ⟨rfl, ?_⟩
      rw [decide_eq_decide.2 (show n < 1 ↔ (reqF r = 0 ∨ t = false ∨ x.head? = some 35 ∧ n < 1) from ⟨fun h => .inr (.inr ⟨h4, h⟩), fun h => by
        rcases h with h | h | h
        · omega
        · rw [h3] at h; cases h
        · exact h.2⟩)]
    · have : ¬ (reqF r = 0 ∨ t = false ∨ x.head? = some 35 ∧ n < 1) := by
        rintro (h | h | h)
        · omega
        · rw [h3] at h; cases h
        · exact h4 h.1
      exact ⟨rfl, by rw [decide_eq_false this]⟩
  · intro w9 v16 ⟨hw9, hv⟩
    subst hw9
    cases hv
    rw [BOOLV_bool]
    refine ITE_d (fun h2 => ?_) (fun h2 => ?_)
    · refine ST2_of trivial trivial hE08 hs1 hb18 fun w11 hE11 hb11 _ => ?_
      rw [LDi_of (cellH_of hb11 0), LDi_of (cellH_of hb11 1)]
      exact ⟨hE11, 0, 0, 0, false, rfl, .inr ⟨rfl, hbad h2⟩⟩
    · rw [not_or, not_or] at h2
      exact ⟨rfl, rfl, h2.1, by simpa using h2.2.1, h2.2.2⟩
  · intro w12 v17 v18 ⟨hw12, hv, h2, h3, h4⟩
    simp only [List.cons.injEq, and_true] at hv
    obtain ⟨rfl, rfl⟩ := hv
    subst hw12
    rw [BOOLV_bool, INTV_int]
    have hgood : reqS [r, x] = some (if x.head? = some 35 then ((reqF r : Int), 0, n) else ((reqF r : Int), n, 0)) := by
      rw [reqS_two]
      rcases hnp with ⟨h5, _⟩ | ⟨_, h5⟩
      · rw [h5]
        dsimp only
        rw [if_neg]
        rintro (h | h)
        · exact h2 h
        · exact h4 h
      · rw [h3] at h5; cases h5
    refine ITE_d (fun h5 => ?_) (fun h5 => ?_)
    · rw [if_pos h5] at hgood
      refine ST2_of trivial trivial hE08 hs1 hb18 fun w14 hE14 hb14 _ => ?_
      rw [LDi_of (cellH_of hb14 0), LDi_of (cellH_of hb14 1)]
      exact ⟨hE14, _, _, _, true, rfl, .inl ⟨rfl, hgood⟩⟩
    · rw [if_neg h5] at hgood
      refine ST2_of trivial trivial hE08 hs1 hb18 fun w16 hE16 hb16 _ => ?_
      rw [LDi_of (cellH_of hb16 0), LDi_of (cellH_of hb16 1)]
      exact ⟨hE16, _, _, _, true, rfl, .inl ⟨rfl, hgood⟩⟩

theorem ask_spec (hg : Glo w) {a : Option Addr} {l c : Nat} {ws : List Str} (hs : SlS w.heap a l ws) (hlc : l ≤ c) (hw : ∀ x ∈ ws, x.length ≤ 1000000000) {x : Ln} {xa : Option Addr} {xl xc : Nat} :
    CALL Pg F_text_ask [lnV x xa xl xc, .slice a l c] w fun v w' => Eff w w' [] ∧ ∃ y ya yl yc t, v = .tuple #[lnV y ya yl yc, .bool t] ∧
      (t = true ∧ ya = xa ∧ yl = xl ∧ yc = xc ∧ (∃ p r wn q0 q1 o, ws = p :: r ∧ numF p = some wn ∧ reqS r = some (q0, q1, o) ∧ y = { x with wk := wn, rk := q0, rn := q1, of := o }) ∨
       t = false ∧ y = {} ∧ ya = none ∧ yl = 0 ∧ yc = 0 ∧ (∀ p r, ws = p :: r → numF p = none ∨ reqS r = none)) := by
  apply C_text_ask
  unfold D_text_ask
  have hll := hs.1
  intro b1 w1 hE1 hs1 hb1 b2 w2 hE2 hs2 hb2
  have hE02 := hE1.trans0 hE2
  have hs2' : w.heap.size ≤ b2 := Nat.le_trans hE1.size hs2
  refine ITE_ne (fun h => ?_) (fun h => ?_)
  · refine FIN11 (x := {}) hE02 hs2' hb2 fun w13 hE13 _ => ?_
    refine ⟨hE13, {}, none, 0, 0, false, rfl, .inr ⟨rfl, rfl, rfl, rfl, rfl, fun p r hp => .inr ?_⟩⟩
    rw [hp] at hll
    rcases r with _ | ⟨_, _ | ⟨_, _ | ⟨_, _⟩⟩⟩
    · rfl
    · rfl
    · simp at hll; omega
    · rfl
  obtain ⟨p, r, rfl⟩ : ∃ p r, ws = p :: r := by
    cases ws with
    | nil => simp at hll; omega
    | cons p r => exact ⟨p, r, rfl⟩
  have hl3 : l = 3 := by omega
  refine IDX_s (hs.eff hE02) (by omega) (by omega) fun b o hc => ?_
  rw [LDs_of hc]
  have hp : bs ((p :: r).getD (0 : Int).toNat []) = bs p := rfl
  rw [hp]
  refine (number_spec (hg.eff hE02) (by rw [bs_size]; exact hw p (by simp))).mono fun v w14 ⟨hE14, n, t1, hv, hin, hnp⟩ => ?_
  subst hv
  rw [TUP_ib]
  have hd : (bs p).data.toList = p := rfl
  rw [hd] at hnp
  refine SILN_l elem_str (by omega) (by omega) ?_
  rw [SLV_slice]
  have hE014 := hE02.trans0 hE14
  have hs14 := hs.eff hE014
  have hsub := hs14.sub (lo := 1) (hi := l) (c := c) (by omega) (Nat.le_refl _) hlc
  have hdr : ((p :: r).drop 1).take (l - 1) = r := by
    rw [List.drop_one, List.tail_cons, List.take_of_length_le (by simp at hll; omega)]
  rw [hdr] at hsub
  refine (request_spec (hg.eff hE014) hsub (fun y hy => hw y (List.mem_cons_of_mem _ hy))).mono fun v w15 ⟨hE15, q0, q1, o, t2, hv, hq⟩ => ?_
  subst hv
  rw [TUP_req]
  intro b4 w16 hE16 hs16 hb16
  refine ST2_of trivial trivial hE16 hs16 hb16 fun w18 hE18 hb418 _ => ?_
  have hE218 := (hE14.trans0 hE15).trans0 hE18
  have hE018 := hE02.trans0 hE218
  have hb118 := (hE2.trans0 hE218).obj0 hb1
  have hb218 := hE218.obj0 hb2
  refine ITE_intro (fun h2 => ?_) (fun h2 => ?_)
  · refine FIN11 (x := {}) hE018 hs2' hb218 fun w29 hE29 _ => ?_
    refine ⟨hE29, {}, none, 0, 0, false, rfl, .inr ⟨rfl, rfl, rfl, rfl, rfl, fun p' r' hp' => .inl ?_⟩⟩
    obtain ⟨rfl, rfl⟩ := List.cons.inj hp'
    rcases hnp with ⟨_, h3⟩ | ⟨h3, _⟩
    · rw [h3] at h2; cases h2
    · exact h3
  refine ITE_intro (fun h3 => ?_) (fun h3 => ?_)
  · refine FIN11 (x := {}) hE018 hs2' hb218 fun w40 hE40 _ => ?_
    refine ⟨hE40, {}, none, 0, 0, false, rfl, .inr ⟨rfl, rfl, rfl, rfl, rfl, fun p' r' hp' => .inr ?_⟩⟩
    obtain ⟨rfl, rfl⟩ := List.cons.inj hp'
    rcases hq with ⟨h4, _⟩ | ⟨_, h4⟩
    · rw [h4] at h3; cases h3
    · exact h4
  intro w41 hE41 _
  have hE041 := hE018.trans0 hE41
  have hb141 := hE41.obj0 hb118
  have hb441 := hE41.obj0 hb418
  have hb241 := hE41.obj0 hb218
  rw [LDi_of (cellH_of hb441 0), LDi_of (cellH_of hb441 1)]
  have hb4s : b4 < w18.heap.size := obj_lt hb418
  have hb14 : b1 ≠ b4 := by have := obj_lt hb1; have := hE2.size; have := hE14.size; have := hE15.size; omega
  have hb12 : b1 ≠ b2 := by have := obj_lt hb1; omega
  refine ST1_of trivial hb141 (by simp) fun w42 hb142 hE42 => ?_
  have hb442 := hE42.obj hb441 (by simpa using fun h => hb14 h.symm)
  refine ⟨KEEP_cell (cellH_of hb442 0) (KEEP_cell (cellH_of hb442 1) KEEP_nil), ?_⟩
  refine ST1_of trivial hb142 (by simp) fun w43 hb143 hE43 => ST1_of trivial hb143 (by simp) fun w44 hb144 hE44 => ⟨KEEP_nil, ST1_of trivial hb144 (by simp) fun w45 hb145 hE45 => ⟨KEEP_nil, ?_⟩⟩
  have hall := effg (effg (effg hE42 hE43) hE44) hE45
  have hb245 := hall.obj hb241 (by simpa using fun h => hb12 h.symm)
  have hE045 : Eff w w45 [] := hE041.own hall (by simpa using hs1)
  refine LD11 (x := { x with wk := n, rk := q0, rn := q1, of := o }) (a := xa) (l := xl) (c := xc) hb145 ?_
  refine FIN11 (x := { x with wk := n, rk := q0, rn := q1, of := o }) hE045 hs2' hb245 fun w56 hE56 _ => ?_
  refine ⟨hE56, { x with wk := n, rk := q0, rn := q1, of := o }, xa, xl, xc, true, rfl, .inl ⟨rfl, rfl, rfl, rfl, p, r, n, q0, q1, o, rfl, ?_, ?_, rfl⟩⟩
  · rcases hnp with ⟨h4, _⟩ | ⟨_, h4⟩
    · exact h4
    · rw [h4] at h2; cases h2
  · rcases hq with ⟨_, h4⟩ | ⟨h4, _⟩
    · exact h4
    · rw [h4] at h3; cases h3
end
end Go.Proofs.YtmanfmpdmmhbfaaDoor
