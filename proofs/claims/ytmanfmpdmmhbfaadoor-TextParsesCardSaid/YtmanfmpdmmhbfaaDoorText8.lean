/- What a text says, or that it says nothing. -/
import Derived.Test.YtmanfmpdmmhbfaaDoorText7
namespace Go.Proofs.YtmanfmpdmmhbfaaDoor
open Go.Den
set_option maxRecDepth 100000
set_option maxHeartbeats 4000000

/-- What a text says, as the program tells it: the line, and whether it is one. -/
def ParseP (s : Str) (y : Ln) (t : Bool) : Prop := t = true ∧ parseF (cut s) = some y ∨ t = false ∧ parseF (cut s) = none ∧ y = {}

theorem lineF_none {k : Nat} {ns : List Int} (h1 : ¬ (k = 1 ∧ 4 ≤ ns.length ∧ ns.length ≤ 32)) (h3 : ¬ (k = 3 ∧ ns.length = 2)) (h4 : ¬ (k = 4 ∧ ns.length = 1)) (h5 : ¬ (k = 5 ∧ ns.length = 1)) (h6 : ¬ (6 ≤ k ∧ ns.length = 0)) (hk : k ≠ 2) : lineF k ns = none := by
  rcases h : lineF k ns with _ | x
  · rfl
  · obtain ⟨_, _, hx⟩ := lineF_spec hk h
    rcases hx with ⟨hk1, hns, hl, _⟩ | ⟨hk1, hns, _⟩ | ⟨hk1, hns, _⟩ | ⟨hk1, hns, _⟩ | ⟨hk1, hns, _⟩
    · exact absurd ⟨hk1, by rw [hns]; simp, by rw [hns]; simp; omega⟩ h1
    · exact absurd ⟨hk1, by rw [hns]; rfl⟩ h3
    · exact absurd ⟨hk1, by rw [hns]; rfl⟩ h4
    · exact absurd ⟨hk1, by rw [hns]; rfl⟩ h5
    · exact absurd ⟨hk1, by rw [hns]; rfl⟩ h6

theorem word_le {s : Str} : ∀ x ∈ cut s, x.length ≤ s.length := by
  induction s with
  | nil => intro x hx; simp [cut] at hx; rw [hx]; simp
  | cons c s ih =>
    intro x hx
    by_cases hc : c = 32
    · subst hc
      rw [cut_blank] at hx
      rcases List.mem_cons.1 hx with rfl | hx
      · simp
      · have := ih x hx
        simp only [List.length_cons]; omega
    · obtain ⟨h, t, ht⟩ := cut_cons s
      rw [cut_other hc ht] at hx
      rcases List.mem_cons.1 hx with rfl | hx
      · have := ih h (by rw [ht]; simp)
        simp only [List.length_cons]; omega
      · have := ih x (by rw [ht]; exact List.mem_cons_of_mem _ hx)
        simp only [List.length_cons]; omega

section
variable {w : World}

/-- The list lies in a block of its own, if in one at all. -/
def NewAt (w w' : World) (a : Option Addr) : Prop := ∀ b o, a = some ⟨b, o, none⟩ → w.heap.size ≤ b ∧ b < w'.heap.size
theorem NewAt.none {w w' : World} : NewAt w w' none := fun _ _ h => by cases h

theorem Parse_new (hg : Glo w) {s : ByteArray} (hs : s.size ≤ 1000000000) :
    CALL Pg F_text_Parse [.string s] w fun v w' => Eff w w' [] ∧ ∃ y a l c t, v = .tuple #[lnV y a l c, .bool t] ∧ LnAt w' y a l ∧ NewAt w w' a ∧ ParseP s.data.toList y t := by
  apply C_text_Parse
  unfold D_text_Parse
  intro b1 w1 hE1 hs1 hb1
  refine (Split_spec (hg.eff hE1) hs).mono fun v w2 ⟨hE2, a1, hv, hsl⟩ => ?_
  subst hv
  obtain ⟨ps, hps⟩ : ∃ ps, ps = cut s.data.toList := ⟨_, rfl⟩
  rw [← hps] at hsl ⊢
  obtain ⟨p, r, hpr⟩ := cut_cons s.data.toList
  have hw : ∀ x ∈ ps, x.length ≤ 1000000000 := fun x hx => by
    have := word_le x (hps ▸ hx)
    rw [← size_list] at this; omega
  have hpl : ps.length ≤ 1000000001 := by
    have := cut_len s.data.toList
    rw [← size_list] at this
    rw [hps]; omega
  rw [← hps] at hpr
  have hl0 : 1 ≤ ps.length := by rw [hpr]; simp
  rw [SLV_slice]
  have hE02 := hE1.trans0 hE2
  intro b2 w3 hE3 hs3 hb3
  refine ST11_of ⟨trivial, trivial, trivial, trivial, trivial, trivial, trivial, trivial, trivial, trivial, trivial⟩ hE3 hs3 hb3 fun w14 hE14 hb214 _ => ?_
  refine names_spec.mono fun v w15 ⟨hE15, hv⟩ => ?_
  subst hv
  rw [AGG_names]
  have hb12 := hE2.obj0 hb1
  have hs2 : w.heap.size ≤ b2 := Nat.le_trans hE02.size hs3
  refine LOOP_of (fun vs w' => ∃ i : Nat, vs = [.int .i64 i] ∧ i ≤ 11 ∧ Eff w2 w' [] ∧ w'.heap[b2]? = some (.cells (lnL { k := (lastM names p i : Nat) } none 0 0).toArray T_text_Line_text_Line (0, 0)))
    (fun vs _ => match vs with | [.int _ n] => 11 - n.toNat | _ => 0) ⟨0, rfl, by omega, hE14.trans0 hE15, hE15.obj0 hb214⟩ ?_
  intro w16 v14 ⟨i, hv, hi, hE16, hb216⟩
  cases hv
  rw [INTV_int]
  have hE016 := hE02.trans0 hE16
  have hb116 := hE16.obj0 hb12
  have hsl16 := hsl.eff hE16
  have hg16 := hg.eff hE016
  refine ITE_d (fun h1 => ?_) (fun h1 => ?_)
  · refine SILN_name (by omega) (by omega) ?_
    rw [STRV_string, Int.toNat_natCast]
    refine ⟨fun vs w' => w' = w16 ∧ vs = [.bool (decide (0 < i ∧ names.getD i [] = p))], ?_, ?_⟩
    · refine ITE_d (fun h2 => ?_) (fun h2 => ⟨rfl, by rw [decide_eq_false (by omega)]⟩)
      refine IDX_s hsl16 (by omega) (by omega) fun b o hc => ?_
      rw [LDs_of hc, bs_beq]
      refine ⟨rfl, ?_⟩
      have e : (bs (ps.getD (0 : Int).toNat [])).data.toList = p := by rw [hpr]; rfl
      rw [e, decide_eq_decide.2 (show names.getD i [] = p ↔ (0 < i ∧ names.getD i [] = p) from ⟨fun h => ⟨by omega, h⟩, fun h => h.2⟩)]
    · intro w17 v16 ⟨hw17, hv⟩
      subst hw17
      cases hv
      rw [BOOLV_bool]
      refine ITE_d (fun h2 => ?_) (fun h2 => ?_)
      · refine ST1_of trivial hb216 (by simp) fun w18 hb218 hE18 => ?_
        have hl : lastM names p (i + 1) = i := by rw [lastM, if_pos h2]
        refine BINDw (by omega) (by omega) ⟨⟨i + 1, rfl, by omega, hE16.own hE18 (by simpa using hs3), by rw [hl]; exact hb218⟩, by first | omega | (dsimp only; omega)⟩
      · have hl : lastM names p (i + 1) = lastM names p i := by rw [lastM, if_neg h2]
        exact BINDw (by omega) (by omega) ⟨⟨i + 1, rfl, by omega, hE16, by rw [hl]; exact hb216⟩, by first | omega | (dsimp only; omega)⟩
  have hi11 : i = 11 := by omega
  subst hi11
  have hkk : lastM names p 11 = kindF p := rfl
  rw [hkk] at hb216
  rw [LDi_of (n := (kindF p : Nat)) (cellH_of hb216 0)]
  have hparse : parseF ps = if kindF p = 2 then askF (p :: r) else match numsF r with
    | none => none
    | some ns => lineF (kindF p) ns := by rw [hpr]; exact parseF_cons p r
  have hdr : (ps.drop 1).take (ps.length - 1) = r := by
    rw [hpr, List.drop_one, List.tail_cons, List.take_of_length_le (by simp)]
  have hsub : ∀ {w' : World}, Eff w16 w' [] → SlS w'.heap (subA a1 ps.length 1 1) (ps.length - 1) r := fun hE => by
    have := ((hsl16.eff hE).sub (lo := 1) (hi := ps.length) (c := ps.length) (by omega) (Nat.le_refl _) (Nat.le_refl _))
    rw [hdr] at this
    exact this
  have hwr : ∀ x ∈ r, x.length ≤ 1000000000 := fun x hx => hw x (by rw [hpr]; exact List.mem_cons_of_mem _ hx)
  refine ITE_eq (fun h2 => ?_) (fun h2 => ?_)
  · have hk2 : kindF p = 2 := by omega
    rw [if_pos hk2] at hparse
    rw [hk2] at hb216
    intro w19 hE19 _
    have hE019 := hE016.trans0 hE19
    have hb119 := hE19.obj0 hb116
    refine LD11 (x := { k := 2 }) (a := none) (l := 0) (c := 0) (hE19.obj0 hb216) ?_
    refine SILN_l elem_str (by omega) (by omega) ?_
    rw [SLV_slice]
    refine (ask_spec (hg16.eff hE19) (hsub hE19) (Nat.le_refl _) hwr (x := { k := 2 }) (xa := none) (xl := 0) (xc := 0)).mono fun v w20 ⟨hE20, y, ya, yl, yc, t, hv, hr⟩ => ?_
    subst hv
    rw [TUP_lnb]
    refine ⟨KEEP_nil, ?_⟩
    have hE020 := hE019.trans0 hE20
    refine ST11_of (w₀ := w) ⟨trivial, trivial, trivial, trivial, trivial, trivial, trivial, trivial, trivial, trivial, trivial⟩ hE020 hs1 (hE20.obj0 hb119) fun w31 hE31 hb131 _ => ?_
    refine ⟨KEEP_nil, LD11 (x := y) hb131 ⟨hE31, y, ya, yl, yc, t, rfl, ?_, ?_, ?_⟩⟩
    · rcases hr with ⟨_, rfl, rfl, _, p', r', wn, q0, q1, o, _, _, _, rfl⟩ | ⟨_, rfl, rfl, rfl, _⟩
      · exact ⟨rfl, .inl rfl⟩
      · exact ⟨rfl, .inl rfl⟩
    · rcases hr with ⟨_, rfl, rfl, rfl, _⟩ | ⟨_, rfl, rfl, rfl, _⟩
      · exact .none
      · exact .none
    · unfold ParseP
      rw [← hps, hparse]
      rcases r with _ | ⟨x1, r1⟩
      · rcases hr with ⟨_, _, _, _, p', r', _, _, _, _, h, _⟩ | ⟨ht, hy, _⟩
        · cases h
        · exact .inr ⟨ht, rfl, hy⟩
      · rw [askF_reqS]
        rcases hr with ⟨ht, _, _, _, p', r', wn, q0, q1, o, h, hn, hq, rfl⟩ | ⟨ht, hy, _, _, _, hno⟩
        · obtain ⟨rfl, rfl⟩ := List.cons.inj h
          rw [hn, hq]
          exact .inl ⟨ht, rfl⟩
        · refine .inr ⟨ht, ?_, hy⟩
          rcases hno x1 r1 rfl with h | h
          · rw [h]
          · rw [h]; cases numF x1 <;> rfl
  have hk2 : kindF p ≠ 2 := by omega
  rw [if_neg hk2] at hparse
  refine SILN_l elem_str (by omega) (by omega) ?_
  rw [SLV_slice]
  refine (numbers_spec hg16 (hsub (Eff.refl _)) (by rw [hpr] at hpl; simp at hpl; omega) hwr).mono fun v w32 ⟨hE32, a7, l7, c7, t3, hv, hr⟩ => ?_
  subst hv
  rw [TUP_slb]
  have hE032 := hE016.trans0 hE32
  have hb132 := hE32.obj0 hb116
  have hb232 := hE32.obj0 hb216
  have hrl : r.length ≤ 1000000000 := by rw [hpr] at hpl; simp at hpl; omega
  -- nothing
  have bad : parseF ps = none → ∀ {w' : World}, Eff w w' [] → (Eff w w' [] ∧ ∃ y a l c t, Value.tuple #[lnV {} none 0 0, .bool false] = .tuple #[lnV y a l c, .bool t] ∧ LnAt w' y a l ∧ NewAt w w' a ∧ ParseP s.data.toList y t) := fun h w' hE =>
    ⟨hE, {}, none, 0, 0, false, rfl, ⟨rfl, .inl rfl⟩, .none, .inr ⟨rfl, by rw [← hps]; exact h, rfl⟩⟩
  refine ⟨fun vs w' => w' = w32 ∧ vs = [.bool false] ∧ t3 = true ∧ kindF p ≠ 0,
    ⟨fun vs w' => w' = w32 ∧ vs = [.bool (decide (t3 = false ∨ kindF p = 0))], ?_, ?_⟩, ?_⟩
  · refine ITE_intro (fun h => ⟨rfl, by rw [decide_eq_true (.inl (by simpa using h))]⟩) (fun h => ?_)
    rw [LDi_of (n := (kindF p : Nat)) (cellH_of hb232 0)]
    refine ⟨rfl, ?_⟩
    have h : t3 = true := by simpa using h
    rw [show ((kindF p : Int) == 0) = decide (t3 = false ∨ kindF p = 0) from by rw [Bool.eq_iff_iff, beq_iff_eq, decide_eq_true_eq, h]; simp]
  · intro w33 v36 ⟨hw, hv⟩
    subst hw
    cases hv
    rw [BOOLV_bool]
    refine ITE_d (fun h => ?_) (fun h => ?_)
    · refine FIN11 (x := {}) hE032 hs1 hb132 fun w44 hE44 _ => bad ?_ hE44
      rw [hparse]
      rcases h with h | h
      · rcases hr with ⟨h3, _⟩ | ⟨_, h3⟩
        · rw [h3] at h; cases h
        · rcases h3 with h3 | h3
          · rw [h3]
          · cases hn : numsF r with
            | none => rfl
            | some ns =>
              have := congrArg List.length (numsF_spec.1 hn).2
              rw [List.length_map] at this
              exact lineF_none (by omega) (by omega) (by omega) (by omega) (by omega) hk2
      · cases numsF r with
        | none => rfl
        | some ns =>
          rw [h]
          exact lineF_none (by omega) (by omega) (by omega) (by omega) (by omega) (by omega)
    · rw [not_or] at h
      exact ⟨rfl, rfl, by simpa using h.1, h.2⟩
  intro w45 v37 ⟨hw, hv, ht3, hk0⟩
  subst hw
  cases hv
  rw [BOOLV_bool]
  obtain ⟨ns, hns, hsl7, hlc7, hnew7⟩ : ∃ ns, numsF r = some ns ∧ SlI w45.heap a7 l7 ns ∧ l7 ≤ c7 ∧ ∀ b o, a7 = some ⟨b, o, none⟩ → w16.heap.size ≤ b ∧ b < w45.heap.size := by
    rcases hr with ⟨_, h, _⟩ | ⟨h, _⟩
    · exact h
    · rw [h] at ht3; cases ht3
  have hr32 : r.length ≤ 32 := by
    rcases hr with ⟨_, _, h⟩ | ⟨h, _⟩
    · exact h
    · rw [h] at ht3; cases ht3
  have hl7 := hsl7.1
  have hnl : ns.length ≤ 32 := by
    have := congrArg List.length (numsF_spec.1 hns).2
    rw [List.length_map] at this
    omega
  rw [hns] at hparse
  dsimp only at hparse
  have good : ∀ {y : Ln}, lineF (kindF p) ns = some y → ParseP s.data.toList y true := fun h => .inl ⟨rfl, by rw [← hps, hparse]; exact h⟩
  have hb12 : b1 ≠ b2 := by have := obj_lt hb1; have := hE2.size; omega
  refine ⟨fun vs w' => w' = w45 ∧ vs = [.bool (decide (kindF p = 1 ∧ 4 ≤ l7))], ?_, ?_⟩
  · rw [LDi_of (n := (kindF p : Nat)) (cellH_of hb232 0)]
    refine ITE_eq (fun h => ⟨rfl, ?_⟩) (fun h => ⟨rfl, by rw [decide_eq_false (by omega)]⟩)
    rw [decide_eq_decide.2 (show (l7 : Int) ≥ 4 ↔ (kindF p = 1 ∧ 4 ≤ l7) by omega)]
  intro w46 v38 ⟨hw, hv⟩
  subst hw
  cases hv
  rw [BOOLV_bool]
  refine ITE_d (fun h => ?_) (fun h1 => ?_)
  · obtain ⟨h, h4⟩ := h
    intro w47 hE47 _
    have hsl47 := hsl7.eff hE47
    obtain ⟨n0, n1, n2, n3, rest, rfl⟩ : ∃ n0 n1 n2 n3 rest, ns = n0 :: n1 :: n2 :: n3 :: rest := by
      rcases ns with _ | ⟨n0, _ | ⟨n1, _ | ⟨n2, _ | ⟨n3, rest⟩⟩⟩⟩
      · simp at hl7; omega
      · simp at hl7; omega
      · simp at hl7; omega
      · simp at hl7; omega
      · exact ⟨_, _, _, _, _, rfl⟩
    refine IDX_i hsl47 (by omega) (by omega) fun b o hc => ?_
    rw [LDi_of (n := n0) hc]
    refine IDX_i hsl47 (by omega) (by omega) fun b o hc => ?_
    rw [LDi_of (n := n1) hc]
    refine IDX_i hsl47 (by omega) (by omega) fun b o hc => ?_
    rw [LDi_of (n := n2) hc]
    refine IDX_i hsl47 (by omega) (by omega) fun b o hc => ?_
    rw [LDi_of (n := n3) hc]
    refine SILN_l elem_int (by omega) (by omega) ?_
    rw [SLV_slice]
    have hb247 := hE47.obj0 hb232
    have hb147 := hE47.obj0 hb132
    refine ST1_of trivial hb247 (by simp) fun w48 h48 e48 => ST1_of trivial h48 (by simp) fun w49 h49 e49 => ST1_of trivial h49 (by simp) fun w50 h50 e50 => ST1_of trivial h50 (by simp) fun w51 h51 e51 => ST1_of trivial h51 (by simp) fun w52 h52 e52 => ?_
    have hall := effg (effg (effg (effg e48 e49) e50) e51) e52
    refine ⟨KEEP_nil, ?_⟩
    refine LD11 (x := { k := kindF p, c0 := n0, c1 := n1, c2 := n2, c3 := n3, cls := rest }) (a := subA a7 c7 4 1) (l := l7 - 4) (c := c7 - 4) h52 ?_
    have hE047 := hE032.trans0 hE47
    have hE052 : Eff w w52 [] := hE047.own hall (by simpa using hs2)
    have hb152 := hall.obj hb147 (by simpa using hb12)
    refine FIN11 (x := { k := kindF p, c0 := n0, c1 := n1, c2 := n2, c3 := n3, cls := rest }) hE052 hs1 hb152 fun w63 hE63 hE63' => ?_
    refine ⟨hE63, { k := kindF p, c0 := n0, c1 := n1, c2 := n2, c3 := n3, cls := rest }, _, _, _, true, rfl, ?_, ?_, good ?_⟩
    · -- the list lies in a block of its own
      have hsl63 : SlI w63.heap a7 l7 (n0 :: n1 :: n2 :: n3 :: rest) := Sl.same hsl47 fun b o hb => by
        obtain ⟨q1, q2⟩ := hnew7 b o hb
        have hl1 := obj_lt hb116
        have hl2 := obj_lt hb216
        have q3 := hE47.size
        have q4 := hall.size
        rw [hE63'.keep b (by omega) (by simp; omega), hall.keep b (by omega) (by simp; omega)]
      have hsub7 := hsl63.sub (lo := 4) (hi := l7) (c := c7) (by omega) (Nat.le_refl _) hlc7
      have e : ((n0 :: n1 :: n2 :: n3 :: rest).drop 4).take (l7 - 4) = rest := List.take_of_length_le (by simp at hl7 ⊢; omega)
      rw [e] at hsub7
      exact hsub7
    · intro b o hb
      have hl16 := hE16.size
      have q3 := hE47.size
      have q4 := hall.size
      have q5 := hE63'.size
      have q6 := hE02.size
      rcases hsl7.2 with h0 | ⟨b7, o7, rfl, _⟩
      · cases h0
      · have hp7 : b7 = b := by
          unfold subA at hb
          split at hb
          · cases hb; rfl
          · have hb := Option.some.inj hb
            simp [Addr.add] at hb
            exact hb.1
        subst hp7
        obtain ⟨q1, q2⟩ := hnew7 b7 o7 rfl
        omega
    · rw [h]
      unfold lineF
      rw [if_pos rfl]
      dsimp only
      rw [if_pos (by simp at hnl; omega)]
      rfl
  have h1' : ¬ (kindF p = 1 ∧ 4 ≤ ns.length ∧ ns.length ≤ 32) := fun h => h1 ⟨h.1, by omega⟩
  -- a line that is one word, or has one number or two
  refine ⟨fun vs w' => w' = w46 ∧ vs = [.bool (decide (kindF p = 3 ∧ l7 = 2))], ?_, ?_⟩
  · rw [LDi_of (n := (kindF p : Nat)) (cellH_of hb232 0)]
    refine ITE_eq (fun h => ⟨rfl, ?_⟩) (fun h => ⟨rfl, by rw [decide_eq_false (by omega)]⟩)
    rw [show ((l7 : Int) == 2) = decide (kindF p = 3 ∧ l7 = 2) from by rw [Bool.eq_iff_iff, beq_iff_eq, decide_eq_true_eq]; omega]
  intro w64 v40 ⟨hw, hv⟩
  subst hw
  cases hv
  rw [BOOLV_bool]
  refine ITE_d (fun h => ?_) (fun h3 => ?_)
  · obtain ⟨h, h4⟩ := h
    intro w65 hE65 _
    have hsl65 := hsl7.eff hE65
    obtain ⟨n0, n1, rfl⟩ : ∃ n0 n1, ns = [n0, n1] := by
      rcases ns with _ | ⟨n0, _ | ⟨n1, _ | ⟨_, _⟩⟩⟩
      · simp at hl7; omega
      · simp at hl7; omega
      · exact ⟨_, _, rfl⟩
      · simp at hl7; omega
    have hb265 := hE65.obj0 hb232
    have hb165 := hE65.obj0 hb132
    refine IDX_i hsl65 (by omega) (by omega) fun b o hc => ?_
    rw [LDi_of (n := n0) hc]
    refine IDX_ib hsl65 (by omega) (by omega) fun b9 q9 o7 ha9 hc9 => ?_
    rw [LDi_of (n := n1) hc9]
    have hne : b9 ≠ b2 := by
      have := (hnew7 b9 q9 ha9).1
      have := obj_lt hb216
      omega
    refine ST1_of trivial hb265 (by simp) fun w66 h66 e66 => ⟨KEEP_cell ?_ KEEP_nil, ?_⟩
    · have hl9 := (hnew7 b9 q9 ha9).2
      have := hE65.size
      rw [e66.cell (by omega) (by simpa using hne)]
      exact hc9
    refine ST1_of trivial h66 (by simp) fun w67 h67 e67 => ⟨KEEP_nil, ?_⟩
    have hall := effg e66 e67
    refine LD11 (x := { k := kindF p, wk := n0, tm := n1 }) (a := none) (l := 0) (c := 0) h67 ?_
    have hE067 : Eff w w67 [] := (hE032.trans0 hE65).own hall (by simpa using hs2)
    refine FIN11 (x := { k := kindF p, wk := n0, tm := n1 }) hE067 hs1 (hall.obj hb165 (by simpa using hb12)) fun w78 hE78 _ => ?_
    refine ⟨hE78, { k := kindF p, wk := n0, tm := n1 }, _, _, _, true, rfl, ⟨rfl, .inl rfl⟩, .none, good ?_⟩
    rw [h]; rfl
  have h3' : ¬ (kindF p = 3 ∧ ns.length = 2) := fun h => h3 ⟨h.1, by omega⟩
  refine ⟨fun vs w' => w' = w64 ∧ vs = [.bool (decide (kindF p = 4 ∧ l7 = 1))], ?_, ?_⟩
  · rw [LDi_of (n := (kindF p : Nat)) (cellH_of hb232 0)]
    refine ITE_eq (fun h => ⟨rfl, ?_⟩) (fun h => ⟨rfl, by rw [decide_eq_false (by omega)]⟩)
    rw [show ((l7 : Int) == 1) = decide (kindF p = 4 ∧ l7 = 1) from by rw [Bool.eq_iff_iff, beq_iff_eq, decide_eq_true_eq]; omega]
  intro w79 v41 ⟨hw, hv⟩
  subst hw
  cases hv
  rw [BOOLV_bool]
  refine ITE_d (fun h => ?_) (fun h4 => ?_)
  · obtain ⟨h, h5⟩ := h
    obtain ⟨n0, rfl⟩ : ∃ n0, ns = [n0] := by
      rcases ns with _ | ⟨n0, _ | ⟨_, _⟩⟩
      · simp at hl7; omega
      · exact ⟨_, rfl⟩
      · simp at hl7; omega
    refine IDX_i hsl7 (by omega) (by omega) fun b o hc => ?_
    rw [LDi_of (n := n0) hc]
    refine ST1_of trivial hb232 (by simp) fun w80 h80 e80 => ?_
    refine LD11 (x := { k := kindF p, tm := n0 }) (a := none) (l := 0) (c := 0) h80 ?_
    have hE080 : Eff w w80 [] := hE032.own e80 (by simpa using hs2)
    refine FIN11 (x := { k := kindF p, tm := n0 }) hE080 hs1 (e80.obj hb132 (by simpa using hb12)) fun w91 hE91 _ => ?_
    refine ⟨hE91, { k := kindF p, tm := n0 }, _, _, _, true, rfl, ⟨rfl, .inl rfl⟩, .none, good ?_⟩
    rw [h]; rfl
  have h4' : ¬ (kindF p = 4 ∧ ns.length = 1) := fun h => h4 ⟨h.1, by omega⟩
  refine ⟨fun vs w' => w' = w79 ∧ vs = [.bool (decide (kindF p = 5 ∧ l7 = 1))], ?_, ?_⟩
  · rw [LDi_of (n := (kindF p : Nat)) (cellH_of hb232 0)]
    refine ITE_eq (fun h => ⟨rfl, ?_⟩) (fun h => ⟨rfl, by rw [decide_eq_false (by omega)]⟩)
    rw [show ((l7 : Int) == 1) = decide (kindF p = 5 ∧ l7 = 1) from by rw [Bool.eq_iff_iff, beq_iff_eq, decide_eq_true_eq]; omega]
  intro w92 v42 ⟨hw, hv⟩
  subst hw
  cases hv
  rw [BOOLV_bool]
  refine ITE_d (fun h => ?_) (fun h5 => ?_)
  · obtain ⟨h, h6⟩ := h
    obtain ⟨n0, rfl⟩ : ∃ n0, ns = [n0] := by
      rcases ns with _ | ⟨n0, _ | ⟨_, _⟩⟩
      · simp at hl7; omega
      · exact ⟨_, rfl⟩
      · simp at hl7; omega
    refine IDX_i hsl7 (by omega) (by omega) fun b o hc => ?_
    rw [LDi_of (n := n0) hc]
    refine ST1_of trivial hb232 (by simp) fun w93 h93 e93 => ?_
    refine LD11 (x := { k := kindF p, wk := n0 }) (a := none) (l := 0) (c := 0) h93 ?_
    have hE093 : Eff w w93 [] := hE032.own e93 (by simpa using hs2)
    refine FIN11 (x := { k := kindF p, wk := n0 }) hE093 hs1 (e93.obj hb132 (by simpa using hb12)) fun w104 hE104 _ => ?_
    refine ⟨hE104, { k := kindF p, wk := n0 }, _, _, _, true, rfl, ⟨rfl, .inl rfl⟩, .none, good ?_⟩
    rw [h]; rfl
  have h5' : ¬ (kindF p = 5 ∧ ns.length = 1) := fun h => h5 ⟨h.1, by omega⟩
  refine ⟨fun vs w' => w' = w92 ∧ vs = [.bool (decide (6 ≤ kindF p ∧ l7 = 0))], ?_, ?_⟩
  · rw [LDi_of (n := (kindF p : Nat)) (cellH_of hb232 0)]
    refine ITE_d (fun h => ⟨rfl, ?_⟩) (fun h => ⟨rfl, by rw [decide_eq_false (by omega)]⟩)
    rw [show ((l7 : Int) == 0) = decide (6 ≤ kindF p ∧ l7 = 0) from by rw [Bool.eq_iff_iff, beq_iff_eq, decide_eq_true_eq]; omega]
  intro w105 v43 ⟨hw, hv⟩
  subst hw
  cases hv
  rw [BOOLV_bool]
  refine ITE_d (fun h => ?_) (fun h6 => ?_)
  · obtain ⟨h, h7⟩ := h
    obtain rfl : ns = [] := List.length_eq_zero_iff.1 (by omega)
    refine LD11 (x := { k := kindF p }) (a := none) (l := 0) (c := 0) hb232 ?_
    refine FIN11 (x := { k := kindF p }) hE032 hs1 hb132 fun w116 hE116 _ => ?_
    refine ⟨hE116, { k := kindF p }, _, _, _, true, rfl, ⟨rfl, .inl rfl⟩, .none, good ?_⟩
    unfold lineF
    rw [if_neg (by omega), if_neg (by omega), if_neg (by omega), if_neg (by omega), if_pos h]
  · refine FIN11 (x := {}) hE032 hs1 hb132 fun w127 hE127 _ => bad ?_ hE127
    rw [hparse]
    exact lineF_none h1' h3' h4' h5' (fun h => h6 ⟨h.1, by omega⟩) hk2

theorem Parse_spec (hg : Glo w) {s : ByteArray} (hs : s.size ≤ 1000000000) :
    CALL Pg F_text_Parse [.string s] w fun v w' => Eff w w' [] ∧ ∃ y a l c t, v = .tuple #[lnV y a l c, .bool t] ∧ LnAt w' y a l ∧ ParseP s.data.toList y t :=
  (Parse_new hg hs).mono fun _ _ ⟨h1, y, a, l, c, t, h2, h3, _, h4⟩ => ⟨h1, y, a, l, c, t, h2, h3, h4⟩

end
end Go.Proofs.YtmanfmpdmmhbfaaDoor
