/- The claims' own check; what a text may say; the law TextSame. -/
import Derived.Test.YtmanfmpdmmhbfaaDoorText11
namespace Go.Proofs.YtmanfmpdmmhbfaaDoor
open Go.Den
set_option maxRecDepth 100000
set_option maxHeartbeats 4000000

/-! ### One line -/
def askL : Ln := { k := 2, wk := 1, rk := 2, of := 3 }
def askS : Str := [97, 115, 107, 32, 49, 32, 102, 114, 101, 101, 32, 35, 51]
theorem itoa_one : Lib.itoa 1 = [49] := by
  show Lib.decDigits 1 = _
  rw [dig_small (by omega)]; rfl
theorem itoa_three : Lib.itoa 3 = [51] := by
  show Lib.decDigits 3 = _
  rw [dig_small (by omega)]; rfl
theorem ask_raw : raw askL = askS := by
  have : rawW askL = [names.getD 2 [], Lib.itoa 1, kinds.getD 2 [], 35 :: Lib.itoa 3] := rfl
  unfold raw
  rw [this, itoa_one, itoa_three]; rfl
theorem ask_in : inL askL := by unfold inL askL; decide
theorem ask_parse : parseF (cut askS) = some askL := by rw [← ask_raw]; exact may_parse (by decide) ask_in
theorem ask_no : parseF (cut [97, 115, 107, 32, 49, 32, 102, 114, 101, 101, 32, 35, 32, 51]) = none := by
  have : cut [97, 115, 107, 32, 49, 32, 102, 114, 101, 101, 32, 35, 32, 51] = [[97, 115, 107], [49], [102, 114, 101, 101], [35], [51]] := by decide
  rw [this, parseF_cons, if_pos (by decide)]
  rfl

section
variable {w : World} {x y : Ln} {xa ya : Option Addr} {xl yl xc yc : Nat}

theorem KEEP11 {b : Nat} {t : TypeId} {r : List Fact} (hb : w.heap[b]? = some (.cells (lnL x xa xl xc).toArray t (0, 0))) (hr : KEEP w r) :
    KEEP w (Fact.cell ⟨b, 0, none⟩ (.int .i64 x.k) :: Fact.cell ⟨b, 1, none⟩ (.int .i64 x.wk) :: Fact.cell ⟨b, 2, none⟩ (.int .i64 x.tm) :: Fact.cell ⟨b, 3, none⟩ (.int .i64 x.c0) :: Fact.cell ⟨b, 4, none⟩ (.int .i64 x.c1) :: Fact.cell ⟨b, 5, none⟩ (.int .i64 x.c2) ::
      Fact.cell ⟨b, 6, none⟩ (.int .i64 x.c3) :: Fact.cell ⟨b, 7, none⟩ (.slice xa xl xc) :: Fact.cell ⟨b, 8, none⟩ (.int .i64 x.rk) :: Fact.cell ⟨b, 9, none⟩ (.int .i64 x.rn) :: Fact.cell ⟨b, 10, none⟩ (.int .i64 x.of) :: r) :=
  KEEP_cell (cellH_of hb 0) (KEEP_cell (cellH_of hb 1) (KEEP_cell (cellH_of hb 2) (KEEP_cell (cellH_of hb 3) (KEEP_cell (cellH_of hb 4) (KEEP_cell (cellH_of hb 5) (KEEP_cell (cellH_of hb 6) (KEEP_cell (cellH_of hb 7) (KEEP_cell (cellH_of hb 8) (KEEP_cell (cellH_of hb 9) (KEEP_cell (cellH_of hb 10) hr))))))))))

theorem speaks_spec (hg : Glo w) : CALL Pg F_l25_speaks [] w fun v w' => Eff w w' [] ∧ v = .bool true := by
  apply C_l25_speaks
  unfold D_l25_speaks
  refine (Parse_spec hg (s := bs askS) (by decide)).mono fun v w1 ⟨hE1, y, ya, yl, yc, t, hv, hy, hp⟩ => ?_
  subst hv
  have hd : (bs askS).data.toList = askS := rfl
  obtain ⟨rfl, rfl⟩ : t = true ∧ y = askL := by
    rcases hp with ⟨h1, h2⟩ | ⟨_, h2, _⟩
    · rw [hd, ask_parse] at h2
      exact ⟨h1, (Option.some.inj h2).symm⟩
    · rw [hd, ask_parse] at h2; cases h2
  rw [TUP_lnb]
  intro b1 w2 hE2 hs2 hb2
  refine ST11_of ⟨trivial, trivial, trivial, trivial, trivial, trivial, trivial, trivial, trivial, trivial, trivial⟩ hE2 hs2 hb2 fun w13 hE13 hb113 _ => ?_
  have hE013 := hE1.trans0 hE13
  refine (Parse_spec (hg.eff hE013) (s := bs [97, 115, 107, 32, 49, 32, 102, 114, 101, 101, 32, 35, 32, 51]) (by decide)).mono fun v w14 ⟨hE14, z, za, zl, zc, t2, hv, _, hp2⟩ => ?_
  subst hv
  obtain rfl : t2 = false := by
    rcases hp2 with ⟨_, h2⟩ | ⟨h1, _⟩
    · have hd2 : (bs [97, 115, 107, 32, 49, 32, 102, 114, 101, 101, 32, 35, 32, 51]).data.toList = [97, 115, 107, 32, 49, 32, 102, 114, 101, 101, 32, 35, 32, 51] := rfl
      rw [hd2, ask_no] at h2; cases h2
    · exact h1
  rw [TUP_lnb]
  intro b2 w15 hE15 hs15 hb15
  refine ST11_of ⟨trivial, trivial, trivial, trivial, trivial, trivial, trivial, trivial, trivial, trivial, trivial⟩ hE15 hs15 hb15 fun w26 hE26 hb226 _ => ?_
  have hE1326 := hE14.trans0 hE26
  have hE026 := hE013.trans0 hE1326
  have hb126 : w26.heap[b1]? = some (.cells (lnL askL ya yl yc).toArray T_text_Line_text_Line (0, 0)) := hE1326.obj0 hb113
  refine ⟨fun vs w' => Eff w w' [] ∧ vs = [.bool true], ?_, ?_⟩
  · refine ITE_intro (fun _ => ?_) (fun h => by cases h)
    refine ITE_intro (fun _ => ?_) (fun h => by cases h)
    rw [LDi_of (n := 2) (cellH_of hb126 0)]
    refine ITE_eq (fun _ => ?_) (fun h => absurd rfl h)
    rw [LDi_of (n := 1) (cellH_of hb126 1)]
    refine ITE_eq (fun _ => ?_) (fun h => absurd rfl h)
    rw [LDi_of (n := 3) (cellH_of hb126 10)]
    refine ITE_eq (fun _ => ?_) (fun h => absurd rfl h)
    rw [LDi_of (n := 2) (cellH_of hb126 8), LDi_of (n := 0) (cellH_of hb126 9)]
    refine ITE_intro (fun _ => ?_) (fun h => by cases h)
    have hyl : yl = 0 := hy.1
    have hE126 : Eff w1 w26 [] := hE13.trans0 hE1326
    refine LD11 (x := askL) hb126 ?_
    refine (Text_spec (hg.eff hE026) (hy.eff hE126) ask_in (by omega)).mono fun v w27 ⟨hE27, hv⟩ => ?_
    subst hv
    rw [STRV_string]
    have htx : textF askL = askS := (parse_text ask_parse).2.2
    rw [htx]
    refine ITE_intro (fun _ => ?_) (fun h => absurd h (by rw [beq_bs]; simp [askS]))
    have hb127 := hE27.obj0 hb126
    refine LD11 (x := askL) hb127 (LD11 (x := askL) hb127 ?_)
    refine (Same_spec (hy.eff (hE126.trans0 hE27)) (hy.eff (hE126.trans0 hE27)) (by omega)).mono fun v w28 ⟨hE28, hv⟩ => ?_
    subst hv
    rw [BOOLV_bool]
    exact ⟨(hE026.trans0 hE27).trans0 hE28, by rw [decide_eq_true rfl]⟩
  · intro w29 v31 ⟨hE, hv⟩
    cases hv
    rw [BOOLV_bool]
    exact ⟨hE, rfl⟩

theorem may_k1 (h : x.k = 1) : mayL x ↔ x = { k := x.k, c0 := x.c0, c1 := x.c1, c2 := x.c2, c3 := x.c3, cls := x.cls } ∧ x.cls.length ≤ 28 := by
  unfold mayL
  rw [h]
  constructor
  · rintro (⟨_, a, b⟩ | ⟨a, _⟩ | ⟨a, _⟩ | ⟨a, _⟩ | ⟨a, _⟩ | ⟨a, _⟩)
    · exact ⟨a, b⟩
    all_goals omega
  · rintro ⟨a, b⟩
    exact .inl ⟨rfl, a, b⟩
theorem may_k2 (h : x.k = 2) : mayL x ↔ x = { k := x.k, wk := x.wk, rk := x.rk, rn := x.rn, of := x.of } ∧ 1 ≤ x.rk ∧ x.rk ≤ 3 ∧ 0 ≤ x.of ∧ (x.of = 0 ∨ x.rn = 0) := by
  unfold mayL
  rw [h]
  constructor
  · rintro (⟨a, _⟩ | ⟨_, a⟩ | ⟨a, _⟩ | ⟨a, _⟩ | ⟨a, _⟩ | ⟨a, _⟩)
    · omega
    · exact a
    all_goals omega
  · intro a
    exact .inr (.inl ⟨rfl, a⟩)
theorem may_k3 (h : x.k = 3) : mayL x ↔ x = { k := x.k, wk := x.wk, tm := x.tm } := by
  unfold mayL
  rw [h]
  constructor
  · rintro (⟨a, _⟩ | ⟨a, _⟩ | ⟨_, a⟩ | ⟨a, _⟩ | ⟨a, _⟩ | ⟨a, _⟩)
    · omega
    · omega
    · exact a
    all_goals omega
  · intro a
    exact .inr (.inr (.inl ⟨rfl, a⟩))
theorem may_k4 (h : x.k = 4) : mayL x ↔ x = { k := x.k, tm := x.tm } := by
  unfold mayL
  rw [h]
  constructor
  · rintro (⟨a, _⟩ | ⟨a, _⟩ | ⟨a, _⟩ | ⟨_, a⟩ | ⟨a, _⟩ | ⟨a, _⟩)
    · omega
    · omega
    · omega
    · exact a
    all_goals omega
  · intro a
    exact .inr (.inr (.inr (.inl ⟨rfl, a⟩)))
theorem may_k5 (h : x.k = 5) : mayL x ↔ x = { k := x.k, wk := x.wk } := by
  unfold mayL
  rw [h]
  constructor
  · rintro (⟨a, _⟩ | ⟨a, _⟩ | ⟨a, _⟩ | ⟨a, _⟩ | ⟨_, a⟩ | ⟨a, _⟩)
    · omega
    · omega
    · omega
    · omega
    · exact a
    · omega
  · intro a
    exact .inr (.inr (.inr (.inr (.inl ⟨rfl, a⟩))))
theorem may_k6 (h : x.k < 1 ∨ 5 < x.k) : mayL x ↔ x = { k := x.k } ∧ 1 ≤ x.k ∧ x.k ≤ 10 := by
  unfold mayL
  constructor
  · rintro (⟨a, _⟩ | ⟨a, _⟩ | ⟨a, _⟩ | ⟨a, _⟩ | ⟨a, _⟩ | ⟨a, b, c⟩)
    · omega
    · omega
    · omega
    · omega
    · omega
    · exact ⟨c, by omega, b⟩
  · rintro ⟨a, b, c⟩
    exact .inr (.inr (.inr (.inr (.inr ⟨by omega, c, a⟩))))

theorem may_spec (hx : LnAt w x xa xl) (hl : xl ≤ 1000000000) : CALL Pg F_l25_may [lnV x xa xl xc] w fun v w' => Eff w w' [] ∧ v = .bool (decide (mayL x)) := by
  apply C_l25_may
  unfold D_l25_may
  have hxl := hx.1
  intro b1 w1 hE1 hs1 hb1
  rw [LDi_of (cellH_of hb1 0)]
  intro b2 w2 hE2 hs2 hb2
  refine ST11_of ⟨trivial, trivial, trivial, trivial, trivial, trivial, trivial, trivial, trivial, trivial, trivial⟩ hE2 hs2 hb2 fun w13 hE13 hb213 _ => ?_
  have hb113 := hE13.obj0 hb1
  have hE013 := hE1.trans0 hE13
  have hb12 : b1 ≠ b2 := by have := obj_lt hb1; omega
  have hs2' : w.heap.size ≤ b2 := Nat.le_trans hE1.size hs2
  refine ⟨fun vs w' => vs = [.bool false] ∧ Eff w w' [] ∧ w'.heap[b1]? = some (.cells (lnL x xa xl xc).toArray T_text_Line_text_Line (0, 0)) ∧
      ∃ y ya yl yc, w'.heap[b2]? = some (.cells (lnL y ya yl yc).toArray T_text_Line_text_Line (0, 0)) ∧ LnAt w' y ya yl ∧ (mayL x ↔ x = y ∧ 1 ≤ x.k ∧ x.k ≤ 10), ?_, ?_⟩
  · refine ⟨fun vs w' => w' = w13 ∧ vs = [.int .i64 x.k], ?_, ?_⟩
    · rw [LDi_of (cellH_of hb113 0)]
      exact ⟨rfl, rfl⟩
    intro w14 v1 ⟨hw, hv⟩
    subst hw
    cases hv
    rw [INTV_int]
    refine ITE_eq (fun hk => ?_) (fun hk1 => ?_)
    · rw [LDi_of (cellH_of hb113 3), LDi_of (cellH_of hb113 4), LDi_of (cellH_of hb113 5), LDi_of (cellH_of hb113 6), LDl_of (cellH_of hb113 7)]
      refine ST1_of trivial hb213 (by simp) fun w15 h15 e15 => ST1_of trivial h15 (by simp) fun w16 h16 e16 => ST1_of trivial h16 (by simp) fun w17 h17 e17 => ST1_of trivial h17 (by simp) fun w18 h18 e18 => ST1_of trivial h18 (by simp) fun w19 h19 e19 => ?_
      have hall := effg (effg (effg (effg e15 e16) e17) e18) e19
      have hE019 : Eff w w19 [] := hE013.own hall (by simpa using hs2')
      have hb119 := hall.obj hb113 (by simpa using hb12)
      refine ⟨fun vs w' => Eff w w' [] ∧ vs = [.bool (decide (mayL x))], ?_, ?_⟩
      · refine LD11 (x := x) hb119 (LD11 (x := { k := x.k, c0 := x.c0, c1 := x.c1, c2 := x.c2, c3 := x.c3, cls := x.cls }) (a := xa) (l := xl) (c := xc) h19 ?_)
        refine (same_spec (y := { k := x.k, c0 := x.c0, c1 := x.c1, c2 := x.c2, c3 := x.c3, cls := x.cls }) (hx.eff hE019) (hx.eff hE019) hl).mono fun v w20 ⟨hE20, hv⟩ => ?_
        subst hv
        rw [BOOLV_bool]
        refine ITE_d (fun he => ?_) (fun he => ⟨hE019.trans0 hE20, by rw [decide_eq_false (fun hm => he ((may_k1 hk).1 hm).1)]⟩)
        rw [LDl_of (cellH_of (hE20.obj0 hb119) 7)]
        refine ⟨hE019.trans0 hE20, ?_⟩
        rw [decide_eq_decide.2 (show (xl : Int) ≤ 28 ↔ mayL x from by rw [may_k1 hk]; exact ⟨fun h => ⟨he, by omega⟩, fun h => by omega⟩)]
      · intro w21 v3 ⟨hE, hv⟩
        cases hv
        rw [BOOLV_bool]
        exact ⟨hE, rfl⟩
    refine ITE_eq (fun hk => ?_) (fun hk2 => ?_)
    · intro w22 hE22 _
      have hb122 := hE22.obj0 hb113
      have hb222 := hE22.obj0 hb213
      rw [LDi_of (cellH_of hb122 1), LDi_of (cellH_of hb122 8), LDi_of (cellH_of hb122 9), LDi_of (cellH_of hb122 10)]
      refine ST1_of trivial hb222 (by simp) fun w23 h23 e23 => ?_
      have hb123 := e23.obj hb122 (by simpa using hb12)
      refine ⟨KEEP_cell (cellH_of hb123 8) (KEEP_cell (cellH_of hb123 9) (KEEP_cell (cellH_of hb123 10) KEEP_nil)), ?_⟩
      refine ST1_of trivial h23 (by simp) fun w24 h24 e24 => ST1_of trivial h24 (by simp) fun w25 h25 e25 => ?_
      have hb125 := (effg e24 e25).obj hb123 (by simpa using hb12)
      refine ⟨KEEP_cell (cellH_of hb125 10) KEEP_nil, ?_⟩
      refine ST1_of trivial h25 (by simp) fun w26 h26 e26 => ⟨KEEP_nil, ?_⟩
      have hall := effg (effg (effg e23 e24) e25) e26
      have hE026 : Eff w w26 [] := (hE013.trans0 hE22).own hall (by simpa using hs2')
      have hb126 := e26.obj hb125 (by simpa using hb12)
      refine ⟨fun vs w' => Eff w w' [] ∧ vs = [.bool (decide (mayL x))], ?_, ?_⟩
      · refine LD11 (x := x) hb126 (LD11 (x := { k := x.k, wk := x.wk, rk := x.rk, rn := x.rn, of := x.of }) (a := none) (l := 0) (c := 0) h26 ?_)
        refine (same_spec (y := { k := x.k, wk := x.wk, rk := x.rk, rn := x.rn, of := x.of }) (hx.eff hE026) ⟨rfl, .inl rfl⟩ hl).mono fun v w27 ⟨hE27, hv⟩ => ?_
        subst hv
        rw [BOOLV_bool]
        have hE027 := hE026.trans0 hE27
        have hb127 := hE27.obj0 hb126
        refine ITE_d (fun he => ?_) (fun he => ⟨hE027, by rw [decide_eq_false (fun hm => he ((may_k2 hk).1 hm).1)]⟩)
        rw [LDi_of (cellH_of hb127 8)]
        refine ITE_d (fun h1 => ?_) (fun h1 => ⟨hE027, by rw [decide_eq_false (fun hm => by have := (may_k2 hk).1 hm; omega)]⟩)
        rw [LDi_of (cellH_of hb127 8)]
        refine ITE_d (fun h2 => ?_) (fun h2 => ⟨hE027, by rw [decide_eq_false (fun hm => by have := (may_k2 hk).1 hm; omega)]⟩)
        rw [LDi_of (cellH_of hb127 10)]
        refine ITE_d (fun h3 => ?_) (fun h3 => ⟨hE027, by rw [decide_eq_false (fun hm => by have := (may_k2 hk).1 hm; omega)]⟩)
        rw [LDi_of (cellH_of hb127 10)]
        refine ITE_eq (fun h4 => ⟨hE027, by rw [decide_eq_true ((may_k2 hk).2 ⟨he, by omega, by omega, by omega, .inl h4⟩)]⟩) (fun h4 => ?_)
        rw [LDi_of (cellH_of hb127 9)]
        refine ⟨hE027, ?_⟩
        rw [show (x.rn == 0) = decide (mayL x) from by
          rw [Bool.eq_iff_iff, beq_iff_eq, decide_eq_true_eq, may_k2 hk]
          exact ⟨fun h => ⟨he, by omega, by omega, by omega, .inr h⟩, fun h => by omega⟩]
      · intro w28 v5 ⟨hE, hv⟩
        cases hv
        rw [BOOLV_bool]
        exact ⟨hE, rfl⟩
    refine ITE_eq (fun hk => ?_) (fun hk3 => ?_)
    · intro w29 hE29 _
      have hb129 := hE29.obj0 hb113
      have hb229 := hE29.obj0 hb213
      rw [LDi_of (cellH_of hb129 1), LDi_of (cellH_of hb129 2)]
      refine ST1_of trivial hb229 (by simp) fun w30 h30 e30 => ?_
      have hb130 := e30.obj hb129 (by simpa using hb12)
      refine ⟨KEEP_cell (cellH_of hb130 2) KEEP_nil, ?_⟩
      refine ST1_of trivial h30 (by simp) fun w31 h31 e31 => ⟨KEEP_nil, ?_⟩
      refine ⟨rfl, (hE013.trans0 hE29).own (effg e30 e31) (by simpa using hs2'), e31.obj hb130 (by simpa using hb12), { k := x.k, wk := x.wk, tm := x.tm }, none, 0, 0, h31, ⟨rfl, .inl rfl⟩, ?_⟩
      rw [may_k3 hk]
      exact ⟨fun h => ⟨h, by omega, by omega⟩, fun h => h.1⟩
    refine ITE_eq (fun hk => ?_) (fun hk4 => ?_)
    · rw [LDi_of (cellH_of hb113 2)]
      refine ST1_of trivial hb213 (by simp) fun w32 h32 e32 => ?_
      refine ⟨rfl, hE013.own e32 (by simpa using hs2'), e32.obj hb113 (by simpa using hb12), { k := x.k, tm := x.tm }, none, 0, 0, h32, ⟨rfl, .inl rfl⟩, ?_⟩
      rw [may_k4 hk]
      exact ⟨fun h => ⟨h, by omega, by omega⟩, fun h => h.1⟩
    refine ITE_eq (fun hk => ?_) (fun hk5 => ?_)
    · rw [LDi_of (cellH_of hb113 1)]
      refine ST1_of trivial hb213 (by simp) fun w33 h33 e33 => ?_
      refine ⟨rfl, hE013.own e33 (by simpa using hs2'), e33.obj hb113 (by simpa using hb12), { k := x.k, wk := x.wk }, none, 0, 0, h33, ⟨rfl, .inl rfl⟩, ?_⟩
      rw [may_k5 hk]
      exact ⟨fun h => ⟨h, by omega, by omega⟩, fun h => h.1⟩
    · refine ⟨rfl, hE013, hb113, { k := x.k }, none, 0, 0, hb213, ⟨rfl, .inl rfl⟩, ?_⟩
      rw [may_k6 (by omega)]
  · intro w34 v6 ⟨hv, hE34, hb134, y, ya, yl, yc, hb234, hy, hm⟩
    cases hv
    rw [BOOLV_bool]
    refine ⟨fun vs w' => Eff w w' [] ∧ vs = [.bool (decide (mayL x))], ?_, ?_⟩
    · refine LD11 (x := x) hb134 (LD11 (x := y) hb234 ?_)
      refine (same_spec (hx.eff hE34) hy hl).mono fun v w35 ⟨hE35, hv⟩ => ?_
      subst hv
      rw [BOOLV_bool]
      have hE035 := hE34.trans0 hE35
      have hb135 := hE35.obj0 hb134
      refine ITE_d (fun he => ?_) (fun he => ⟨hE035, by rw [decide_eq_false (fun h => he (hm.1 h).1)]⟩)
      rw [LDi_of (cellH_of hb135 0)]
      refine ITE_d (fun h1 => ?_) (fun h1 => ⟨hE035, by rw [decide_eq_false (fun h => h1 (hm.1 h).2.1)]⟩)
      rw [LDi_of (cellH_of hb135 0)]
      exact ⟨hE035, by rw [decide_eq_decide.2 (show x.k ≤ 10 ↔ mayL x from ⟨fun h => hm.2 ⟨he, h1, h⟩, fun h => (hm.1 h).2.2⟩)]⟩
    · intro w36 v8 ⟨hE, hv⟩
      cases hv
      rw [BOOLV_bool]
      exact ⟨hE, rfl⟩

theorem TextSame_spec (hg : Glo w) (hx : LnAt w x xa xl) (hy : LnAt w y ya yl) : CALL Pg F_l25_TextSame [lnV x xa xl xc, lnV y ya yl yc] w fun v w' => Eff w w' [] ∧ v = .bool true := by
  apply C_l25_TextSame
  unfold D_l25_TextSame
  intro b1 w1 hE1 hs1 hb1 b2 w2 hE2 hs2 hb2
  have hE02 := hE1.trans0 hE2
  refine (speaks_spec (hg.eff hE02)).mono fun v w3 ⟨hE3, hv⟩ => ?_
  subst hv
  have hE03 := hE02.trans0 hE3
  have hb13 := (hE2.trans0 hE3).obj0 hb1
  have hb23 := hE3.obj0 hb2
  rw [BOOLV_bool]
  refine ITE_intro (fun h => by cases h) (fun _ => ?_)
  refine ⟨fun vs w' => w' = w3 ∧ vs = [.bool false] ∧ xl ≤ 60 ∧ yl ≤ 60, ⟨fun vs w' => w' = w3 ∧ vs = [.bool (decide (60 < xl ∨ 60 < yl))], ?_, ?_⟩, ?_⟩
  · rw [LDl_of (cellH_of hb13 7)]
    refine ITE_d (fun h => ⟨rfl, by rw [decide_eq_true (.inl (by omega))]⟩) (fun h => ?_)
    rw [LDl_of (cellH_of hb23 7)]
    exact ⟨rfl, by rw [decide_eq_decide.2 (show (yl : Int) > 60 ↔ (60 < xl ∨ 60 < yl) by omega)]⟩
  · intro w4 v2 ⟨hw, hv⟩
    subst hw
    cases hv
    rw [BOOLV_bool]
    exact ITE_d (fun _ => ⟨hE03, rfl⟩) (fun h => ⟨rfl, rfl, by omega, by omega⟩)
  intro w5 v3 ⟨hw, hv, hl1, hl2⟩
  subst hw
  cases hv
  rw [BOOLV_bool]
  refine ⟨fun vs w' => Eff w w' [] ∧ vs = [.bool true], ?_, ?_⟩
  · intro w6 hE6 _
    have hE06 := hE03.trans0 hE6
    have hb16 := hE6.obj0 hb13
    have hb26 := hE6.obj0 hb23
    refine LD11 (x := x) hb16 (LD11 (x := y) hb26 (LD11 (x := x) hb16 (LD11 (x := y) hb26 ?_)))
    refine (Same_spec (hx.eff hE06) (hy.eff hE06) (by omega)).mono fun v w7 ⟨hE7, hv⟩ => ?_
    subst hv
    rw [BOOLV_bool]
    have hE07 := hE06.trans0 hE7
    have hb17 := hE7.obj0 hb16
    have hb27 := hE7.obj0 hb26
    refine ⟨KEEP11 hb17 (KEEP11 hb27 KEEP_nil), ?_⟩
    refine (same_spec (hx.eff hE07) (hy.eff hE07) (by omega)).mono fun v w8 ⟨hE8, hv⟩ => ?_
    subst hv
    rw [BOOLV_bool]
    have hE08 := hE07.trans0 hE8
    have hb18 := hE8.obj0 hb17
    have hb28 := hE8.obj0 hb27
    refine ⟨KEEP_nil, ITE_intro (fun _ => ?_) (fun h => by simp at h)⟩
    refine LD11 (x := y) hb28 (LD11 (x := x) hb18 (LD11 (x := x) hb18 (LD11 (x := y) hb28 ?_)))
    refine (Same_spec (hy.eff hE08) (hx.eff hE08) (by omega)).mono fun v w9 ⟨hE9, hv⟩ => ?_
    subst hv
    rw [BOOLV_bool]
    have hE09 := hE08.trans0 hE9
    have hb19 := hE9.obj0 hb18
    have hb29 := hE9.obj0 hb28
    refine ⟨KEEP11 hb19 (KEEP11 hb29 KEEP_nil), ?_⟩
    refine (same_spec (hx.eff hE09) (hy.eff hE09) (by omega)).mono fun v w10 ⟨hE10, hv⟩ => ?_
    subst hv
    rw [BOOLV_bool]
    have hE010 := hE09.trans0 hE10
    have hb110 := hE10.obj0 hb19
    have hsym : decide (y = x) = decide (x = y) := decide_eq_decide.2 ⟨fun h => h.symm, fun h => h.symm⟩
    refine ⟨KEEP_nil, ITE_intro (fun _ => ?_) (fun h => by rw [hsym] at h; simp at h)⟩
    refine LD11 (x := x) hb110 (LD11 (x := x) hb110 ?_)
    refine (Same_spec (hx.eff hE010) (hx.eff hE010) (by omega)).mono fun v w11 ⟨hE11, hv⟩ => ?_
    subst hv
    rw [BOOLV_bool]
    exact ⟨KEEP_nil, hE010.trans0 hE11, by rw [decide_eq_true rfl]⟩
  · intro w12 v9 ⟨hE, hv⟩
    cases hv
    rw [BOOLV_bool]
    exact ⟨hE, rfl⟩
end
end Go.Proofs.YtmanfmpdmmhbfaaDoor
