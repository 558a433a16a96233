/- Whether two lines say the same. -/
import Derived.Test.YtmanfmpdmmhbfaaDoorText8
import Derived.Test.YtmanfmpdmmhbfaaDoorT4
namespace Go.Proofs.YtmanfmpdmmhbfaaDoor
open Go.Den
set_option maxRecDepth 100000
set_option maxHeartbeats 4000000

def headP (x y : Ln) : Prop := x.k = y.k ∧ x.wk = y.wk ∧ x.tm = y.tm ∧ x.rk = y.rk ∧ x.rn = y.rn ∧ x.of = y.of
def confP (x y : Ln) : Prop := x.c0 = y.c0 ∧ x.c1 = y.c1 ∧ x.c2 = y.c2 ∧ x.c3 = y.c3 ∧ x.cls.length = y.cls.length
instance (x y : Ln) : Decidable (headP x y) := by unfold headP; infer_instance
instance (x y : Ln) : Decidable (confP x y) := by unfold confP; infer_instance

theorem same_iff {x y : Ln} : decide ((headP x y ∧ confP x y) ∧ x.cls.take x.cls.length = y.cls.take x.cls.length) = decide (x = y) := by
  rw [decide_eq_decide]
  constructor
  · rintro ⟨⟨⟨h1, h2, h3, h4, h5, h6⟩, h7, h8, h9, h10, h11⟩, h12⟩
    rw [List.take_length, h11, List.take_length] at h12
    cases x
    cases y
    dsimp only at *
    subst h1 h2 h3 h4 h5 h6 h7 h8 h9 h10 h12
    rfl
  · rintro rfl
    exact ⟨⟨⟨rfl, rfl, rfl, rfl, rfl, rfl⟩, rfl, rfl, rfl, rfl, rfl⟩, rfl⟩

theorem take_same {x y : List Int} {j : Nat} (h1 : j < x.length) (h2 : j < y.length) (h : x.take j = y.take j) : x.take (j + 1) = y.take (j + 1) ↔ x.getD j 0 = y.getD j 0 := by
  rw [List.take_succ_eq_append_getElem h1, List.take_succ_eq_append_getElem h2, h, List.append_cancel_left_eq]
  simp [h1, h2]

theorem pair_eq {a b x y : Int} : (a == x && (b == y && true)) = decide (a = x ∧ b = y) := by
  rw [Bool.eq_iff_iff]; simp

section
variable {w : World} {x y : Ln} {xa ya : Option Addr} {xl yl xc yc : Nat}

theorem Same_spec (hx : LnAt w x xa xl) (hy : LnAt w y ya yl) (hlx : xl ≤ 1000000000) :
    CALL Pg F_text_Same [lnV x xa xl xc, lnV y ya yl yc] w fun v w' => Eff w w' [] ∧ v = .bool (decide (x = y)) := by
  apply C_text_Same
  unfold D_text_Same
  have hxl := hx.1
  have hyl := hy.1
  intro b1 w1 hE1 hs1 hb1 b2 w2 hE2 hs2 hb2 w3 hE3 _
  have hb13 := (hE2.trans0 hE3).obj0 hb1
  have hb23 := hE3.obj0 hb2
  have hE03 := (hE1.trans0 hE2).trans0 hE3
  rw [LDi_of (cellH_of hb13 3), LDi_of (cellH_of hb13 4), LDi_of (cellH_of hb13 5), LDi_of (cellH_of hb13 6), LDl_of (cellH_of hb13 7), LDi_of (cellH_of hb23 3), LDi_of (cellH_of hb23 4), LDi_of (cellH_of hb23 5), LDi_of (cellH_of hb23 6), LDl_of (cellH_of hb23 7)]
  constructor
  · intro b3 w4 hE4 hs4 hp4
    have hb14 := hE4.obj0 hb13
    have hb24 := hE4.obj0 hb23
    refine ⟨(KEEP_cell (cellH_of hb14 3) (KEEP_cell (cellH_of hb14 4) (KEEP_cell (cellH_of hb14 5) (KEEP_cell (cellH_of hb14 6) (KEEP_cell (cellH_of hb14 7) (KEEP_cell (cellH_of hb24 3) (KEEP_cell (cellH_of hb24 4) (KEEP_cell (cellH_of hb24 5) (KEEP_cell (cellH_of hb24 6) (KEEP_cell (cellH_of hb24 7) KEEP_nil)))))))))), ?_⟩
    intro b4 w5 hE5 hs5 hq5
    have hb15 := hE5.obj0 hb14
    have hb25 := hE5.obj0 hb24
    have hp5 := hE5.obj0 hp4
    refine ⟨(KEEP_cell (cellH_of hb15 3) (KEEP_cell (cellH_of hb15 4) (KEEP_cell (cellH_of hb15 5) (KEEP_cell (cellH_of hb15 6) (KEEP_cell (cellH_of hb15 7) (KEEP_cell (cellH_of hb25 3) (KEEP_cell (cellH_of hb25 4) (KEEP_cell (cellH_of hb25 5) (KEEP_cell (cellH_of hb25 6) (KEEP_cell (cellH_of hb25 7) KEEP_nil)))))))))), ?_⟩
    have hE05 := (hE03.trans0 hE4).trans0 hE5
    have hE35 := hE4.trans0 hE5
    have hX := hp5
    have hY := hq5
    have hbX : w3.heap.size ≤ b3 := hs4
    have hbY : w3.heap.size ≤ b4 := Nat.le_trans hE4.size hs5
    have hne : b3 ≠ b4 := by have := obj_lt hp4; omega
    refine ST5_of (w₀ := w3) trivial trivial trivial trivial trivial hE35 hbX hX fun w10 hE10 hX10 hX10' => ?_
    have hb110 := hE10.obj0 hb13
    have hb210 := hE10.obj0 hb23
    refine ⟨(KEEP_cell (cellH_of hb210 3) (KEEP_cell (cellH_of hb210 4) (KEEP_cell (cellH_of hb210 5) (KEEP_cell (cellH_of hb210 6) (KEEP_cell (cellH_of hb210 7) KEEP_nil))))), ?_⟩
    have hY10 := hX10'.obj hY (by simpa using hne.symm)
    refine ST5_of (w₀ := w3) trivial trivial trivial trivial trivial hE10 hbY hY10 fun w15 hE15 hY15 hY15' => ?_
    have hX15 := hY15'.obj hX10 (by simpa using hne)
    have hb115 := hE15.obj0 hb13
    have hb215 := hE15.obj0 hb23
    have hE015 := hE03.trans0 hE15
    refine ⟨KEEP_nil, ?_⟩
    refine ⟨fun vs w' => w' = w15 ∧ vs = [.bool (decide (headP x y))], ?_, ?_⟩
    · rw [LDi_of (cellH_of hb115 0), LDi_of (cellH_of hb215 0)]
      refine ITE_eq (fun h1 => ?_) (fun h1 => ⟨rfl, by rw [decide_eq_false (by unfold headP; omega)]⟩)
      rw [LDi_of (cellH_of hb115 1), LDi_of (cellH_of hb215 1)]
      refine ITE_eq (fun h2 => ?_) (fun h2 => ⟨rfl, by rw [decide_eq_false (by unfold headP; omega)]⟩)
      rw [LDi_of (cellH_of hb115 2), LDi_of (cellH_of hb215 2)]
      refine ITE_eq (fun h3 => ?_) (fun h3 => ⟨rfl, by rw [decide_eq_false (by unfold headP; omega)]⟩)
      rw [LDi_of (cellH_of hb115 8), LDi_of (cellH_of hb115 9), LDi_of (cellH_of hb215 8), LDi_of (cellH_of hb215 9), pair_eq]
      refine ITE_d (fun h4 => ?_) (fun h4 => ⟨rfl, by rw [decide_eq_false (by unfold headP; omega)]⟩)
      rw [LDi_of (cellH_of hb115 10), LDi_of (cellH_of hb215 10)]
      exact ⟨rfl, by rw [show (x.of == y.of) = decide (headP x y) from by rw [Bool.eq_iff_iff, beq_iff_eq, decide_eq_true_eq]; unfold headP; omega]⟩
    intro w16 v1 ⟨hw, hv⟩
    subst hw
    cases hv
    rw [BOOLV_bool]
    refine ⟨fun vs w' => w' = w16 ∧ vs = [.bool (decide (headP x y ∧ confP x y))], ?_, ?_⟩
    · refine ITE_d (fun h0 => ?_) (fun h0 => ⟨rfl, by rw [decide_eq_false (fun h => h0 h.1)]⟩)
      rw [LDi_of (cellH_of hX15 0), LDi_of (cellH_of hY15 0)]
      refine ITE_eq (fun h1 => ?_) (fun h1 => ⟨rfl, by rw [decide_eq_false (by unfold confP; omega)]⟩)
      rw [LDi_of (cellH_of hX15 1), LDi_of (cellH_of hY15 1)]
      refine ITE_eq (fun h2 => ?_) (fun h2 => ⟨rfl, by rw [decide_eq_false (by unfold confP; omega)]⟩)
      rw [LDi_of (cellH_of hX15 2), LDi_of (cellH_of hY15 2)]
      refine ITE_eq (fun h3 => ?_) (fun h3 => ⟨rfl, by rw [decide_eq_false (by unfold confP; omega)]⟩)
      rw [LDi_of (cellH_of hX15 3), LDi_of (cellH_of hY15 3)]
      refine ITE_eq (fun h4 => ?_) (fun h4 => ⟨rfl, by rw [decide_eq_false (by unfold confP; omega)]⟩)
      rw [LDl_of (cellH_of hX15 4), LDl_of (cellH_of hY15 4)]
      exact ⟨rfl, by rw [show ((xl : Int) == yl) = decide (headP x y ∧ confP x y) from by rw [Bool.eq_iff_iff, beq_iff_eq, decide_eq_true_eq]; unfold confP; exact ⟨fun h => ⟨h0, h1, h2, h3, h4, by omega⟩, fun h => by omega⟩]⟩
    intro w17 v2 ⟨hw, hv⟩
    subst hw
    cases hv
    rw [BOOLV_bool]
    rw [LDl_of (cellH_of hX15 4)]
    refine LOOP_of (fun vs w' => ∃ j : Nat, vs = [.bool (decide ((headP x y ∧ confP x y) ∧ x.cls.take j = y.cls.take j)), .int .i64 j] ∧ j ≤ xl ∧ Eff w17 w' [])
      (fun vs _ => match vs with | [_, .int _ n] => xl - n.toNat | _ => 0) ⟨0, by simp, by omega, Eff.refl _⟩ ?_
    intro w18 v3 v4 ⟨j, hv, hj, hE18⟩
    simp only [List.cons.injEq, and_true] at hv
    obtain ⟨rfl, rfl⟩ := hv
    rw [INTV_int, BOOLV_bool]
    refine ITE_d (fun h1 => ?_) (fun h1 => ?_)
    · intro w19 hE19 _
      have hE1719 := hE18.trans0 hE19
      refine ITE_d (fun h2 => ?_) (fun h2 => ?_)
      · have hxy : x.cls.length = y.cls.length := h2.1.2.2.2.2.2
        rw [LDl_of (cellH_of (hE1719.obj0 hX15) 4)]
        have hE019 := hE015.trans0 hE1719
        refine IDX_i (hx.eff hE019) (by omega) (by omega) fun b o hc => ?_
        rw [LDi_of hc, LDl_of (cellH_of (hE1719.obj0 hY15) 4)]
        refine IDX_i (hy.eff hE019) (by omega) (by omega) fun b o hc => ?_
        rw [LDi_of hc, Int.toNat_natCast]
        refine BINDw (by omega) (by omega) ⟨⟨j + 1, ?_, by omega, hE1719⟩, by first | omega | (dsimp only; omega)⟩
        have := take_same (x := x.cls) (y := y.cls) (j := j) (by omega) (by omega) h2.2
        rw [show (x.cls.getD j 0 == y.cls.getD j 0) = decide ((headP x y ∧ confP x y) ∧ x.cls.take (j + 1) = y.cls.take (j + 1)) from by rw [Bool.eq_iff_iff, beq_iff_eq, decide_eq_true_eq, this]; exact ⟨fun h => ⟨h2.1, h⟩, fun h => h.2⟩]
        rfl
      · refine BINDw (by omega) (by omega) ⟨⟨j + 1, ?_, by omega, hE1719⟩, by first | omega | (dsimp only; omega)⟩
        rw [show false = decide ((headP x y ∧ confP x y) ∧ x.cls.take (j + 1) = y.cls.take (j + 1)) from (decide_eq_false (fun h => h2 ⟨h.1, by
          have := congrArg (List.take j) h.2
          rwa [List.take_take, List.take_take, Nat.min_eq_left (by omega)] at this⟩)).symm]
        rfl
    · refine ⟨hE015.trans0 hE18, ?_⟩
      have : j = x.cls.length := by omega
      subst this
      rw [same_iff]
  · intro b4 w4 hE4 hs4 hp4
    have hb14 := hE4.obj0 hb13
    have hb24 := hE4.obj0 hb23
    refine ⟨(KEEP_cell (cellH_of hb14 3) (KEEP_cell (cellH_of hb14 4) (KEEP_cell (cellH_of hb14 5) (KEEP_cell (cellH_of hb14 6) (KEEP_cell (cellH_of hb14 7) (KEEP_cell (cellH_of hb24 3) (KEEP_cell (cellH_of hb24 4) (KEEP_cell (cellH_of hb24 5) (KEEP_cell (cellH_of hb24 6) (KEEP_cell (cellH_of hb24 7) KEEP_nil)))))))))), ?_⟩
    intro b3 w5 hE5 hs5 hq5
    have hb15 := hE5.obj0 hb14
    have hb25 := hE5.obj0 hb24
    have hp5 := hE5.obj0 hp4
    refine ⟨(KEEP_cell (cellH_of hb15 3) (KEEP_cell (cellH_of hb15 4) (KEEP_cell (cellH_of hb15 5) (KEEP_cell (cellH_of hb15 6) (KEEP_cell (cellH_of hb15 7) (KEEP_cell (cellH_of hb25 3) (KEEP_cell (cellH_of hb25 4) (KEEP_cell (cellH_of hb25 5) (KEEP_cell (cellH_of hb25 6) (KEEP_cell (cellH_of hb25 7) KEEP_nil)))))))))), ?_⟩
    have hE05 := (hE03.trans0 hE4).trans0 hE5
    have hE35 := hE4.trans0 hE5
    have hX := hq5
    have hY := hp5
    have hbY : w3.heap.size ≤ b4 := hs4
    have hbX : w3.heap.size ≤ b3 := Nat.le_trans hE4.size hs5
    have hne : b3 ≠ b4 := by have := obj_lt hp4; omega
    refine ST5_of (w₀ := w3) trivial trivial trivial trivial trivial hE35 hbX hX fun w10 hE10 hX10 hX10' => ?_
    have hb110 := hE10.obj0 hb13
    have hb210 := hE10.obj0 hb23
    refine ⟨(KEEP_cell (cellH_of hb210 3) (KEEP_cell (cellH_of hb210 4) (KEEP_cell (cellH_of hb210 5) (KEEP_cell (cellH_of hb210 6) (KEEP_cell (cellH_of hb210 7) KEEP_nil))))), ?_⟩
    have hY10 := hX10'.obj hY (by simpa using hne.symm)
    refine ST5_of (w₀ := w3) trivial trivial trivial trivial trivial hE10 hbY hY10 fun w15 hE15 hY15 hY15' => ?_
    have hX15 := hY15'.obj hX10 (by simpa using hne)
    have hb115 := hE15.obj0 hb13
    have hb215 := hE15.obj0 hb23
    have hE015 := hE03.trans0 hE15
    refine ⟨KEEP_nil, ?_⟩
    refine ⟨fun vs w' => w' = w15 ∧ vs = [.bool (decide (headP x y))], ?_, ?_⟩
    · rw [LDi_of (cellH_of hb115 0), LDi_of (cellH_of hb215 0)]
      refine ITE_eq (fun h1 => ?_) (fun h1 => ⟨rfl, by rw [decide_eq_false (by unfold headP; omega)]⟩)
      rw [LDi_of (cellH_of hb115 1), LDi_of (cellH_of hb215 1)]
      refine ITE_eq (fun h2 => ?_) (fun h2 => ⟨rfl, by rw [decide_eq_false (by unfold headP; omega)]⟩)
      rw [LDi_of (cellH_of hb115 2), LDi_of (cellH_of hb215 2)]
      refine ITE_eq (fun h3 => ?_) (fun h3 => ⟨rfl, by rw [decide_eq_false (by unfold headP; omega)]⟩)
      rw [LDi_of (cellH_of hb115 8), LDi_of (cellH_of hb115 9), LDi_of (cellH_of hb215 8), LDi_of (cellH_of hb215 9), pair_eq]
      refine ITE_d (fun h4 => ?_) (fun h4 => ⟨rfl, by rw [decide_eq_false (by unfold headP; omega)]⟩)
      rw [LDi_of (cellH_of hb115 10), LDi_of (cellH_of hb215 10)]
      exact ⟨rfl, by rw [show (x.of == y.of) = decide (headP x y) from by rw [Bool.eq_iff_iff, beq_iff_eq, decide_eq_true_eq]; unfold headP; omega]⟩
    intro w16 v1 ⟨hw, hv⟩
    subst hw
    cases hv
    rw [BOOLV_bool]
    refine ⟨fun vs w' => w' = w16 ∧ vs = [.bool (decide (headP x y ∧ confP x y))], ?_, ?_⟩
    · refine ITE_d (fun h0 => ?_) (fun h0 => ⟨rfl, by rw [decide_eq_false (fun h => h0 h.1)]⟩)
      rw [LDi_of (cellH_of hX15 0), LDi_of (cellH_of hY15 0)]
      refine ITE_eq (fun h1 => ?_) (fun h1 => ⟨rfl, by rw [decide_eq_false (by unfold confP; omega)]⟩)
      rw [LDi_of (cellH_of hX15 1), LDi_of (cellH_of hY15 1)]
      refine ITE_eq (fun h2 => ?_) (fun h2 => ⟨rfl, by rw [decide_eq_false (by unfold confP; omega)]⟩)
      rw [LDi_of (cellH_of hX15 2), LDi_of (cellH_of hY15 2)]
      refine ITE_eq (fun h3 => ?_) (fun h3 => ⟨rfl, by rw [decide_eq_false (by unfold confP; omega)]⟩)
      rw [LDi_of (cellH_of hX15 3), LDi_of (cellH_of hY15 3)]
      refine ITE_eq (fun h4 => ?_) (fun h4 => ⟨rfl, by rw [decide_eq_false (by unfold confP; omega)]⟩)
      rw [LDl_of (cellH_of hX15 4), LDl_of (cellH_of hY15 4)]
      exact ⟨rfl, by rw [show ((xl : Int) == yl) = decide (headP x y ∧ confP x y) from by rw [Bool.eq_iff_iff, beq_iff_eq, decide_eq_true_eq]; unfold confP; exact ⟨fun h => ⟨h0, h1, h2, h3, h4, by omega⟩, fun h => by omega⟩]⟩
    intro w17 v2 ⟨hw, hv⟩
    subst hw
    cases hv
    rw [BOOLV_bool]
    rw [LDl_of (cellH_of hX15 4)]
    refine LOOP_of (fun vs w' => ∃ j : Nat, vs = [.bool (decide ((headP x y ∧ confP x y) ∧ x.cls.take j = y.cls.take j)), .int .i64 j] ∧ j ≤ xl ∧ Eff w17 w' [])
      (fun vs _ => match vs with | [_, .int _ n] => xl - n.toNat | _ => 0) ⟨0, by simp, by omega, Eff.refl _⟩ ?_
    intro w18 v3 v4 ⟨j, hv, hj, hE18⟩
    simp only [List.cons.injEq, and_true] at hv
    obtain ⟨rfl, rfl⟩ := hv
    rw [INTV_int, BOOLV_bool]
    refine ITE_d (fun h1 => ?_) (fun h1 => ?_)
    · intro w19 hE19 _
      have hE1719 := hE18.trans0 hE19
      refine ITE_d (fun h2 => ?_) (fun h2 => ?_)
      · have hxy : x.cls.length = y.cls.length := h2.1.2.2.2.2.2
        rw [LDl_of (cellH_of (hE1719.obj0 hX15) 4)]
        have hE019 := hE015.trans0 hE1719
        refine IDX_i (hx.eff hE019) (by omega) (by omega) fun b o hc => ?_
        rw [LDi_of hc, LDl_of (cellH_of (hE1719.obj0 hY15) 4)]
        refine IDX_i (hy.eff hE019) (by omega) (by omega) fun b o hc => ?_
        rw [LDi_of hc, Int.toNat_natCast]
        refine BINDw (by omega) (by omega) ⟨⟨j + 1, ?_, by omega, hE1719⟩, by first | omega | (dsimp only; omega)⟩
        have := take_same (x := x.cls) (y := y.cls) (j := j) (by omega) (by omega) h2.2
        rw [show (x.cls.getD j 0 == y.cls.getD j 0) = decide ((headP x y ∧ confP x y) ∧ x.cls.take (j + 1) = y.cls.take (j + 1)) from by rw [Bool.eq_iff_iff, beq_iff_eq, decide_eq_true_eq, this]; exact ⟨fun h => ⟨h2.1, h⟩, fun h => h.2⟩]
        rfl
      · refine BINDw (by omega) (by omega) ⟨⟨j + 1, ?_, by omega, hE1719⟩, by first | omega | (dsimp only; omega)⟩
        rw [show false = decide ((headP x y ∧ confP x y) ∧ x.cls.take (j + 1) = y.cls.take (j + 1)) from (decide_eq_false (fun h => h2 ⟨h.1, by
          have := congrArg (List.take j) h.2
          rwa [List.take_take, List.take_take, Nat.min_eq_left (by omega)] at this⟩)).symm]
        rfl
    · refine ⟨hE015.trans0 hE18, ?_⟩
      have : j = x.cls.length := by omega
      subst this
      rw [same_iff]

theorem same_spec (hx : LnAt w x xa xl) (hy : LnAt w y ya yl) (hlx : xl ≤ 1000000000) :
    CALL Pg F_l25_same [lnV x xa xl xc, lnV y ya yl yc] w fun v w' => Eff w w' [] ∧ v = .bool (decide (x = y)) := by
  apply C_l25_same
  unfold D_l25_same
  have hxl := hx.1
  have hyl := hy.1
  intro b1 w1 hE1 hs1 hb1 b2 w2 hE2 hs2 hb2 w3 hE3 _
  have hb13 := (hE2.trans0 hE3).obj0 hb1
  have hb23 := hE3.obj0 hb2
  have hE03 := (hE1.trans0 hE2).trans0 hE3
  rw [LDi_of (cellH_of hb13 3), LDi_of (cellH_of hb13 4), LDi_of (cellH_of hb13 5), LDi_of (cellH_of hb13 6), LDl_of (cellH_of hb13 7), LDi_of (cellH_of hb23 3), LDi_of (cellH_of hb23 4), LDi_of (cellH_of hb23 5), LDi_of (cellH_of hb23 6), LDl_of (cellH_of hb23 7)]
  constructor
  · intro b3 w4 hE4 hs4 hp4
    have hb14 := hE4.obj0 hb13
    have hb24 := hE4.obj0 hb23
    refine ⟨(KEEP_cell (cellH_of hb14 3) (KEEP_cell (cellH_of hb14 4) (KEEP_cell (cellH_of hb14 5) (KEEP_cell (cellH_of hb14 6) (KEEP_cell (cellH_of hb14 7) (KEEP_cell (cellH_of hb24 3) (KEEP_cell (cellH_of hb24 4) (KEEP_cell (cellH_of hb24 5) (KEEP_cell (cellH_of hb24 6) (KEEP_cell (cellH_of hb24 7) KEEP_nil)))))))))), ?_⟩
    intro b4 w5 hE5 hs5 hq5
    have hb15 := hE5.obj0 hb14
    have hb25 := hE5.obj0 hb24
    have hp5 := hE5.obj0 hp4
    refine ⟨(KEEP_cell (cellH_of hb15 3) (KEEP_cell (cellH_of hb15 4) (KEEP_cell (cellH_of hb15 5) (KEEP_cell (cellH_of hb15 6) (KEEP_cell (cellH_of hb15 7) (KEEP_cell (cellH_of hb25 3) (KEEP_cell (cellH_of hb25 4) (KEEP_cell (cellH_of hb25 5) (KEEP_cell (cellH_of hb25 6) (KEEP_cell (cellH_of hb25 7) KEEP_nil)))))))))), ?_⟩
    have hE05 := (hE03.trans0 hE4).trans0 hE5
    have hE35 := hE4.trans0 hE5
    have hX := hp5
    have hY := hq5
    have hbX : w3.heap.size ≤ b3 := hs4
    have hbY : w3.heap.size ≤ b4 := Nat.le_trans hE4.size hs5
    have hne : b3 ≠ b4 := by have := obj_lt hp4; omega
    refine ST5_of (w₀ := w3) trivial trivial trivial trivial trivial hE35 hbX hX fun w10 hE10 hX10 hX10' => ?_
    have hb110 := hE10.obj0 hb13
    have hb210 := hE10.obj0 hb23
    refine ⟨(KEEP_cell (cellH_of hb210 3) (KEEP_cell (cellH_of hb210 4) (KEEP_cell (cellH_of hb210 5) (KEEP_cell (cellH_of hb210 6) (KEEP_cell (cellH_of hb210 7) KEEP_nil))))), ?_⟩
    have hY10 := hX10'.obj hY (by simpa using hne.symm)
    refine ST5_of (w₀ := w3) trivial trivial trivial trivial trivial hE10 hbY hY10 fun w15 hE15 hY15 hY15' => ?_
    have hX15 := hY15'.obj hX10 (by simpa using hne)
    have hb115 := hE15.obj0 hb13
    have hb215 := hE15.obj0 hb23
    have hE015 := hE03.trans0 hE15
    refine ⟨KEEP_nil, ?_⟩
    refine ⟨fun vs w' => w' = w15 ∧ vs = [.bool false] ∧ headP x y ∧ confP x y, ⟨fun vs w' => w' = w15 ∧ vs = [.bool (decide (¬ (headP x y ∧ confP x y)))], ?_, ?_⟩, ?_⟩
    · rw [LDi_of (cellH_of hb115 0), LDi_of (cellH_of hb215 0)]
      refine ITE_ne (fun h1 => ⟨rfl, by rw [decide_eq_true (by unfold headP; omega)]⟩) (fun h1 => ?_)
      rw [LDi_of (cellH_of hb115 1), LDi_of (cellH_of hb215 1)]
      refine ITE_ne (fun h2 => ⟨rfl, by rw [decide_eq_true (by unfold headP; omega)]⟩) (fun h2 => ?_)
      rw [LDi_of (cellH_of hb115 2), LDi_of (cellH_of hb215 2)]
      refine ITE_ne (fun h3 => ⟨rfl, by rw [decide_eq_true (by unfold headP; omega)]⟩) (fun h3 => ?_)
      rw [LDi_of (cellH_of hb115 8), LDi_of (cellH_of hb115 9), LDi_of (cellH_of hb215 8), LDi_of (cellH_of hb215 9), pair_eq]
      refine ITE_intro (fun h4 => ⟨rfl, by have h4 : ¬ (x.rk = y.rk ∧ x.rn = y.rn) := fun h => by rw [decide_eq_true h] at h4; cases h4
                                           rw [decide_eq_true (by unfold headP; omega)]⟩) (fun h4 => ?_)
      have h4 : x.rk = y.rk ∧ x.rn = y.rn := by simpa using h4
      rw [LDi_of (cellH_of hb115 10), LDi_of (cellH_of hb215 10)]
      refine ITE_ne (fun h5 => ⟨rfl, by rw [decide_eq_true (by unfold headP; omega)]⟩) (fun h5 => ?_)
      rw [LDi_of (cellH_of hX15 0), LDi_of (cellH_of hY15 0)]
      refine ITE_ne (fun h6 => ⟨rfl, by rw [decide_eq_true (by unfold confP; omega)]⟩) (fun h6 => ?_)
      rw [LDi_of (cellH_of hX15 1), LDi_of (cellH_of hY15 1)]
      refine ITE_ne (fun h7 => ⟨rfl, by rw [decide_eq_true (by unfold confP; omega)]⟩) (fun h7 => ?_)
      rw [LDi_of (cellH_of hX15 2), LDi_of (cellH_of hY15 2)]
      refine ITE_ne (fun h8 => ⟨rfl, by rw [decide_eq_true (by unfold confP; omega)]⟩) (fun h8 => ?_)
      rw [LDi_of (cellH_of hX15 3), LDi_of (cellH_of hY15 3)]
      refine ITE_ne (fun h9 => ⟨rfl, by rw [decide_eq_true (by unfold confP; omega)]⟩) (fun h9 => ?_)
      rw [LDl_of (cellH_of hX15 4), LDl_of (cellH_of hY15 4)]
      exact ⟨rfl, by rw [show ((xl : Int) != yl) = decide (¬ (headP x y ∧ confP x y)) from by rw [Bool.eq_iff_iff, bne_iff_ne, decide_eq_true_eq]; unfold headP confP; omega]⟩
    · intro w16 v1 ⟨hw, hv⟩
      subst hw
      cases hv
      rw [BOOLV_bool]
      refine ITE_d (fun h => ⟨hE015, ?_⟩) (fun h => ?_)
      · rw [decide_eq_false (fun he : x = y => h (by subst he; exact ⟨⟨rfl, rfl, rfl, rfl, rfl, rfl⟩, rfl, rfl, rfl, rfl, rfl⟩))]
      · have h : headP x y ∧ confP x y := by
          by_cases h1 : headP x y ∧ confP x y
          · exact h1
          · exact absurd h1 h
        exact ⟨rfl, rfl, h.1, h.2⟩
    intro w17 v2 ⟨hw, hv, hh, hcf⟩
    subst hw
    cases hv
    rw [BOOLV_bool]
    rw [LDl_of (cellH_of hX15 4)]
    have hxy : x.cls.length = y.cls.length := hcf.2.2.2.2
    refine LOOP_of (fun vs w' => w' = w17 ∧ ∃ j : Nat, vs = [.bool false, .int .i64 j] ∧ j ≤ xl ∧ x.cls.take j = y.cls.take j)
      (fun vs _ => match vs with | [_, .int _ n] => xl - n.toNat | _ => 0) ⟨rfl, 0, rfl, by omega, by simp⟩ ?_
    intro w18 v3 v4 ⟨hw, j, hv, hj, htk⟩
    simp only [List.cons.injEq, and_true] at hv
    obtain ⟨rfl, rfl⟩ := hv
    subst hw
    rw [INTV_int, BOOLV_bool]
    refine ITE_d (fun h1 => ?_) (fun h1 => ?_)
    · refine IDX_i (hx.eff hE015) (by omega) (by omega) fun b o hc => ?_
      rw [LDi_of hc, LDl_of (cellH_of hY15 4)]
      refine IDX_i (hy.eff hE015) (by omega) (by omega) fun b o hc => ?_
      rw [LDi_of hc, Int.toNat_natCast]
      have hts := take_same (x := x.cls) (y := y.cls) (j := j) (by omega) (by omega) htk
      refine ITE_ne (fun h2 => ⟨hE015, ?_⟩) (fun h2 => ?_)
      · rw [decide_eq_false (fun he : x = y => h2 (by subst he; rfl))]
      · exact BINDw (by omega) (by omega) ⟨⟨rfl, j + 1, rfl, by omega, hts.2 h2.symm⟩, by first | omega | (dsimp only; omega)⟩
    · refine ⟨hE015, ?_⟩
      have : j = x.cls.length := by omega
      subst this
      rw [← same_iff, decide_eq_true ⟨⟨hh, hcf⟩, htk⟩]
  · intro b4 w4 hE4 hs4 hp4
    have hb14 := hE4.obj0 hb13
    have hb24 := hE4.obj0 hb23
    refine ⟨(KEEP_cell (cellH_of hb14 3) (KEEP_cell (cellH_of hb14 4) (KEEP_cell (cellH_of hb14 5) (KEEP_cell (cellH_of hb14 6) (KEEP_cell (cellH_of hb14 7) (KEEP_cell (cellH_of hb24 3) (KEEP_cell (cellH_of hb24 4) (KEEP_cell (cellH_of hb24 5) (KEEP_cell (cellH_of hb24 6) (KEEP_cell (cellH_of hb24 7) KEEP_nil)))))))))), ?_⟩
    intro b3 w5 hE5 hs5 hq5
    have hb15 := hE5.obj0 hb14
    have hb25 := hE5.obj0 hb24
    have hp5 := hE5.obj0 hp4
    refine ⟨(KEEP_cell (cellH_of hb15 3) (KEEP_cell (cellH_of hb15 4) (KEEP_cell (cellH_of hb15 5) (KEEP_cell (cellH_of hb15 6) (KEEP_cell (cellH_of hb15 7) (KEEP_cell (cellH_of hb25 3) (KEEP_cell (cellH_of hb25 4) (KEEP_cell (cellH_of hb25 5) (KEEP_cell (cellH_of hb25 6) (KEEP_cell (cellH_of hb25 7) KEEP_nil)))))))))), ?_⟩
    have hE05 := (hE03.trans0 hE4).trans0 hE5
    have hE35 := hE4.trans0 hE5
    have hX := hq5
    have hY := hp5
    have hbY : w3.heap.size ≤ b4 := hs4
    have hbX : w3.heap.size ≤ b3 := Nat.le_trans hE4.size hs5
    have hne : b3 ≠ b4 := by have := obj_lt hp4; omega
    refine ST5_of (w₀ := w3) trivial trivial trivial trivial trivial hE35 hbX hX fun w10 hE10 hX10 hX10' => ?_
    have hb110 := hE10.obj0 hb13
    have hb210 := hE10.obj0 hb23
    refine ⟨(KEEP_cell (cellH_of hb210 3) (KEEP_cell (cellH_of hb210 4) (KEEP_cell (cellH_of hb210 5) (KEEP_cell (cellH_of hb210 6) (KEEP_cell (cellH_of hb210 7) KEEP_nil))))), ?_⟩
    have hY10 := hX10'.obj hY (by simpa using hne.symm)
    refine ST5_of (w₀ := w3) trivial trivial trivial trivial trivial hE10 hbY hY10 fun w15 hE15 hY15 hY15' => ?_
    have hX15 := hY15'.obj hX10 (by simpa using hne)
    have hb115 := hE15.obj0 hb13
    have hb215 := hE15.obj0 hb23
    have hE015 := hE03.trans0 hE15
    refine ⟨KEEP_nil, ?_⟩
    refine ⟨fun vs w' => w' = w15 ∧ vs = [.bool false] ∧ headP x y ∧ confP x y, ⟨fun vs w' => w' = w15 ∧ vs = [.bool (decide (¬ (headP x y ∧ confP x y)))], ?_, ?_⟩, ?_⟩
    · rw [LDi_of (cellH_of hb115 0), LDi_of (cellH_of hb215 0)]
      refine ITE_ne (fun h1 => ⟨rfl, by rw [decide_eq_true (by unfold headP; omega)]⟩) (fun h1 => ?_)
      rw [LDi_of (cellH_of hb115 1), LDi_of (cellH_of hb215 1)]
      refine ITE_ne (fun h2 => ⟨rfl, by rw [decide_eq_true (by unfold headP; omega)]⟩) (fun h2 => ?_)
      rw [LDi_of (cellH_of hb115 2), LDi_of (cellH_of hb215 2)]
      refine ITE_ne (fun h3 => ⟨rfl, by rw [decide_eq_true (by unfold headP; omega)]⟩) (fun h3 => ?_)
      rw [LDi_of (cellH_of hb115 8), LDi_of (cellH_of hb115 9), LDi_of (cellH_of hb215 8), LDi_of (cellH_of hb215 9), pair_eq]
      refine ITE_intro (fun h4 => ⟨rfl, by have h4 : ¬ (x.rk = y.rk ∧ x.rn = y.rn) := fun h => by rw [decide_eq_true h] at h4; cases h4
                                           rw [decide_eq_true (by unfold headP; omega)]⟩) (fun h4 => ?_)
      have h4 : x.rk = y.rk ∧ x.rn = y.rn := by simpa using h4
      rw [LDi_of (cellH_of hb115 10), LDi_of (cellH_of hb215 10)]
      refine ITE_ne (fun h5 => ⟨rfl, by rw [decide_eq_true (by unfold headP; omega)]⟩) (fun h5 => ?_)
      rw [LDi_of (cellH_of hX15 0), LDi_of (cellH_of hY15 0)]
      refine ITE_ne (fun h6 => ⟨rfl, by rw [decide_eq_true (by unfold confP; omega)]⟩) (fun h6 => ?_)
      rw [LDi_of (cellH_of hX15 1), LDi_of (cellH_of hY15 1)]
      refine ITE_ne (fun h7 => ⟨rfl, by rw [decide_eq_true (by unfold confP; omega)]⟩) (fun h7 => ?_)
      rw [LDi_of (cellH_of hX15 2), LDi_of (cellH_of hY15 2)]
      refine ITE_ne (fun h8 => ⟨rfl, by rw [decide_eq_true (by unfold confP; omega)]⟩) (fun h8 => ?_)
      rw [LDi_of (cellH_of hX15 3), LDi_of (cellH_of hY15 3)]
      refine ITE_ne (fun h9 => ⟨rfl, by rw [decide_eq_true (by unfold confP; omega)]⟩) (fun h9 => ?_)
      rw [LDl_of (cellH_of hX15 4), LDl_of (cellH_of hY15 4)]
      exact ⟨rfl, by rw [show ((xl : Int) != yl) = decide (¬ (headP x y ∧ confP x y)) from by rw [Bool.eq_iff_iff, bne_iff_ne, decide_eq_true_eq]; unfold headP confP; omega]⟩
    · intro w16 v1 ⟨hw, hv⟩
      subst hw
      cases hv
      rw [BOOLV_bool]
      refine ITE_d (fun h => ⟨hE015, ?_⟩) (fun h => ?_)
      · rw [decide_eq_false (fun he : x = y => h (by subst he; exact ⟨⟨rfl, rfl, rfl, rfl, rfl, rfl⟩, rfl, rfl, rfl, rfl, rfl⟩))]
      · have h : headP x y ∧ confP x y := by
          by_cases h1 : headP x y ∧ confP x y
          · exact h1
          · exact absurd h1 h
        exact ⟨rfl, rfl, h.1, h.2⟩
    intro w17 v2 ⟨hw, hv, hh, hcf⟩
    subst hw
    cases hv
    rw [BOOLV_bool]
    rw [LDl_of (cellH_of hX15 4)]
    have hxy : x.cls.length = y.cls.length := hcf.2.2.2.2
    refine LOOP_of (fun vs w' => w' = w17 ∧ ∃ j : Nat, vs = [.bool false, .int .i64 j] ∧ j ≤ xl ∧ x.cls.take j = y.cls.take j)
      (fun vs _ => match vs with | [_, .int _ n] => xl - n.toNat | _ => 0) ⟨rfl, 0, rfl, by omega, by simp⟩ ?_
    intro w18 v3 v4 ⟨hw, j, hv, hj, htk⟩
    simp only [List.cons.injEq, and_true] at hv
    obtain ⟨rfl, rfl⟩ := hv
    subst hw
    rw [INTV_int, BOOLV_bool]
    refine ITE_d (fun h1 => ?_) (fun h1 => ?_)
    · refine IDX_i (hx.eff hE015) (by omega) (by omega) fun b o hc => ?_
      rw [LDi_of hc, LDl_of (cellH_of hY15 4)]
      refine IDX_i (hy.eff hE015) (by omega) (by omega) fun b o hc => ?_
      rw [LDi_of hc, Int.toNat_natCast]
      have hts := take_same (x := x.cls) (y := y.cls) (j := j) (by omega) (by omega) htk
      refine ITE_ne (fun h2 => ⟨hE015, ?_⟩) (fun h2 => ?_)
      · rw [decide_eq_false (fun he : x = y => h2 (by subst he; rfl))]
      · exact BINDw (by omega) (by omega) ⟨⟨rfl, j + 1, rfl, by omega, hts.2 h2.symm⟩, by first | omega | (dsimp only; omega)⟩
    · refine ⟨hE015, ?_⟩
      have : j = x.cls.length := by omega
      subst this
      rw [← same_iff, decide_eq_true ⟨⟨hh, hcf⟩, htk⟩]

end
end Go.Proofs.YtmanfmpdmmhbfaaDoor
