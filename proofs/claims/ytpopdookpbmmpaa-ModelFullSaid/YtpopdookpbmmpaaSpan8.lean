/- The law SpanAsks: what it answers; what came in. -/
import Derived.Test.YtpopdookpbmmpaaSpan7
import Derived.Test.YtpopdookpbmmpaaDenR
namespace Go.Proofs.Ytpopdookpbmmpaa
open Go.Den
set_option maxRecDepth 100000

section
variable {w : World}

theorem getF_some {xs : List Iv} {at_ : Int} {y : Iv} (h : getF xs at_ = some y) : y ∈ xs ∧ y.1 = at_ := by
  unfold getF at h
  have := List.find?_some h
  exact ⟨List.mem_of_find?_eq_some h, by simpa using this⟩

theorem SpanAsks_spec {a : Option Addr} {l c : Nat} {ys : List Iv} (hs : SlV w.heap a l ys) (x : Iv) : CALL Pg F_l06_SpanAsks [.slice a l c, .agg #[.int .i64 x.1, .int .i64 x.2]] w fun v w' => Eff w w' [] ∧ v = .bool true := by
  apply C_l06_SpanAsks
  unfold D_l06_SpanAsks
  intro b1 w1 hE1 _ hb1
  refine speaks_spec.mono fun v w2 ⟨hE2, hv⟩ => ?_
  subst hv
  rw [BOOLV_bool]
  refine ITE_intro (fun h => by simp at h) (fun _ => ?_)
  have hE02 := hE1.trans0 hE2
  have hll := hs.1
  refine ITE_d (fun _ => ⟨hE02, rfl⟩) (fun hl => ?_)
  have hb2 := hE2.obj0 hb1
  rw [LDi_of (cellH_of hb2 0), LDi_of (cellH_of hb2 1)]
  refine (far_spec x).mono fun v w3 ⟨hE3, hv⟩ => ?_
  subst hv
  rw [BOOLV_bool]
  have hE03 := hE02.trans0 hE3
  refine ITE_d (fun _ => ⟨hE03, rfl⟩) (fun hfar => ?_)
  have hb3 := hE3.obj0 hb2
  intro m w4 hE4 hs4 hb4
  refine LOOP_of (fun vs w' => ∃ (k : Nat) (xs : List Iv), vs = [.int .i64 (sumF xs), .int .i64 k] ∧ k ≤ l ∧ xs.length ≤ k ∧ Mp w3 w' m xs)
    (fun vs _ => match vs with | [_, .int _ n] => l - n.toNat | _ => 0) ⟨0, [], rfl, by omega, by simp, Mp.new hE4 hs4 hb4⟩ ?_
  intro w5 v1 v2 ⟨k, xs, hv, hk, hxk, hm⟩
  simp only [List.cons.injEq, and_true] at hv
  obtain ⟨rfl, rfl⟩ := hv
  simp only [INTV_int]
  have hE05 := hE03.trans0 hm.eff
  have hsum := sumF_le (fun x hx => (hm.rng x hx).2) xs.length
  rw [List.take_length] at hsum
  refine ITE_d (fun h1 => ?_) (fun h1 => ?_)
  · refine IDX_v (hs.eff hE05) (by omega) (by omega) fun b o g1 g2 => ?_
    rw [LDi_of g1, LDi_of g2]
    generalize ys.getD (k : Int).toNat (0, 0) = y
    intro b4 w6 hE6 hs6 hb6
    refine ST2_of trivial trivial hE6 hs6 hb6 fun w8 hE8 hb8 _ => ?_
    rw [LDi_of (cellH_of hb8 0), LDi_of (cellH_of hb8 1)]
    refine (far_spec y).mono fun v w9 ⟨hE9, hv⟩ => ?_
    subst hv
    rw [BOOLV_bool]
    have hm9 := (hm.eff0 hE8).eff0 hE9
    have hb9 := hE9.obj0 hb8
    refine ITE_intro (fun _ => ?_) (fun _ => ?_)
    · rw [LDi_of (cellH_of hb9 0), LDi_of (cellH_of hb9 1)]
      have hm8 : Mp w9 w9 b4 [] ∨ True := .inr trivial
      obtain ⟨v, hsv, hbv⟩ := hm9.ex
      refine (Put_spec (i := y) hsv hm9.rng hm9.ap (by omega)).mono fun u w10 ⟨hE10, v', xs', hs', hn, hr⟩ => ?_
      have hmlt := obj_lt hsv.cell
      have hm10 : Mp w3 w10 m xs' := by
        have hS : ∀ b ∈ m :: ownL v, w3.heap.size ≤ b := by
          intro b hb'
          rcases List.mem_cons.1 hb' with rfl | hb'
          · exact hm9.ge
          · exact hbv b hb'
        refine ⟨hm9.eff.own hE10 hS, ⟨v', hs', fun b hb' => ?_⟩, hm9.ge, ?_, ?_⟩
        · rcases hn b hb' with h1 | h1
          · exact hbv b h1
          · exact Nat.le_trans hm9.eff.size h1
        · rcases hr with ⟨_, _, rfl⟩ | ⟨hf, _, k, hk, rfl⟩
          · exact hm9.rng
          · exact insL_rng hm9.rng hf
        · rcases hr with ⟨_, _, rfl⟩ | ⟨hf, _, k, hk, rfl⟩
          · exact hm9.ap
          · exact insL_ap hm9.rng hm9.ap hk hf
      have hb4n : b4 ∉ m :: ownL v := by
        have hm5lt : m < w5.heap.size := by obtain ⟨v5, h5, _⟩ := hm.ex; exact obj_lt h5.cell
        obtain ⟨v5, h5, _⟩ := hm.ex
        have hvv : v = v5 := by
          have q1 := (hE8.trans0 hE9).obj0 h5.cell
          rw [hsv.cell] at q1
          simpa using q1
        intro hb
        rcases List.mem_cons.1 hb with h | h
        · omega
        · rw [hvv] at h
          rcases h5.own.2 with ⟨h6, _⟩ | ⟨g, cap, cur, h6, _, hg, _⟩
          · rw [h6] at h; simp [ownL, Value.ownBlock] at h
          · rw [h6] at h
            simp [ownL, Value.ownBlock] at h
            have := obj_lt hg
            omega
      have hb10 := hE10.obj hb9 hb4n
      rcases hr with ⟨hf, rfl, rfl⟩ | ⟨hf, rfl, j, hj, rfl⟩
      · rw [BOOLV_bool, ITE_false]
        exact BINDw (by omega) (by omega) ⟨⟨k + 1, xs', rfl, by omega, by omega, hm10⟩, by first | omega | (dsimp only; omega)⟩
      · rw [BOOLV_bool, ITE_true, LDi_of (cellH_of hb10 1)]
        unfold Fit at hf
        rw [← sumF_ins (xs := xs) (x := y) (k := j)]
        have hsi := sumF_ins (xs := xs) (x := y) (k := j)
        refine BINDw (by omega) (by omega) (BINDw (by omega) (by omega) ⟨⟨k + 1, insL xs y j, rfl, by omega, by rw [insL_len hj.1]; omega, hm10⟩, by first | omega | (dsimp only; omega)⟩)
    · exact BINDw (by omega) (by omega) ⟨⟨k + 1, xs, rfl, by omega, by omega, hm9⟩, by first | omega | (dsimp only; omega)⟩
  · refine hm.all.mono fun u w11 ⟨hE11, ⟨a', c', hu⟩, _, _⟩ => ?_
    subst hu
    rw [SLV_slice]
    have hm11 := hm.eff0 hE11
    have hb11 := hm11.eff.obj0 hb3
    rw [LDi_of (cellH_of hb11 0), LDi_of (cellH_of hb11 1)]
    refine (hm11.over (i := x) (by omega)).mono fun u w12 ⟨hE12, hu⟩ => ?_
    subst hu
    have hm12 := hm11.eff0 hE12
    have hb12 := hE12.obj0 hb11
    rw [BOOLV_bool, LDi_of (cellH_of hb12 0)]
    refine (hm12.get x.1).mono fun u w13 ⟨hE13, hu⟩ => ?_
    subst hu
    rw [TUP_aiib]
    intro b5 w14 hE14 hs14 hb14
    refine ST2_of trivial trivial hE14 hs14 hb14 fun w16 hE16 _ _ => ?_
    have hm16 := (hm12.eff0 hE13).eff0 hE16
    have hb16 := (hE13.trans0 hE16).obj0 hb12
    rw [LDi_of (cellH_of hb16 0), LDi_of (cellH_of hb16 1)]
    refine (hm16.over (i := x) (by omega)).mono fun u w17 ⟨hE17, hu⟩ => ?_
    subst hu
    have hm17 := hm16.eff0 hE17
    have hb17 := hE17.obj0 hb16
    rw [BOOLV_bool, LDi_of (cellH_of hb17 0)]
    refine (hm17.get x.1).mono fun u w18 ⟨hE18, hu⟩ => ?_
    subst hu
    rw [TUP_aiib]
    intro b6 w19 hE19 hs19 hb19
    refine ST2_of trivial trivial hE19 hs19 hb19 fun w21 hE21 _ _ => ?_
    have hm21 := (hm17.eff0 hE18).eff0 hE21
    have hb21 := (hE18.trans0 hE21).obj0 hb17
    refine ITE_intro (fun _ => ?_) (fun h => by simp at h)
    refine ITE_intro (fun _ => ?_) (fun h => by simp at h)
    refine hm21.all.mono fun u w22 ⟨hE22, ⟨a2, c2, hu⟩, _, _⟩ => ?_
    subst hu
    rw [SLV_slice]
    refine ITE_eq (fun _ => ?_) (fun h => absurd rfl h)
    have hm22 := hm21.eff0 hE22
    refine (hm22.bytes (by omega)).mono fun u w23 ⟨hE23, hu⟩ => ?_
    subst hu
    rw [INTV_int]
    refine ITE_eq (fun _ => ?_) (fun h => absurd rfl h)
    have hE := hE03.trans0 (hm22.eff.trans0 hE23)
    refine ITE_intro (fun _ => ⟨hE, by first | rfl | trivial⟩) (fun hg => ?_)
    have hb23 := (hE22.trans0 hE23).obj0 hb21
    rw [LDi_of (cellH_of hb23 1)]
    refine ITE_d (fun _ => ⟨hE, by first | rfl | trivial⟩) (fun h2 => ?_)
    refine ⟨hE, ?_⟩
    congr 1
    rcases hgx : getF xs x.1 with _ | y
    · rw [hgx] at hg; simp at hg
    · obtain ⟨hy, hy1⟩ := getF_some hgx
      unfold overF
      rw [List.any_eq_true]
      have := hm.rng y hy
      exact ⟨y, hy, decide_eq_true (by unfold Ov; omega)⟩

/-- Intervals that came in. -/
theorem iv_cells {w : World} {cs : List Value} (h : Rds w [.int .i64, .int .i64] cs) : ∃ x : Iv, cs = encV x := by
  cases h with | int _ h =>
  cases h with | int _ h =>
  cases h
  exact ⟨(_, _), rfl⟩

theorem ivs_open {w : World} {a : Option Addr} {l c : Nat} (h : Rds w [.sl [.int .i64, .int .i64]] [.slice a l c]) : ∃ ys : List Iv, SlV w.heap a l ys := by
  obtain ⟨ys, _, _, _, hs, _⟩ := h.slice encV (by simp) (fun cs hcs => iv_cells hcs)
  exact ⟨ys, hs⟩

end
end Go.Proofs.Ytpopdookpbmmpaa
