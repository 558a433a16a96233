/- Drop of a map of one's own; the document's Over, Any, Find. -/
import Derived.Test.YtpopdookpbmmpaaSpan8
namespace Go.Proofs.Ytpopdookpbmmpaa
open Go.Den
set_option maxRecDepth 100000

section
variable {w₀ w : World} {m : Nat} {xs : List Iv}

theorem Mp.drop (h : Mp w₀ w m xs) (at_ : Int) :
    CALL Pg F_pspan_Map_Drop [.pointer (some ⟨m, 0, none⟩), .int .i64 at_] w fun u w' =>
      ∃ xs', Mp w₀ w' m xs' ∧ (getF xs at_ = none ∧ u = .tuple #[.agg #[.int .i64 0, .int .i64 0], .bool false] ∧ xs' = xs ∨
          ∃ k, k < xs.length ∧ (xs.getD k (0, 0)).1 = at_ ∧ getF xs at_ = some (xs.getD k (0, 0)) ∧ u = .tuple #[.agg #[.int .i64 (xs.getD k (0, 0)).1, .int .i64 (xs.getD k (0, 0)).2], .bool true] ∧ xs' = dropL xs k) := by
  obtain ⟨v, hs, hb⟩ := h.ex
  refine (Drop_spec hs h.rng h.ap at_).mono fun u w' ⟨hE, v', xs', hs', hn, hr⟩ => ?_
  have hS : ∀ b ∈ m :: ownL v, w₀.heap.size ≤ b := by
    intro b hb'
    rcases List.mem_cons.1 hb' with rfl | hb'
    · exact h.ge
    · exact hb b hb'
  refine ⟨xs', ⟨h.eff.own hE hS, ⟨v', hs', fun b hb' => ?_⟩, h.ge, ?_, ?_⟩, hr⟩
  · rcases hn b hb' with h1 | h1
    · exact hb b h1
    · exact Nat.le_trans h.eff.size h1
  · rcases hr with ⟨_, _, rfl⟩ | ⟨k, hk, _, _, _, rfl⟩
    · exact h.rng
    · exact dropL_rng h.rng
  · rcases hr with ⟨_, _, rfl⟩ | ⟨k, hk, _, _, _, rfl⟩
    · exact h.ap
    · exact dropL_ap hk h.ap

theorem r06_Over_spec {x y : Iv} (h : -2199023255552 ≤ x.1 ∧ x.1 ≤ 2199023255552 ∧ -2199023255552 ≤ y.1 ∧ y.1 ≤ 2199023255552) :
    CALL Pg F_r06_Over [.agg #[.int .i64 x.1, .int .i64 x.2], .agg #[.int .i64 y.1, .int .i64 y.2]] w fun u w' => Eff w w' [] ∧ u = .bool (decide (Ov x y)) := by
  apply C_r06_Over
  unfold D_r06_Over
  intro b1 w1 hE1 _ hb1 b2 w2 hE2 _ hb2
  have hE := hE1.trans0 hE2
  have hb12 := hE2.obj0 hb1
  have no : ¬ Ov x y → Eff w w2 [] ∧ Value.bool false = .bool (decide (Ov x y)) := fun h => ⟨hE, by rw [decide_eq_false h]⟩
  have yes : Ov x y → Eff w w2 [] ∧ Value.bool true = .bool (decide (Ov x y)) := fun h => ⟨hE, by rw [decide_eq_true h]⟩
  have same : ∀ p : Prop, [Decidable p] → (p ↔ Ov x y) → Eff w w2 [] ∧ Value.bool (decide p) = .bool (decide (Ov x y)) := fun p _ hp => ⟨hE, by rw [decide_eq_decide.2 hp]⟩
  rw [LDi_of (cellH_of hb12 1)]
  refine ITE_d (fun h1 => ?_) (fun h1 => no (by unfold Ov; omega))
  rw [LDi_of (cellH_of hb2 1)]
  refine ITE_d (fun h2 => ?_) (fun h2 => no (by unfold Ov; omega))
  rw [LDi_of (cellH_of hb12 0), LDi_of (cellH_of hb2 0)]
  refine ITE_d (fun h3 => ?_) (fun h3 => ?_)
  · rw [LDi_of (cellH_of hb2 0), LDi_of (cellH_of hb12 0)]
    refine BINDw (by omega) (by omega) ?_
    rw [LDi_of (cellH_of hb12 1)]
    refine ITE_d (fun h4 => yes (by unfold Ov; omega)) (fun h4 => ?_)
    rw [LDi_of (cellH_of hb2 0), LDi_of (cellH_of hb12 0)]
    refine ITE_d (fun h5 => ?_) (fun h5 => no (by unfold Ov; omega))
    rw [LDi_of (cellH_of hb12 0), LDi_of (cellH_of hb2 0)]
    refine BINDw (by omega) (by omega) ?_
    rw [LDi_of (cellH_of hb2 1)]
    exact same _ (by unfold Ov; omega)
  · rw [LDi_of (cellH_of hb2 0), LDi_of (cellH_of hb12 0)]
    refine ITE_d (fun h5 => ?_) (fun h5 => no (by unfold Ov; omega))
    rw [LDi_of (cellH_of hb12 0), LDi_of (cellH_of hb2 0)]
    refine BINDw (by omega) (by omega) ?_
    rw [LDi_of (cellH_of hb2 1)]
    exact same _ (by unfold Ov; omega)

end
end Go.Proofs.Ytpopdookpbmmpaa
