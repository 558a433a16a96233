/- Blocks that a map has nothing to do with. -/
import Derived.Test.YtpopdookpbmmpaaSpan10
namespace Go.Proofs.Ytpopdookpbmmpaa
open Go.Den
set_option maxRecDepth 100000

/-- A block that is there, and is none of the map's. -/
def Away (w : World) (m b : Nat) : Prop := b < w.heap.size ∧ b ≠ m ∧ ∃ v, w.heap[m]? = some (.cells [v].toArray T_span_Map_span_Map (0, 0)) ∧ b ∉ ownL v

section
variable {w₀ w : World} {m : Nat} {xs : List Iv}

theorem own_lt {v : Value} {xs : List Iv} (h : Ow w v xs) : ∀ b ∈ ownL v, b < w.heap.size := by
  intro b hb
  rcases h.2 with ⟨h6, _⟩ | ⟨g, cap, cur, h6, _, hg, _⟩
  · rw [h6] at hb; simp [ownL, Value.ownBlock] at hb
  · rw [h6] at hb; simp [ownL, Value.ownBlock] at hb; rw [hb]; exact obj_lt hg

theorem Away.eff0 {w' : World} {b : Nat} (h : Away w m b) (hE : Eff w w' []) : Away w' m b := by
  obtain ⟨h1, h2, v, h3, h4⟩ := h
  exact ⟨Nat.lt_of_lt_of_le h1 hE.size, h2, v, hE.obj0 h3, h4⟩

theorem Mp.away {w' : World} {b : Nat} (h : Mp w₀ w m xs) (hE : Eff w w' []) (h1 : w.heap.size ≤ b) (h2 : b < w'.heap.size) : Away w' m b := by
  obtain ⟨v, hs, _⟩ := h.ex
  refine ⟨h2, ?_, v, hE.obj0 hs.cell, fun hb => ?_⟩
  · have := obj_lt hs.cell; omega
  · have := own_lt hs.own b hb; omega

theorem Away.not {v : Value} {b : Nat} (h : Away w m b) (hs : Sp w m v xs) : b ∉ m :: ownL v := by
  obtain ⟨_, h2, u, h3, h4⟩ := h
  have : u = v := by
    rw [hs.cell] at h3
    simpa using h3.symm
  subst this
  intro hb
  rcases List.mem_cons.1 hb with h | h
  · exact h2 h
  · exact h4 h

theorem Mp.putA {i : Iv} (h : Mp w₀ w m xs) (hlen : xs.length < 100000000) :
    CALL Pg F_pspan_Map_Put [.pointer (some ⟨m, 0, none⟩), .agg #[.int .i64 i.1, .int .i64 i.2]] w fun u w' =>
      ∃ xs', Mp w₀ w' m xs' ∧ (∀ b, Away w m b → Away w' m b ∧ w'.heap[b]? = w.heap[b]?) ∧ (¬ Fit xs i ∧ u = .bool false ∧ xs' = xs ∨ Fit xs i ∧ u = .bool true ∧ ∃ k, Low xs i.1 k ∧ xs' = insL xs i k) := by
  obtain ⟨v, hs, hb⟩ := h.ex
  refine (Put_spec (i := i) hs h.rng h.ap hlen).mono fun u w' ⟨hE, v', xs', hs', hn, hr⟩ => ?_
  have hS : ∀ b ∈ m :: ownL v, w₀.heap.size ≤ b := by
    intro b hb'
    rcases List.mem_cons.1 hb' with rfl | hb'
    · exact h.ge
    · exact hb b hb'
  refine ⟨xs', ⟨h.eff.own hE hS, ⟨v', hs', fun b hb' => ?_⟩, h.ge, ?_, ?_⟩, fun b ha => ?_, hr⟩
  · rcases hn b hb' with h1 | h1
    · exact hb b h1
    · exact Nat.le_trans h.eff.size h1
  · rcases hr with ⟨_, _, rfl⟩ | ⟨hf, _, k, hk, rfl⟩
    · exact h.rng
    · exact insL_rng h.rng hf
  · rcases hr with ⟨_, _, rfl⟩ | ⟨hf, _, k, hk, rfl⟩
    · exact h.ap
    · exact insL_ap h.rng h.ap hk hf
  · have hnot := ha.not hs
    refine ⟨⟨Nat.lt_of_lt_of_le ha.1 hE.size, ha.2.1, v', hs'.cell, fun hb' => ?_⟩, hE.keep b ha.1 hnot⟩
    rcases hn b hb' with h1 | h1
    · exact hnot (List.mem_cons_of_mem _ h1)
    · have := ha.1; omega

theorem Mp.dropA (h : Mp w₀ w m xs) (at_ : Int) :
    CALL Pg F_pspan_Map_Drop [.pointer (some ⟨m, 0, none⟩), .int .i64 at_] w fun u w' =>
      ∃ xs', Mp w₀ w' m xs' ∧ (∀ b, Away w m b → Away w' m b ∧ w'.heap[b]? = w.heap[b]?) ∧ (getF xs at_ = none ∧ u = .tuple #[.agg #[.int .i64 0, .int .i64 0], .bool false] ∧ xs' = xs ∨
          ∃ k, k < xs.length ∧ (xs.getD k (0, 0)).1 = at_ ∧ getF xs at_ = some (xs.getD k (0, 0)) ∧ u = .tuple #[.agg #[.int .i64 (xs.getD k (0, 0)).1, .int .i64 (xs.getD k (0, 0)).2], .bool true] ∧ xs' = dropL xs k) := by
  obtain ⟨v, hs, hb⟩ := h.ex
  refine (Drop_spec hs h.rng h.ap at_).mono fun u w' ⟨hE, v', xs', hs', hn, hr⟩ => ?_
  have hS : ∀ b ∈ m :: ownL v, w₀.heap.size ≤ b := by
    intro b hb'
    rcases List.mem_cons.1 hb' with rfl | hb'
    · exact h.ge
    · exact hb b hb'
  refine ⟨xs', ⟨h.eff.own hE hS, ⟨v', hs', fun b hb' => ?_⟩, h.ge, ?_, ?_⟩, fun b ha => ?_, hr⟩
  · rcases hn b hb' with h1 | h1
    · exact hb b h1
    · exact Nat.le_trans h.eff.size h1
  · rcases hr with ⟨_, _, rfl⟩ | ⟨k, hk, _, _, _, rfl⟩
    · exact h.rng
    · exact dropL_rng h.rng
  · rcases hr with ⟨_, _, rfl⟩ | ⟨k, hk, _, _, _, rfl⟩
    · exact h.ap
    · exact dropL_ap hk h.ap
  · have hnot := ha.not hs
    refine ⟨⟨Nat.lt_of_lt_of_le ha.1 hE.size, ha.2.1, v', hs'.cell, fun hb' => ?_⟩, hE.keep b ha.1 hnot⟩
    rcases hn b hb' with h1 | h1
    · exact hnot (List.mem_cons_of_mem _ h1)
    · have := ha.1; omega

end
end Go.Proofs.Ytpopdookpbmmpaa
