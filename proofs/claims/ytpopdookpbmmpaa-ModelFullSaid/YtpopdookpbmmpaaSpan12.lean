/- The law SpanBack: what it answers. -/
import Derived.Test.YtpopdookpbmmpaaSpan11
import Derived.Test.YtpopdookpbmmpaaS4
namespace Go.Proofs.Ytpopdookpbmmpaa
open Go.Den
set_option maxRecDepth 100000

section
variable {w₀ w : World} {m : Nat} {xs : List Iv}

theorem asc_unique (ha : Asc xs) {i j : Nat} (hi : i < xs.length) (hj : j < xs.length) (h : (xs.getD i (0, 0)).1 = (xs.getD j (0, 0)).1) : i = j := by
  rcases Nat.lt_trichotomy i j with h1 | h1 | h1
  · have := ha i j h1 hj; omega
  · exact h1
  · have := ha j i h1 hi; omega

theorem drop_ins {x : Iv} {k : Nat} (hk : k ≤ xs.length) : dropL (insL xs x k) k = xs := by
  unfold dropL insL
  have hl : (xs.take k).length = k := by simp; omega
  rw [List.take_left' hl, List.drop_append, hl, show k + 1 - k = 1 by omega, List.drop_of_length_le (by omega)]
  simp

theorem Mp.asc (h : Mp w₀ w m xs) : Asc xs := h.ap.asc h.rng

/-- Steps upon blocks that the map has nothing to do with. -/
theorem Mp.upon {w' : World} {S : List Nat} (h : Mp w₀ w m xs) (hE : Eff w w' S) (hS : ∀ b ∈ S, Away w m b ∧ w₀.heap.size ≤ b) : Mp w₀ w' m xs := by
  obtain ⟨v, hs, hb⟩ := h.ex
  have hn : ∀ b ∈ S, b ∉ m :: ownL v := fun b hb' => (hS b hb').1.not hs
  refine ⟨h.eff.own hE (fun b hb' => (hS b hb').2), ⟨v, hs.eff hE (fun hm => hn m hm (by simp)) (fun b hb' hbs => hn b hbs (by simp [hb'])), hb⟩, h.ge, h.rng, h.ap⟩

/-- A list of intervals that is kept beside the map. -/
structure Was (w : World) (m : Nat) (u : Value) (xs : List Iv) : Prop where
  own : Ow w u xs
  away : ∀ b ∈ ownL u, Away w m b

theorem Was.eff0 {w' : World} {u : Value} (h : Was w m u xs) (hE : Eff w w' []) : Was w' m u xs := ⟨h.own.eff hE, fun b hb => (h.away b hb).eff0 hE⟩
theorem Was.keep {w' : World} {u : Value} (h : Was w m u xs) (hk : ∀ b, Away w m b → Away w' m b ∧ w'.heap[b]? = w.heap[b]?) : Was w' m u xs := by
  refine ⟨?_, fun b hb => (hk b (h.away b hb)).1⟩
  have h1 := h.own
  refine ⟨h1.1, h1.2.imp id ?_⟩
  rintro ⟨g, cap, cur, rfl, hb, hg, rest⟩
  exact ⟨g, cap, cur, rfl, hb, by rw [(hk g (h.away g (by simp [ownL, Value.ownBlock]))).2, hg], rest⟩

theorem Mp.was (h : Mp w₀ w m xs) : CALL Pg F_pspan_Map_All [.pointer (some ⟨m, 0, none⟩)] w fun u w' => Eff w w' [] ∧ Mp w₀ w' m xs ∧ (∃ a' c', u = .slice a' xs.length c') ∧ Was w' m u xs ∧ ∀ b ∈ ownL u, w.heap.size ≤ b :=
  h.all.mono fun _ _ ⟨hE, hu, ho, hb⟩ => ⟨hE, h.eff0 hE, hu, ⟨ho, fun b hb' => h.away hE (hb b hb') (own_lt ho b hb')⟩, hb⟩

end
end Go.Proofs.Ytpopdookpbmmpaa
