/- The map as the laws use it; speaks; the law SpanAsks. -/
import Derived.Test.YtpopdookpbmmpaaSpan6
import Derived.Test.YtpopdookpbmmpaaS2
namespace Go.Proofs.Ytpopdookpbmmpaa
open Go.Den
set_option maxRecDepth 100000

/-- A map of one's own: all that it holds came behind the world w₀. -/
structure Mp (w₀ w : World) (m : Nat) (xs : List Iv) : Prop where
  eff : Eff w₀ w []
  ex : ∃ v, Sp w m v xs ∧ ∀ b ∈ ownL v, w₀.heap.size ≤ b
  ge : w₀.heap.size ≤ m
  rng : Rng xs
  ap : Ap xs

section
variable {w₀ w : World} {m : Nat} {xs : List Iv}

theorem Mp.eff0 {w' : World} (h : Mp w₀ w m xs) (hE : Eff w w' []) : Mp w₀ w' m xs := by
  obtain ⟨v, hs, hb⟩ := h.ex
  exact ⟨h.eff.trans0 hE, ⟨v, hs.eff0 hE, hb⟩, h.ge, h.rng, h.ap⟩

theorem Mp.new {b : Nat} (hE : Eff w₀ w []) (hs : w₀.heap.size ≤ b) (hb : w.heap[b]? = some (.cells [.slice none 0 0].toArray T_span_Map_span_Map (0, 0))) : Mp w₀ w b [] := by
  refine ⟨hE, ⟨_, ⟨hb, nil_ow, by simp [ownL, Value.ownBlock], ?_, by simp⟩, by simp [ownL, Value.ownBlock]⟩, hs, ?_, ?_⟩
  · intro i j _ hj; simp at hj
  · intro x hx; cases hx
  · intro i j _ hj; simp at hj

theorem Mp.put {i : Iv} (h : Mp w₀ w m xs) (hlen : xs.length < 100000000) :
    CALL Pg F_pspan_Map_Put [.pointer (some ⟨m, 0, none⟩), .agg #[.int .i64 i.1, .int .i64 i.2]] w fun u w' =>
      ∃ xs', Mp w₀ w' m xs' ∧ (¬ Fit xs i ∧ u = .bool false ∧ xs' = xs ∨ Fit xs i ∧ u = .bool true ∧ ∃ k, Low xs i.1 k ∧ xs' = insL xs i k) := by
  obtain ⟨v, hs, hb⟩ := h.ex
  refine (Put_spec (i := i) hs h.rng h.ap hlen).mono fun u w' ⟨hE, v', xs', hs', hn, hr⟩ => ?_
  have hS : ∀ b ∈ m :: ownL v, w₀.heap.size ≤ b := by
    intro b hb'
    rcases List.mem_cons.1 hb' with rfl | hb'
    · exact h.ge
    · exact hb b hb'
  refine ⟨xs', ⟨h.eff.own hE hS, ⟨v', hs', fun b hb' => ?_⟩, h.ge, ?_, ?_⟩, hr⟩
  · rcases hn b hb' with h1 | h1
    · exact hb b h1
    · exact Nat.le_trans h.eff.size h1
  · rcases hr with ⟨_, _, rfl⟩ | ⟨hf, _, k, hk, rfl⟩
    · exact h.rng
    · exact insL_rng h.rng hf
  · rcases hr with ⟨_, _, rfl⟩ | ⟨hf, _, k, hk, rfl⟩
    · exact h.ap
    · exact insL_ap h.rng h.ap hk hf

theorem Mp.over {i : Iv} (h : Mp w₀ w m xs) (hi : -1099511627776 ≤ i.1 ∧ i.1 ≤ 1099511627776) :
    CALL Pg F_pspan_Map_Over [.pointer (some ⟨m, 0, none⟩), .agg #[.int .i64 i.1, .int .i64 i.2]] w fun u w' => Eff w w' [] ∧ u = .bool (overF xs i) := by
  obtain ⟨v, hs, hb⟩ := h.ex
  exact Over_spec hs h.rng h.ap hi
theorem Mp.get (h : Mp w₀ w m xs) (at_ : Int) : CALL Pg F_pspan_Map_Get [.pointer (some ⟨m, 0, none⟩), .int .i64 at_] w fun u w' => Eff w w' [] ∧
    u = .tuple #[.agg #[.int .i64 ((getF xs at_).getD (0, 0)).1, .int .i64 ((getF xs at_).getD (0, 0)).2], .bool (getF xs at_).isSome] := by
  obtain ⟨v, hs, hb⟩ := h.ex
  exact Get_spec hs at_
theorem Mp.all (h : Mp w₀ w m xs) : CALL Pg F_pspan_Map_All [.pointer (some ⟨m, 0, none⟩)] w fun u w' => Eff w w' [] ∧ (∃ a' c', u = .slice a' xs.length c') ∧ Ow w' u xs ∧ ∀ b ∈ ownL u, w.heap.size ≤ b := by
  obtain ⟨v, hs, hb⟩ := h.ex
  exact All_spec hs
theorem Mp.bytes (h : Mp w₀ w m xs) (hn : xs.length ≤ 1000000) : CALL Pg F_pspan_Map_Bytes [.pointer (some ⟨m, 0, none⟩)] w fun u w' => Eff w w' [] ∧ u = .int .i64 (sumF xs) := by
  obtain ⟨v, hs, hb⟩ := h.ex
  exact Bytes_spec hs (fun x hx => (h.rng x hx).2) hn

theorem far_spec (i : Iv) : CALL Pg F_l06_far [.agg #[.int .i64 i.1, .int .i64 i.2]] w fun u w' => Eff w w' [] ∧ u = .bool (decide (i.1 > 1099511627776 ∨ i.1 < -1099511627776)) := by
  apply C_l06_far
  unfold D_l06_far
  intro b1 w1 hE1 _ hb1
  rw [LDi_of (cellH_of hb1 0)]
  refine ITE_d (fun h => ⟨hE1, by simp [h]⟩) (fun h => ?_)
  rw [LDi_of (cellH_of hb1 0)]
  exact ⟨hE1, by simp [h]⟩

theorem Low_unique {at_ : Int} {k l : Nat} (h1 : Low xs at_ k) (h2 : Low xs at_ l) : k = l := by
  obtain ⟨a1, a2, a3⟩ := h1
  obtain ⟨b1, b2, b3⟩ := h2
  rcases Nat.lt_trichotomy k l with h | h | h
  · have := a3 k (Nat.le_refl _) (by omega); have := b2 k h; omega
  · exact h
  · have := b3 l (Nat.le_refl _) (by omega); have := a2 l h; omega

theorem sumF_ins {x : Iv} {k : Nat} : sumF (insL xs x k) = sumF xs + x.2 := by
  have h := congrArg sumF (List.take_append_drop k xs)
  unfold insL sumF at *
  simp only [List.map_append, List.sum_append, List.map_cons, List.sum_cons] at *
  omega

theorem speaks_spec : CALL Pg F_l06_speaks [] w fun u w' => Eff w w' [] ∧ u = .bool true := by
  apply C_l06_speaks
  unfold D_l06_speaks
  intro b1 w1 hE1 hs1 hb1
  have h0 := Mp.new hE1 hs1 hb1
  refine (h0.put (i := (16, 16)) (by decide)).mono fun u w2 ⟨ys, h2, hr2⟩ => ?_
  have e2 : u = .bool true ∧ ys = [(16, 16)] := by
    rcases hr2 with ⟨hf, _⟩ | ⟨_, hu, k, hk, rfl⟩
    · exact absurd ⟨by decide, by decide, by decide, by decide, by decide⟩ hf
    · have : k = 0 := by have := hk.1; simpa using this
      subst this
      exact ⟨hu, rfl⟩
  obtain ⟨rfl, rfl⟩ := e2
  rw [BOOLV_bool]
  refine (h2.put (i := (31, 4)) (by decide)).mono fun u w3 ⟨ys, h3, hr3⟩ => ?_
  have e3 : u = .bool false ∧ ys = [(16, 16)] := by
    rcases hr3 with ⟨_, hu, he⟩ | ⟨hf, _⟩
    · exact ⟨hu, he⟩
    · have := hf.2.2.2.2; exact absurd this (by decide)
  obtain ⟨rfl, rfl⟩ := e3
  rw [BOOLV_bool]
  refine (h3.put (i := (32, 4)) (by decide)).mono fun u w4 ⟨ys, h4, hr4⟩ => ?_
  have e4 : u = .bool true ∧ ys = [(16, 16), (32, 4)] := by
    rcases hr4 with ⟨hf, _⟩ | ⟨_, hu, k, hk, rfl⟩
    · exact absurd ⟨by decide, by decide, by decide, by decide, by decide⟩ hf
    · have : k = 1 := by
        refine Low_unique hk ⟨by decide, ?_, ?_⟩
        · intro i hi; have : i = 0 := by omega
          subst this; decide
        · intro i hi hi2; simp at hi2; omega
      subst this
      exact ⟨hu, rfl⟩
  obtain ⟨rfl, rfl⟩ := e4
  rw [BOOLV_bool]
  refine (h4.get 32).mono fun u w5 ⟨hE5, hu⟩ => ?_
  subst hu
  have hg : getF [((16 : Int), (16 : Int)), (32, 4)] 32 = some (32, 4) := by decide
  rw [hg]
  rw [TUP_aiib]
  have h5 := h4.eff0 hE5
  intro b2 w6 hE6 hs6 hb6
  refine ST2_of trivial trivial hE6 hs6 hb6 fun w8 hE8 hb8 _ => ?_
  have h8 := h5.eff0 hE8
  refine ITE_intro (fun _ => ?_) (fun h => by simp at h)
  refine ITE_intro (fun _ => ?_) (fun h => by simp at h)
  refine ITE_intro (fun _ => ?_) (fun h => by simp at h)
  refine ITE_intro (fun _ => ?_) (fun h => by simp at h)
  rw [LDi_of (cellH_of hb8 1)]
  refine ITE_intro (fun _ => ?_) (fun h => by simp at h)
  refine (h8.bytes (by decide)).mono fun u w9 ⟨hE9, hu⟩ => ?_
  subst hu
  rw [INTV_int]
  have h9 := h8.eff0 hE9
  refine ITE_intro (fun _ => ?_) (fun h => absurd h (by decide))
  refine h9.all.mono fun u w10 ⟨hE10, ⟨a', c', hu⟩, _, _⟩ => ?_
  subst hu
  rw [SLV_slice]
  exact ⟨h9.eff.trans0 hE10, rfl⟩

end
end Go.Proofs.Ytpopdookpbmmpaa
