/- What package span's functions do: Drop; the document's Over, Any, Find. -/
import Derived.Test.YtpopdookpbmmpaaSpan5
namespace Go.Proofs.Ytpopdookpbmmpaa
open Go.Den
set_option maxRecDepth 100000

/-- Without the one at a place. -/
def dropL (xs : List Iv) (k : Nat) : List Iv := xs.take k ++ xs.drop (k + 1)

theorem dropL_len {xs : List Iv} {k : Nat} (hk : k < xs.length) : (dropL xs k).length = xs.length - 1 := by simp [dropL]; omega

theorem dropL_getD {xs : List Iv} {k : Nat} (hk : k < xs.length) (i : Nat) : (dropL xs k).getD i (0, 0) = if i < k then xs.getD i (0, 0) else xs.getD (i + 1) (0, 0) := by
  unfold dropL
  have hl : (xs.take k).length = k := by simp; omega
  simp only [List.getD_eq_getElem?_getD]
  split
  · rename_i h
    rw [List.getElem?_append_left (by omega), List.getElem?_take, if_pos h]
  · rename_i h
    rw [List.getElem?_append_right (by omega), hl, List.getElem?_drop]
    congr 2; omega

theorem dropL_rng {xs : List Iv} {k : Nat} (hr : Rng xs) : Rng (dropL xs k) := by
  intro y hy
  unfold dropL at hy
  simp only [List.mem_append] at hy
  rcases hy with h | h
  · exact hr y (List.mem_of_mem_take h)
  · exact hr y (List.mem_of_mem_drop h)

theorem dropL_ap {xs : List Iv} {k : Nat} (hk : k < xs.length) (hap : Ap xs) : Ap (dropL xs k) := by
  intro i j hij hj
  rw [dropL_len hk] at hj
  rw [dropL_getD hk, dropL_getD hk]
  by_cases h1 : j < k
  · rw [if_pos (by omega), if_pos h1]; exact hap i j hij (by omega)
  · rw [if_neg h1]
    by_cases h2 : i < k
    · rw [if_pos h2]; exact hap i (j + 1) (by omega) (by omega)
    · rw [if_neg h2]; exact hap (i + 1) (j + 1) (by omega) (by omega)

section
variable {w : World}

theorem Drop_spec {m : Nat} {v : Value} {xs : List Iv} (h : Sp w m v xs) (hr : Rng xs) (hap : Ap xs) (at_ : Int) :
    CALL Pg F_pspan_Map_Drop [.pointer (some ⟨m, 0, none⟩), .int .i64 at_] w fun u w' => Eff w w' (m :: ownL v) ∧
      ∃ v' xs', Sp w' m v' xs' ∧ (∀ b ∈ ownL v', b ∈ ownL v ∨ w.heap.size ≤ b) ∧
        (getF xs at_ = none ∧ u = .tuple #[.agg #[.int .i64 0, .int .i64 0], .bool false] ∧ xs' = xs ∨
          ∃ k, k < xs.length ∧ (xs.getD k (0, 0)).1 = at_ ∧ getF xs at_ = some (xs.getD k (0, 0)) ∧ u = .tuple #[.agg #[.int .i64 (xs.getD k (0, 0)).1, .int .i64 (xs.getD k (0, 0)).2], .bool true] ∧ xs' = dropL xs k) := by
  apply C_pspan_Map_Drop
  unfold D_pspan_Map_Drop
  have hlen := h.len
  intro b1 w1 hE1 hs1 hb1
  have hp1 := h.eff0 hE1
  refine (find_spec hp1 at_).mono fun u w2 ⟨hE2, k, hk, hu⟩ => ?_
  subst hu
  have hgf := getF_low h.asc hk
  rw [TUP_ib]
  have hE12 := hE1.trans0 hE2
  have hp2 := hp1.eff0 hE2
  have hb2 := hE2.obj0 hb1
  by_cases hc : k < xs.length ∧ (xs.getD k (0, 0)).1 = at_
  · rw [if_pos hc] at hgf
    refine ITE_intro (fun h => by rw [decide_eq_true hc] at h; simp at h) (fun _ => ?_)
    obtain ⟨a, c, rfl, hs⟩ := hp2.form
    rw [NN0, LDl_of (cellH_of hp2.cell 0)]
    refine IDX_v hs (by omega) (by omega) fun b o g1 g2 => ?_
    have e : (k : Int).toNat = k := by omega
    rw [e] at g1 g2
    rw [LDi_of g1, LDi_of g2]
    intro b4 w5 hE5 hs5 hb5
    refine ST2_of trivial trivial hE5 hs5 hb5 fun w7 hE7 hb7 _ => ?_
    have hp7 := hp2.eff0 hE7
    have hE17 := hE12.trans0 hE7
    have hb17 := hE7.obj0 hb2
    rw [NN0, LDl_of (cellH_of hp7.cell 0)]
    refine BINDw (by omega) (by omega) ?_
    refine (Delete_spec (i := k) hp7.own (by omega) hc.1).mono fun u w8 ⟨⟨a', c', hu⟩, ho8, hE8, hn8⟩ => ?_
    subst hu
    rw [SLV_slice, NN0]
    have own_lt : ∀ b ∈ ownL (.slice a xs.length c), b < w.heap.size := by
      intro b hb
      rcases h.own.2 with ⟨h6, _⟩ | ⟨g, cap, cur, h6, _, hg, _⟩
      · rw [h6] at hb; simp [ownL, Value.ownBlock] at hb
      · rw [h6] at hb; simp [ownL, Value.ownBlock] at hb; rw [hb]; exact obj_lt hg
    have hmlt := obj_lt h.cell
    have hm8 : w8.heap[m]? = some (.cells [.slice a xs.length c].toArray T_span_Map_span_Map (0, 0)) := hE8.obj hp7.cell h.apart
    refine ST1_of trivial hm8 (by simp) fun w9 hb9 hE9 => ?_
    have hsz2 := hE12.size
    have hb4n : b4 ∉ ownL (.slice a xs.length c) := fun hb => by have := own_lt _ hb; omega
    have hb1n : b1 ∉ ownL (.slice a xs.length c) := fun hb => by have := own_lt _ hb; omega
    have hb49 := hE9.obj (hE8.obj hb7 hb4n) (by simp; omega)
    have hb19 := hE9.obj (hE8.obj hb17 hb1n) (by simp; omega)
    rw [LDi_of (cellH_of hb49 0), LDi_of (cellH_of hb49 1)]
    refine ST1_of trivial hb19 (by simp) fun w10 hb10 hE10 => ST1_of trivial hb10 (by simp) fun w11 hb11 hE11 => ?_
    rw [LDi_of (cellH_of hb11 0), LDi_of (cellH_of hb11 1)]
    have hm8n : m ∉ ownL (.slice a' (xs.length - 1) c') := by rw [hn8]; exact h.apart
    have hmb1 : m ≠ b1 := by omega
    refine ⟨?_, _, dropL xs k, ⟨?_, ?_, hm8n, ?_, ?_⟩, ?_, .inr ⟨k, hc.1, hc.2, hgf, rfl, rfl⟩⟩
    · refine ((((hE17.trans hE8).trans hE9).trans hE10).trans hE11).weak fun b hb hlt => ?_
      simp at hb ⊢
      rcases hb with h | h | h
      · exact .inr h
      · exact .inl h
      · omega
    · exact hE11.obj (hE10.obj hb9 (by simpa using hmb1)) (by simpa using hmb1)
    · have h9 := own_eff ho8 hE9 (by intro b hb hbm; simp at hbm; subst hbm; exact hm8n hb)
      have h10 := own_eff h9 hE10 (by intro b hb hbm; simp at hbm; subst hbm; rw [hn8] at hb; exact hb1n hb)
      exact own_eff h10 hE11 (by intro b hb hbm; simp at hbm; subst hbm; rw [hn8] at hb; exact hb1n hb)
    · exact (dropL_ap hc.1 hap).asc (dropL_rng hr)
    · rw [dropL_len hc.1]; omega
    · intro b hb; rw [hn8] at hb; exact .inl hb
  · rw [if_neg hc] at hgf
    refine ITE_intro (fun _ => ?_) (fun h => by simp at h; exact absurd h hc)
    refine ST2_of trivial trivial hE12 hs1 hb2 fun w' hE' hb' _ => ?_
    rw [LDi_of (cellH_of hb' 0), LDi_of (cellH_of hb' 1)]
    exact ⟨hE'.weak (by simp), v, xs, h.eff0 hE', fun b hb => .inl hb, .inl ⟨hgf, rfl, rfl⟩⟩

end
end Go.Proofs.Ytpopdookpbmmpaa
