/- What package span's functions do: Over, Get, All, Bytes. -/
import Derived.Test.YtpopdookpbmmpaaSpan3
namespace Go.Proofs.Ytpopdookpbmmpaa
open Go.Den
set_option maxRecDepth 100000

section
variable {w : World}

/-- Two cells of a block of one's own are set. -/
theorem ST2_of {w₀ w : World} {b : Nat} {x y u v : Value} {t : TypeId} {K : World → Prop} (hu : SCAL u) (hv : SCAL v) (hE : Eff w₀ w []) (hb0 : w₀.heap.size ≤ b)
    (hb : w.heap[b]? = some (.cells [x, y].toArray t (0, 0))) (hK : ∀ w', Eff w₀ w' [] → w'.heap[b]? = some (.cells [u, v].toArray t (0, 0)) → Eff w w' [b] → K w') :
    ST1 w ⟨b, 0, none⟩ u fun w1 => ST1 w1 ⟨b, 1, none⟩ v K := by
  refine ST1_of hu hb (by simp) fun w1 hb1 hE1 => ST1_of hv hb1 (by simp) fun w2 hb2 hE2 => ?_
  refine hK w2 ?_ hb2 ?_
  · exact (hE.own hE1 (by simpa using hb0)).own hE2 (by simpa using hb0)
  · exact (hE1.trans hE2).weak (by simp)

/-- The interval that begins at an address. -/
def getF (xs : List Iv) (at_ : Int) : Option Iv := xs.find? fun x => x.1 == at_

theorem getF_low {xs : List Iv} {at_ : Int} {k : Nat} (ha : Asc xs) (hk : Low xs at_ k) : getF xs at_ = if k < xs.length ∧ (xs.getD k (0, 0)).1 = at_ then some (xs.getD k (0, 0)) else none := by
  unfold getF
  split
  · rename_i h
    rw [List.find?_eq_some_iff_append]
    have hg : xs.getD k (0, 0) = xs[k] := by simp [h.1]
    refine ⟨by simpa using h.2, xs.take k, xs.drop (k + 1), ?_, fun x hx => ?_⟩
    · rw [hg, ← List.drop_eq_getElem_cons h.1, List.take_append_drop]
    · obtain ⟨i, hi, rfl⟩ := List.getElem_of_mem hx
      have hi' : i < k := by simp at hi; omega
      have := hk.2.1 i hi'
      have hil : i < xs.length := by omega
      simp [hil] at this
      simp; omega
  · rename_i h
    rw [List.find?_eq_none]
    intro x hx
    obtain ⟨i, hi, rfl⟩ := List.getElem_of_mem hx
    have e : xs.getD i (0, 0) = xs[i] := by simp [hi]
    rw [← e]
    simp only [beq_iff_eq]
    intro he
    rcases Nat.lt_or_ge i k with h1 | h1
    · have := hk.2.1 i h1; omega
    · rcases Nat.lt_or_ge k i with h2 | h2
      · have h3 := ha k i h2 hi
        have h4 := hk.2.2 k (Nat.le_refl _) (by omega)
        omega
      · have : i = k := by omega
        subst this
        exact h ⟨hi, he⟩

theorem Get_spec {m : Nat} {v : Value} {xs : List Iv} (h : Sp w m v xs) (at_ : Int) : CALL Pg F_pspan_Map_Get [.pointer (some ⟨m, 0, none⟩), .int .i64 at_] w fun u w' => Eff w w' [] ∧
    u = .tuple #[.agg #[.int .i64 ((getF xs at_).getD (0, 0)).1, .int .i64 ((getF xs at_).getD (0, 0)).2], .bool (getF xs at_).isSome] := by
  apply C_pspan_Map_Get
  unfold D_pspan_Map_Get
  intro b1 w1 hE1 hs1 hb1
  have h1 := h.eff0 hE1
  refine (find_spec h1 at_).mono fun u w2 ⟨hE2, k, hk, hu⟩ => ?_
  subst hu
  rw [TUP_ib, getF_low h.asc hk]
  have hE12 := hE1.trans0 hE2
  have hb2 := hE2.obj0 hb1
  by_cases hc : k < xs.length ∧ (xs.getD k (0, 0)).1 = at_
  · rw [if_pos hc]
    refine ITE_intro (fun h => by rw [decide_eq_true hc] at h; simp at h) (fun _ => ?_)
    have h2 := h1.eff0 hE2
    obtain ⟨a, c, rfl, hs⟩ := h2.form
    rw [NN0, LDl_of (cellH_of h2.cell 0)]
    refine IDX_v hs (by omega) (by omega) fun b o g1 g2 => ?_
    have e : (k : Int).toNat = k := by omega
    rw [e] at g1 g2
    rw [LDi_of g1, LDi_of g2]
    refine ST2_of trivial trivial hE12 hs1 hb2 fun w' hE' hb' _ => ?_
    rw [LDi_of (cellH_of hb' 0), LDi_of (cellH_of hb' 1)]
    exact ⟨hE', rfl⟩
  · rw [if_neg hc]
    refine ITE_intro (fun _ => ?_) (fun h => by simp at h; exact absurd h hc)
    refine ST2_of trivial trivial hE12 hs1 hb2 fun w' hE' hb' _ => ?_
    rw [LDi_of (cellH_of hb' 0), LDi_of (cellH_of hb' 1)]
    exact ⟨hE', rfl⟩

theorem All_spec {m : Nat} {v : Value} {xs : List Iv} (h : Sp w m v xs) : CALL Pg F_pspan_Map_All [.pointer (some ⟨m, 0, none⟩)] w fun u w' => Eff w w' [] ∧ (∃ a' c', u = .slice a' xs.length c') ∧ Ow w' u xs ∧ ∀ b ∈ ownL u, w.heap.size ≤ b := by
  apply C_pspan_Map_All
  unfold D_pspan_Map_All
  obtain ⟨a, c, rfl, hs⟩ := h.form
  have := h.len
  rw [NN0, LDl_of (cellH_of h.cell 0)]
  refine (Clone_spec hs (by omega)).mono fun u w1 ⟨hE1, ⟨a', c', hu⟩, ho, hb⟩ => ?_
  subst hu
  rw [SLV_slice]
  exact ⟨hE1, ⟨a', c', rfl⟩, ho, hb⟩

/-- How many addresses. -/
def sumF (xs : List Iv) : Int := (xs.map (·.2)).sum

theorem sumF_take {xs : List Iv} {k : Nat} (h : k < xs.length) : sumF (xs.take (k + 1)) = sumF (xs.take k) + (xs.getD k (0, 0)).2 := by
  unfold sumF
  rw [List.take_succ_eq_append_getElem h, List.map_append, List.sum_append]
  simp [h]

/-- Lengths are as Put lets them be. -/
def Lens (xs : List Iv) : Prop := ∀ x ∈ xs, 1 ≤ x.2 ∧ x.2 ≤ 1099511627776

theorem sumF_le {xs : List Iv} (hl : Lens xs) (k : Nat) : 0 ≤ sumF (xs.take k) ∧ sumF (xs.take k) ≤ k * 1099511627776 := by
  induction k with
  | zero => simp [sumF]
  | succ k ih =>
    rcases Nat.lt_or_ge k xs.length with h | h
    · rw [sumF_take h]
      have := hl xs[k] (List.getElem_mem h)
      have e : xs.getD k (0, 0) = xs[k] := by simp [h]
      rw [e]; omega
    · rw [List.take_of_length_le (by omega)] at *
      omega

theorem Bytes_spec {m : Nat} {v : Value} {xs : List Iv} (h : Sp w m v xs) (hl : Lens xs) (hn : xs.length ≤ 1000000) : CALL Pg F_pspan_Map_Bytes [.pointer (some ⟨m, 0, none⟩)] w fun u w' => Eff w w' [] ∧ u = .int .i64 (sumF xs) := by
  apply C_pspan_Map_Bytes
  unfold D_pspan_Map_Bytes
  obtain ⟨a, c, rfl, hs⟩ := h.form
  rw [NN0, LDl_of (cellH_of h.cell 0)]
  refine LOOP_of (fun vs w' => ∃ k : Nat, vs = [.int .i64 (sumF (xs.take k)), .int .i64 k] ∧ k ≤ xs.length ∧ Eff w w' [])
    (fun vs _ => match vs with | [_, .int _ n] => xs.length - n.toNat | _ => 0) ⟨0, by simp [sumF], by omega, Eff.refl w⟩ ?_
  intro w1 v1 v2 ⟨k, hv, hk, hE1⟩
  simp only [List.cons.injEq, and_true] at hv
  obtain ⟨rfl, rfl⟩ := hv
  simp only [INTV_int]
  refine ITE_d (fun h1 => ?_) (fun h1 => ?_)
  · refine IDX_v (hs.eff hE1) (by omega) (by omega) fun b o g1 g2 => ?_
    have e : (k : Int).toNat = k := by omega
    rw [e] at g1 g2
    rw [LDi_of g1, LDi_of g2]
    intro b3 w2 hE2 hs2 hb2
    refine ST2_of trivial trivial hE2 hs2 hb2 fun w4 hE4 hb4 _ => ?_
    rw [LDi_of (cellH_of hb4 1)]
    have hst := sumF_take (xs := xs) (k := k) (by omega)
    have hb := sumF_le hl (k + 1)
    have hb1 := sumF_le hl k
    rw [← hst]
    exact BINDw (by omega) (by omega) (BINDw (by omega) (by omega) ⟨⟨k + 1, rfl, by omega, hE1.trans0 hE4⟩, by first | omega | (dsimp only; omega)⟩)
  · have : k = xs.length := by omega
    subst this
    exact ⟨hE1, by rw [List.take_length]⟩

end
end Go.Proofs.Ytpopdookpbmmpaa
