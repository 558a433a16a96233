/- What slices.Delete does to intervals; what package span's functions do. -/
import Derived.Test.YtpopdookpbmmpaaSpan2
namespace Go.Proofs.Ytpopdookpbmmpaa
open Go.Den
set_option maxRecDepth 100000

section
variable {w : World}

theorem Delete_spec {a : Option Addr} {l c : Nat} {xs : List Iv} {i : Nat} (ho : Ow w (.slice a l c) xs) (hl : xs.length ≤ 1000000000000) (hi : i < xs.length) :
    CALL Pg F_slices_Delete_Lapi_Interval_api_Interval [.slice a l c, .int .i64 i, .int .i64 (i + 1)] w fun v w' =>
      (∃ a' c', v = .slice a' (xs.length - 1) c') ∧ Ow w' v (xs.take i ++ xs.drop (i + 1)) ∧ Eff w w' (ownL (.slice a l c)) ∧ ownL v = ownL (.slice a l c) := by
  apply C_slices_Delete_Lapi_Interval_api_Interval
  unfold D_slices_Delete_Lapi_Interval_api_Interval
  have hll := ho.sl.1
  obtain ⟨g, cur, rfl, _, hg, hcur, hnc, hcm, htk, _⟩ := own_form ho (by omega)
  subst hll
  have hAl : cur.take (i * 2) = (xs.take i).flatMap encV := by
    rw [← flat_take, ← htk, List.take_take, Nat.min_eq_left (by omega)]
  have hB : ((xs.drop (i + 1)).flatMap encV).length = (xs.length - (i + 1)) * 2 := by rw [flat_len]; simp
  have hBc : ∀ j u, ((xs.drop (i + 1)).flatMap encV)[j]? = some u → cur[(i + 1) * 2 + j]? = some u := by
    intro j u hu
    rw [← flat_drop, List.getElem?_drop, ← htk, List.getElem?_take] at hu
    split at hu
    · exact hu
    · cases hu
  have hrl : (xs.take i ++ xs.drop (i + 1)).length = xs.length - 1 := by simp; omega
  refine SILN_lhm elem_iv (by omega) (by omega) (by omega) (by omega) ?_
  rw [SLV_slice]
  refine ITE_eq (fun h => by omega) (fun _ => ?_)
  intro w1 hE1 _
  have hg1 := hE1.obj0 hg
  have e1 : (i : Int).toNat = i := by omega
  have e2 : ((i : Int) + 1).toNat = i + 1 := by omega
  refine SILN_h elem_iv (by omega) (by omega) ?_
  rw [SLV_slice, e1, subA_some.2 (by omega)]
  refine SILN_l elem_iv (by omega) (by omega) ?_
  rw [SLV_slice, e2, Nat.zero_mul, Nat.add_zero]
  refine SEML_app_room (news := (xs.drop (i + 1)).flatMap encV) elem_iv hg1 (by omega) hB (by rw [hB, hcur]; omega) (flat_scal _) ?_ fun w2 hg2 hE2 => ?_
  · rcases Nat.lt_or_ge (i + 1) xs.length with h | h
    · right
      refine ⟨g, (i + 1) * 2, by rw [subA_some.2 (by omega), Nat.zero_add], fun j u hu => by rw [cellH_of hg1]; exact hBc j u hu⟩
    · left
      exact List.length_eq_zero_iff.1 (by rw [hB]; omega)
  rw [SLV_slice]
  refine ⟨KEEP_nil, ?_⟩
  have e3 : i + (xs.length - (i + 1)) = xs.length - 1 := by omega
  rw [e3]
  refine SILN_lh elem_iv (by omega) (by omega) (by omega) ?_
  have e4 : ((xs.length - 1 : Nat) : Int).toNat = xs.length - 1 := by omega
  have e5 : ((xs.length : Nat) : Int).toNat = xs.length := by omega
  rw [SLV_slice, e4, e5, subA_some.2 (by omega), Nat.zero_add, show xs.length - (xs.length - 1) = 1 by omega]
  have hfit : i * 2 + ((xs.drop (i + 1)).flatMap encV).length ≤ cur.length := by rw [hB, hcur]; omega
  refine SEML_clear elem_iv zero_iv hg2 (by rw [splice_len hfit, hcur]; omega) (by simp only [List.mem_cons, List.not_mem_nil, or_false]; rintro u (rfl | rfl) <;> trivial) fun w3 hg3 hE3 => ?_
  refine ⟨⟨_, c, rfl⟩, ?_, ?_, rfl⟩
  · unfold Ow
    rw [hrl]
    refine own_mk hg3 ?_ (by omega) hcm ?_ (by rw [flat_len, hrl]) (Nat.zero_le _)
    · rw [splice_len (by rw [splice_len hfit, hcur]; simp; omega), splice_len hfit, hcur]
    · rw [splice_take (Nat.le_refl _) (by rw [splice_len hfit, hcur]; omega)]
      have := splice_all (cur := cur) (news := (xs.drop (i + 1)).flatMap encV) (o := i * 2) (by rw [hcur]; omega)
      rw [hB, hAl, show i * 2 + (xs.length - (i + 1)) * 2 = (xs.length - 1) * 2 by omega] at this
      rw [this, List.flatMap_append]
  · exact ((hE1.trans hE2).trans hE3).weak (by simp [ownL, Value.ownBlock])

/-! ### The map -/
/-- The map in block m holds these intervals, in the slice v. -/
structure Sp (w : World) (m : Nat) (v : Value) (xs : List Iv) : Prop where
  cell : w.heap[m]? = some (.cells [v].toArray T_span_Map_span_Map (0, 0))
  own : Ow w v xs
  apart : m ∉ ownL v
  asc : Asc xs
  len : xs.length ≤ 100000000

theorem Sp.eff {w' : World} {m : Nat} {v : Value} {xs : List Iv} (h : Sp w m v xs) {S : List Nat} (hE : Eff w w' S) (h1 : m ∉ S) (h2 : ∀ b ∈ ownL v, b ∉ S) : Sp w' m v xs :=
  ⟨hE.obj h.cell h1, own_eff h.own hE h2, h.apart, h.asc, h.len⟩
theorem Sp.eff0 {w' : World} {m : Nat} {v : Value} {xs : List Iv} (h : Sp w m v xs) (hE : Eff w w' []) : Sp w' m v xs := h.eff hE (by simp) (by simp)

theorem Sp.form {m : Nat} {v : Value} {xs : List Iv} (h : Sp w m v xs) : ∃ a c, v = .slice a xs.length c ∧ SlV w.heap a xs.length xs := by
  obtain ⟨a, c, rfl⟩ := own_slice h.own
  exact ⟨a, c, rfl, h.own.sl.2⟩

theorem NN0 {b : Nat} {K : Nat → Nat → Prop} : NN (some ⟨b, 0, none⟩) K = K b 0 := rfl

theorem find_spec {m : Nat} {v : Value} {xs : List Iv} (h : Sp w m v xs) (at_ : Int) : CALL Pg F_pspan_Map_find [.pointer (some ⟨m, 0, none⟩), .int .i64 at_] w fun u w' => Eff w w' [] ∧
    ∃ k : Nat, Low xs at_ k ∧ u = .tuple #[.int .i64 k, .bool (decide (k < xs.length ∧ (xs.getD k (0, 0)).1 = at_))] := by
  apply C_pspan_Map_find
  unfold D_pspan_Map_find
  obtain ⟨a, c, rfl, hs⟩ := h.form
  have hlen := h.len
  rw [NN0, LDl_of (cellH_of h.cell 0)]
  refine (Search_spec hs (by omega) h.asc at_).mono fun u w1 ⟨hE1, k, hk, hu⟩ => ?_
  subst hu
  rw [TUP_ib]
  exact ⟨hE1, k, hk, rfl⟩

end
end Go.Proofs.Ytpopdookpbmmpaa
