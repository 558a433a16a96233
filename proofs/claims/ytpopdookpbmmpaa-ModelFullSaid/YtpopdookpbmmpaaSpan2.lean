/- What slices.Clone, Insert, Delete do to intervals. -/
import Derived.Test.YtpopdookpbmmpaaSpan1
import Derived.Lib.Overlaps
namespace Go.Proofs.Ytpopdookpbmmpaa
open Go.Den
set_option maxRecDepth 100000

/-- These intervals are in a slice of one's own. -/
abbrev Ow (w : World) (v : Value) (xs : List Iv) : Prop := w.ownsRow 0 T_api_Interval_api_Interval 2 v xs.length (xs.flatMap encV)

theorem flat_len (xs : List Iv) : (xs.flatMap encV).length = xs.length * 2 := by
  induction xs with
  | nil => rfl
  | cons x xs ih => rw [List.flatMap_cons, List.length_append, ih, encV_len, List.length_cons]; omega

theorem flat_scal (xs : List Iv) : ∀ u ∈ xs.flatMap encV, SCAL u := by
  intro u hu
  obtain ⟨x, _, hu⟩ := List.mem_flatMap.1 hu
  simp only [encV, List.mem_cons, List.not_mem_nil, or_false] at hu
  rcases hu with rfl | rfl <;> trivial

theorem flat_take (xs : List Iv) (i : Nat) : (xs.flatMap encV).take (i * 2) = (xs.take i).flatMap encV := by
  induction xs generalizing i with
  | nil => simp
  | cons x xs ih =>
    cases i with
    | zero => simp
    | succ i =>
      rw [List.flatMap_cons, List.take_succ_cons, List.flatMap_cons, ← ih, Nat.succ_mul, Nat.add_comm, List.take_add]
      congr 1

theorem flat_drop (xs : List Iv) (i : Nat) : (xs.flatMap encV).drop (i * 2) = (xs.drop i).flatMap encV := by
  induction xs generalizing i with
  | nil => simp
  | cons x xs ih =>
    cases i with
    | zero => simp
    | succ i =>
      rw [List.flatMap_cons, List.drop_succ_cons, ← ih, Nat.succ_mul, Nat.add_comm, ← List.drop_drop]
      congr 1

section
variable {w : World}

theorem Ow.sl {a : Option Addr} {l c : Nat} {xs : List Iv} (h : Ow w (.slice a l c) xs) : l = xs.length ∧ SlV w.heap a l xs := own_sl encV_len (by omega) h

theorem Ow.eff {w' : World} {v : Value} {xs : List Iv} (h : Ow w v xs) (hE : Eff w w' []) : Ow w' v xs := own_eff0 h hE

theorem nil_ow : Ow w (.slice none 0 0) [] := ⟨rfl, .inl ⟨rfl, rfl⟩⟩

/-- What a slice of intervals reads as, cell by cell. -/
theorem sl_src {a : Option Addr} {l : Nat} {xs : List Iv} (hs : SlV w.heap a l xs) : xs.flatMap encV = [] ∨ ∃ b p, a = some ⟨b, p, none⟩ ∧ ∀ j u, (xs.flatMap encV)[j]? = some u → cellH w.heap b (p + j) = some u := by
  rcases hs.2 with rfl | ⟨b, p, rfl, hc⟩
  · left; rfl
  right
  refine ⟨b, p, rfl, fun j u hj => ?_⟩
  have key : ∀ (ys : List Iv) (j : Nat), (ys.flatMap encV)[j]? = some u → ∃ i x k, ys[i]? = some x ∧ (encV x)[k]? = some u ∧ j = i * 2 + k := by
    intro ys
    induction ys with
    | nil => intro j hj; simp at hj
    | cons y ys ih =>
      intro j hj
      rw [List.flatMap_cons] at hj
      rcases Nat.lt_or_ge j 2 with h | h
      · rw [List.getElem?_append_left (by rw [encV_len]; exact h)] at hj
        exact ⟨0, y, j, rfl, hj, by omega⟩
      · rw [List.getElem?_append_right (by rw [encV_len]; exact h), encV_len] at hj
        obtain ⟨i, x, k, h1, h2, h3⟩ := ih _ hj
        exact ⟨i + 1, x, k, by simpa using h1, h2, by omega⟩
  obtain ⟨i, x, k, h1, h2, rfl⟩ := key xs j hj
  have := hc i x h1 k u h2
  rw [← this]; congr 1; omega

theorem Clone_spec {a : Option Addr} {l c : Nat} {xs : List Iv} (hs : SlV w.heap a l xs) (hl : xs.length ≤ 1000000000000) :
    CALL Pg F_slices_Clone_Lapi_Interval_api_Interval [.slice a l c] w fun v w' => Eff w w' [] ∧ (∃ a' c', v = .slice a' xs.length c') ∧ Ow w' v xs ∧ ∀ b ∈ ownL v, w.heap.size ≤ b := by
  apply C_slices_Clone_Lapi_Interval_api_Interval
  unfold D_slices_Clone_Lapi_Interval_api_Interval
  have hll := hs.1
  refine SILN_eqnil (e := T_api_Interval_api_Interval) (by kernel_rfl) ?_
  rw [BOOLV_bool]
  refine ITE_intro (fun h => ?_) (fun _ => ?_)
  · have ha : a = none := by simpa using h
    have : xs = [] := by
      rcases hs.2 with h | ⟨b, o, h, _⟩
      · exact h
      · rw [ha] at h; cases h
    subst this
    exact ⟨Eff.refl w, ⟨none, 0, rfl⟩, nil_ow, by simp [ownL, Value.ownBlock]⟩
  · intro b1 w1 hE1 hs1 hb1
    have hown : w1.ownsRow 0 T_api_Interval_api_Interval 2 (.slice (some ⟨b1, 0, none⟩) 0 0) 0 [] := own_mk hb1 rfl (Nat.le_refl _) (by simp) rfl rfl (Nat.zero_le _)
    refine SEML_app (m := l) (news := xs.flatMap encV) elem_iv hown (by rw [flat_len, hll]) (sl_src (hs.eff hE1)) (flat_scal xs) (by omega) (by omega) (Nat.zero_le _) fun a' c' w2 hown2 hE2 hn => ?_
    rw [SLV_slice]
    have hb0 : ∀ b ∈ ownL (.slice (some ⟨b1, 0, none⟩) 0 0), w.heap.size ≤ b := by simpa [ownL, Value.ownBlock] using hs1
    refine ⟨hE1.own hE2 hb0, ⟨a', c', by rw [Nat.zero_add, hll]⟩, ?_, fun b hb => ?_⟩
    · rw [Nat.zero_add, List.nil_append, hll] at hown2
      rw [Nat.zero_add, hll]
      exact hown2
    · rcases hn b hb with h | h
      · exact hb0 b h
      · rw [h]; exact hE1.size

theorem overlaps_run {va vl : Nat} {vc b o l c : Nat} {x : List Value} {cur : List Value} {t : TypeId} (hv : w.heap[va]? = some (.cells x.toArray T_api_Interval_api_Interval (0, 0))) (hb : w.heap[b]? = some (.cells cur.toArray t (0, 0))) (hne : va ≠ b) (hc : cur.length ≠ 0) :
    (callFunc F_slices_overlaps_api_Interval #[.slice (some ⟨va, 0, none⟩) vl vc, .slice (some ⟨b, o, none⟩) l c]).run Pg w = .ok (.value (.bool false)) w := by
  have hsz : ∀ w, (Go.sizeOf T_api_Interval_api_Interval).run Pg w = .ok 2 w := by
    obtain ⟨_, i, z, hi, _, hs, _⟩ := elem_iv
    intro w; rw [run_sizeOf hi, hs]
  rw [run_callFunc_extern Try.func65 (by kernel_rfl) (by kernel_rfl) (by kernel_rfl) (e := Extern.SlicesOverlaps.overlaps #[T_Lapi_Interval, T_Lapi_Interval] #[4]) (by kernel_rfl),
    Lib.run_overlaps_apart w T_Lapi_Interval 4 T_api_Interval_api_Interval (by kernel_rfl) 2 hsz ⟨va, 0, none⟩ ⟨b, o, none⟩ vl vc l c hne T_api_Interval_api_Interval t x.length cur.length (by simp [World.shape?, hv]) (by simp [World.shape?, hb]) hc (by simp [World.frozen?, hv]) (by simp [World.frozen?, hv])]
  rfl

theorem Insert_spec {a : Option Addr} {l c vb : Nat} {xs : List Iv} {x : Iv} {i : Nat} (ho : Ow w (.slice a l c) xs) (hl : xs.length ≤ 1000000000000) (hi : i ≤ xs.length) (hvb : w.heap[vb]? = some (.cells (encV x).toArray T_api_Interval_api_Interval (0, 0))) (hne : vb ∉ ownL (.slice a l c)) :
    CALL Pg F_slices_Insert_Lapi_Interval_api_Interval [.slice a l c, .int .i64 i, .slice (some ⟨vb, 0, none⟩) 1 1] w fun v w' =>
      (∃ a' c', v = .slice a' (xs.length + 1) c') ∧ Ow w' v (xs.take i ++ x :: xs.drop i) ∧ Eff w w' (ownL (.slice a l c)) ∧ ∀ b ∈ ownL v, b ∈ ownL (.slice a l c) ∨ w.heap.size ≤ b := by
  apply C_slices_Insert_Lapi_Interval_api_Interval
  unfold D_slices_Insert_Lapi_Interval_api_Interval
  have hll := ho.sl.1
  have hcl := own_cap ho
  refine SILN_l elem_iv (by omega) (by omega) ?_
  rw [SLV_slice]
  refine ITE_eq (fun h => by omega) (fun _ => ?_)
  have hX : (encV x).length = 2 := rfl
  refine ITE_eq (fun h => ?_) (fun h => ?_)
  · have hi' : i = xs.length := by omega
    subst hi'
    refine SEML_app (m := 1) (news := encV x) elem_iv ho hX (.inr ⟨vb, 0, rfl, fun j u hu => by rw [Nat.zero_add, cellH_of hvb]; exact hu⟩) (fun u hu => flat_scal [x] u (by simpa using hu)) (by omega) (by omega) (Nat.zero_le _) fun a' c' w2 hown2 hE2 hn => ?_
    rw [SLV_slice]
    refine ⟨⟨a', c', rfl⟩, ?_, hE2, fun b hb => ?_⟩
    · have e : xs.take xs.length ++ x :: xs.drop xs.length = xs ++ [x] := by simp
      rw [e]
      unfold Ow
      rw [List.flatMap_append, List.length_append]
      simpa using hown2
    · rcases hn b hb with h | h
      · exact .inl h
      · exact .inr (by omega)
  have hil : i < xs.length := by omega
  obtain ⟨g, cur, rfl, _, hg, hcur, hnc, hcm, htk, _⟩ := own_form ho (by omega)
  subst hll
  have hvg : vb ≠ g := by simpa [ownL, Value.ownBlock] using hne
  have hAl : cur.take (i * 2) = (xs.take i).flatMap encV := by
    rw [← flat_take, ← htk, List.take_take, Nat.min_eq_left (by omega)]
  have hB : ((xs.drop i).flatMap encV).length = (xs.length - i) * 2 := by rw [flat_len]; simp
  have hBc : ∀ j u, ((xs.drop i).flatMap encV)[j]? = some u → cur[i * 2 + j]? = some u := by
    intro j u hu
    rw [← flat_drop, List.getElem?_drop, ← htk, List.getElem?_take] at hu
    split at hu
    · exact hu
    · cases hu
  have hres : (xs.take i ++ x :: xs.drop i).flatMap encV = (xs.take i).flatMap encV ++ encV x ++ (xs.drop i).flatMap encV := by
    rw [List.flatMap_append, List.flatMap_cons, List.append_assoc]
  have hrl : (xs.take i ++ x :: xs.drop i).length = xs.length + 1 := by simp; omega
  refine BINDw (by omega) (by omega) (SILN_cap (e := T_api_Interval_api_Interval) (by kernel_rfl) ?_)
  rw [INTV_int]
  have hA0 : subA (some ⟨g, 0, none⟩) c 0 2 = some ⟨g, 0, none⟩ := by
    rw [subA_some.2 (by omega)]
  refine ITE_d (fun h1 => ?_) (fun h1 => ?_)
  · -- a new block
    refine SILN_h elem_iv (by omega) (by omega) ?_
    rw [SLV_slice, hA0]
    refine BINDw (by omega) (by omega) (BINDw (by omega) (by omega) ?_)
    have e1 : (i : Int).toNat = i := by omega
    rw [e1]
    have ho1 : w.ownsRow 0 T_api_Interval_api_Interval 2 (.slice (some ⟨g, 0, none⟩) i c) i ((xs.take i).flatMap encV) := own_mk hg hcur (by omega) hcm hAl (by rw [flat_len]; simp; omega) (Nat.zero_le _)
    have e2 : ((xs.length : Int) + ((1 : Nat) : Int) - i).toNat = xs.length + 1 - i := by omega
    refine SEML_append_zeros_new (k := .i64) elem_iv (by kernel_rfl) zero_iv ho1 (by omega) (by omega) (by decide) (by simp only [List.mem_cons, List.not_mem_nil, or_false]; rintro u (rfl | rfl) <;> trivial) (by omega) (Nat.zero_le _) fun a2 c2 w2 ho2 hE2 hb2 => ?_
    rw [SLV_slice]
    rw [e2, show i + (xs.length + 1 - i) = xs.length + 1 by omega] at ho2 hb2 ⊢
    obtain ⟨g2, cur2, rfl, _, hg2, hcur2, hnc2, hcm2, htk2, _⟩ := own_form ho2 (by omega)
    have hgn : g2 = w.heap.size := by simpa [ownL, Value.ownBlock] using hb2
    have hlt := obj_lt hg
    have hltv := obj_lt hvb
    have hA2 : cur2.take (i * 2) = (xs.take i).flatMap encV := by
      have := congrArg (List.take (i * 2)) htk2
      rw [List.take_take, Nat.min_eq_left (by omega), List.take_left' (by rw [flat_len]; simp; omega)] at this
      exact this
    refine SILN_l elem_iv (by omega) (by omega) ?_
    rw [SLV_slice, e1, subA_some.2 (by omega), Nat.zero_add]
    refine SEML_copy (news := encV x) elem_iv hg2 (by rw [hX, Nat.min_eq_left (by omega)]) (by rw [hX, hcur2]; omega) (fun u hu => flat_scal [x] u (by simpa using hu)) (.inr ⟨vb, 0, rfl, fun j u hu => by rw [Nat.zero_add, cellH_of (hE2.obj0 hvb)]; exact hu⟩) fun w3 hg3 hE3 => ?_
    rw [INTV_int]
    intro w4 hE4 _
    have hg4 := hE4.obj0 hg3
    have hgo : w4.heap[g]? = some (.cells cur.toArray T_api_Interval_api_Interval (0, 0)) := hE4.obj0 (hE3.obj (hE2.obj0 hg) (by simp; omega))
    refine BINDw (by omega) (by omega) ?_
    refine SILN_l elem_iv (by omega) (by omega) ?_
    rw [SLV_slice]
    have e3 : ((i : Int) + ((1 : Nat) : Int)).toNat = i + 1 := by omega
    rw [e3]
    refine SILN_l elem_iv (by omega) (by omega) ?_
    rw [SLV_slice, e1, subA_some.2 (by omega), subA_some.2 (by omega), Nat.zero_add, Nat.zero_add]
    have hmin : min (xs.length - i) (xs.length + 1 - (i + 1)) = xs.length - i := by omega
    refine SEML_copy (news := (xs.drop i).flatMap encV) elem_iv hg4 (by rw [hB, hmin]) (by rw [hB, splice_len (by rw [hX, hcur2]; omega), hcur2]; omega) (flat_scal _) (.inr ⟨g, i * 2, rfl, fun j u hu => by rw [cellH_of hgo]; exact hBc j u hu⟩) fun w5 hg5 hE5 => ?_
    rw [INTV_int]
    refine ⟨KEEP_nil, ⟨_, c2, rfl⟩, ?_, ?_, fun b hb => ?_⟩
    · unfold Ow
      rw [hres, hrl]
      refine own_mk hg5 ?_ hnc2 hcm2 ?_ (by rw [← hres, flat_len, hrl]) (Nat.zero_le _)
      · rw [splice_len (by rw [hB, splice_len (by rw [hX, hcur2]; omega), hcur2]; omega), splice_len (by rw [hX, hcur2]; omega), hcur2]
      · have := splice_grow (cur := cur2) (X := encV x) (B := (xs.drop i).flatMap encV) hA2 (by rw [hX, hB, hcur2]; omega)
        rw [hX, hB, show i * 2 + 2 + (xs.length - i) * 2 = (xs.length + 1) * 2 by omega] at this
        rw [show (i + 1) * 2 = i * 2 + 2 by omega]
        exact this
    · have : Eff w w5 [] := ((hE2.own hE3 (by simp; omega)).trans0 hE4).own hE5 (by simp; omega)
      exact this.weak (by simp)
    · right
      simp [ownL, Value.ownBlock] at hb
      omega
  · -- there is room
    refine BINDw (by omega) (by omega) ?_
    refine SILN_h elem_iv (by omega) (by omega) ?_
    rw [SLV_slice, hA0]
    have e1 : ((xs.length : Int) + ((1 : Nat) : Int)).toNat = xs.length + 1 := by omega
    have e2 : ((i : Int) + ((1 : Nat) : Int)).toNat = i + 1 := by omega
    have e3 : (i : Int).toNat = i := by omega
    rw [e1]
    refine BINDw (by omega) (by omega) ?_
    refine SILN_l elem_iv (by omega) (by omega) ?_
    rw [SLV_slice, e2, subA_some.2 (by omega), Nat.zero_add]
    refine EXT_of (overlaps_run hvb hg hvg (by rw [hcur]; omega)) ?_
    rw [BOOLV_bool]
    refine ITE_intro (fun _ => ?_) (fun h => by simp at h)
    intro w7 hE7 _
    have hg7 := hE7.obj0 hg
    refine BINDw (by omega) (by omega) ?_
    refine SILN_l elem_iv (by omega) (by omega) ?_
    rw [SLV_slice, e2]
    refine SILN_l elem_iv (by omega) (by omega) ?_
    rw [SLV_slice, e3, subA_some.2 (by omega), subA_some.2 (by omega), Nat.zero_add, Nat.zero_add]
    have hmin : min (xs.length + 1 - i) (xs.length + 1 - (i + 1)) = xs.length - i := by omega
    refine SEML_copy (news := (xs.drop i).flatMap encV) elem_iv hg7 (by rw [hB, hmin]) (by rw [hB, hcur]; omega) (flat_scal _) (.inr ⟨g, i * 2, rfl, fun j u hu => by rw [cellH_of hg7]; exact hBc j u hu⟩) fun w8 hg8 hE8 => ?_
    rw [INTV_int]
    refine ⟨KEEP_nil, ?_⟩
    refine SILN_l elem_iv (by omega) (by omega) ?_
    rw [SLV_slice, e3, subA_some.2 (by omega), Nat.zero_add]
    have hvb8 := hE8.obj (hE7.obj0 hvb) (by simpa using hvg)
    refine SEML_copy (news := encV x) elem_iv hg8 (by rw [hX, Nat.min_eq_left (by omega)]) (by rw [hX, splice_len (by rw [hB, hcur]; omega), hcur]; omega) (fun u hu => flat_scal [x] u (by simpa using hu)) (.inr ⟨vb, 0, rfl, fun j u hu => by rw [Nat.zero_add, cellH_of hvb8]; exact hu⟩) fun w9 hg9 hE9 => ?_
    rw [INTV_int]
    refine ⟨⟨_, c, rfl⟩, ?_, ?_, fun b hb => .inl hb⟩
    · unfold Ow
      rw [hres, hrl]
      refine own_mk hg9 ?_ (by omega) hcm ?_ (by rw [← hres, flat_len, hrl]) (Nat.zero_le _)
      · rw [splice_len (by rw [hX, splice_len (by rw [hB, hcur]; omega), hcur]; omega), splice_len (by rw [hB, hcur]; omega), hcur]
      · have := splice_ins (cur := cur) (X := encV x) (B := (xs.drop i).flatMap encV) hAl (by rw [hX, hB, hcur]; omega)
        rw [hX, hB, show i * 2 + 2 + (xs.length - i) * 2 = (xs.length + 1) * 2 by omega] at this
        rw [show (i + 1) * 2 = i * 2 + 2 by omega]
        exact this
    · exact ((hE7.trans hE8).trans hE9).weak (by simp [ownL, Value.ownBlock])

end
end Go.Proofs.Ytpopdookpbmmpaa
