/- The document's Find, Any, Put, Drop: what they answer. -/
import Derived.Test.YtpopdookpbmmpaaSpan12
namespace Go.Proofs.Ytpopdookpbmmpaa
open Go.Den
set_option maxRecDepth 100000

section
variable {w : World}

theorem SEML_one {v : Value} {xs : List Iv} {x : Iv} {vb : Nat} {K : Value → World → Prop} (ho : Ow w v xs) (hl : xs.length ≤ 1000000000000) (hvb : w.heap[vb]? = some (.cells (encV x).toArray T_api_Interval_api_Interval (0, 0)))
    (hK : ∀ a' c' w', Ow w' (.slice a' (xs.length + 1) c') (xs ++ [x]) → Eff w w' (ownL v) → (∀ b ∈ ownL (.slice a' (xs.length + 1) c'), b ∈ ownL v ∨ b = w.heap.size) → K (.slice a' (xs.length + 1) c') w') :
    SEML Pg w (Builtin.append_ #[T_Lapi_Interval, T_Lapi_Interval] T_Lapi_Interval #[v, .slice (some ⟨vb, 0, none⟩) 1 1]) K := by
  refine SEML_app (m := 1) (news := encV x) elem_iv ho rfl (.inr ⟨vb, 0, rfl, fun j u hu => by rw [cellH_of hvb, Nat.zero_add]; exact hu⟩) (by simp only [encV, List.mem_cons, List.not_mem_nil, or_false]; rintro u (rfl | rfl) <;> trivial)
    (by omega) (by omega) (Nat.zero_le _) fun a' c' w' h1 h2 h3 => hK a' c' w' ?_ h2 h3
  unfold Ow
  rw [List.flatMap_append, List.length_append]
  simpa using h1

theorem SEML_all {v : Value} {xs ys : List Iv} {a : Option Addr} {l c : Nat} {K : Value → World → Prop} (ho : Ow w v xs) (hs : SlV w.heap a l ys) (hl : xs.length + ys.length ≤ 1000000000000)
    (hK : ∀ a' c' w', Ow w' (.slice a' (xs.length + l) c') (xs ++ ys) → Eff w w' (ownL v) → (∀ b ∈ ownL (.slice a' (xs.length + l) c'), b ∈ ownL v ∨ b = w.heap.size) → K (.slice a' (xs.length + l) c') w') :
    SEML Pg w (Builtin.append_ #[T_Lapi_Interval, T_Lapi_Interval] T_Lapi_Interval #[v, .slice a l c]) K := by
  have hll := hs.1
  refine SEML_app (m := l) (news := ys.flatMap encV) elem_iv ho (by rw [flat_len, hll]) (sl_src hs) (flat_scal ys) (by omega) (by omega) (Nat.zero_le _) fun a' c' w' h1 h2 h3 => hK a' c' w' ?_ h2 h3
  unfold Ow
  rw [List.flatMap_append, List.length_append, ← hll]
  exact h1

theorem empty_ow {b : Nat} (hb : w.heap[b]? = some (.cells [].toArray T_api_Interval_api_Interval (0, 0))) : Ow w (.slice (some ⟨b, 0, none⟩) 0 0) [] := own_mk hb rfl (Nat.le_refl _) (by simp) rfl rfl (Nat.zero_le _)

theorem r06_Find_spec {a : Option Addr} {l c : Nat} {ys : List Iv} (hs : SlV w.heap a l ys) (hl : l ≤ 1000000000000) (at_ : Int) :
    CALL Pg F_r06_Find [.slice a l c, .int .i64 at_] w fun u w' => Eff w w' [] ∧ ∃ k : Int, u = .int .i64 k ∧ (k = -1 ∧ (∀ y ∈ ys, y.1 ≠ at_) ∨ 0 ≤ k ∧ k < l ∧ (ys.getD k.toNat (0, 0)).1 = at_) := by
  apply C_r06_Find
  unfold D_r06_Find
  have hll := hs.1
  refine LOOP_of (fun vs w' => ∃ k : Nat, vs = [.int .i64 0, .int .i64 k] ∧ k ≤ l ∧ Eff w w' [] ∧ ∀ i, i < k → (ys.getD i (0, 0)).1 ≠ at_)
    (fun vs _ => match vs with | [_, .int _ n] => l - n.toNat | _ => 0) ⟨0, rfl, by omega, Eff.refl w, by simp⟩ ?_
  intro w1 v1 v2 ⟨k, hv, hk, hE1, hno⟩
  simp only [List.cons.injEq, and_true] at hv
  obtain ⟨rfl, rfl⟩ := hv
  simp only [INTV_int]
  refine ITE_d (fun h1 => ?_) (fun h1 => ?_)
  · refine IDX_v (hs.eff hE1) (by omega) (by omega) fun b o g1 g2 => ?_
    have e : (k : Int).toNat = k := by omega
    rw [LDi_of g1]
    refine ITE_eq (fun h2 => ⟨hE1, k, rfl, .inr ⟨by omega, by omega, h2⟩⟩) (fun h2 => ?_)
    rw [e] at h2
    refine BINDw (by omega) (by omega) ⟨⟨k + 1, rfl, by omega, hE1, fun i hi => ?_⟩, by first | omega | (dsimp only; omega)⟩
    rcases Nat.lt_or_ge i k with h | h
    · exact hno i h
    · have : i = k := by omega
      rw [this]; exact h2
  · refine ⟨hE1, -1, rfl, .inl ⟨rfl, fun y hy => ?_⟩⟩
    obtain ⟨i, hi, rfl⟩ := List.getElem_of_mem hy
    have := hno i (by omega)
    have e : ys.getD i (0, 0) = ys[i] := by simp [hi]
    rw [e] at this; exact this

/-- Intervals as the document's Over takes them without running over. -/
def Mid (x : Iv) : Prop := -2199023255552 ≤ x.1 ∧ x.1 ≤ 2199023255552

theorem r06_Any_spec {a : Option Addr} {l c : Nat} {ys : List Iv} (hs : SlV w.heap a l ys) (hl : l ≤ 1000000000000) (hy : ∀ y ∈ ys, Mid y) {i : Iv} (hi : Mid i) :
    CALL Pg F_r06_Any [.slice a l c, .agg #[.int .i64 i.1, .int .i64 i.2]] w fun u w' => Eff w w' [] ∧ u = .bool (overF ys i) := by
  apply C_r06_Any
  unfold D_r06_Any
  have hll := hs.1
  intro b1 w1 hE1 hs1 hb1
  refine LOOP_of (fun vs w' => ∃ k : Nat, vs = [.bool false, .int .i64 k] ∧ k ≤ l ∧ Eff w1 w' [] ∧ ∀ j, j < k → ¬ Ov (ys.getD j (0, 0)) i)
    (fun vs _ => match vs with | [_, .int _ n] => l - n.toNat | _ => 0) ⟨0, rfl, by omega, Eff.refl w1, by simp⟩ ?_
  intro w2 v1 v2 ⟨k, hv, hk, hE2, hno⟩
  simp only [List.cons.injEq, and_true] at hv
  obtain ⟨rfl, rfl⟩ := hv
  rw [INTV_int, BOOLV_bool]
  refine ITE_d (fun h1 => ?_) (fun h1 => ?_)
  · intro w3 hE3 _
    have hE13 := hE2.trans0 hE3
    refine IDX_v ((hs.eff hE1).eff hE13) (by omega) (by omega) fun b o g1 g2 => ?_
    have e : (k : Int).toNat = k := by omega
    rw [e] at g1 g2
    have hb3 := hE13.obj0 hb1
    rw [LDi_of g1, LDi_of g2, LDi_of (cellH_of hb3 0), LDi_of (cellH_of hb3 1)]
    have hyk : Mid (ys.getD k (0, 0)) := by
      have e : ys.getD k (0, 0) = ys[k]'(by omega) := by simp [show k < ys.length by omega]
      rw [e]; exact hy _ (List.getElem_mem _)
    unfold Mid at hyk hi
    refine (r06_Over_spec (x := ys.getD k (0, 0)) (y := i) (by omega)).mono fun u w4 ⟨hE4, hu⟩ => ?_
    subst hu
    rw [BOOLV_bool]
    refine ⟨KEEP_nil, ?_⟩
    have hE := (hE1.trans0 hE13).trans0 hE4
    refine ITE_d (fun h2 => ⟨hE, by rw [overF_true (by omega) h2]⟩) (fun h2 => ?_)
    refine BINDw (by omega) (by omega) ⟨⟨k + 1, rfl, by omega, hE13.trans0 hE4, fun j hj => ?_⟩, by first | omega | (dsimp only; omega)⟩
    rcases Nat.lt_or_ge j k with h | h
    · exact hno j h
    · have : j = k := by omega
      rw [this]; exact h2
  · exact ⟨hE1.trans0 hE2, by rw [overF_false fun j hj => hno j (by omega)]⟩

theorem r06_Put_spec {a : Option Addr} {l c : Nat} {ys : List Iv} (hs : SlV w.heap a l ys) (hl : l ≤ 1000000000) (hy : ∀ y ∈ ys, Mid y) {i : Iv} (hi : Mid i) :
    CALL Pg F_r06_Put [.slice a l c, .agg #[.int .i64 i.1, .int .i64 i.2]] w fun u w' => Eff w w' [] ∧
      (¬ Fit ys i ∧ u = .tuple #[.slice a l c, .bool false] ∨ Fit ys i ∧ ∃ a' c', u = .tuple #[.slice a' (l + 1) c', .bool true] ∧ Ow w' (.slice a' (l + 1) c') (ys ++ [i]) ∧ ∀ b ∈ ownL (.slice a' (l + 1) c'), w.heap.size ≤ b) := by
  apply C_r06_Put
  unfold D_r06_Put
  have hll := hs.1
  intro b1 w1 hE1 hs1 hb1
  have no : ∀ w', Eff w w' [] → ¬ Fit ys i → Eff w w' [] ∧ (¬ Fit ys i ∧ Value.tuple #[.slice a l c, .bool false] = .tuple #[.slice a l c, .bool false] ∨ Fit ys i ∧ ∃ a' c', Value.tuple #[.slice a l c, .bool false] = .tuple #[.slice a' (l + 1) c', .bool true] ∧ Ow w' (.slice a' (l + 1) c') (ys ++ [i]) ∧ ∀ b ∈ ownL (.slice a' (l + 1) c'), w.heap.size ≤ b) :=
    fun w' hE hf => ⟨hE, .inl ⟨hf, rfl⟩⟩
  rw [LDi_of (cellH_of hb1 0)]
  refine ITE_d (fun h1 => no w1 hE1 (by unfold Fit; omega)) (fun h1 => ?_)
  rw [LDi_of (cellH_of hb1 1)]
  refine ITE_d (fun h2 => no w1 hE1 (by unfold Fit; omega)) (fun h2 => ?_)
  rw [LDi_of (cellH_of hb1 0)]
  refine ITE_d (fun h3 => no w1 hE1 (by unfold Fit; omega)) (fun h3 => ?_)
  rw [LDi_of (cellH_of hb1 1)]
  refine ITE_d (fun h4 => no w1 hE1 (by unfold Fit; omega)) (fun h4 => ?_)
  rw [LDi_of (cellH_of hb1 0), LDi_of (cellH_of hb1 1)]
  refine (r06_Any_spec (hs.eff hE1) (by omega) hy hi).mono fun u w2 ⟨hE2, hu⟩ => ?_
  subst hu
  rw [BOOLV_bool]
  have hE12 := hE1.trans0 hE2
  refine ITE_intro (fun h5 => no w2 hE12 (by unfold Fit; rw [h5]; simp)) (fun h5 => ?_)
  have hf : Fit ys i := ⟨by omega, by omega, by omega, by omega, h5⟩
  intro w3 hE3 _
  have hE13 := hE12.trans0 hE3
  have hb3 := (hE2.trans0 hE3).obj0 hb1
  rw [LDi_of (cellH_of hb3 0), LDi_of (cellH_of hb3 1)]
  have big : ∀ {w' w'' : World} {S : List Nat}, Eff w w' [] → Eff w' w'' S → (∀ b ∈ S, w.heap.size ≤ b) → Eff w w'' [] := fun h1 h2 h3 => h1.own h2 h3
  have fin : ∀ (a' : Option Addr) (c' : Nat) (w' : World), Eff w w' [] → Ow w' (.slice a' (ys.length + 1) c') (ys ++ [i]) → (∀ b ∈ ownL (.slice a' (ys.length + 1) c'), w.heap.size ≤ b) →
      Eff w w' [] ∧ (¬ Fit ys i ∧ Value.tuple #[.slice a' (ys.length + 1) c', .bool true] = .tuple #[.slice a l c, .bool false] ∨ Fit ys i ∧ ∃ a2 c2, Value.tuple #[.slice a' (ys.length + 1) c', .bool true] = .tuple #[.slice a2 (l + 1) c2, .bool true] ∧ Ow w' (.slice a2 (l + 1) c2) (ys ++ [i]) ∧ ∀ b ∈ ownL (.slice a2 (l + 1) c2), w.heap.size ≤ b) :=
    fun a' c' w' h1 h2 h3 => ⟨h1, .inr ⟨hf, a', c', by rw [hll], by rw [hll]; exact h2, by rw [hll]; exact h3⟩⟩
  -- the two appends, behind both new blocks
  have tail : ∀ (w' : World) (b2 vb : Nat), Eff w w' [] → w.heap.size ≤ b2 → w'.heap[b2]? = some (.cells [].toArray T_api_Interval_api_Interval (0, 0)) → w'.heap[vb]? = some (.cells (encV i).toArray T_api_Interval_api_Interval (0, 0)) → vb ≠ b2 →
      SEML Pg w' (Builtin.append_ #[T_Lapi_Interval, T_Lapi_Interval] T_Lapi_Interval #[.slice (some ⟨b2, 0, none⟩) 0 0, .slice a l c]) fun v_4 w_9 =>
           SLV v_4 fun a_3 l_3 c_3 =>
           ((
            KEEP w_9 []) ∧
            SEML Pg w_9 (Builtin.append_ #[T_Lapi_Interval, T_Lapi_Interval] T_Lapi_Interval #[.slice a_3 l_3 c_3, .slice (some ⟨vb, 0, none⟩) 1 1]) fun v_5 w_10 =>
            SLV v_5 fun a_4 l_4 c_4 =>
            ((
             KEEP w_10 []) ∧
             (Eff w w_10 [] ∧ (¬ Fit ys i ∧ Value.tuple #[.slice a_4 l_4 c_4, .bool true] = .tuple #[.slice a l c, .bool false] ∨ Fit ys i ∧ ∃ a' c', Value.tuple #[.slice a_4 l_4 c_4, .bool true] = .tuple #[.slice a' (l + 1) c', .bool true] ∧ Ow w_10 (.slice a' (l + 1) c') (ys ++ [i]) ∧ ∀ b ∈ ownL (.slice a' (l + 1) c'), w.heap.size ≤ b)))) := by
    intro w' b2 vb hE' hb2 hc2 hvb hne
    have hb0 : ∀ b ∈ ownL (.slice (some ⟨b2, 0, none⟩) 0 0), w.heap.size ≤ b := by simpa [ownL, Value.ownBlock] using hb2
    refine SEML_all (empty_ow hc2) (hs.eff hE') (by simp; omega) fun a3 c3 w4 ho4 hE4 hn4 => ?_
    rw [SLV_slice]
    refine ⟨KEEP_nil, ?_⟩
    have hE04 := big hE' hE4 hb0
    have hn4' : ∀ b ∈ ownL (.slice a3 (0 + l) c3), w.heap.size ≤ b := fun b hb => by
      rcases hn4 b hb with h | h
      · exact hb0 b h
      · rw [h]; exact hE'.size
    have hvb4 : w4.heap[vb]? = some (.cells (encV i).toArray T_api_Interval_api_Interval (0, 0)) := hE4.obj hvb (by simpa [ownL, Value.ownBlock] using hne)
    have ho4' : Ow w4 (.slice a3 (0 + l) c3) ys := by simpa using ho4
    refine SEML_one ho4' (by omega) hvb4 fun a4 c4 w5 ho5 hE5 hn5 => ?_
    rw [SLV_slice]
    refine ⟨KEEP_nil, ?_⟩
    refine fin a4 c4 w5 (big hE04 hE5 hn4') ho5 fun b hb => ?_
    rcases hn5 b hb with h | h
    · exact hn4' b h
    · rw [h]; exact hE04.size
  refine ⟨fun b2 w4 hE4 hs4 hb4 => ?_, fun b5 w11 hE11 hs11 hb11 => ⟨KEEP_nil, fun b6 w12 hE12' hs12 hb12 => ⟨KEEP_nil, ?_⟩⟩⟩
  · have hb34 := hE4.obj0 hb3
    have hE04 := hE13.trans0 hE4
    have hb20 : w.heap.size ≤ b2 := Nat.le_trans hE13.size hs4
    refine ⟨KEEP_cell (cellH_of hb34 0) (KEEP_cell (cellH_of hb34 1) KEEP_nil), ?_, fun vb w8 hE8 hs8 hb8 => ⟨KEEP_nil, ?_⟩⟩
    · have hb0 : ∀ b ∈ ownL (.slice (some ⟨b2, 0, none⟩) 0 0), w.heap.size ≤ b := by simpa [ownL, Value.ownBlock] using hb20
      refine SEML_all (empty_ow hb4) (hs.eff hE04) (by simp; omega) fun a1 c1 w5 ho5 hE5 hn5 => ?_
      rw [SLV_slice]
      have hE05 := big hE04 hE5 hb0
      have hb1n : b1 ∉ ownL (.slice (some ⟨b2, 0, none⟩) 0 0) := by
        have := obj_lt hb3
        simp [ownL, Value.ownBlock]; omega
      have hb35 := hE5.obj hb34 hb1n
      refine ⟨KEEP_cell (cellH_of hb35 0) (KEEP_cell (cellH_of hb35 1) KEEP_nil), fun vb w6 hE6 hs6 hb6 => ⟨KEEP_nil, ?_⟩⟩
      have ho6 : Ow w6 (.slice a1 (0 + l) c1) ys := by
        have h := ho5.eff hE6
        simpa using h
      have hn5' : ∀ b ∈ ownL (.slice a1 (0 + l) c1), w.heap.size ≤ b := fun b hb => by
        rcases hn5 b (by simpa using hb) with h | h
        · exact hb0 b h
        · rw [h]; exact hE04.size
      have hE06 := hE05.trans0 hE6
      refine SEML_one ho6 (by omega) hb6 fun a4 c4 w7 ho7 hE7 hn7 => ?_
      rw [SLV_slice]
      refine ⟨KEEP_nil, fin a4 c4 w7 (big hE06 hE7 hn5') ho7 fun b hb => ?_⟩
      rcases hn7 b hb with h | h
      · exact hn5' b h
      · rw [h]; exact hE06.size
    · exact tail w8 b2 vb (hE04.trans0 hE8) hb20 (hE8.obj0 hb4) hb8 (by have := obj_lt hb4; omega)
  · exact tail w12 b6 b5 ((hE13.trans0 hE11).trans0 hE12') (Nat.le_trans (hE13.trans0 hE11).size hs12) hb12 (hE12'.obj0 hb11) (by have := obj_lt hb11; omega)

theorem r06_Drop_spec {a : Option Addr} {l c : Nat} {ys : List Iv} (hs : SlV w.heap a l ys) (hl : l ≤ 1000000000) (at_ : Int) :
    CALL Pg F_r06_Drop [.slice a l c, .int .i64 at_] w fun u w' => Eff w w' [] ∧ ∃ a' l' c', u = .slice a' l' c' ∧ Ow w' u (ys.filter fun y => y.1 != at_) ∧ ∀ b ∈ ownL u, w.heap.size ≤ b := by
  apply C_r06_Drop
  unfold D_r06_Drop
  have hll := hs.1
  intro b1 w1 hE1 hs1 hb1
  refine LOOP_of (fun vs w' => ∃ (k : Nat) (v : Value), vs = [v, .int .i64 k] ∧ k ≤ l ∧ Eff w w' [] ∧ Ow w' v ((ys.take k).filter fun y => y.1 != at_) ∧ ∀ b ∈ ownL v, w.heap.size ≤ b)
    (fun vs _ => match vs with | [_, .int _ n] => l - n.toNat | _ => 0) ⟨0, _, rfl, by omega, hE1, by simpa using empty_ow hb1, by simpa [ownL, Value.ownBlock] using hs1⟩ ?_
  intro w2 v1 v2 ⟨k, v, hv, hk, hE2, ho, hn⟩
  simp only [List.cons.injEq, and_true] at hv
  obtain ⟨rfl, rfl⟩ := hv
  obtain ⟨a1, c1, rfl⟩ := own_slice ho
  rw [INTV_int, SLV_slice]
  have hlen : ((ys.take k).filter fun y => y.1 != at_).length ≤ k := Nat.le_trans (List.length_filter_le _ _) (by simp; omega)
  refine ITE_d (fun h1 => ?_) (fun h1 => ?_)
  · have e : (k : Int).toNat = k := by omega
    have ht : ys.take (k + 1) = ys.take k ++ [ys.getD k (0, 0)] := by
      rw [List.take_succ_eq_append_getElem (by omega)]
      simp [show k < ys.length by omega]
    refine IDX_v (hs.eff hE2) (by omega) (by omega) fun b o g1 g2 => ?_
    rw [e] at g1 g2
    rw [LDi_of g1]
    refine ITE_ne (fun h2 => ?_) (fun h2 => ?_)
    · refine IDX_v (hs.eff hE2) (by omega) (by omega) fun b o g1 g2 => ?_
      rw [e] at g1 g2
      rw [LDi_of g1, LDi_of g2]
      intro b4 w3 hE3 hs3 hb3
      refine SEML_one (x := ys.getD k (0, 0)) (ho.eff hE3) (by omega) hb3 fun a2 c2 w4 ho4 hE4 hn4 => ?_
      rw [SLV_slice]
      have hE03 := hE2.trans0 hE3
      refine BINDw (by omega) (by omega) ⟨⟨k + 1, _, rfl, by omega, hE03.own hE4 hn, ?_, fun b hb => ?_⟩, by first | omega | (dsimp only; omega)⟩
      · rw [ht, List.filter_append]
        simp only [List.filter_cons, List.filter_nil]
        rw [if_pos (by simpa using h2)]
        exact ho4
      · rcases hn4 b hb with h | h
        · exact hn b h
        · rw [h]; exact hE03.size
    · refine BINDw (by omega) (by omega) ⟨⟨k + 1, _, rfl, by omega, hE2, ?_, hn⟩, by first | omega | (dsimp only; omega)⟩
      rw [ht, List.filter_append]
      simp only [List.filter_cons, List.filter_nil]
      rw [if_neg (by simpa using h2), List.append_nil]
      exact ho
  · have : k = ys.length := by omega
    subst this
    rw [List.take_length] at ho
    exact ⟨hE2, a1, _, c1, rfl, by simpa using ho, by simpa using hn⟩

end
end Go.Proofs.Ytpopdookpbmmpaa
