/- The map of package span as a part of a greater block. -/
import Derived.Test.YtpopdookpbmmpaaSpan15
namespace Go.Proofs.Ytpopdookpbmmpaa
open Go.Den
set_option maxRecDepth 100000
set_option maxHeartbeats 4000000

/-- The map at place o of block m, behind the cells pre, holds these intervals, in the slice v. -/
structure Sg (pre : List Value) (mt : TypeId) (po : Nat) (w : World) (m : Nat) (v : Value) (xs : List Iv) : Prop where
  cell : w.heap[m]? = some (.cells (pre ++ [v]).toArray mt (0, 0))
  own : Ow w v xs
  apart : m ∉ ownL v
  asc : Asc xs
  len : xs.length ≤ 100000000
  off : po = pre.length

section
variable {pre : List Value} {mt : TypeId} {po : Nat} {w₀ w : World} {m : Nat} {xs : List Iv}

theorem NNp {b o : Nat} {K : Nat → Nat → Prop} : NN (some ⟨b, o, none⟩) K = K b o := rfl
theorem Sg.at {v : Value} (h : Sg pre mt po w m v xs) : cellH w.heap m po = some v := by
  rw [cellH_of h.cell, h.off, List.getElem?_append_right (Nat.le_refl _), Nat.sub_self]
  rfl
theorem ST1_last {w : World} {v v' : Value} {K : World → Prop} (ho : po = pre.length) (hs : SCAL v') (hb : w.heap[m]? = some (.cells (pre ++ [v]).toArray mt (0, 0)))
    (hK : ∀ w', w'.heap[m]? = some (.cells (pre ++ [v']).toArray mt (0, 0)) → Eff w w' [m] → K w') : ST1 w ⟨m, po, none⟩ v' K := by
  refine ST1_of hs hb (by simp; omega) fun w' hb' hE' => hK w' ?_ hE'
  rw [hb', ho, List.set_append_right _ _ (Nat.le_refl _), Nat.sub_self]
  rfl

theorem Sg.eff {w' : World} {m : Nat} {v : Value} {xs : List Iv} (h : Sg pre mt po w m v xs) {S : List Nat} (hE : Eff w w' S) (h1 : m ∉ S) (h2 : ∀ b ∈ ownL v, b ∉ S) : Sg pre mt po w' m v xs :=
  ⟨hE.obj h.cell h1, own_eff h.own hE h2, h.apart, h.asc, h.len, h.off⟩
theorem Sg.eff0 {w' : World} {m : Nat} {v : Value} {xs : List Iv} (h : Sg pre mt po w m v xs) (hE : Eff w w' []) : Sg pre mt po w' m v xs := h.eff hE (by simp) (by simp)

theorem Sg.form {m : Nat} {v : Value} {xs : List Iv} (h : Sg pre mt po w m v xs) : ∃ a c, v = .slice a xs.length c ∧ SlV w.heap a xs.length xs := by
  obtain ⟨a, c, rfl⟩ := own_slice h.own
  exact ⟨a, c, rfl, h.own.sl.2⟩

theorem find_specG {m : Nat} {v : Value} {xs : List Iv} (h : Sg pre mt po w m v xs) (at_ : Int) : CALL Pg F_pspan_Map_find [.pointer (some ⟨m, po, none⟩), .int .i64 at_] w fun u w' => Eff w w' [] ∧
    ∃ k : Nat, Low xs at_ k ∧ u = .tuple #[.int .i64 k, .bool (decide (k < xs.length ∧ (xs.getD k (0, 0)).1 = at_))] := by
  apply C_pspan_Map_find
  unfold D_pspan_Map_find
  obtain ⟨a, c, rfl, hs⟩ := h.form
  have hlen := h.len
  rw [NNp, LDl_of h.at]
  refine (Search_spec hs (by omega) h.asc at_).mono fun u w1 ⟨hE1, k, hk, hu⟩ => ?_
  subst hu
  rw [TUP_ib]
  exact ⟨hE1, k, hk, rfl⟩

theorem Get_specG {m : Nat} {v : Value} {xs : List Iv} (h : Sg pre mt po w m v xs) (at_ : Int) : CALL Pg F_pspan_Map_Get [.pointer (some ⟨m, po, none⟩), .int .i64 at_] w fun u w' => Eff w w' [] ∧
    u = .tuple #[.agg #[.int .i64 ((getF xs at_).getD (0, 0)).1, .int .i64 ((getF xs at_).getD (0, 0)).2], .bool (getF xs at_).isSome] := by
  apply C_pspan_Map_Get
  unfold D_pspan_Map_Get
  intro b1 w1 hE1 hs1 hb1
  have h1 := h.eff0 hE1
  refine (find_specG h1 at_).mono fun u w2 ⟨hE2, k, hk, hu⟩ => ?_
  subst hu
  rw [TUP_ib, getF_low h.asc hk]
  have hE12 := hE1.trans0 hE2
  have hb2 := hE2.obj0 hb1
  by_cases hc : k < xs.length ∧ (xs.getD k (0, 0)).1 = at_
  · rw [if_pos hc]
    refine ITE_intro (fun h => by rw [decide_eq_true hc] at h; simp at h) (fun _ => ?_)
    have h2 := h1.eff0 hE2
    obtain ⟨a, c, rfl, hs⟩ := h2.form
    rw [NNp, LDl_of h2.at]
    refine IDX_v hs (by omega) (by omega) fun b o g1 g2 => ?_
    have e : (k : Int).toNat = k := by omega
    rw [e] at g1 g2
    rw [LDi_of g1, LDi_of g2]
    refine ST2_of trivial trivial hE12 hs1 hb2 fun w' hE' hb' _ => ?_
    rw [LDi_of (cellH_of hb' 0), LDi_of (cellH_of hb' 1)]
    exact ⟨hE', rfl⟩
  · rw [if_neg hc]
    refine ITE_intro (fun _ => ?_) (fun h => by simp at h; exact absurd h hc)
    refine ST2_of trivial trivial hE12 hs1 hb2 fun w' hE' hb' _ => ?_
    rw [LDi_of (cellH_of hb' 0), LDi_of (cellH_of hb' 1)]
    exact ⟨hE', rfl⟩

theorem All_specG {m : Nat} {v : Value} {xs : List Iv} (h : Sg pre mt po w m v xs) : CALL Pg F_pspan_Map_All [.pointer (some ⟨m, po, none⟩)] w fun u w' => Eff w w' [] ∧ (∃ a' c', u = .slice a' xs.length c') ∧ Ow w' u xs ∧ ∀ b ∈ ownL u, w.heap.size ≤ b := by
  apply C_pspan_Map_All
  unfold D_pspan_Map_All
  obtain ⟨a, c, rfl, hs⟩ := h.form
  have := h.len
  rw [NNp, LDl_of h.at]
  refine (Clone_spec hs (by omega)).mono fun u w1 ⟨hE1, ⟨a', c', hu⟩, ho, hb⟩ => ?_
  subst hu
  rw [SLV_slice]
  exact ⟨hE1, ⟨a', c', rfl⟩, ho, hb⟩

theorem Bytes_specG {m : Nat} {v : Value} {xs : List Iv} (h : Sg pre mt po w m v xs) (hl : Lens xs) (hn : xs.length ≤ 1000000) : CALL Pg F_pspan_Map_Bytes [.pointer (some ⟨m, po, none⟩)] w fun u w' => Eff w w' [] ∧ u = .int .i64 (sumF xs) := by
  apply C_pspan_Map_Bytes
  unfold D_pspan_Map_Bytes
  obtain ⟨a, c, rfl, hs⟩ := h.form
  rw [NNp, LDl_of h.at]
  refine LOOP_of (fun vs w' => ∃ k : Nat, vs = [.int .i64 (sumF (xs.take k)), .int .i64 k] ∧ k ≤ xs.length ∧ Eff w w' [])
    (fun vs _ => match vs with | [_, .int _ n] => xs.length - n.toNat | _ => 0) ⟨0, by simp [sumF], by omega, Eff.refl w⟩ ?_
  intro w1 v1 v2 ⟨k, hv, hk, hE1⟩
  simp only [List.cons.injEq, and_true] at hv
  obtain ⟨rfl, rfl⟩ := hv
  simp only [INTV_int]
  refine ITE_d (fun h1 => ?_) (fun h1 => ?_)
  · refine IDX_v (hs.eff hE1) (by omega) (by omega) fun b o g1 g2 => ?_
    have e : (k : Int).toNat = k := by omega
    rw [e] at g1 g2
    rw [LDi_of g1, LDi_of g2]
    intro b3 w2 hE2 hs2 hb2
    refine ST2_of trivial trivial hE2 hs2 hb2 fun w4 hE4 hb4 _ => ?_
    rw [LDi_of (cellH_of hb4 1)]
    have hst := sumF_take (xs := xs) (k := k) (by omega)
    have hb := sumF_le hl (k + 1)
    have hb1 := sumF_le hl k
    rw [← hst]
    exact BINDw (by omega) (by omega) (BINDw (by omega) (by omega) ⟨⟨k + 1, rfl, by omega, hE1.trans0 hE4⟩, by first | omega | (dsimp only; omega)⟩)
  · have : k = xs.length := by omega
    subst this
    exact ⟨hE1, by rw [List.take_length]⟩

theorem Over_specG {m : Nat} {v : Value} {xs : List Iv} {i : Iv} (h : Sg pre mt po w m v xs) (hr : Rng xs) (hap : Ap xs) (hi : -1099511627776 ≤ i.1 ∧ i.1 ≤ 1099511627776) :
    CALL Pg F_pspan_Map_Over [.pointer (some ⟨m, po, none⟩), .agg #[.int .i64 i.1, .int .i64 i.2]] w fun u w' => Eff w w' [] ∧ u = .bool (overF xs i) := by
  apply C_pspan_Map_Over
  unfold D_pspan_Map_Over
  have hlen := h.len
  intro b1 w1 hE1 hs1 hb1
  rw [LDi_of (cellH_of hb1 1)]
  refine ITE_d (fun h1 => ?_) (fun h1 => ?_)
  · refine ⟨hE1, ?_⟩
    rw [overF_false fun k _ ho => by unfold Ov at ho; omega]
  rw [LDi_of (cellH_of hb1 0)]
  have hp1 := h.eff0 hE1
  refine (find_specG hp1 i.1).mono fun u w2 ⟨hE2, k, hk, hu⟩ => ?_
  subst hu
  rw [TUP_ib]
  intro w3 hE3 _
  have hp3 := (hp1.eff0 hE2).eff0 hE3
  have hE13 := (hE1.trans0 hE2).trans0 hE3
  have hb3 := (hE2.trans0 hE3).obj0 hb1
  obtain ⟨a, c, rfl, hs⟩ := hp3.form
  obtain ⟨hk0, hk1, hk2⟩ := hk
  have tail : (∀ j, j < k → ¬ Ov (xs.getD j (0, 0)) i) → ∀ w4, Eff w3 w4 [] → NN (some ⟨m, po, none⟩) fun b_6 o_5 => LDl w4 ⟨b_6, o_5, none⟩ fun _ l_3 _ => ITE (decide ((k : Int) < (l_3 : Int)))
      (LDi .i64 w4 ⟨b1, 1, none⟩ fun n_10 => NN (some ⟨m, po, none⟩) fun b_7 o_6 => LDl w4 ⟨b_7, o_6, none⟩ fun a_4 l_4 _ => IDX a_4 l_4 k 2 fun b_8 o_7 => LDi .i64 w4 ⟨b_8, o_7, none⟩ fun n_11 => LDi .i64 w4 ⟨b1, 0, none⟩ fun n_12 =>
        BIND (IntKind.i64.wrap (n_11 - n_12)) fun n_13 => Eff w w4 [] ∧ (Value.bool (decide (n_10 > n_13)) = .bool (overF xs i)))
      (Eff w w4 [] ∧ Value.bool false = .bool (overF xs i)) := by
    intro hno w4 hE4
    have hp4 := hp3.eff0 hE4
    have hb4 := hE4.obj0 hb3
    have hE14 := hE13.trans0 hE4
    rw [NNp, LDl_of hp4.at]
    refine ITE_d (fun h2 => ?_) (fun h2 => ?_)
    · have hkl : k < xs.length := by omega
      rw [LDi_of (cellH_of hb4 1), NNp, LDl_of hp4.at]
      refine IDX_v (hs.eff hE4) (by omega) (by omega) fun b o g1 g2 => ?_
      have e : (k : Int).toNat = k := by omega
      rw [e] at g1 g2
      rw [LDi_of g1, LDi_of (cellH_of hb4 0)]
      have hrk := hr.at hkl
      have hki := hk2 k (Nat.le_refl _) hkl
      refine BINDw (by omega) (by omega) ⟨hE14, ?_⟩
      by_cases hc : i.2 > (xs.getD k (0, 0)).1 - i.1
      · rw [overF_true hkl (by unfold Ov; omega), decide_eq_true hc]
      · rw [decide_eq_false hc, overF_false fun j hj ho => ?_]
        rcases Nat.lt_or_ge j k with h3 | h3
        · exact hno j h3 ho
        · have hrj := hr.at hj
          have : (xs.getD k (0, 0)).1 ≤ (xs.getD j (0, 0)).1 := by
            rcases Nat.lt_or_ge k j with h4 | h4
            · have := h.asc k j h4 hj; omega
            · have : j = k := by omega
              rw [this]; omega
          unfold Ov at ho
          omega
    · refine ⟨hE14, ?_⟩
      rw [overF_false fun j hj ho => hno j (by omega) ho]
  refine ITE_d (fun h2 => ?_) (fun h2 => ?_)
  · rw [NNp, LDl_of hp3.at]
    have hkl : k - 1 < xs.length := by omega
    have hrk := hr.at hkl
    have hki := hk1 (k - 1) (by omega)
    have e : ((k : Int) - 1).toNat = k - 1 := by omega
    refine BINDw (by omega) (by omega) (IDX_v hs (by omega) (by omega) fun b o g1 g2 => ?_)
    rw [e] at g1 g2
    rw [LDi_of g2, LDi_of (cellH_of hb3 0), NNp, LDl_of hp3.at]
    refine BINDw (by omega) (by omega) (IDX_v hs (by omega) (by omega) fun b o g1 g2 => ?_)
    rw [e] at g1 g2
    rw [LDi_of g1]
    refine BINDw (by omega) (by omega) (ITE_d (fun h3 => ?_) (fun h3 => ?_))
    · refine ⟨hE13, ?_⟩
      rw [overF_true hkl (by unfold Ov; omega)]
    · intro w4 hE4 _
      refine tail (fun j hj ho => ?_) w4 hE4
      have hrj := hr.at (k := j) (by omega)
      rcases Nat.lt_or_ge j (k - 1) with h4 | h4
      · have := hap j (k - 1) h4 hkl
        unfold Ov at ho; omega
      · have : j = k - 1 := by omega
        rw [this] at ho
        unfold Ov at ho; omega
  · intro w4 hE4 _
    exact tail (fun j hj => by omega) w4 hE4

theorem Put_specG {m : Nat} {v : Value} {xs : List Iv} {i : Iv} (h : Sg pre mt po w m v xs) (hr : Rng xs) (hap : Ap xs) (hlen : xs.length < 100000000) :
    CALL Pg F_pspan_Map_Put [.pointer (some ⟨m, po, none⟩), .agg #[.int .i64 i.1, .int .i64 i.2]] w fun u w' => Eff w w' (m :: ownL v) ∧
      ∃ v' xs', Sg pre mt po w' m v' xs' ∧ (∀ b ∈ ownL v', b ∈ ownL v ∨ w.heap.size ≤ b) ∧ (¬ Fit xs i ∧ u = .bool false ∧ xs' = xs ∨ Fit xs i ∧ u = .bool true ∧ ∃ k, Low xs i.1 k ∧ xs' = insL xs i k) := by
  apply C_pspan_Map_Put
  unfold D_pspan_Map_Put
  intro b1 w1 hE1 hs1 hb1
  have no : ∀ w', Eff w w' [] → ¬ Fit xs i → Eff w w' (m :: ownL v) ∧ ∃ v' xs', Sg pre mt po w' m v' xs' ∧ (∀ b ∈ ownL v', b ∈ ownL v ∨ w.heap.size ≤ b) ∧ (¬ Fit xs i ∧ Value.bool false = .bool false ∧ xs' = xs ∨ Fit xs i ∧ Value.bool false = .bool true ∧ ∃ k, Low xs i.1 k ∧ xs' = insL xs i k) :=
    fun w' hE hf => ⟨hE.weak (by simp), v, xs, h.eff0 hE, fun b hb => .inl hb, .inl ⟨hf, rfl, rfl⟩⟩
  rw [LDi_of (cellH_of hb1 0)]
  refine ITE_d (fun h1 => no w1 hE1 (by unfold Fit; omega)) (fun h1 => ?_)
  rw [LDi_of (cellH_of hb1 1)]
  refine ITE_d (fun h2 => no w1 hE1 (by unfold Fit; omega)) (fun h2 => ?_)
  rw [LDi_of (cellH_of hb1 1)]
  refine ITE_d (fun h3 => no w1 hE1 (by unfold Fit; omega)) (fun h3 => ?_)
  rw [LDi_of (cellH_of hb1 0)]
  refine ITE_d (fun h4 => no w1 hE1 (by unfold Fit; omega)) (fun h4 => ?_)
  rw [LDi_of (cellH_of hb1 0), LDi_of (cellH_of hb1 1)]
  have hp1 := h.eff0 hE1
  refine (Over_specG hp1 hr hap (by omega)).mono fun u w2 ⟨hE2, hu⟩ => ?_
  subst hu
  rw [BOOLV_bool]
  have hE12 := hE1.trans0 hE2
  refine ITE_intro (fun h5 => no w2 hE12 (by unfold Fit; rw [h5]; simp)) (fun h5 => ?_)
  have hf : Fit xs i := ⟨by omega, by omega, by omega, by omega, h5⟩
  rw [LDi_of (cellH_of (hE2.obj0 hb1) 0)]
  have hp2 := hp1.eff0 hE2
  refine (find_specG hp2 i.1).mono fun u w3 ⟨hE3, k, hk, hu⟩ => ?_
  subst hu
  rw [TUP_ib]
  intro w4 hE4 _
  have hp4 := (hp2.eff0 hE3).eff0 hE4
  have hE14 := (hE12.trans0 hE3).trans0 hE4
  have hb4 := ((hE2.trans0 hE3).trans0 hE4).obj0 hb1
  obtain ⟨a, c, rfl, hs⟩ := hp4.form
  rw [NNp, LDl_of hp4.at, LDi_of (cellH_of hb4 0), LDi_of (cellH_of hb4 1)]
  intro b3 w5 hE5 hs5 hb5
  have hp5 := hp4.eff0 hE5
  refine ⟨KEEP_cell hp5.at KEEP_nil, ?_⟩
  have hmlt := obj_lt hp4.cell
  have hb3v : b3 ∉ ownL (.slice a xs.length c) := by
    intro hb
    have : b3 < w4.heap.size := by
      rcases hp4.own.2 with ⟨h6, _⟩ | ⟨g, cap, cur, h6, _, hg, _⟩
      · rw [h6] at hb; simp [ownL, Value.ownBlock] at hb
      · rw [h6] at hb; simp [ownL, Value.ownBlock] at hb; rw [hb]; exact obj_lt hg
    omega
  have ho5 := hp5.own
  refine (Insert_spec (x := i) ho5 (by omega) hk.1 hb5 hb3v).mono fun u w6 ⟨⟨a', c', hu⟩, ho6, hE6, hn6⟩ => ?_
  subst hu
  rw [SLV_slice]
  refine ⟨KEEP_nil, ?_⟩
  have hm5 : w6.heap[m]? = some (.cells (pre ++ [Value.slice a xs.length c]).toArray mt (0, 0)) := hE6.obj hp5.cell h.apart
  rw [NNp]
  refine ST1_last h.off trivial hm5 fun w7 hb7 hE7 => ?_
  refine ⟨KEEP_nil, ?_⟩
  have hE15 := hE14.trans0 hE5
  have hm6 : m ∉ ownL (.slice a' (xs.length + 1) c') := by
    intro hb
    rcases hn6 m hb with h6 | h6
    · exact h.apart h6
    · have := hE5.size; omega
  refine ⟨?_, _, insL xs i k, ⟨hb7, ?_, hm6, ?_, ?_, h.off⟩, ?_, .inr ⟨hf, rfl, k, hk, rfl⟩⟩
  · refine ((hE15.trans hE6).trans hE7).weak fun b hb _ => ?_
    simp at hb ⊢
    rcases hb with h | h
    · exact .inr h
    · exact .inl h
  · exact own_eff ho6 hE7 (by intro b hb hbm; simp at hbm; subst hbm; exact hm6 hb)
  · exact (insL_ap hr hap hk hf).asc (insL_rng hr hf)
  · rw [insL_len hk.1]; omega
  · intro b hb
    rcases hn6 b hb with h6 | h6
    · left; exact h6
    · right; exact Nat.le_trans hE15.size h6

theorem Drop_specG {m : Nat} {v : Value} {xs : List Iv} (h : Sg pre mt po w m v xs) (hr : Rng xs) (hap : Ap xs) (at_ : Int) :
    CALL Pg F_pspan_Map_Drop [.pointer (some ⟨m, po, none⟩), .int .i64 at_] w fun u w' => Eff w w' (m :: ownL v) ∧
      ∃ v' xs', Sg pre mt po w' m v' xs' ∧ (∀ b ∈ ownL v', b ∈ ownL v ∨ w.heap.size ≤ b) ∧
        (getF xs at_ = none ∧ u = .tuple #[.agg #[.int .i64 0, .int .i64 0], .bool false] ∧ xs' = xs ∨
          ∃ k, k < xs.length ∧ (xs.getD k (0, 0)).1 = at_ ∧ getF xs at_ = some (xs.getD k (0, 0)) ∧ u = .tuple #[.agg #[.int .i64 (xs.getD k (0, 0)).1, .int .i64 (xs.getD k (0, 0)).2], .bool true] ∧ xs' = dropL xs k) := by
  apply C_pspan_Map_Drop
  unfold D_pspan_Map_Drop
  have hlen := h.len
  intro b1 w1 hE1 hs1 hb1
  have hp1 := h.eff0 hE1
  refine (find_specG hp1 at_).mono fun u w2 ⟨hE2, k, hk, hu⟩ => ?_
  subst hu
  have hgf := getF_low h.asc hk
  rw [TUP_ib]
  have hE12 := hE1.trans0 hE2
  have hp2 := hp1.eff0 hE2
  have hb2 := hE2.obj0 hb1
  by_cases hc : k < xs.length ∧ (xs.getD k (0, 0)).1 = at_
  · rw [if_pos hc] at hgf
    refine ITE_intro (fun h => by rw [decide_eq_true hc] at h; simp at h) (fun _ => ?_)
    obtain ⟨a, c, rfl, hs⟩ := hp2.form
    rw [NNp, LDl_of hp2.at]
    refine IDX_v hs (by omega) (by omega) fun b o g1 g2 => ?_
    have e : (k : Int).toNat = k := by omega
    rw [e] at g1 g2
    rw [LDi_of g1, LDi_of g2]
    intro b4 w5 hE5 hs5 hb5
    refine ST2_of trivial trivial hE5 hs5 hb5 fun w7 hE7 hb7 _ => ?_
    have hp7 := hp2.eff0 hE7
    have hE17 := hE12.trans0 hE7
    have hb17 := hE7.obj0 hb2
    rw [NNp, LDl_of hp7.at]
    refine BINDw (by omega) (by omega) ?_
    refine (Delete_spec (i := k) hp7.own (by omega) hc.1).mono fun u w8 ⟨⟨a', c', hu⟩, ho8, hE8, hn8⟩ => ?_
    subst hu
    rw [SLV_slice, NNp]
    have own_lt : ∀ b ∈ ownL (.slice a xs.length c), b < w.heap.size := by
      intro b hb
      rcases h.own.2 with ⟨h6, _⟩ | ⟨g, cap, cur, h6, _, hg, _⟩
      · rw [h6] at hb; simp [ownL, Value.ownBlock] at hb
      · rw [h6] at hb; simp [ownL, Value.ownBlock] at hb; rw [hb]; exact obj_lt hg
    have hmlt := obj_lt h.cell
    have hm8 : w8.heap[m]? = some (.cells (pre ++ [Value.slice a xs.length c]).toArray mt (0, 0)) := hE8.obj hp7.cell h.apart
    refine ST1_last h.off trivial hm8 fun w9 hb9 hE9 => ?_
    have hsz2 := hE12.size
    have hb4n : b4 ∉ ownL (.slice a xs.length c) := fun hb => by have := own_lt _ hb; omega
    have hb1n : b1 ∉ ownL (.slice a xs.length c) := fun hb => by have := own_lt _ hb; omega
    have hb49 := hE9.obj (hE8.obj hb7 hb4n) (by simp; omega)
    have hb19 := hE9.obj (hE8.obj hb17 hb1n) (by simp; omega)
    rw [LDi_of (cellH_of hb49 0), LDi_of (cellH_of hb49 1)]
    refine ST1_of trivial hb19 (by simp) fun w10 hb10 hE10 => ST1_of trivial hb10 (by simp) fun w11 hb11 hE11 => ?_
    rw [LDi_of (cellH_of hb11 0), LDi_of (cellH_of hb11 1)]
    have hm8n : m ∉ ownL (.slice a' (xs.length - 1) c') := by rw [hn8]; exact h.apart
    have hmb1 : m ≠ b1 := by omega
    refine ⟨?_, _, dropL xs k, ⟨?_, ?_, hm8n, ?_, ?_, h.off⟩, ?_, .inr ⟨k, hc.1, hc.2, hgf, rfl, rfl⟩⟩
    · refine ((((hE17.trans hE8).trans hE9).trans hE10).trans hE11).weak fun b hb hlt => ?_
      simp at hb ⊢
      rcases hb with h | h | h
      · exact .inr h
      · exact .inl h
      · omega
    · exact hE11.obj (hE10.obj hb9 (by simpa using hmb1)) (by simpa using hmb1)
    · have h9 := own_eff ho8 hE9 (by intro b hb hbm; simp at hbm; subst hbm; exact hm8n hb)
      have h10 := own_eff h9 hE10 (by intro b hb hbm; simp at hbm; subst hbm; rw [hn8] at hb; exact hb1n hb)
      exact own_eff h10 hE11 (by intro b hb hbm; simp at hbm; subst hbm; rw [hn8] at hb; exact hb1n hb)
    · exact (dropL_ap hc.1 hap).asc (dropL_rng hr)
    · rw [dropL_len hc.1]; omega
    · intro b hb; rw [hn8] at hb; exact .inl hb
  · rw [if_neg hc] at hgf
    refine ITE_intro (fun _ => ?_) (fun h => by simp at h; exact absurd h hc)
    refine ST2_of trivial trivial hE12 hs1 hb2 fun w' hE' hb' _ => ?_
    rw [LDi_of (cellH_of hb' 0), LDi_of (cellH_of hb' 1)]
    exact ⟨hE'.weak (by simp), v, xs, h.eff0 hE', fun b hb => .inl hb, .inl ⟨hgf, rfl, rfl⟩⟩

structure Mg (pre : List Value) (mt : TypeId) (po : Nat) (w₀ w : World) (m : Nat) (xs : List Iv) : Prop where
  eff : Eff w₀ w []
  ex : ∃ v, Sg pre mt po w m v xs ∧ ∀ b ∈ ownL v, w₀.heap.size ≤ b
  ge : w₀.heap.size ≤ m
  rng : Rng xs
  ap : Ap xs

theorem Mg.eff0 {w' : World} (h : Mg pre mt po w₀ w m xs) (hE : Eff w w' []) : Mg pre mt po w₀ w' m xs := by
  obtain ⟨v, hs, hb⟩ := h.ex
  exact ⟨h.eff.trans0 hE, ⟨v, hs.eff0 hE, hb⟩, h.ge, h.rng, h.ap⟩

theorem Mg.over {i : Iv} (h : Mg pre mt po w₀ w m xs) (hi : -1099511627776 ≤ i.1 ∧ i.1 ≤ 1099511627776) :
    CALL Pg F_pspan_Map_Over [.pointer (some ⟨m, po, none⟩), .agg #[.int .i64 i.1, .int .i64 i.2]] w fun u w' => Eff w w' [] ∧ u = .bool (overF xs i) := by
  obtain ⟨v, hs, hb⟩ := h.ex
  exact Over_specG hs h.rng h.ap hi
theorem Mg.get (h : Mg pre mt po w₀ w m xs) (at_ : Int) : CALL Pg F_pspan_Map_Get [.pointer (some ⟨m, po, none⟩), .int .i64 at_] w fun u w' => Eff w w' [] ∧
    u = .tuple #[.agg #[.int .i64 ((getF xs at_).getD (0, 0)).1, .int .i64 ((getF xs at_).getD (0, 0)).2], .bool (getF xs at_).isSome] := by
  obtain ⟨v, hs, hb⟩ := h.ex
  exact Get_specG hs at_
theorem Mg.all (h : Mg pre mt po w₀ w m xs) : CALL Pg F_pspan_Map_All [.pointer (some ⟨m, po, none⟩)] w fun u w' => Eff w w' [] ∧ (∃ a' c', u = .slice a' xs.length c') ∧ Ow w' u xs ∧ ∀ b ∈ ownL u, w.heap.size ≤ b := by
  obtain ⟨v, hs, hb⟩ := h.ex
  exact All_specG hs
theorem Mg.bytes (h : Mg pre mt po w₀ w m xs) (hn : xs.length ≤ 1000000) : CALL Pg F_pspan_Map_Bytes [.pointer (some ⟨m, po, none⟩)] w fun u w' => Eff w w' [] ∧ u = .int .i64 (sumF xs) := by
  obtain ⟨v, hs, hb⟩ := h.ex
  exact Bytes_specG hs (fun x hx => (h.rng x hx).2) hn

def AwayG (pre : List Value) (mt : TypeId) (w : World) (m b : Nat) : Prop := b < w.heap.size ∧ b ≠ m ∧ ∃ v, w.heap[m]? = some (.cells (pre ++ [v]).toArray mt (0, 0)) ∧ b ∉ ownL v

theorem AwayG.eff0 {w' : World} {b : Nat} (h : AwayG pre mt w m b) (hE : Eff w w' []) : AwayG pre mt w' m b := by
  obtain ⟨h1, h2, v, h3, h4⟩ := h
  exact ⟨Nat.lt_of_lt_of_le h1 hE.size, h2, v, hE.obj0 h3, h4⟩

theorem Mg.away {w' : World} {b : Nat} (h : Mg pre mt po w₀ w m xs) (hE : Eff w w' []) (h1 : w.heap.size ≤ b) (h2 : b < w'.heap.size) : AwayG pre mt w' m b := by
  obtain ⟨v, hs, _⟩ := h.ex
  refine ⟨h2, ?_, v, hE.obj0 hs.cell, fun hb => ?_⟩
  · have := obj_lt hs.cell; omega
  · have := own_lt hs.own b hb; omega

theorem AwayG.not {v : Value} {b : Nat} (h : AwayG pre mt w m b) (hs : Sg pre mt po w m v xs) : b ∉ m :: ownL v := by
  obtain ⟨_, h2, u, h3, h4⟩ := h
  have : u = v := by
    rw [hs.cell] at h3
    simpa using h3.symm
  subst this
  intro hb
  rcases List.mem_cons.1 hb with h | h
  · exact h2 h
  · exact h4 h

theorem Mg.putA {i : Iv} (h : Mg pre mt po w₀ w m xs) (hlen : xs.length < 100000000) :
    CALL Pg F_pspan_Map_Put [.pointer (some ⟨m, po, none⟩), .agg #[.int .i64 i.1, .int .i64 i.2]] w fun u w' =>
      ∃ xs', Mg pre mt po w₀ w' m xs' ∧ (∀ b, AwayG pre mt w m b → AwayG pre mt w' m b ∧ w'.heap[b]? = w.heap[b]?) ∧ (¬ Fit xs i ∧ u = .bool false ∧ xs' = xs ∨ Fit xs i ∧ u = .bool true ∧ ∃ k, Low xs i.1 k ∧ xs' = insL xs i k) := by
  obtain ⟨v, hs, hb⟩ := h.ex
  refine (Put_specG (i := i) hs h.rng h.ap hlen).mono fun u w' ⟨hE, v', xs', hs', hn, hr⟩ => ?_
  have hS : ∀ b ∈ m :: ownL v, w₀.heap.size ≤ b := by
    intro b hb'
    rcases List.mem_cons.1 hb' with rfl | hb'
    · exact h.ge
    · exact hb b hb'
  refine ⟨xs', ⟨h.eff.own hE hS, ⟨v', hs', fun b hb' => ?_⟩, h.ge, ?_, ?_⟩, fun b ha => ?_, hr⟩
  · rcases hn b hb' with h1 | h1
    · exact hb b h1
    · exact Nat.le_trans h.eff.size h1
  · rcases hr with ⟨_, _, rfl⟩ | ⟨hf, _, k, hk, rfl⟩
    · exact h.rng
    · exact insL_rng h.rng hf
  · rcases hr with ⟨_, _, rfl⟩ | ⟨hf, _, k, hk, rfl⟩
    · exact h.ap
    · exact insL_ap h.rng h.ap hk hf
  · have hnot := ha.not hs
    refine ⟨⟨Nat.lt_of_lt_of_le ha.1 hE.size, ha.2.1, v', hs'.cell, fun hb' => ?_⟩, hE.keep b ha.1 hnot⟩
    rcases hn b hb' with h1 | h1
    · exact hnot (List.mem_cons_of_mem _ h1)
    · have := ha.1; omega

theorem Mg.dropA (h : Mg pre mt po w₀ w m xs) (at_ : Int) :
    CALL Pg F_pspan_Map_Drop [.pointer (some ⟨m, po, none⟩), .int .i64 at_] w fun u w' =>
      ∃ xs', Mg pre mt po w₀ w' m xs' ∧ (∀ b, AwayG pre mt w m b → AwayG pre mt w' m b ∧ w'.heap[b]? = w.heap[b]?) ∧ (getF xs at_ = none ∧ u = .tuple #[.agg #[.int .i64 0, .int .i64 0], .bool false] ∧ xs' = xs ∨
          ∃ k, k < xs.length ∧ (xs.getD k (0, 0)).1 = at_ ∧ getF xs at_ = some (xs.getD k (0, 0)) ∧ u = .tuple #[.agg #[.int .i64 (xs.getD k (0, 0)).1, .int .i64 (xs.getD k (0, 0)).2], .bool true] ∧ xs' = dropL xs k) := by
  obtain ⟨v, hs, hb⟩ := h.ex
  refine (Drop_specG hs h.rng h.ap at_).mono fun u w' ⟨hE, v', xs', hs', hn, hr⟩ => ?_
  have hS : ∀ b ∈ m :: ownL v, w₀.heap.size ≤ b := by
    intro b hb'
    rcases List.mem_cons.1 hb' with rfl | hb'
    · exact h.ge
    · exact hb b hb'
  refine ⟨xs', ⟨h.eff.own hE hS, ⟨v', hs', fun b hb' => ?_⟩, h.ge, ?_, ?_⟩, fun b ha => ?_, hr⟩
  · rcases hn b hb' with h1 | h1
    · exact hb b h1
    · exact Nat.le_trans h.eff.size h1
  · rcases hr with ⟨_, _, rfl⟩ | ⟨k, hk, _, _, _, rfl⟩
    · exact h.rng
    · exact dropL_rng h.rng
  · rcases hr with ⟨_, _, rfl⟩ | ⟨k, hk, _, _, _, rfl⟩
    · exact h.ap
    · exact dropL_ap hk h.ap
  · have hnot := ha.not hs
    refine ⟨⟨Nat.lt_of_lt_of_le ha.1 hE.size, ha.2.1, v', hs'.cell, fun hb' => ?_⟩, hE.keep b ha.1 hnot⟩
    rcases hn b hb' with h1 | h1
    · exact hnot (List.mem_cons_of_mem _ h1)
    · have := ha.1; omega

theorem Mg.asc (h : Mg pre mt po w₀ w m xs) : Asc xs := h.ap.asc h.rng

theorem Mg.upon {w' : World} {S : List Nat} (h : Mg pre mt po w₀ w m xs) (hE : Eff w w' S) (hS : ∀ b ∈ S, AwayG pre mt w m b ∧ w₀.heap.size ≤ b) : Mg pre mt po w₀ w' m xs := by
  obtain ⟨v, hs, hb⟩ := h.ex
  have hn : ∀ b ∈ S, b ∉ m :: ownL v := fun b hb' => (hS b hb').1.not hs
  refine ⟨h.eff.own hE (fun b hb' => (hS b hb').2), ⟨v, hs.eff hE (fun hm => hn m hm (by simp)) (fun b hb' hbs => hn b hbs (by simp [hb'])), hb⟩, h.ge, h.rng, h.ap⟩

structure WasG (pre : List Value) (mt : TypeId) (w : World) (m : Nat) (u : Value) (xs : List Iv) : Prop where
  own : Ow w u xs
  away : ∀ b ∈ ownL u, AwayG pre mt w m b

theorem WasG.eff0 {w' : World} {u : Value} (h : WasG pre mt w m u xs) (hE : Eff w w' []) : WasG pre mt w' m u xs := ⟨h.own.eff hE, fun b hb => (h.away b hb).eff0 hE⟩
theorem WasG.keep {w' : World} {u : Value} (h : WasG pre mt w m u xs) (hk : ∀ b, AwayG pre mt w m b → AwayG pre mt w' m b ∧ w'.heap[b]? = w.heap[b]?) : WasG pre mt w' m u xs := by
  refine ⟨?_, fun b hb => (hk b (h.away b hb)).1⟩
  have h1 := h.own
  refine ⟨h1.1, h1.2.imp id ?_⟩
  rintro ⟨g, cap, cur, rfl, hb, hg, rest⟩
  exact ⟨g, cap, cur, rfl, hb, by rw [(hk g (h.away g (by simp [ownL, Value.ownBlock]))).2, hg], rest⟩

theorem Mg.was (h : Mg pre mt po w₀ w m xs) : CALL Pg F_pspan_Map_All [.pointer (some ⟨m, po, none⟩)] w fun u w' => Eff w w' [] ∧ Mg pre mt po w₀ w' m xs ∧ (∃ a' c', u = .slice a' xs.length c') ∧ WasG pre mt w' m u xs ∧ ∀ b ∈ ownL u, w.heap.size ≤ b :=
  h.all.mono fun _ _ ⟨hE, hu, ho, hb⟩ => ⟨hE, h.eff0 hE, hu, ⟨ho, fun b hb' => h.away hE (hb b hb') (own_lt ho b hb')⟩, hb⟩

end
end Go.Proofs.Ytpopdookpbmmpaa
