/- What package span's functions do: Over, Put. -/
import Derived.Test.YtpopdookpbmmpaaSpan4
namespace Go.Proofs.Ytpopdookpbmmpaa
open Go.Den
set_option maxRecDepth 100000

/-- Two intervals share an address. -/
def Ov (a b : Iv) : Prop := 1 ≤ a.2 ∧ 1 ≤ b.2 ∧ (a.1 ≤ b.1 ∧ b.1 - a.1 < a.2 ∨ b.1 ≤ a.1 ∧ a.1 - b.1 < b.2)
instance (a b : Iv) : Decidable (Ov a b) := by unfold Ov; infer_instance
def overF (xs : List Iv) (i : Iv) : Bool := xs.any fun a => decide (Ov a i)

/-- Intervals as Put lets them be. -/
def Rng (xs : List Iv) : Prop := ∀ x ∈ xs, (0 ≤ x.1 ∧ x.1 ≤ 1099511627776) ∧ 1 ≤ x.2 ∧ x.2 ≤ 1099511627776
/-- They lie apart, rising. -/
def Ap (xs : List Iv) : Prop := ∀ i j, i < j → j < xs.length → (xs.getD i (0, 0)).1 + (xs.getD i (0, 0)).2 ≤ (xs.getD j (0, 0)).1

theorem Rng.at {xs : List Iv} (h : Rng xs) {k : Nat} (hk : k < xs.length) : (0 ≤ (xs.getD k (0, 0)).1 ∧ (xs.getD k (0, 0)).1 ≤ 1099511627776) ∧ 1 ≤ (xs.getD k (0, 0)).2 ∧ (xs.getD k (0, 0)).2 ≤ 1099511627776 := by
  have e : xs.getD k (0, 0) = xs[k] := by simp [hk]
  rw [e]; exact h _ (List.getElem_mem hk)

theorem overF_true {xs : List Iv} {i : Iv} {k : Nat} (hk : k < xs.length) (h : Ov (xs.getD k (0, 0)) i) : overF xs i = true := by
  unfold overF
  rw [List.any_eq_true]
  have e : xs.getD k (0, 0) = xs[k] := by simp [hk]
  exact ⟨xs[k], List.getElem_mem hk, by rw [← e]; exact decide_eq_true h⟩

theorem overF_false {xs : List Iv} {i : Iv} (h : ∀ k, k < xs.length → ¬ Ov (xs.getD k (0, 0)) i) : overF xs i = false := by
  unfold overF
  rw [List.any_eq_false]
  intro x hx
  obtain ⟨k, hk, rfl⟩ := List.getElem_of_mem hx
  have e : xs.getD k (0, 0) = xs[k] := by simp [hk]
  have := h k hk
  rw [e] at this
  simpa using this

section
variable {w : World}

theorem Over_spec {m : Nat} {v : Value} {xs : List Iv} {i : Iv} (h : Sp w m v xs) (hr : Rng xs) (hap : Ap xs) (hi : -1099511627776 ≤ i.1 ∧ i.1 ≤ 1099511627776) :
    CALL Pg F_pspan_Map_Over [.pointer (some ⟨m, 0, none⟩), .agg #[.int .i64 i.1, .int .i64 i.2]] w fun u w' => Eff w w' [] ∧ u = .bool (overF xs i) := by
  apply C_pspan_Map_Over
  unfold D_pspan_Map_Over
  have hlen := h.len
  intro b1 w1 hE1 hs1 hb1
  rw [LDi_of (cellH_of hb1 1)]
  refine ITE_d (fun h1 => ?_) (fun h1 => ?_)
  · refine ⟨hE1, ?_⟩
    rw [overF_false fun k _ ho => by unfold Ov at ho; omega]
  rw [LDi_of (cellH_of hb1 0)]
  have hp1 := h.eff0 hE1
  refine (find_spec hp1 i.1).mono fun u w2 ⟨hE2, k, hk, hu⟩ => ?_
  subst hu
  rw [TUP_ib]
  intro w3 hE3 _
  have hp3 := (hp1.eff0 hE2).eff0 hE3
  have hE13 := (hE1.trans0 hE2).trans0 hE3
  have hb3 := (hE2.trans0 hE3).obj0 hb1
  obtain ⟨a, c, rfl, hs⟩ := hp3.form
  obtain ⟨hk0, hk1, hk2⟩ := hk
  have tail : (∀ j, j < k → ¬ Ov (xs.getD j (0, 0)) i) → ∀ w4, Eff w3 w4 [] → NN (some ⟨m, 0, none⟩) fun b_6 o_5 => LDl w4 ⟨b_6, o_5, none⟩ fun _ l_3 _ => ITE (decide ((k : Int) < (l_3 : Int)))
      (LDi .i64 w4 ⟨b1, 1, none⟩ fun n_10 => NN (some ⟨m, 0, none⟩) fun b_7 o_6 => LDl w4 ⟨b_7, o_6, none⟩ fun a_4 l_4 _ => IDX a_4 l_4 k 2 fun b_8 o_7 => LDi .i64 w4 ⟨b_8, o_7, none⟩ fun n_11 => LDi .i64 w4 ⟨b1, 0, none⟩ fun n_12 =>
        BIND (IntKind.i64.wrap (n_11 - n_12)) fun n_13 => Eff w w4 [] ∧ (Value.bool (decide (n_10 > n_13)) = .bool (overF xs i)))
      (Eff w w4 [] ∧ Value.bool false = .bool (overF xs i)) := by
    intro hno w4 hE4
    have hp4 := hp3.eff0 hE4
    have hb4 := hE4.obj0 hb3
    have hE14 := hE13.trans0 hE4
    rw [NN0, LDl_of (cellH_of hp4.cell 0)]
    refine ITE_d (fun h2 => ?_) (fun h2 => ?_)
    · have hkl : k < xs.length := by omega
      rw [LDi_of (cellH_of hb4 1), NN0, LDl_of (cellH_of hp4.cell 0)]
      refine IDX_v (hs.eff hE4) (by omega) (by omega) fun b o g1 g2 => ?_
      have e : (k : Int).toNat = k := by omega
      rw [e] at g1 g2
      rw [LDi_of g1, LDi_of (cellH_of hb4 0)]
      have hrk := hr.at hkl
      have hki := hk2 k (Nat.le_refl _) hkl
      refine BINDw (by omega) (by omega) ⟨hE14, ?_⟩
      by_cases hc : i.2 > (xs.getD k (0, 0)).1 - i.1
      · rw [overF_true hkl (by unfold Ov; omega), decide_eq_true hc]
      · rw [decide_eq_false hc, overF_false fun j hj ho => ?_]
        rcases Nat.lt_or_ge j k with h3 | h3
        · exact hno j h3 ho
        · have hrj := hr.at hj
          have : (xs.getD k (0, 0)).1 ≤ (xs.getD j (0, 0)).1 := by
            rcases Nat.lt_or_ge k j with h4 | h4
            · have := h.asc k j h4 hj; omega
            · have : j = k := by omega
              rw [this]; omega
          unfold Ov at ho
          omega
    · refine ⟨hE14, ?_⟩
      rw [overF_false fun j hj ho => hno j (by omega) ho]
  refine ITE_d (fun h2 => ?_) (fun h2 => ?_)
  · rw [NN0, LDl_of (cellH_of hp3.cell 0)]
    have hkl : k - 1 < xs.length := by omega
    have hrk := hr.at hkl
    have hki := hk1 (k - 1) (by omega)
    have e : ((k : Int) - 1).toNat = k - 1 := by omega
    refine BINDw (by omega) (by omega) (IDX_v hs (by omega) (by omega) fun b o g1 g2 => ?_)
    rw [e] at g1 g2
    rw [LDi_of g2, LDi_of (cellH_of hb3 0), NN0, LDl_of (cellH_of hp3.cell 0)]
    refine BINDw (by omega) (by omega) (IDX_v hs (by omega) (by omega) fun b o g1 g2 => ?_)
    rw [e] at g1 g2
    rw [LDi_of g1]
    refine BINDw (by omega) (by omega) (ITE_d (fun h3 => ?_) (fun h3 => ?_))
    · refine ⟨hE13, ?_⟩
      rw [overF_true hkl (by unfold Ov; omega)]
    · intro w4 hE4 _
      refine tail (fun j hj ho => ?_) w4 hE4
      have hrj := hr.at (k := j) (by omega)
      rcases Nat.lt_or_ge j (k - 1) with h4 | h4
      · have := hap j (k - 1) h4 hkl
        unfold Ov at ho; omega
      · have : j = k - 1 := by omega
        rw [this] at ho
        unfold Ov at ho; omega
  · intro w4 hE4 _
    exact tail (fun j hj => by omega) w4 hE4

/-- What Put takes. -/
def Fit (xs : List Iv) (i : Iv) : Prop := 0 ≤ i.1 ∧ i.1 ≤ 1099511627776 ∧ 1 ≤ i.2 ∧ i.2 ≤ 1099511627776 ∧ overF xs i = false

theorem Ap.asc {xs : List Iv} (h : Ap xs) (hr : Rng xs) : Asc xs := fun i j hij hj => by
  have := h i j hij hj
  have := hr.at (k := i) (by omega)
  omega

/-- With one more at its place. -/
def insL (xs : List Iv) (x : Iv) (k : Nat) : List Iv := xs.take k ++ x :: xs.drop k

theorem insL_len {xs : List Iv} {x : Iv} {k : Nat} (hk : k ≤ xs.length) : (insL xs x k).length = xs.length + 1 := by simp [insL]; omega

theorem insL_getD {xs : List Iv} {x : Iv} {k : Nat} (hk : k ≤ xs.length) (i : Nat) : (insL xs x k).getD i (0, 0) = if i < k then xs.getD i (0, 0) else if i = k then x else xs.getD (i - 1) (0, 0) := by
  unfold insL
  have hl : (xs.take k).length = k := by simp; omega
  simp only [List.getD_eq_getElem?_getD]
  split
  · rename_i h
    rw [List.getElem?_append_left (by omega), List.getElem?_take, if_pos h]
  · rename_i h
    rw [List.getElem?_append_right (by omega), hl]
    split
    · rename_i h2
      rw [h2, Nat.sub_self]; rfl
    · rename_i h2
      rw [show i - k = (i - k - 1) + 1 by omega, List.getElem?_cons_succ, List.getElem?_drop]
      congr 2; omega

theorem insL_rng {xs : List Iv} {x : Iv} {k : Nat} (hr : Rng xs) (hf : Fit xs x) : Rng (insL xs x k) := by
  intro y hy
  unfold insL at hy
  simp only [List.mem_append, List.mem_cons] at hy
  unfold Fit at hf
  rcases hy with h | rfl | h
  · exact hr y (List.mem_of_mem_take h)
  · omega
  · exact hr y (List.mem_of_mem_drop h)

theorem insL_ap {xs : List Iv} {x : Iv} {k : Nat} (hr : Rng xs) (hap : Ap xs) (hk : Low xs x.1 k) (hf : Fit xs x) : Ap (insL xs x k) := by
  obtain ⟨hk0, hk1, hk2⟩ := hk
  have hno : ∀ j, j < xs.length → ¬ Ov (xs.getD j (0, 0)) x := fun j hj ho => by
    have := overF_true hj ho
    rw [hf.2.2.2.2] at this; cases this
  unfold Fit at hf
  have lo : ∀ j, j < k → (xs.getD j (0, 0)).1 + (xs.getD j (0, 0)).2 ≤ x.1 := fun j hj => by
    have h1 := hno j (by omega)
    have h2 := hk1 j hj
    have h3 := hr.at (k := j) (by omega)
    unfold Ov at h1; omega
  have hi : ∀ j, k ≤ j → j < xs.length → x.1 + x.2 ≤ (xs.getD j (0, 0)).1 := fun j hj hj2 => by
    have h1 := hno j hj2
    have h2 := hk2 j hj hj2
    have h3 := hr.at hj2
    unfold Ov at h1; omega
  intro i j hij hj
  rw [insL_len hk0] at hj
  rw [insL_getD hk0, insL_getD hk0]
  by_cases h1 : j < k
  · rw [if_pos (by omega), if_pos h1]; exact hap i j hij (by omega)
  · rw [if_neg h1]
    by_cases h2 : j = k
    · rw [if_pos h2, if_pos (by omega)]; exact lo i (by omega)
    · rw [if_neg h2]
      by_cases h3 : i < k
      · rw [if_pos h3]; exact hap i (j - 1) (by omega) (by omega)
      · rw [if_neg h3]
        by_cases h4 : i = k
        · rw [if_pos h4]; exact hi (j - 1) (by omega) (by omega)
        · rw [if_neg h4]; exact hap (i - 1) (j - 1) (by omega) (by omega)

theorem Put_spec {m : Nat} {v : Value} {xs : List Iv} {i : Iv} (h : Sp w m v xs) (hr : Rng xs) (hap : Ap xs) (hlen : xs.length < 100000000) :
    CALL Pg F_pspan_Map_Put [.pointer (some ⟨m, 0, none⟩), .agg #[.int .i64 i.1, .int .i64 i.2]] w fun u w' => Eff w w' (m :: ownL v) ∧
      ∃ v' xs', Sp w' m v' xs' ∧ (∀ b ∈ ownL v', b ∈ ownL v ∨ w.heap.size ≤ b) ∧ (¬ Fit xs i ∧ u = .bool false ∧ xs' = xs ∨ Fit xs i ∧ u = .bool true ∧ ∃ k, Low xs i.1 k ∧ xs' = insL xs i k) := by
  apply C_pspan_Map_Put
  unfold D_pspan_Map_Put
  intro b1 w1 hE1 hs1 hb1
  have no : ∀ w', Eff w w' [] → ¬ Fit xs i → Eff w w' (m :: ownL v) ∧ ∃ v' xs', Sp w' m v' xs' ∧ (∀ b ∈ ownL v', b ∈ ownL v ∨ w.heap.size ≤ b) ∧ (¬ Fit xs i ∧ Value.bool false = .bool false ∧ xs' = xs ∨ Fit xs i ∧ Value.bool false = .bool true ∧ ∃ k, Low xs i.1 k ∧ xs' = insL xs i k) :=
    fun w' hE hf => ⟨hE.weak (by simp), v, xs, h.eff0 hE, fun b hb => .inl hb, .inl ⟨hf, rfl, rfl⟩⟩
  rw [LDi_of (cellH_of hb1 0)]
  refine ITE_d (fun h1 => no w1 hE1 (by unfold Fit; omega)) (fun h1 => ?_)
  rw [LDi_of (cellH_of hb1 1)]
  refine ITE_d (fun h2 => no w1 hE1 (by unfold Fit; omega)) (fun h2 => ?_)
  rw [LDi_of (cellH_of hb1 1)]
  refine ITE_d (fun h3 => no w1 hE1 (by unfold Fit; omega)) (fun h3 => ?_)
  rw [LDi_of (cellH_of hb1 0)]
  refine ITE_d (fun h4 => no w1 hE1 (by unfold Fit; omega)) (fun h4 => ?_)
  rw [LDi_of (cellH_of hb1 0), LDi_of (cellH_of hb1 1)]
  have hp1 := h.eff0 hE1
  refine (Over_spec hp1 hr hap (by omega)).mono fun u w2 ⟨hE2, hu⟩ => ?_
  subst hu
  rw [BOOLV_bool]
  have hE12 := hE1.trans0 hE2
  refine ITE_intro (fun h5 => no w2 hE12 (by unfold Fit; rw [h5]; simp)) (fun h5 => ?_)
  have hf : Fit xs i := ⟨by omega, by omega, by omega, by omega, h5⟩
  rw [LDi_of (cellH_of (hE2.obj0 hb1) 0)]
  have hp2 := hp1.eff0 hE2
  refine (find_spec hp2 i.1).mono fun u w3 ⟨hE3, k, hk, hu⟩ => ?_
  subst hu
  rw [TUP_ib]
  intro w4 hE4 _
  have hp4 := (hp2.eff0 hE3).eff0 hE4
  have hE14 := (hE12.trans0 hE3).trans0 hE4
  have hb4 := ((hE2.trans0 hE3).trans0 hE4).obj0 hb1
  obtain ⟨a, c, rfl, hs⟩ := hp4.form
  rw [NN0, LDl_of (cellH_of hp4.cell 0), LDi_of (cellH_of hb4 0), LDi_of (cellH_of hb4 1)]
  intro b3 w5 hE5 hs5 hb5
  have hp5 := hp4.eff0 hE5
  refine ⟨KEEP_cell (cellH_of hp5.cell 0) KEEP_nil, ?_⟩
  have hmlt := obj_lt hp4.cell
  have hb3v : b3 ∉ ownL (.slice a xs.length c) := by
    intro hb
    have : b3 < w4.heap.size := by
      rcases hp4.own.2 with ⟨h6, _⟩ | ⟨g, cap, cur, h6, _, hg, _⟩
      · rw [h6] at hb; simp [ownL, Value.ownBlock] at hb
      · rw [h6] at hb; simp [ownL, Value.ownBlock] at hb; rw [hb]; exact obj_lt hg
    omega
  have ho5 := hp5.own
  refine (Insert_spec (x := i) ho5 (by omega) hk.1 hb5 hb3v).mono fun u w6 ⟨⟨a', c', hu⟩, ho6, hE6, hn6⟩ => ?_
  subst hu
  rw [SLV_slice]
  refine ⟨KEEP_nil, ?_⟩
  have hm5 : w6.heap[m]? = some (.cells [.slice a xs.length c].toArray T_span_Map_span_Map (0, 0)) := hE6.obj hp5.cell h.apart
  rw [NN0]
  refine ST1_of trivial hm5 (by simp) fun w7 hb7 hE7 => ?_
  refine ⟨KEEP_nil, ?_⟩
  have hE15 := hE14.trans0 hE5
  have hm6 : m ∉ ownL (.slice a' (xs.length + 1) c') := by
    intro hb
    rcases hn6 m hb with h6 | h6
    · exact h.apart h6
    · have := hE5.size; omega
  refine ⟨?_, _, insL xs i k, ⟨hb7, ?_, hm6, ?_, ?_⟩, ?_, .inr ⟨hf, rfl, k, hk, rfl⟩⟩
  · refine ((hE15.trans hE6).trans hE7).weak fun b hb _ => ?_
    simp at hb ⊢
    rcases hb with h | h
    · exact .inr h
    · exact .inl h
  · exact own_eff ho6 hE7 (by intro b hb hbm; simp at hbm; subst hbm; exact hm6 hb)
  · exact (insL_ap hr hap hk hf).asc (insL_rng hr hf)
  · rw [insL_len hk.1]; omega
  · intro b hb
    rcases hn6 b hb with h6 | h6
    · left; exact h6
    · right; exact Nat.le_trans hE15.size h6

end
end Go.Proofs.Ytpopdookpbmmpaa
