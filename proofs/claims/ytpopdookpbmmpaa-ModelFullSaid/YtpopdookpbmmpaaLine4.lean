/- What the library's stable sort of whole numbers does: the merge as a whole, and the sort. -/
import Derived.Test.YtpopdookpbmmpaaLine3
namespace Go.Proofs.Ytpopdookpbmmpaa
open Go.Den
set_option maxRecDepth 100000
set_option maxHeartbeats 4000000

section
variable {w0 w : World} {g : Nat} {rest : List Value} {cmp : Value} {key : Int → Int} {x0 : List Int}

theorem sym_spec (hc : CmpOk w0 g cmp key x0) : ∀ (n : Nat) {w : World} {A U V B : List Int} {l c : Nat} {a m b : Int}, U.length + V.length ≤ n → Eff w0 w [g] → Row w g rest (A ++ (U ++ (V ++ B))) → l = A.length + U.length + V.length + B.length → l ≤ 1000000000000 →
    0 < U.length → 0 < V.length → U.Pairwise (lx key) → V.Pairwise (lx key) → (∀ u ∈ U, ∀ v ∈ V, u < v) → (∀ u ∈ U, u ∈ x0) → (∀ v ∈ V, v ∈ x0) → a = A.length → m = A.length + U.length → b = A.length + U.length + V.length →
    CALL Pg F_slices_symMergeCmpFunc_int [.slice (some ⟨g, 0, none⟩) l c, .int .i64 a, .int .i64 m, .int .i64 b, cmp] w fun r w' => r = .tuple #[] ∧ Eff w0 w' [g] ∧ ∃ W, W.Perm (U ++ V) ∧ W.Pairwise (lx key) ∧ Row w' g rest (A ++ (W ++ B)) := by
  intro n
  induction n with
  | zero => intro w A U V B l c a m b hn; omega
  | succ n ih =>
    intro w A U V B l c a m b hn hE hr hl hbig hU0 hV0 hU hV huv hUx hVx ha hm hb
    by_cases hU1 : U.length = 1
    · obtain ⟨u, rfl⟩ := List.length_eq_one_iff.1 hU1
      exact sym_left hc hE hr (by simpa using hl) hbig hV (fun v hv => huv u (by simp) v hv) (hUx u (by simp)) hVx ha (by simpa using hm) (by simpa using hb)
    by_cases hV1 : V.length = 1
    · obtain ⟨v, rfl⟩ := List.length_eq_one_iff.1 hV1
      exact sym_right hc hE hr (by simpa using hl) hbig hU1 hU (fun u hu => huv u hu v (by simp)) (hVx v (by simp)) hUx ha hm (by simpa using hb)
    apply C_slices_symMergeCmpFunc_int
    unfold D_slices_symMergeCmpFunc_int
    have hL : l = (A ++ (U ++ (V ++ B))).length := by rw [hl]; simp; omega
    refine BINDw (by omega) (by omega) (ITE_eq (fun _ => by omega) (fun _ => BINDw (by omega) (by omega) (ITE_eq (fun _ => by omega) (fun _ => ?_))))
    refine half _ (by omega) (by omega) ?_
    obtain ⟨h, hh, hh2⟩ : ∃ h : Nat, (a + b) / 2 = a + h ∧ h = (U.length + V.length) / 2 := ⟨(U.length + V.length) / 2, by omega, rfl⟩
    rw [hh]
    refine BINDw (by omega) (by omega) ?_
    obtain ⟨s0, r0, hs0, hr0⟩ : ∃ s0 r0 : Nat, s0 = (if U.length > h then h - V.length else 0) ∧ r0 = (if U.length > h then h else U.length) := ⟨_, _, rfl, rfl⟩
    have hcase : U.length > h ∧ s0 = h - V.length ∧ r0 = h ∧ V.length ≤ h ∨ U.length ≤ h ∧ s0 = 0 ∧ r0 = U.length ∧ h ≤ V.length := by
      by_cases hc : U.length > h
      · rw [if_pos hc] at hs0 hr0; left; omega
      · rw [if_neg hc] at hs0 hr0; right; omega
    clear hs0 hr0
    refine ⟨fun vs w' => vs = [.int .i64 (a + s0), .int .i64 (a + r0)] ∧ w' = w, ⟨fun vs w' => vs = [.bool (decide (m > a + h))] ∧ w' = w, ⟨rfl, rfl⟩, ?_⟩, ?_⟩
    · intro w15 v9 ⟨hv, hw⟩
      subst hw
      cases hv
      rw [BOOLV_bool]
      refine ITE_d (fun h1 => BINDw (by omega) (by omega) ⟨?_, rfl⟩) (fun h1 => ⟨?_, rfl⟩)
      · rw [show a + (h : Int) + m - b = a + s0 by omega, show a + (h : Int) = a + r0 by omega]
      · rw [show m = a + r0 by omega, show a + (s0 : Int) = a by omega]
    intro w16 v10 v11 ⟨hv, hw⟩
    subst hw
    simp only [List.cons.injEq, and_true] at hv
    obtain ⟨rfl, rfl⟩ := hv
    simp only [INTV_int]
    refine BINDw (by omega) (by omega) ?_
    -- the search
    refine LOOP_of (fun vs w' => ∃ p q : Nat, vs = [.int .i64 (a + p), .int .i64 (a + q)] ∧ s0 ≤ p ∧ p ≤ q ∧ q ≤ r0 ∧ (p = s0 ∨ key (U.getD (p - 1) 0) ≤ key (V.getD (h - p) 0)) ∧ (q = r0 ∨ key (V.getD (h - 1 - q) 0) < key (U.getD q 0)) ∧ Eff w0 w' [g] ∧ Row w' g rest (A ++ (U ++ (V ++ B))))
      (fun vs _ => match vs with | [.int _ i, .int _ j] => j.toNat - i.toNat | _ => 0) ⟨s0, r0, rfl, by omega, by omega, by omega, .inl rfl, .inl rfl, hE, hr⟩ ?_
    clear hE hr
    intro w17 v12 v13 ⟨p, q, hv, hp0, hpq, hq0, f1, f2, hE1, hr1⟩
    simp only [List.cons.injEq, and_true] at hv
    obtain ⟨rfl, rfl⟩ := hv
    simp only [INTV_int]
    refine ITE_d (fun h3 => ?_) (fun h3 => ?_)
    · refine half _ (by omega) (by omega) ?_
      obtain ⟨k, hk, hk2⟩ : ∃ k : Nat, (a + p + (a + q)) / 2 = a + k ∧ k = (p + q) / 2 := ⟨(p + q) / 2, by omega, rfl⟩
      rw [hk]
      intro w18 hE18 _
      have hr18 := hr1.eff hE18
      have hE018 := effr hE1 hE18
      refine BINDw (by omega) (by omega) (RD hr18 hL (by omega) (by omega) ?_)
      rw [gV (k := h - 1 - k) (by omega) (by omega)]
      refine RD hr18 hL (by omega) (by omega) ?_
      rw [gU (k := k) (by omega) (by omega)]
      refine hc w18 hE018 _ _ (hVx _ (getD_mem (by omega))) (hUx _ (getD_mem (by omega))) _ fun w19 hE19 => ?_
      rw [INTV_int]
      have h5 : ∀ {X Y : Prop}, (¬ key (V.getD (h - 1 - k) 0) < key (U.getD k 0) → X) → (key (V.getD (h - 1 - k) 0) < key (U.getD k 0) → Y) → ITE (!decide (cmpF (key (V.getD (h - 1 - k) 0)) (key (U.getD k 0)) < 0)) X Y := fun hA hB => ITE_intro (fun h => hA (by simpa [cmpF_lt] using h)) (fun h => hB (by simpa [cmpF_lt] using h))
      refine ⟨KEEP_nil, h5 (fun h4 => ?_) (fun h4 => ?_)⟩
      · refine BINDw (by omega) (by omega) ⟨⟨k + 1, q, by congr 2; omega, by omega, by omega, hq0, .inr ?_, f2, effr hE018 hE19, hr18.eff hE19⟩, by first | omega | (dsimp only; omega)⟩
        rw [show k + 1 - 1 = k by omega, show h - (k + 1) = h - 1 - k by omega]
        omega
      · exact ⟨⟨p, k, rfl, hp0, by omega, by omega, f1, .inr h4, effr hE018 hE19, hr18.eff hE19⟩, by first | omega | (dsimp only; omega)⟩
    have hpq' : p = q := by omega
    subst hpq'
    refine BINDw (by omega) (by omega) ?_
    -- the four parts
    obtain ⟨e, he⟩ : ∃ e : Nat, e = h - p := ⟨_, rfl⟩
    have hpU : p ≤ U.length := by omega
    have heV : e ≤ V.length := by omega
    have hUs : U = U.take p ++ U.drop p := (List.take_append_drop p U).symm
    have hVs : V = V.take e ++ V.drop e := (List.take_append_drop e V).symm
    have l1 : (U.take p).length = p := by simp; omega
    have l2 : (U.drop p).length = U.length - p := by simp
    have l3 : (V.take e).length = e := by simp; omega
    have l4 : (V.drop e).length = V.length - e := by simp
    have cross1 : ∀ u ∈ U.take p, ∀ v ∈ V.drop e, lx key u v := by
      intro u hu v hv
      obtain ⟨i, hi, hi2, rfl⟩ := take_get hu
      obtain ⟨k, hk, hk2, rfl⟩ := drop_get hv
      have h1 := huv _ (getD_mem hi2) _ (getD_mem hk2)
      rcases f1 with f1 | f1
      · omega
      · have q1 := lx_mono hU (i := i) (j := p - 1) (by omega) (by omega)
        have q2 := lx_mono hV (i := e) (j := k) hk hk2
        rw [← he] at f1
        unfold lx; omega
    have cross2 : ∀ v ∈ V.take e, ∀ u ∈ U.drop p, lx key v u := by
      intro v hv u hu
      obtain ⟨k, hk, hk2, rfl⟩ := take_get hv
      obtain ⟨i, hi, hi2, rfl⟩ := drop_get hu
      rcases f2 with f2 | f2
      · omega
      · have q1 := lx_mono hV (i := k) (j := e - 1) (by omega) (by omega)
        have q2 := lx_mono hU (i := p) (j := i) hi hi2
        rw [show h - 1 - p = e - 1 by omega] at f2
        unfold lx; omega
    have hUd := hU
    rw [hUs, List.pairwise_append] at hUd
    have hVd := hV
    rw [hVs, List.pairwise_append] at hVd
    have hnum : a + (h : Int) + m - (a + p) = m + e := by omega
    rw [hnum]
    refine ⟨fun vs w' => vs = [] ∧ Eff w0 w' [g] ∧ Row w' g rest (A ++ (U.take p ++ (V.take e ++ (U.drop p ++ (V.drop e ++ B))))), ⟨fun vs w' => vs = [.bool (decide (a + (p : Int) < m ∧ m < m + e))] ∧ w' = w17, ?_, ?_⟩, ?_⟩
    · refine ITE_d (fun h4 => ⟨?_, rfl⟩) (fun h4 => ⟨?_, rfl⟩)
      · rw [decide_eq_decide.2 (show (m < m + (e : Int)) ↔ (a + (p : Int) < m ∧ m < m + e) by omega)]
      · rw [decide_eq_false (by omega)]
    · intro w20 v15 ⟨hv, hw⟩
      subst hw
      cases hv
      rw [BOOLV_bool]
      refine ITE_d (fun h4 => ?_) (fun h4 => ⟨rfl, hE1, ?_⟩)
      · have hr2 : Row w20 g rest ((A ++ U.take p) ++ (U.drop p ++ (V.take e ++ (V.drop e ++ B)))) := by
          have : (A ++ U.take p) ++ (U.drop p ++ (V.take e ++ (V.drop e ++ B))) = A ++ (U ++ (V ++ B)) := by
            conv => rhs; rw [hUs, hVs]
            simp only [List.append_assoc]
          rw [this]; exact hr1
        have hlA : (A ++ U.take p).length = A.length + p := by simp; omega
        refine (rotate_spec (A := A ++ U.take p) (U := U.drop p) (V := V.take e) (B := V.drop e ++ B) hE1 hr2 ?_ hbig (by omega) (by omega) (by rw [hlA]; omega) (by rw [hlA, l2]; omega) (by rw [hlA, l2, l3]; omega) cmp).mono fun v w21 ⟨hv, hE21, hr21⟩ => ?_
        · rw [hl]; simp only [List.length_append, l1, l2, l3, l4]; omega
        subst hv
        rw [TUP_0]
        exact ⟨rfl, hE21, by simpa only [List.append_assoc] using hr21⟩
      · have hz : U.drop p = [] ∨ V.take e = [] := by
          rcases Nat.eq_zero_or_pos e with h5 | h5
          · right; rw [h5]; rfl
          · left; exact List.length_eq_zero_iff.1 (by omega)
        have : A ++ (U.take p ++ (V.take e ++ (U.drop p ++ (V.drop e ++ B)))) = A ++ (U ++ (V ++ B)) := by
          rcases hz with h5 | h5
          · have h6 : U.take p = U := by
              have := List.take_append_drop p U
              rw [h5, List.append_nil] at this; exact this
            rw [h5, h6, List.nil_append, ← List.append_assoc (V.take e), List.take_append_drop]
          · have h6 : V.drop e = V := by
              have := List.take_append_drop e V
              rw [h5, List.nil_append] at this; exact this
            rw [h5, h6, List.nil_append, ← List.append_assoc (U.take p), List.take_append_drop]
        rw [this]; exact hr1
    intro w22 ⟨_, hE22, hr22⟩
    -- the first half
    refine ⟨fun vs w' => vs = [] ∧ Eff w0 w' [g] ∧ ∃ W, W.Perm (U.take p ++ V.take e) ∧ W.Pairwise (lx key) ∧ Row w' g rest (A ++ (W ++ (U.drop p ++ (V.drop e ++ B)))), ⟨fun vs w' => vs = [.bool (decide (a < a + (p : Int) ∧ a + (p : Int) < a + h))] ∧ w' = w22, ?_, ?_⟩, ?_⟩
    · refine ITE_d (fun h4 => ⟨?_, rfl⟩) (fun h4 => ⟨?_, rfl⟩)
      · rw [decide_eq_decide.2 (show (a + (p : Int) < a + (h : Int)) ↔ (a < a + (p : Int) ∧ a + (p : Int) < a + h) by omega)]
      · rw [decide_eq_false (by omega)]
    · intro w23 v17 ⟨hv, hw⟩
      subst hw
      cases hv
      rw [BOOLV_bool]
      refine ITE_d (fun h4 => ?_) (fun h4 => ⟨rfl, hE22, U.take p ++ V.take e, List.Perm.refl _, ?_, by simpa only [List.append_assoc] using hr22⟩)
      · refine (ih (A := A) (U := U.take p) (V := V.take e) (B := U.drop p ++ (V.drop e ++ B)) (by omega) hE22 hr22 ?_ hbig (by omega) (by omega) hUd.1 hVd.1 (fun u hu v hv => huv u (List.mem_of_mem_take hu) v (List.mem_of_mem_take hv))
          (fun u hu => hUx u (List.mem_of_mem_take hu)) (fun v hv => hVx v (List.mem_of_mem_take hv)) ha (by rw [l1]; omega) (by rw [l1, l3]; omega)).mono fun v w24 ⟨hv, hE24, W, hWp, hWs, hr24⟩ => ?_
        · rw [hl]; simp only [List.length_append, l1, l2, l3, l4]; omega
        subst hv
        rw [TUP_0]
        exact ⟨rfl, hE24, W, hWp, hWs, hr24⟩
      · rcases Nat.eq_zero_or_pos p with h5 | h5
        · rw [h5]; exact hVd.1
        · have : e = 0 := by omega
          rw [this, List.take_zero, List.append_nil]; exact hUd.1
    intro w25 ⟨_, hE25, W1, hW1, hW1s, hr25⟩
    have hW1l : W1.length = p + e := by rw [hW1.length_eq, List.length_append, l1, l3]
    -- what comes out at the end
    have fin : ∀ (w' : World) (W2 : List Int), Eff w0 w' [g] → W2.Perm (U.drop p ++ V.drop e) → W2.Pairwise (lx key) → Row w' g rest (A ++ (W1 ++ (W2 ++ B))) →
        Eff w0 w' [g] ∧ ∃ W, W.Perm (U ++ V) ∧ W.Pairwise (lx key) ∧ Row w' g rest (A ++ (W ++ B)) := by
      intro w' W2 hE' hp2 hs2 hr'
      refine ⟨hE', W1 ++ W2, ?_, ?_, by simpa only [List.append_assoc] using hr'⟩
      · refine (List.Perm.append hW1 hp2).trans ?_
        conv => rhs; rw [hUs, hVs]
        simp only [List.append_assoc]
        refine List.Perm.append_left _ ?_
        rw [← List.append_assoc, ← List.append_assoc (U.drop p)]
        exact List.Perm.append_right _ List.perm_append_comm
      · rw [List.pairwise_append]
        refine ⟨hW1s, hs2, fun x hx y hy => ?_⟩
        have hx := hW1.mem_iff.1 hx
        have hy := hp2.mem_iff.1 hy
        rcases List.mem_append.1 hx with hx | hx <;> rcases List.mem_append.1 hy with hy | hy
        · exact hUd.2.2 x hx y hy
        · exact cross1 x hx y hy
        · exact cross2 x hx y hy
        · exact hVd.2.2 x hx y hy
    have none2 : U.drop p = [] ∨ V.drop e = [] → (U.drop p ++ V.drop e).Pairwise (lx key) := by
      rintro (h5 | h5) <;> rw [h5]
      · exact hVd.2.1
      · rw [List.append_nil]; exact hUd.2.1
    refine ITE_d (fun h4 => ?_) (fun h4 => ?_)
    · refine ITE_d (fun h5 => ?_) (fun h5 => ?_)
      · have hr26 : Row w25 g rest ((A ++ W1) ++ (U.drop p ++ (V.drop e ++ B))) := by simpa only [List.append_assoc] using hr25
        have hlA : (A ++ W1).length = A.length + p + e := by rw [List.length_append, hW1l]; omega
        refine (ih (A := A ++ W1) (U := U.drop p) (V := V.drop e) (B := B) (by omega) hE25 hr26 (by rw [hlA, l2, l4, hl]; omega) hbig (by omega) (by omega) hUd.2.1 hVd.2.1 (fun u hu v hv => huv u (List.mem_of_mem_drop hu) v (List.mem_of_mem_drop hv))
          (fun u hu => hUx u (List.mem_of_mem_drop hu)) (fun v hv => hVx v (List.mem_of_mem_drop hv)) (by rw [hlA]; omega) (by rw [hlA, l2]; omega) (by rw [hlA, l2, l4]; omega)).mono fun v w26 ⟨hv, hE26, W2, hWp, hWs, hr27⟩ => ?_
        subst hv
        rw [TUP_0]
        exact ⟨by first | rfl | trivial, fin w26 W2 hE26 hWp hWs (by simpa only [List.append_assoc] using hr27)⟩
      · have h6 : V.drop e = [] := List.length_eq_zero_iff.1 (by omega)
        exact ⟨by first | rfl | trivial, fin w25 _ hE25 (List.Perm.refl _) (none2 (.inr h6)) (by simpa only [List.append_assoc] using hr25)⟩
    · have h6 : U.drop p = [] := List.length_eq_zero_iff.1 (by omega)
      exact ⟨by first | rfl | trivial, fin w25 _ hE25 (List.Perm.refl _) (none2 (.inl h6)) (by simpa only [List.append_assoc] using hr25)⟩

/-- Parts of so many each, every one in order. -/
inductive Ch (key : Int → Int) (s : Nat) : List Int → List Int → Prop where
  | last {xs ys : List Int} : xs.length ≤ s → ys.Perm xs → ys.Pairwise (lx key) → Ch key s xs ys
  | cons {U W xs ys : List Int} : U.length = s → W.Perm U → W.Pairwise (lx key) → Ch key s xs ys → Ch key s (U ++ xs) (W ++ ys)

theorem Ch.perm {s : Nat} {xs ys : List Int} (h : Ch key s xs ys) : ys.Perm xs := by
  induction h with
  | last _ h _ => exact h
  | cons _ h _ _ ih => exact h.append ih

/-- The first part. -/
theorem Ch.inv {s : Nat} {xs ys : List Int} (h : Ch key s xs ys) : ∃ U W xs' ys', xs = U ++ xs' ∧ ys = W ++ ys' ∧ W.Perm U ∧ W.Pairwise (lx key) ∧ U.length ≤ s ∧ (U.length = s ∧ Ch key s xs' ys' ∨ xs' = [] ∧ ys' = []) := by
  cases h with
  | last h1 h2 h3 => exact ⟨xs, ys, [], [], by simp, by simp, h2, h3, h1, .inr ⟨rfl, rfl⟩⟩
  | cons h1 h2 h3 h4 => exact ⟨_, _, _, _, rfl, rfl, h2, h3, by omega, .inl ⟨h1, h4⟩⟩

theorem Ch.nil_of {s : Nat} {ys : List Int} (h : Ch key s [] ys) : ys = [] := by
  simpa using h.perm
end
end Go.Proofs.Ytpopdookpbmmpaa
