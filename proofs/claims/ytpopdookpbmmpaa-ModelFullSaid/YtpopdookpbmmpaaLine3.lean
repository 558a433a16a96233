/- What the library's stable sort of whole numbers does: insertion, merging in place. -/
import Derived.Test.YtpopdookpbmmpaaLine2
namespace Go.Proofs.Ytpopdookpbmmpaa
open Go.Den
set_option maxRecDepth 100000
set_option maxHeartbeats 4000000

section
variable {key : Int → Int}

theorem ins_sorted {S1 S2 : List Int} {x : Int} (hS : (S1 ++ S2).Pairwise (lx key)) (hlt : ∀ s ∈ S1 ++ S2, s < x) (h2 : ∀ s ∈ S2, key x < key s) (h1 : ∀ s ∈ S1, key s ≤ key x) : (S1 ++ x :: S2).Pairwise (lx key) := by
  rw [List.pairwise_append] at hS ⊢
  refine ⟨hS.1, List.pairwise_cons.2 ⟨fun s hs => .inl (h2 s hs), hS.2.1⟩, fun s hs t ht => ?_⟩
  rcases List.mem_cons.1 ht with rfl | ht
  · have := h1 s hs
    have := hlt s (by simp [hs])
    unfold lx; omega
  · exact hS.2.2 s hs t ht

theorem lx_le {a b : Int} (h : lx key a b) : key a ≤ key b := by unfold lx at h; omega

theorem lx_mono {V : List Int} (h : V.Pairwise (lx key)) {i j : Nat} (hij : i ≤ j) (hj : j < V.length) : key (V.getD i 0) ≤ key (V.getD j 0) := by
  rcases Nat.lt_or_ge i j with h1 | h1
  · have := List.pairwise_iff_getElem.1 h i j (by omega) hj h1
    have e1 : V.getD i 0 = V[i]'(by omega) := by simp [show i < V.length by omega]
    have e2 : V.getD j 0 = V[j] := by simp [hj]
    rw [e1, e2]; exact lx_le this
  · have : i = j := by omega
    rw [this]; exact Int.le_refl _

theorem getD_mem {V : List Int} {i : Nat} (h : i < V.length) : V.getD i 0 ∈ V := by
  have e : V.getD i 0 = V[i] := by simp [h]
  rw [e]; exact List.getElem_mem _

theorem gU {A U X : List Int} {i k : Nat} (h : k < U.length) (hi : i = A.length + k) : (A ++ (U ++ X)).getD i 0 = U.getD k 0 := by
  subst hi
  simp only [List.getD_eq_getElem?_getD]
  rw [List.getElem?_append_right (by omega), show A.length + k - A.length = k by omega, List.getElem?_append_left h]
theorem gV {A U V X : List Int} {i k : Nat} (h : k < V.length) (hi : i = A.length + U.length + k) : (A ++ (U ++ (V ++ X))).getD i 0 = V.getD k 0 := by
  rw [← List.append_assoc]
  exact gU h (by simpa using hi)

theorem half (x : Int) (h0 : 0 ≤ x) (h1 : x ≤ 9223372036854775807) {K : Int → Prop} (hK : K (x / 2)) : BIND (IntKind.i64.wrap x) fun n_4 => BIND (IntKind.u64.wrap n_4) fun n_5 => GE0 1 (BIND (shI BinOp.shr IntKind.u64 n_5 1) fun n_6 => BIND (IntKind.i64.wrap n_6) K) := by
  refine BINDw (by omega) (by omega) (BINDu (by omega) (by omega) (GE0_of (by decide) (BINDx (shr1 x) (BINDw (by omega) (by omega) hK))))
end

section
variable {w0 w : World} {g : Nat} {rest : List Value} {cmp : Value} {key : Int → Int} {x0 : List Int}

theorem ins_none {la : Option Addr} {ll lc : Nat} {a b : Int} (h : b ≤ a + 1) (h0 : 0 ≤ a) (h1 : a ≤ 1000000000000) (cmp : Value) :
    CALL Pg F_slices_insertionSortCmpFunc_int [.slice la ll lc, .int .i64 a, .int .i64 b, cmp] w fun v w' => v = .tuple #[] ∧ w' = w := by
  apply C_slices_insertionSortCmpFunc_int
  unfold D_slices_insertionSortCmpFunc_int
  refine BINDw (by omega) (by omega) (LOOP_of (fun vs w' => vs = [.int .i64 (a + 1)] ∧ w' = w) (fun _ _ => 0) ⟨rfl, rfl⟩ ?_)
  intro w1 v1 ⟨hv, hw⟩
  simp only [List.cons.injEq, and_true] at hv
  subst hv
  rw [INTV_int]
  exact ITE_d (fun h => by omega) (fun _ => ⟨rfl, hw⟩)

theorem ins_spec (hc : CmpOk w0 g cmp key x0) {A U B : List Int} {l c : Nat} {a b : Int} (hE : Eff w0 w [g]) (hr : Row w g rest (A ++ (U ++ B))) (hl : l = (A ++ (U ++ B)).length) (hbig : l ≤ 1000000000000)
    (hU : U.Pairwise (· < ·)) (hm : ∀ x ∈ U, x ∈ x0) (hU0 : 0 < U.length) (ha : a = A.length) (hb : b = A.length + U.length) :
    CALL Pg F_slices_insertionSortCmpFunc_int [.slice (some ⟨g, 0, none⟩) l c, .int .i64 a, .int .i64 b, cmp] w fun v w' => v = .tuple #[] ∧ Eff w0 w' [g] ∧ ∃ W, W.Perm U ∧ W.Pairwise (lx key) ∧ Row w' g rest (A ++ (W ++ B)) := by
  apply C_slices_insertionSortCmpFunc_int
  unfold D_slices_insertionSortCmpFunc_int
  have hlen : l = A.length + U.length + B.length := by rw [hl]; simp; omega
  refine BINDw (by omega) (by omega) ?_
  refine LOOP_of (fun vs w' => ∃ S U0 R : List Int, vs = [.int .i64 (a + S.length)] ∧ U = U0 ++ R ∧ S.Perm U0 ∧ S.Pairwise (lx key) ∧ Eff w0 w' [g] ∧ Row w' g rest (A ++ (S ++ (R ++ B))))
    (fun vs _ => match vs with | [.int _ n] => l - n.toNat | _ => 0) ?_ ?_
  · cases U with
    | nil => simp at hU0
    | cons u U => exact ⟨[u], [u], U, by simp, rfl, List.Perm.refl _, by simp, hE, by simpa using hr⟩
  clear hr hE
  intro w1 v1 ⟨S, U0, R, hv, hUR, hp, hS, hE1, hr1⟩
  simp only [List.cons.injEq, and_true] at hv
  subst hv
  rw [INTV_int]
  have hpl := hp.length_eq
  have hul : U.length = U0.length + R.length := by rw [hUR]; simp
  refine ITE_d (fun h1 => ?_) (fun h1 => ?_)
  · cases R with
    | nil => simp at hul; omega
    | cons x R =>
      simp only [List.length_cons] at hul
      have hlt : ∀ s ∈ S, s < x := fun s hs => by
        rw [hUR, List.pairwise_append] at hU
        exact hU.2.2 s (hp.mem_iff.1 hs) x (by simp)
      have hx0 : x ∈ x0 := hm x (by rw [hUR]; simp)
      have hS0 : ∀ s ∈ S, s ∈ x0 := fun s hs => hm s (by rw [hUR, List.mem_append]; exact .inl (hp.mem_iff.1 hs))
      refine LOOP_of (fun vs w' => ∃ S1 S2 : List Int, vs = [.int .i64 (a + S1.length)] ∧ S = S1 ++ S2 ∧ (∀ s ∈ S2, key x < key s) ∧ Eff w0 w' [g] ∧ Row w' g rest (A ++ (S1 ++ (x :: (S2 ++ (R ++ B))))))
        (fun vs _ => match vs with | [.int _ n] => n.toNat | _ => 0) ⟨S, [], rfl, by simp, by simp, hE1, hr1⟩ ?_
      intro w2 v2 ⟨S1, S2, hv, hSS, hS2, hE2, hr2⟩
      simp only [List.cons.injEq, and_true] at hv
      subst hv
      rw [INTV_int]
      have hsl : S.length = S1.length + S2.length := by rw [hSS]; simp
      intro w3 hE3 _
      have hr3 := hr2.eff hE3
      have hE03 := effr hE2 hE3
      -- at the end of the inner loop
      have fin : ∀ w', Eff w0 w' [g] → Row w' g rest (A ++ (S1 ++ (x :: (S2 ++ (R ++ B))))) → (∀ s ∈ S1, key s ≤ key x) →
          ∃ S U0 R : List Int, [Value.int .i64 (a + S1.length + S2.length + 1)] = [.int .i64 (a + S.length)] ∧ U = U0 ++ R ∧ S.Perm U0 ∧ S.Pairwise (lx key) ∧ Eff w0 w' [g] ∧ Row w' g rest (A ++ (S ++ (R ++ B))) := by
        intro w' hE' hr' h1
        refine ⟨S1 ++ x :: S2, U0 ++ [x], R, by simp; omega, by simp [hUR], ?_, ins_sorted (hSS ▸ hS) (hSS ▸ hlt) hS2 h1, hE', by simpa using hr'⟩
        refine (List.perm_middle.trans ?_).trans (List.perm_append_singleton x U0).symm
        rw [← hSS]
        exact hp.cons x
      refine ITE_d (fun h2 => ?_) (fun h2 => ?_)
      · rcases List.eq_nil_or_concat S1 with rfl | ⟨S3, s, rfl⟩
        · simp at h2
        simp only [List.concat_eq_append] at *
        simp only [List.length_append, List.length_cons, List.length_nil] at h2 hsl fin ⊢
        have hx : A ++ ((S3 ++ [s]) ++ (x :: (S2 ++ (R ++ B)))) = (A ++ S3) ++ s :: ([] ++ x :: (S2 ++ (R ++ B))) := by simp
        have hy : A ++ (S3 ++ (x :: ((s :: S2) ++ (R ++ B)))) = (A ++ S3) ++ x :: ([] ++ s :: (S2 ++ (R ++ B))) := by simp
        have hr4 := hr3
        rw [hx] at hr3
        have hL : l = ((A ++ S3) ++ s :: ([] ++ x :: (S2 ++ (R ++ B)))).length := by rw [sw_len]; simp; omega
        refine RD hr3 hL (by omega) (by omega) ?_
        rw [sw_hi (by simp; omega)]
        refine BINDw (by omega) (by omega) (RD hr3 hL (by omega) (by omega) ?_)
        rw [sw_lo (by simp; omega)]
        refine hc w3 hE03 x s hx0 (hS0 s (by rw [hSS]; simp)) _ fun w4 hE4 => ?_
        rw [INTV_int]
        have hE04 := effr hE03 hE4
        refine ⟨KEEP_nil, ITE_d (fun h3 => ?_) (fun h3 => ?_)⟩
        · rw [cmpF_lt] at h3
          intro w5 hE5 _
          have hE05 := effr hE04 hE5
          have hr5 := (hr3.eff hE4).eff hE5
          refine BINDw (by omega) (by omega) (BINDw (by omega) (by omega) (RD hr5 hL (by omega) (by omega) ?_))
          rw [sw_lo (by simp; omega)]
          refine RD hr5 hL (by omega) (by omega) ?_
          rw [sw_hi (by simp; omega)]
          refine WR hr5 hL (by omega) (by omega) fun w6 hr6 hE6 => ⟨KEEP_nil, WR hr6 (by rw [List.length_set]; exact hL) (by omega) (by omega) fun w7 hr7 hE7 => ⟨KEEP_nil, ?_⟩⟩
          rw [sw_tes (by simp; omega) (by simp; omega), ← hy] at hr7
          refine BINDw (by omega) (by omega) ⟨⟨S3, s :: S2, by congr 2; omega, by rw [hSS]; simp, fun t ht => ?_, effg (effg hE05 hE6) hE7, hr7⟩, by first | omega | (dsimp only; omega)⟩
          rcases List.mem_cons.1 ht with rfl | ht
          · exact h3
          · exact hS2 t ht
        · rw [cmpF_lt] at h3
          refine BINDw (by omega) (by omega) ⟨?_, by first | omega | (dsimp only; omega)⟩
          have := fin w4 hE04 (hr4.eff hE4) (fun t ht => by
            rcases List.mem_append.1 ht with ht | ht
            · have : lx key t s := by
                rw [hSS, List.pairwise_append, List.pairwise_append] at hS
                exact hS.1.2.2 t ht s (by simp)
              have := lx_le this
              omega
            · simp at ht; subst ht; omega)
          rw [hsl]
          rw [show a + ((S3.length + (0 + 1) + S2.length : Nat) : Int) + 1 = a + ((S3.length + (0 + 1) : Nat) : Int) + (S2.length : Int) + 1 by omega]
          exact this
      · have hS10 : S1 = [] := List.length_eq_zero_iff.1 (by omega)
        refine BINDw (by omega) (by omega) ⟨?_, by first | omega | (dsimp only; omega)⟩
        have := fin w3 hE03 hr3 (fun s hs => by rw [hS10] at hs; cases hs)
        rw [hsl]
        rw [show a + ((S1.length + S2.length : Nat) : Int) + 1 = a + (S1.length : Int) + (S2.length : Int) + 1 by omega]
        exact this
  · have hR : R = [] := List.length_eq_zero_iff.1 (by omega)
    subst hR
    exact ⟨rfl, hE1, S, by rw [hUR]; simpa using hp, hS, by simpa using hr1⟩

/-- A run moved into its place among the others. -/
theorem one_in {u : Int} {V : List Int} {p : Nat} (hV : V.Pairwise (lx key)) (h1 : ∀ v ∈ V.take p, lx key v u) (h2 : ∀ v ∈ V.drop p, lx key u v) : (V.take p ++ u :: V.drop p).Pairwise (lx key) := by
  have hV' := hV
  rw [← List.take_append_drop p V, List.pairwise_append] at hV'
  rw [List.pairwise_append]
  refine ⟨hV'.1, List.pairwise_cons.2 ⟨h2, hV'.2.1⟩, fun a ha b hb => ?_⟩
  rcases List.mem_cons.1 hb with rfl | hb
  · exact h1 a ha
  · exact hV'.2.2 a ha b hb

theorem take_get {V : List Int} {p : Nat} {v : Int} (h : v ∈ V.take p) : ∃ k, k < p ∧ k < V.length ∧ v = V.getD k 0 := by
  obtain ⟨k, hk, rfl⟩ := List.getElem_of_mem h
  simp at hk
  exact ⟨k, by omega, by omega, by simp [List.getD_eq_getElem?_getD, show k < V.length by omega]⟩
theorem drop_get {V : List Int} {p : Nat} {v : Int} (h : v ∈ V.drop p) : ∃ k, p ≤ k ∧ k < V.length ∧ v = V.getD k 0 := by
  obtain ⟨k, hk, rfl⟩ := List.getElem_of_mem h
  simp at hk
  exact ⟨p + k, by omega, by omega, by simp [List.getD_eq_getElem?_getD, show p + k < V.length by omega]⟩

/-- One ahead of a run. -/
theorem sym_left (hc : CmpOk w0 g cmp key x0) {A V B : List Int} {u : Int} {l c : Nat} {a m b : Int} (hE : Eff w0 w [g]) (hr : Row w g rest (A ++ ([u] ++ (V ++ B)))) (hl : l = A.length + 1 + V.length + B.length) (hbig : l ≤ 1000000000000)
    (hV : V.Pairwise (lx key)) (huv : ∀ v ∈ V, u < v) (hu0 : u ∈ x0) (hV0 : ∀ v ∈ V, v ∈ x0) (ha : a = A.length) (hm : m = A.length + 1) (hb : b = A.length + 1 + V.length) :
    CALL Pg F_slices_symMergeCmpFunc_int [.slice (some ⟨g, 0, none⟩) l c, .int .i64 a, .int .i64 m, .int .i64 b, cmp] w fun v w' => v = .tuple #[] ∧ Eff w0 w' [g] ∧ ∃ W, W.Perm ([u] ++ V) ∧ W.Pairwise (lx key) ∧ Row w' g rest (A ++ (W ++ B)) := by
  apply C_slices_symMergeCmpFunc_int
  unfold D_slices_symMergeCmpFunc_int
  have hL : l = (A ++ ([u] ++ (V ++ B))).length := by rw [hl]; simp; omega
  refine BINDw (by omega) (by omega) (ITE_eq (fun _ => ?_) (fun h => by omega))
  refine LOOP_of (fun vs w' => ∃ p q : Nat, vs = [.int .i64 (m + p), .int .i64 (m + q)] ∧ p ≤ q ∧ q ≤ V.length ∧ (∀ k, k < p → key (V.getD k 0) < key u) ∧ (∀ k, q ≤ k → k < V.length → key u ≤ key (V.getD k 0)) ∧ Eff w0 w' [g] ∧ Row w' g rest (A ++ ([u] ++ (V ++ B))))
    (fun vs _ => match vs with | [.int _ i, .int _ j] => j.toNat - i.toNat | _ => 0) ⟨0, V.length, by simp; omega, by omega, by omega, by simp, fun k h1 h2 => by omega, hE, hr⟩ ?_
  clear hE hr
  intro w1 v1 v2 ⟨p, q, hv, hpq, hq, h1, h2, hE1, hr1⟩
  simp only [List.cons.injEq, and_true] at hv
  obtain ⟨rfl, rfl⟩ := hv
  simp only [INTV_int]
  refine ITE_d (fun h3 => ?_) (fun h3 => ?_)
  · refine half _ (by omega) (by omega) ?_
    obtain ⟨h, hh⟩ : ∃ h : Nat, (m + p + (m + q)) / 2 = m + h := ⟨((m + p + (m + q)) / 2 - m).toNat, by first | omega | (dsimp only; omega)⟩
    rw [hh]
    have hhp : p ≤ h ∧ h < q := by omega
    intro w2 hE2 _
    have hr2 := hr1.eff hE2
    have hE02 := effr hE1 hE2
    refine RD hr2 hL (by omega) (by omega) ?_
    rw [gV (U := [u]) (k := h) (by omega) (by simp; omega)]
    refine RD hr2 hL (by omega) (by omega) ?_
    rw [gU (U := [u]) (k := 0) (by simp) (by omega)]
    refine hc w2 hE02 _ _ (hV0 _ (getD_mem (by omega))) hu0 _ fun w3 hE3 => ?_
    rw [INTV_int]
    refine ⟨KEEP_nil, ITE_d (fun h4 => ?_) (fun h4 => ?_)⟩
    · rw [cmpF_lt] at h4
      refine BINDw (by omega) (by omega) ⟨⟨h + 1, q, by congr 2; omega, by omega, hq, fun k hk => ?_, h2, effr hE02 hE3, hr2.eff hE3⟩, by first | omega | (dsimp only; omega)⟩
      have := lx_mono hV (i := k) (j := h) (by omega) (by omega)
      exact Int.lt_of_le_of_lt this h4
    · rw [cmpF_lt] at h4
      refine ⟨⟨p, h, rfl, by omega, by omega, h1, fun k hk hk2 => ?_, effr hE02 hE3, hr2.eff hE3⟩, by first | omega | (dsimp only; omega)⟩
      have := lx_mono hV (i := h) (j := k) (by omega) (by omega)
      have h4 : ¬ key (V.getD h 0) < key u := h4
      omega
  have hpq' : p = q := by omega
  subst hpq'
  refine LOOP_of (fun vs w' => ∃ t : Nat, vs = [.int .i64 (a + t)] ∧ t ≤ p ∧ Eff w0 w' [g] ∧ Row w' g rest (A ++ (V.take t ++ (u :: (V.drop t ++ B)))))
    (fun vs _ => match vs with | [.int _ i] => l - i.toNat | _ => 0) ⟨0, by simp, by omega, hE1, by simpa using hr1⟩ ?_
  intro w4 v4 ⟨t, hv, ht, hE4, hr4⟩
  simp only [List.cons.injEq, and_true] at hv
  subst hv
  rw [INTV_int]
  refine BINDw (by omega) (by omega) (ITE_d (fun h4 => ?_) (fun h4 => ?_))
  · have htV : t < V.length := by omega
    have hx : A ++ (V.take t ++ (u :: (V.drop t ++ B))) = (A ++ V.take t) ++ u :: ([] ++ V.getD t 0 :: (V.drop (t + 1) ++ B)) := by rw [cons_drop htV]; simp
    have hy : A ++ (V.take (t + 1) ++ (u :: (V.drop (t + 1) ++ B))) = (A ++ V.take t) ++ V.getD t 0 :: ([] ++ u :: (V.drop (t + 1) ++ B)) := by rw [take_snoc htV]; simp
    rw [hx] at hr4
    have hP : (A ++ V.take t).length = A.length + t := by simp; omega
    have hL4 : l = ((A ++ V.take t) ++ u :: ([] ++ V.getD t 0 :: (V.drop (t + 1) ++ B))).length := by rw [sw_len, hP, hl]; simp; omega
    intro w5 hE5 _
    have hr5 := hr4.eff hE5
    refine BINDw (by omega) (by omega) (BINDw (by omega) (by omega) (RD hr5 hL4 (by omega) (by omega) ?_))
    rw [sw_hi (by rw [hP]; simp; omega)]
    refine RD hr5 hL4 (by omega) (by omega) ?_
    rw [sw_lo (by rw [hP]; omega)]
    refine WR hr5 hL4 (by omega) (by omega) fun w6 hr6 hE6 => ⟨KEEP_nil, WR hr6 (by rw [List.length_set]; exact hL4) (by omega) (by omega) fun w7 hr7 hE7 => ⟨KEEP_nil, ?_⟩⟩
    rw [sw_set (by rw [hP]; omega) (by rw [hP]; simp; omega), ← hy] at hr7
    exact BINDw (by omega) (by omega) ⟨⟨t + 1, by congr 2; omega, by omega, effg (effg (effr hE4 hE5) hE6) hE7, hr7⟩, by first | omega | (dsimp only; omega)⟩
  · have : t = p := by omega
    subst this
    refine ⟨by first | rfl | trivial, hE4, V.take t ++ u :: V.drop t, ?_, one_in hV (fun v hv => ?_) (fun v hv => ?_), by simpa using hr4⟩
    · refine List.perm_middle.trans ?_
      rw [List.take_append_drop]; exact List.Perm.refl _
    · obtain ⟨k, hk, _, rfl⟩ := take_get hv
      exact .inl (h1 k hk)
    · obtain ⟨k, hk, hk2, rfl⟩ := drop_get hv
      have := h2 k hk hk2
      have := huv _ (getD_mem hk2)
      unfold lx; omega

/-- One behind a run. -/
theorem sym_right (hc : CmpOk w0 g cmp key x0) {A U B : List Int} {v : Int} {l c : Nat} {a m b : Int} (hE : Eff w0 w [g]) (hr : Row w g rest (A ++ (U ++ ([v] ++ B)))) (hl : l = A.length + U.length + 1 + B.length) (hbig : l ≤ 1000000000000)
    (hU2 : U.length ≠ 1) (hU : U.Pairwise (lx key)) (huv : ∀ u ∈ U, u < v) (hv0 : v ∈ x0) (hU0 : ∀ u ∈ U, u ∈ x0) (ha : a = A.length) (hm : m = A.length + U.length) (hb : b = A.length + U.length + 1) :
    CALL Pg F_slices_symMergeCmpFunc_int [.slice (some ⟨g, 0, none⟩) l c, .int .i64 a, .int .i64 m, .int .i64 b, cmp] w fun r w' => r = .tuple #[] ∧ Eff w0 w' [g] ∧ ∃ W, W.Perm (U ++ [v]) ∧ W.Pairwise (lx key) ∧ Row w' g rest (A ++ (W ++ B)) := by
  apply C_slices_symMergeCmpFunc_int
  unfold D_slices_symMergeCmpFunc_int
  have hL : l = (A ++ (U ++ ([v] ++ B))).length := by rw [hl]; simp; omega
  refine BINDw (by omega) (by omega) (ITE_eq (fun _ => by omega) (fun h => BINDw (by omega) (by omega) (ITE_eq (fun _ => ?_) (fun h => by omega))))
  refine LOOP_of (fun vs w' => ∃ p q : Nat, vs = [.int .i64 (a + p), .int .i64 (a + q)] ∧ p ≤ q ∧ q ≤ U.length ∧ (∀ k, k < p → key (U.getD k 0) ≤ key v) ∧ (∀ k, q ≤ k → k < U.length → key v < key (U.getD k 0)) ∧ Eff w0 w' [g] ∧ Row w' g rest (A ++ (U ++ ([v] ++ B))))
    (fun vs _ => match vs with | [.int _ i, .int _ j] => j.toNat - i.toNat | _ => 0) ⟨0, U.length, by simp; omega, by omega, by omega, by simp, fun k h1 h2 => by omega, hE, hr⟩ ?_
  clear hE hr
  intro w1 v1 v2 ⟨p, q, hv, hpq, hq, h1, h2, hE1, hr1⟩
  simp only [List.cons.injEq, and_true] at hv
  obtain ⟨rfl, rfl⟩ := hv
  simp only [INTV_int]
  refine ITE_d (fun h3 => ?_) (fun h3 => ?_)
  · refine half _ (by omega) (by omega) ?_
    obtain ⟨h, hh⟩ : ∃ h : Nat, (a + p + (a + q)) / 2 = a + h := ⟨((a + p + (a + q)) / 2 - a).toNat, by first | omega | (dsimp only; omega)⟩
    rw [hh]
    have hhp : p ≤ h ∧ h < q := by omega
    intro w2 hE2 _
    have hr2 := hr1.eff hE2
    have hE02 := effr hE1 hE2
    refine RD hr2 hL (by omega) (by omega) ?_
    rw [gV (V := [v]) (k := 0) (by simp) (by omega)]
    refine RD hr2 hL (by omega) (by omega) ?_
    rw [gU (U := U) (k := h) (by omega) (by omega)]
    refine hc w2 hE02 _ _ hv0 (hU0 _ (getD_mem (by omega))) _ fun w3 hE3 => ?_
    rw [INTV_int]
    have h5 : ∀ {A B : Prop}, (¬ key v < key (U.getD h 0) → A) → (key v < key (U.getD h 0) → B) → ITE (!decide (cmpF (key ([v].getD 0 0)) (key (U.getD h 0)) < 0)) A B := fun hA hB => ITE_intro (fun h => hA (by simpa [cmpF_lt] using h)) (fun h => hB (by simpa [cmpF_lt] using h))
    refine ⟨KEEP_nil, h5 (fun h4 => ?_) (fun h4 => ?_)⟩
    · refine BINDw (by omega) (by omega) ⟨⟨h + 1, q, by congr 2; omega, by omega, hq, fun k hk => ?_, h2, effr hE02 hE3, hr2.eff hE3⟩, by first | omega | (dsimp only; omega)⟩
      have := lx_mono hU (i := k) (j := h) (by omega) (by omega)
      omega
    · refine ⟨⟨p, h, rfl, by omega, by omega, h1, fun k hk hk2 => ?_, effr hE02 hE3, hr2.eff hE3⟩, by first | omega | (dsimp only; omega)⟩
      have := lx_mono hU (i := h) (j := k) (by omega) (by omega)
      omega
  have hpq' : p = q := by omega
  subst hpq'
  refine LOOP_of (fun vs w' => ∃ t : Nat, vs = [.int .i64 (a + t)] ∧ p ≤ t ∧ t ≤ U.length ∧ Eff w0 w' [g] ∧ Row w' g rest (A ++ (U.take t ++ (v :: (U.drop t ++ B)))))
    (fun vs _ => match vs with | [.int _ i] => i.toNat | _ => 0) ⟨U.length, by rw [hm, ha], by omega, by omega, hE1, by simpa using hr1⟩ ?_
  intro w4 v4 ⟨t, hv, ht, ht2, hE4, hr4⟩
  simp only [List.cons.injEq, and_true] at hv
  subst hv
  rw [INTV_int]
  refine ITE_d (fun h4 => ?_) (fun h4 => ?_)
  · obtain ⟨s, rfl⟩ : ∃ s, t = s + 1 := ⟨t - 1, by first | omega | (dsimp only; omega)⟩
    have htU : s < U.length := by omega
    have hx : A ++ (U.take (s + 1) ++ (v :: (U.drop (s + 1) ++ B))) = (A ++ U.take s) ++ U.getD s 0 :: ([] ++ v :: (U.drop (s + 1) ++ B)) := by rw [take_snoc htU]; simp
    have hy : A ++ (U.take s ++ (v :: (U.drop s ++ B))) = (A ++ U.take s) ++ v :: ([] ++ U.getD s 0 :: (U.drop (s + 1) ++ B)) := by rw [cons_drop htU]; simp
    rw [hx] at hr4
    have hP : (A ++ U.take s).length = A.length + s := by simp; omega
    have hL4 : l = ((A ++ U.take s) ++ U.getD s 0 :: ([] ++ v :: (U.drop (s + 1) ++ B))).length := by rw [sw_len, hP, hl]; simp; omega
    intro w5 hE5 _
    have hr5 := hr4.eff hE5
    refine BINDw (by omega) (by omega) (BINDw (by omega) (by omega) (RD hr5 hL4 (by omega) (by omega) ?_))
    rw [sw_lo (by rw [hP]; omega)]
    refine RD hr5 hL4 (by omega) (by omega) ?_
    rw [sw_hi (by rw [hP]; simp; omega)]
    refine WR hr5 hL4 (by omega) (by omega) fun w6 hr6 hE6 => ⟨KEEP_nil, WR hr6 (by rw [List.length_set]; exact hL4) (by omega) (by omega) fun w7 hr7 hE7 => ⟨KEEP_nil, ?_⟩⟩
    rw [sw_tes (by rw [hP]; omega) (by rw [hP]; simp; omega), ← hy] at hr7
    exact BINDw (by omega) (by omega) ⟨⟨s, by congr 2; omega, by omega, by omega, effg (effg (effr hE4 hE5) hE6) hE7, hr7⟩, by first | omega | (dsimp only; omega)⟩
  · have : t = p := by omega
    subst this
    refine ⟨by first | rfl | trivial, hE4, U.take t ++ v :: U.drop t, ?_, one_in hU (fun u hu => ?_) (fun u hu => ?_), by simpa using hr4⟩
    · refine (List.perm_middle.trans ?_).trans (List.perm_append_singleton v U).symm
      rw [List.take_append_drop]
    · obtain ⟨k, hk, hk2, rfl⟩ := take_get hu
      have := h1 k hk
      have := huv _ (getD_mem hk2)
      unfold lx; omega
    · obtain ⟨k, hk, hk2, rfl⟩ := drop_get hu
      exact .inl (h2 k hk hk2)
end
end Go.Proofs.Ytpopdookpbmmpaa
