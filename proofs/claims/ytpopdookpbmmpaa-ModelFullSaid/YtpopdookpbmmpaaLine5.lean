/- What the library's stable sort of whole numbers does, as a whole; the order of events. -/
import Derived.Test.YtpopdookpbmmpaaLine4
namespace Go.Proofs.Ytpopdookpbmmpaa
open Go.Den
set_option maxRecDepth 100000
set_option maxHeartbeats 4000000

section
variable {w0 w : World} {g : Nat} {rest : List Value} {cmp : Value} {key : Int → Int} {x0 : List Int}

theorem Ch.small {s : Nat} {xs ys : List Int} (h : Ch key s xs ys) (hl : ys.length ≤ s) : ys.Perm xs ∧ ys.Pairwise (lx key) := by
  obtain ⟨U, W, xs', ys', rfl, rfl, hp, hs, hU, hr⟩ := h.inv
  have hwl := hp.length_eq
  rcases hr with ⟨h1, h2⟩ | ⟨rfl, rfl⟩
  · have h3 : ys' = [] := List.length_eq_zero_iff.1 (by simp at hl; omega)
    subst h3
    have h4 : xs' = [] := by simpa using h2.perm.symm
    subst h4
    simpa using ⟨hp, hs⟩
  · simpa using ⟨hp, hs⟩

/-- A first part as long as can be. -/
theorem Ch.front {s : Nat} {xs ys : List Int} (h : Ch key s xs ys) (hl : s ≤ ys.length) : ∃ U W xs' ys', xs = U ++ xs' ∧ ys = W ++ ys' ∧ W.Perm U ∧ W.Pairwise (lx key) ∧ U.length = s ∧ Ch key s xs' ys' := by
  obtain ⟨U, W, xs', ys', rfl, rfl, hp, hs, hU, hr⟩ := h.inv
  have hwl := hp.length_eq
  rcases hr with ⟨h1, h2⟩ | ⟨rfl, rfl⟩
  · exact ⟨U, W, xs', ys', rfl, rfl, hp, hs, h1, h2⟩
  · exact ⟨U, W, [], [], rfl, rfl, hp, hs, by simp at hl; omega, .last (by simp) (List.Perm.refl _) (by simp)⟩

theorem stable_none {la : Option Addr} {lc : Nat} (cmp : Value) : CALL Pg F_slices_stableCmpFunc_int [.slice la 0 lc, .int .i64 0, cmp] w fun v w' => v = .tuple #[] ∧ w' = w := by
  apply C_slices_stableCmpFunc_int
  unfold D_slices_stableCmpFunc_int
  refine LOOP_of (fun vs w' => vs = [.int .i64 0, .int .i64 20] ∧ w' = w) (fun _ _ => 0) ⟨rfl, rfl⟩ ?_
  intro w1 v1 v2 ⟨hv, hw⟩
  subst hw
  simp only [List.cons.injEq, and_true] at hv
  obtain ⟨rfl, rfl⟩ := hv
  simp only [INTV_int]
  refine ITE_d (fun h => by omega) (fun _ => ?_)
  refine (ins_none (by omega) (by omega) (by omega) cmp).mono fun v w' ⟨hv, hw⟩ => ?_
  subst hv hw
  rw [TUP_0]
  refine LOOP_of (fun vs w2 => vs = [.int .i64 0, .int .i64 20, .int .i64 20] ∧ w2 = w') (fun _ _ => 0) ⟨rfl, rfl⟩ ?_
  intro w4 v5 v6 v7 ⟨hv, hw⟩
  subst hw
  simp only [List.cons.injEq, and_true] at hv
  obtain ⟨rfl, rfl, rfl⟩ := hv
  simp only [INTV_int]
  exact ITE_d (fun h => by omega) (fun _ => ⟨by first | rfl | trivial, by first | rfl | trivial⟩)

theorem stable_spec (hc : CmpOk w0 g cmp key x0) {xs : List Int} {l c : Nat} (hE : Eff w0 w [g]) (hr : Row w g rest xs) (hl : l = xs.length) (hbig : l ≤ 100000000000) (hs : xs.Pairwise (· < ·)) (hx : ∀ x ∈ xs, x ∈ x0) :
    CALL Pg F_slices_stableCmpFunc_int [.slice (some ⟨g, 0, none⟩) l c, .int .i64 l, cmp] w fun r w' => r = .tuple #[] ∧ Eff w0 w' [g] ∧ ∃ ys, ys.Perm xs ∧ ys.Pairwise (lx key) ∧ Row w' g rest ys := by
  apply C_slices_stableCmpFunc_int
  unfold D_slices_stableCmpFunc_int
  refine LOOP_of (fun vs w' => ∃ X D R : List Int, vs = [.int .i64 D.length, .int .i64 (D.length + 20)] ∧ xs = X ++ R ∧ D.length = X.length ∧ Eff w0 w' [g] ∧ Row w' g rest (D ++ R) ∧ ∀ ys, Ch key 20 R ys → Ch key 20 xs (D ++ ys))
    (fun vs _ => match vs with | [.int _ n, _] => l - n.toNat | _ => 0) ⟨[], [], xs, rfl, rfl, rfl, hE, hr, fun ys h => h⟩ ?_
  clear hE hr
  intro w1 v1 v2 ⟨X, D, R, hv, hX, hD, hE1, hr1, hch⟩
  simp only [List.cons.injEq, and_true] at hv
  obtain ⟨rfl, rfl⟩ := hv
  simp only [INTV_int]
  have hlen : l = D.length + R.length := by rw [hl, hX, List.length_append, hD]
  have hRs : R.Pairwise (· < ·) := by rw [hX, List.pairwise_append] at hs; exact hs.2.1
  have hRx : ∀ x ∈ R, x ∈ x0 := fun x h => hx x (by rw [hX]; simp [h])
  refine ITE_d (fun h1 => ?_) (fun h1 => ?_)
  · obtain ⟨R1, R2, rfl, hR1⟩ : ∃ R1 R2, R = R1 ++ R2 ∧ R1.length = 20 := ⟨R.take 20, R.drop 20, by rw [List.take_append_drop], by simp; omega⟩
    have hlen : l = D.length + 20 + R2.length := by rw [hlen]; simp; omega
    rw [List.pairwise_append] at hRs
    refine (ins_spec hc (A := D) (U := R1) (B := R2) hE1 hr1 (by rw [hlen]; simp; omega) (by omega) hRs.1 (fun x h => hRx x (by simp [h])) (by omega) rfl (by rw [hR1]; rfl)).mono fun v w2 ⟨hv, hE2, W, hW, hWs, hr2⟩ => ?_
    subst hv
    rw [TUP_0]
    have hWl := hW.length_eq
    refine BINDw (by omega) (by omega) ⟨⟨X ++ R1, D ++ W, R2, ?_, by rw [hX]; simp, by simp; omega, hE2, by simpa using hr2, fun ys h => ?_⟩, by first | omega | (dsimp only; omega)⟩
    · congr 2
      · simp; omega
      · congr 2; simp; omega
    · have := hch (W ++ ys) (.cons hR1 hW hWs h)
      simpa using this
  -- the last one
  have hins : CALL Pg F_slices_insertionSortCmpFunc_int [.slice (some ⟨g, 0, none⟩) l c, .int .i64 D.length, .int .i64 l, cmp] w1 fun v w' => v = .tuple #[] ∧ Eff w0 w' [g] ∧ ∃ W, W.Perm R ∧ W.Pairwise (lx key) ∧ Row w' g rest (D ++ W) := by
    rcases Nat.eq_zero_or_pos R.length with h2 | h2
    · have h3 : R = [] := List.length_eq_zero_iff.1 h2
      subst h3
      refine (ins_none (by omega) (by omega) (by omega) cmp).mono fun v w' ⟨hv, hw⟩ => ?_
      subst hw
      exact ⟨hv, hE1, [], List.Perm.refl _, by simp, hr1⟩
    · refine (ins_spec (rest := rest) hc (A := D) (U := R) (B := []) hE1 (by simpa using hr1) (by rw [hlen]; simp) (by omega) hRs hRx h2 rfl (by omega)).mono fun v w' ⟨hv, hE2, W, hW, hWs, hr2⟩ => ?_
      exact ⟨hv, hE2, W, hW, hWs, by simpa using hr2⟩
  refine hins.mono fun v w3 ⟨hv, hE3, W, hW, hWs, hr3⟩ => ?_
  subst hv
  rw [TUP_0]
  have hCh : Ch key 20 xs (D ++ W) := hch W (.last (by omega) hW hWs)
  refine LOOP_of (fun vs w' => ∃ (a b : Int) (s : Nat) (ys : List Int), vs = [.int .i64 a, .int .i64 b, .int .i64 s] ∧ 0 < s ∧ s ≤ 1000000000000 ∧ Eff w0 w' [g] ∧ Row w' g rest ys ∧ Ch key s xs ys)
    (fun vs _ => match vs with | [_, _, .int _ n] => l - n.toNat | _ => 0) ⟨_, _, 20, D ++ W, rfl, by omega, by omega, hE3, hr3, hCh⟩ ?_
  clear hE1 hr1 hch hlen hRs hRx h1 hins hE3 hr3 hCh hW hWs hX hD
  intro w4 v5 v6 v7 ⟨a, b, s, ys, hv, hs0, hs1, hE4, hr4, hCh⟩
  simp only [List.cons.injEq, and_true] at hv
  obtain ⟨rfl, rfl, rfl⟩ := hv
  simp only [INTV_int]
  have hyl : ys.length = l := by rw [hCh.perm.length_eq, hl]
  refine ITE_d (fun h1 => ?_) (fun h1 => ?_)
  · refine BINDw (by omega) (by omega) ?_
    refine LOOP_of (fun vs w' => ∃ X X' D R : List Int, vs = [.int .i64 D.length, .int .i64 (D.length + 2 * s)] ∧ xs = X ++ X' ∧ D.length = X.length ∧ Eff w0 w' [g] ∧ Row w' g rest (D ++ R) ∧ Ch key s X' R ∧ ∀ zs, Ch key (2 * s) X' zs → Ch key (2 * s) xs (D ++ zs))
      (fun vs _ => match vs with | [.int _ n, _] => l - n.toNat | _ => 0) ⟨[], xs, [], ys, by simp, rfl, rfl, hE4, hr4, hCh, fun zs h => h⟩ ?_
    clear hE4 hr4 hCh hyl
    intro w5 v8 v9 ⟨X, X', D, R, hv, hX, hD, hE5, hr5, hCh, hch⟩
    simp only [List.cons.injEq, and_true] at hv
    obtain ⟨rfl, rfl⟩ := hv
    simp only [INTV_int]
    have hRl := hCh.perm.length_eq
    have hlen : l = D.length + R.length := by rw [hl, hX, List.length_append, hD, hRl]
    have hXs : X'.Pairwise (· < ·) := by rw [hX, List.pairwise_append] at hs; exact hs.2.1
    have hXx : ∀ x ∈ X', x ∈ x0 := fun x h => hx x (by rw [hX]; simp [h])
    refine ITE_d (fun h2 => ?_) (fun h2 => ?_)
    · refine BINDw (by omega) (by omega) ?_
      obtain ⟨U1, W1, X1, R1, rfl, rfl, hp1, hs1', hU1, hC1⟩ := hCh.front (by omega)
      have hW1 := hp1.length_eq
      simp only [List.length_append] at hlen hRl
      obtain ⟨U2, W2, X2, R2, rfl, rfl, hp2, hs2', hU2, hC2⟩ := hC1.front (by omega)
      have hW2 := hp2.length_eq
      simp only [List.length_append] at hlen hRl
      rw [List.pairwise_append] at hXs
      refine (sym_spec hc (W1.length + W2.length) (A := D) (U := W1) (V := W2) (B := R2) (Nat.le_refl _) hE5 hr5 (by omega) (by omega) (by omega) (by omega) hs1' hs2'
        (fun u hu v hv => hXs.2.2 u (hp1.mem_iff.1 hu) v (by simp [hp2.mem_iff.1 hv])) (fun u hu => hXx u (by simp [hp1.mem_iff.1 hu])) (fun v hv => hXx v (by simp [hp2.mem_iff.1 hv])) rfl (by omega) (by omega)).mono fun v w6 ⟨hv, hE6, W, hW, hWs, hr6⟩ => ?_
      subst hv
      rw [TUP_0]
      have hWl := hW.length_eq
      rw [List.length_append] at hWl
      refine BINDw (by omega) (by omega) (BINDw (by omega) (by omega) ⟨⟨X ++ (U1 ++ U2), X2, D ++ W, R2, ?_, by rw [hX]; simp, by simp; omega, hE6, by simpa using hr6, hC2, fun zs h => ?_⟩, by first | omega | (dsimp only; omega)⟩)
      · congr 2
        · simp; omega
        · congr 2; simp; omega
      · have := hch (W ++ zs) (by
          rw [← List.append_assoc]
          exact .cons (by simp; omega) (hW.trans (hp1.append hp2)) hWs h)
        simpa using this
    · refine ⟨fun vs w' => vs = [] ∧ Eff w0 w' [g] ∧ ∃ zs, Row w' g rest zs ∧ Ch key (2 * s) xs zs, ⟨fun vs w' => vs = [.int .i64 (D.length + s)] ∧ w' = w5, BINDw (by omega) (by omega) ⟨rfl, rfl⟩, ?_⟩, ?_⟩
      · intro w7 v11 ⟨hv, hw⟩
        subst hw
        simp only [List.cons.injEq, and_true] at hv
        subst hv
        rw [INTV_int]
        refine ITE_d (fun h3 => ?_) (fun h3 => ?_)
        · obtain ⟨U1, W1, X1, R1, rfl, rfl, hp1, hs1', hU1, hC1⟩ := hCh.front (by omega)
          have hW1 := hp1.length_eq
          simp only [List.length_append] at hlen hRl
          obtain ⟨hp2, hs2'⟩ := hC1.small (by omega)
          rw [List.pairwise_append] at hXs
          refine (sym_spec (rest := rest) hc (W1.length + R1.length) (A := D) (U := W1) (V := R1) (B := []) (Nat.le_refl _) hE5 (by simpa using hr5) (by simp; omega) (by omega) (by omega) (by omega) hs1' hs2'
            (fun u hu v hv => hXs.2.2 u (hp1.mem_iff.1 hu) v (hp2.mem_iff.1 hv)) (fun u hu => hXx u (by simp [hp1.mem_iff.1 hu])) (fun v hv => hXx v (by simp [hp2.mem_iff.1 hv])) rfl (by omega) (by omega)).mono fun v w6 ⟨hv, hE6, W, hW, hWs, hr6⟩ => ?_
          subst hv
          rw [TUP_0]
          exact ⟨rfl, hE6, D ++ W, by simpa using hr6, hch W (.last (by simp; omega) (hW.trans (hp1.append hp2)) hWs)⟩
        · obtain ⟨hp, hss⟩ := hCh.small (by omega)
          exact ⟨rfl, hE5, D ++ R, hr5, hch R (.last (by omega) hp hss)⟩
      · intro w9 ⟨_, hE9, zs, hr9, hC9⟩
        refine BINDw (by omega) (by omega) ⟨⟨_, _, 2 * s, zs, by congr 4; omega, by omega, by omega, hE9, hr9, hC9⟩, by first | omega | (dsimp only; omega)⟩
  · obtain ⟨hp, hss⟩ := hCh.small (by omega)
    exact ⟨by first | rfl | trivial, hE4, ys, hp, hss, hr4⟩

theorem sort_spec (hc : CmpOk w0 g cmp key x0) {xs : List Int} {l c : Nat} (hE : Eff w0 w [g]) (hr : Row w g rest xs) (hl : l = xs.length) (hbig : l ≤ 100000000000) (hs : xs.Pairwise (· < ·)) (hx : ∀ x ∈ xs, x ∈ x0) :
    CALL Pg F_slices_SortStableFunc_Lint_int [.slice (some ⟨g, 0, none⟩) l c, cmp] w fun r w' => r = .tuple #[] ∧ Eff w0 w' [g] ∧ ∃ ys, ys.Perm xs ∧ ys.Pairwise (lx key) ∧ Row w' g rest ys := by
  apply C_slices_SortStableFunc_Lint_int
  unfold D_slices_SortStableFunc_Lint_int
  refine (stable_spec hc hE hr hl hbig hs hx).mono fun v w' ⟨hv, h⟩ => ?_
  subst hv
  rw [TUP_0]
  exact ⟨rfl, h⟩

theorem sort_none {la : Option Addr} {lc : Nat} (cmp : Value) : CALL Pg F_slices_SortStableFunc_Lint_int [.slice la 0 lc, cmp] w fun v w' => v = .tuple #[] ∧ w' = w := by
  apply C_slices_SortStableFunc_Lint_int
  unfold D_slices_SortStableFunc_Lint_int
  refine (stable_none cmp).mono fun v w' ⟨hv, h⟩ => ?_
  subst hv
  rw [TUP_0]
  exact ⟨rfl, h⟩
end

/-! ### Events in memory -/
def encE (e : Ev) : List Value := [.int .i64 e.w, .int .i64 e.rk, .int .i64 e.rn, .int .i64 e.ac, .int .i64 e.an, .int .i64 e.st, .int .i64 e.b, .int .i64 e.p, .int .i64 e.e]
abbrev SlE := @Sl Ev encE 9

theorem IDX_e {h : Array Obj} {a : Option Addr} {l : Nat} {xs : List Ev} {i : Int} {K : Nat → Nat → Prop} (hs : SlE h a l xs) (h0 : 0 ≤ i) (h1 : i < l)
    (hK : ∀ b o, (∀ j v, (encE (atE xs i))[j]? = some v → cellH h b (o + j) = some v) → K b o) : IDX a l i 9 K :=
  IDX_sl hs h0 h1 fun b o x hx hc => hK b o (by
    unfold atE
    rw [List.getD_eq_getElem?_getD, hx]
    exact hc)

/-- Whole numbers in a slice of one's own. -/
abbrev OwI (w : World) (v : Value) (xs : List Int) : Prop := w.ownsRow 0 T_int 1 v xs.length (xs.map (Value.int .i64))
theorem elem_int : Elem Pg T_Lint T_int 1 8 := Elem.of (by kernel_rfl)

section
variable {w : World}

theorem OwI.sl {a : Option Addr} {l c : Nat} {xs : List Int} (h : OwI w (.slice a l c) xs) : l = xs.length ∧ SlI w.heap a l xs := own_slI h
theorem OwI.eff {w' : World} {v : Value} {xs : List Int} (h : OwI w v xs) (hE : Eff w w' []) : OwI w' v xs := own_eff0 h hE

theorem SEML_int {v : Value} {xs : List Int} {x : Int} {vb : Nat} {K : Value → World → Prop} (ho : OwI w v xs) (hl : xs.length ≤ 1000000000000) (hvb : w.heap[vb]? = some (.cells [.int .i64 x].toArray T_int (0, 0)))
    (hK : ∀ a' c' w', OwI w' (.slice a' (xs.length + 1) c') (xs ++ [x]) → Eff w w' (ownL v) → (∀ b ∈ ownL (.slice a' (xs.length + 1) c'), b ∈ ownL v ∨ b = w.heap.size) → K (.slice a' (xs.length + 1) c') w') :
    SEML Pg w (Builtin.append_ #[T_Lint, T_Lint] T_Lint #[v, .slice (some ⟨vb, 0, none⟩) 1 1]) K := by
  refine SEML_app (m := 1) (news := [.int .i64 x]) elem_int ho rfl (.inr ⟨vb, 0, rfl, fun j u hu => by rw [cellH_of hvb, Nat.zero_add]; exact hu⟩) (by simp only [List.mem_cons, List.not_mem_nil, or_false]; rintro u rfl; trivial)
    (by omega) (by omega) (Nat.zero_le _) fun a' c' w' h1 h2 h3 => hK a' c' w' ?_ h2 h3
  unfold OwI
  rw [List.map_append, List.length_append]
  exact h1

/-- Nine cells of a block of one's own are set. -/
theorem ST9_of {w₀ w : World} {b : Nat} {x0 x1 x2 x3 x4 x5 x6 x7 x8 u0 u1 u2 u3 u4 u5 u6 u7 u8 : Int} {t : TypeId} {K : World → Prop} (hE : Eff w₀ w []) (hb0 : w₀.heap.size ≤ b)
    (hb : w.heap[b]? = some (.cells [.int .i64 x0, .int .i64 x1, .int .i64 x2, .int .i64 x3, .int .i64 x4, .int .i64 x5, .int .i64 x6, .int .i64 x7, .int .i64 x8].toArray t (0, 0)))
    (hK : ∀ w', Eff w₀ w' [] → w'.heap[b]? = some (.cells [.int .i64 u0, .int .i64 u1, .int .i64 u2, .int .i64 u3, .int .i64 u4, .int .i64 u5, .int .i64 u6, .int .i64 u7, .int .i64 u8].toArray t (0, 0)) → Eff w w' [b] → K w') :
    ST1 w ⟨b, 0, none⟩ (.int .i64 u0) fun w => ST1 w ⟨b, 1, none⟩ (.int .i64 u1) fun w => ST1 w ⟨b, 2, none⟩ (.int .i64 u2) fun w => ST1 w ⟨b, 3, none⟩ (.int .i64 u3) fun w => ST1 w ⟨b, 4, none⟩ (.int .i64 u4) fun w =>
      ST1 w ⟨b, 5, none⟩ (.int .i64 u5) fun w => ST1 w ⟨b, 6, none⟩ (.int .i64 u6) fun w => ST1 w ⟨b, 7, none⟩ (.int .i64 u7) fun w => ST1 w ⟨b, 8, none⟩ (.int .i64 u8) K := by
  refine ST1_of trivial hb (by simp) fun w1 h1 e1 => ST1_of trivial h1 (by simp) fun w2 h2 e2 => ST1_of trivial h2 (by simp) fun w3 h3 e3 => ST1_of trivial h3 (by simp) fun w4 h4 e4 => ST1_of trivial h4 (by simp) fun w5 h5 e5 =>
    ST1_of trivial h5 (by simp) fun w6 h6 e6 => ST1_of trivial h6 (by simp) fun w7 h7 e7 => ST1_of trivial h7 (by simp) fun w8 h8 e8 => ST1_of trivial h8 (by simp) fun w9 h9 e9 => ?_
  have hall := effg (effg (effg (effg (effg (effg (effg (effg e1 e2) e3) e4) e5) e6) e7) e8) e9
  exact hK w9 (hE.own hall (by simpa using hb0)) h9 hall

/-- The numbers of events that count, among the first so many. -/
def cntK (l : List Ev) (k : Nat) : List Int := ((List.range k).filter fun i => decide (0 < (l.getD i ev0).p)).map Int.ofNat

theorem cntK_len (l : List Ev) (k : Nat) : (cntK l k).length ≤ k := by
  unfold cntK
  rw [List.length_map]
  exact Nat.le_trans (List.length_filter_le _ _) (by simp)

theorem line_Order_1_spec {l : List Ev} {la : Option Addr} {ll lc b1 : Nat} (hs : SlE w.heap la ll l) (hb : cellH w.heap b1 0 = some (.slice la ll lc)) {a b : Int} (ha : 0 ≤ a ∧ a < ll) (hb2 : 0 ≤ b ∧ b < ll) :
    CALL Pg F_line_Order_1 [.int .i64 a, .int .i64 b, .pointer (some ⟨b1, 0, none⟩)] w fun v w' => Eff w w' [] ∧ v = .int .i64 (cmpF (pt l a) (pt l b)) := by
  apply C_line_Order_1
  unfold D_line_Order_1
  intro w1 hE1 _
  show LDl w1 ⟨b1, 0, none⟩ _
  rw [LDl_of (hE1.cell0 hb)]
  refine IDX_e (hs.eff hE1) ha.1 ha.2 fun p o hc => ?_
  rw [LDi_of (hc 7 _ rfl)]
  show LDl w1 ⟨b1, 0, none⟩ _
  rw [LDl_of (hE1.cell0 hb)]
  refine IDX_e (hs.eff hE1) hb2.1 hb2.2 fun p o hc => ?_
  rw [LDi_of (hc 7 _ rfl)]
  refine (Compare_spec _ _).mono fun v w2 ⟨hE2, hv⟩ => ?_
  subst hv
  rw [INTV_int]
  exact ⟨KEEP_nil, hE1.trans0 hE2, rfl⟩

theorem Order_spec {l : List Ev} {la : Option Addr} {ll lc : Nat} (hs : SlE w.heap la ll l) (hl : ll ≤ 1000000000) :
    CALL Pg F_line_Order [.slice la ll lc] w fun u w' => Eff w w' [] ∧ ∃ o a' c', u = .slice a' o.length c' ∧ IsOrd l o ∧ OwI w' u o ∧ ∀ b ∈ ownL u, w.heap.size ≤ b := by
  apply C_line_Order
  unfold D_line_Order
  have hll := hs.1
  intro b1 w1 hE1 hs1 hb1
  rw [LDl_of (cellH_of hb1 0)]
  refine LOOP_of (fun vs w' => ∃ (k : Nat) (v : Value), vs = [v, .int .i64 k] ∧ k ≤ ll ∧ Eff w1 w' [] ∧ OwI w' v (cntK l k) ∧ ∀ b ∈ ownL v, w1.heap.size ≤ b)
    (fun vs _ => match vs with | [_, .int _ n] => ll - n.toNat | _ => 0) ⟨0, _, rfl, by omega, Eff.refl _, ⟨rfl, .inl ⟨rfl, rfl⟩⟩, by simp [ownL, Value.ownBlock]⟩ ?_
  intro w2 v1 v2 ⟨k, v, hv, hk, hE2, ho, hn⟩
  simp only [List.cons.injEq, and_true] at hv
  obtain ⟨rfl, rfl⟩ := hv
  obtain ⟨a2, c2, rfl⟩ := own_slice ho
  rw [INTV_int, SLV_slice]
  have hck := cntK_len l k
  have hE02 := hE1.trans0 hE2
  refine ITE_d (fun h1 => ?_) (fun h1 => ?_)
  · refine IDX_e (hs.eff hE02) (by omega) (by omega) fun b o hc => ?_
    have e0 := hc 0 _ rfl
    rw [Nat.add_zero] at e0
    rw [LDi_of e0, LDi_of (hc 1 _ rfl), LDi_of (hc 2 _ rfl), LDi_of (hc 3 _ rfl), LDi_of (hc 4 _ rfl), LDi_of (hc 5 _ rfl), LDi_of (hc 6 _ rfl), LDi_of (hc 7 _ rfl), LDi_of (hc 8 _ rfl)]
    intro b3 w3 hE3 hs3 hb3
    refine ST9_of hE3 hs3 hb3 fun w12 hE12 hb12 _ => ?_
    rw [LDi_of (cellH_of hb12 7)]
    have hE112 := hE2.trans0 hE12
    have hck1 : cntK l (k + 1) = cntK l k ++ if 0 < (l.getD k ev0).p then [(k : Int)] else [] := by
      unfold cntK
      rw [List.range_succ, List.filter_append, List.map_append]
      congr 1
      simp only [List.filter_cons, List.filter_nil]
      by_cases h : 0 < (l.getD k ev0).p
      · rw [if_pos h, if_pos (decide_eq_true h)]; rfl
      · rw [if_neg h, if_neg (by simpa using h)]; rfl
    have hat : atE l (k : Int) = l.getD k ev0 := by unfold atE; simp
    rw [hat]
    refine ITE_d (fun h2 => ?_) (fun h2 => ?_)
    · intro b4 w13 hE13 hs13 hb13
      refine SEML_int ((ho.eff hE12).eff hE13) (by omega) hb13 fun a' c' w14 ho14 hE14 hn14 => ?_
      rw [SLV_slice]
      have hE113 := hE112.trans0 hE13
      refine BINDw (by omega) (by omega) ⟨⟨k + 1, _, rfl, by omega, hE113.own hE14 hn, ?_, fun b hb => ?_⟩, by first | omega | (dsimp only; omega)⟩
      · rw [hck1, if_pos h2]
        unfold OwI at ho14 ⊢
        rw [List.length_append]
        simpa using ho14
      · rcases hn14 b hb with h | h
        · exact hn b h
        · rw [h]; exact hE113.size
    · refine BINDw (by omega) (by omega) ⟨⟨k + 1, _, rfl, by omega, hE112, ?_, hn⟩, by first | omega | (dsimp only; omega)⟩
      rw [hck1, if_neg (by omega), List.append_nil]
      exact ho.eff hE12
  · have hkl : k = l.length := by omega
    subst hkl
    have hcn : cntK l l.length = cnt l := rfl
    rw [hcn] at ho hn hck ⊢
    rcases Nat.eq_zero_or_pos (cnt l).length with h0 | h0
    · rw [h0]
      refine (sort_none _).mono fun v w3 ⟨hv, hw⟩ => ?_
      subst hv hw
      rw [TUP_0]
      have hz : cnt l = [] := List.length_eq_zero_iff.1 h0
      refine ⟨hE02, [], a2, c2, rfl, ⟨by rw [hz], by simp⟩, ?_, fun b hb => ?_⟩
      · rw [hz] at ho; exact ho
      · exact Nat.le_trans hE1.size (hn b (by rw [h0]; exact hb))
    · obtain ⟨g, cur, rfl, _, hg, hcur, hnc, hcm, htk, _⟩ := own_form ho h0
      rw [Nat.mul_one] at hcur htk
      have hrow : Row w2 g (cur.drop (cnt l).length) (cnt l) := by
        unfold Row
        rw [← htk, List.take_append_drop]; exact hg
      have hge : w1.heap.size ≤ g := hn g (by simp [ownL, Value.ownBlock])
      have hb1lt := obj_lt hb1
      have hcmp : CmpOk w2 g (.func (.func F_line_Order_1) #[] #[.pointer (some ⟨b1, 0, none⟩)]) (pt l) (cnt l) := by
        intro w3 hE3 a b ha hb K hK
        have ha := mem_cnt.1 ha
        have hb := mem_cnt.1 hb
        refine ⟨by kernel_rfl, ?_⟩
        have hE13 : Eff w1 w3 [] := hE2.own hE3 (by simpa using hge)
        have hE03 := hE1.trans0 hE13
        exact (line_Order_1_spec (hs.eff hE03) (by rw [cellH_of (hE13.obj0 hb1)]; rfl) (by omega) (by omega)).mono fun v w4 ⟨hE4, hv⟩ => by subst hv; exact hK w4 hE4
      refine (sort_spec hcmp ((Eff.refl w2).weak (by simp)) hrow rfl (by omega) (cnt_sorted l) (fun x h => h)).mono fun v w3 ⟨hv, hE3, ys, hp, hsd, hr3⟩ => ?_
      subst hv
      rw [TUP_0]
      have hyl := hp.length_eq
      refine ⟨hE1.trans0 (hE2.own hE3 (by simpa using hge)), ys, _, c2, by rw [hyl], ⟨hp, hsd⟩, ?_, fun b hb => ?_⟩
      · unfold OwI
        rw [← hyl]
        refine own_mk hr3 ?_ (by omega) hcm ?_ (by simp) (Nat.zero_le _)
        · simp; omega
        · rw [Nat.mul_one]; exact List.take_left' (by simp)
      · exact Nat.le_trans hE1.size (hn b hb)
end
end Go.Proofs.Ytpopdookpbmmpaa
