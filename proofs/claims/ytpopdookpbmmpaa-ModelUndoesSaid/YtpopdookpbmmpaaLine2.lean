/- What the library's stable sort of whole numbers does: rows of a block of one's own. -/
import Derived.Test.YtpopdookpbmmpaaL1
import Derived.Test.YtpopdookpbmmpaaLine1
import Derived.Test.YtpopdookpbmmpaaSpan1
namespace Go.Proofs.Ytpopdookpbmmpaa
open Go.Den
set_option maxRecDepth 100000
set_option maxHeartbeats 4000000

/-- The block's first cells are these numbers, the others as they are told. -/
def Row (w : World) (g : Nat) (rest : List Value) (xs : List Int) : Prop := w.heap[g]? = some (.cells (xs.map (Value.int .i64) ++ rest).toArray T_int (0, 0))

/-- Two of them are compared by a key. -/
def CmpOk (w0 : World) (g : Nat) (cmp : Value) (key : Int → Int) (x0 : List Int) : Prop :=
  ∀ w, Eff w0 w [g] → ∀ a b, a ∈ x0 → b ∈ x0 → ∀ K : Value → World → Prop, (∀ w', Eff w w' [] → K (.int .i64 (cmpF (key a) (key b))) w') → FCALL Pg cmp [.int .i64 a, .int .i64 b] w K

theorem cmpF_lt {x y : Int} : cmpF x y < 0 ↔ x < y := by
  unfold cmpF
  split
  · simp_all
  · split <;> simp_all

theorem effr {a b c : World} {S : List Nat} (h : Eff a b S) (k : Eff b c []) : Eff a c S := (h.trans k).weak (by intro b hb _; simpa using hb)
theorem effg {a b c : World} {S : List Nat} (h : Eff a b S) (k : Eff b c S) : Eff a c S := (h.trans k).weak (by intro b hb _; simpa using hb)

theorem TUP_0 {A : Prop} : (TUPV (.tuple #[]) fun cs => LEN cs 0 A) = A := rfl

section
variable {w0 w : World} {g : Nat} {rest : List Value} {xs : List Int}

theorem Row.eff {w' : World} (h : Row w g rest xs) (hE : Eff w w' []) : Row w' g rest xs := hE.obj0 h

theorem RD {l : Nat} {i : Int} {K : Int → Prop} (hr : Row w g rest xs) (hl : l = xs.length) (h0 : 0 ≤ i) (h1 : i < l) (hK : K (xs.getD i.toNat 0)) :
    IDX (some ⟨g, 0, none⟩) l i 1 fun b o => LDi .i64 w ⟨b, o, none⟩ K := by
  refine ⟨h0, h1, ?_⟩
  dsimp only
  have hi : i.toNat < xs.length := by omega
  rw [LDi_of (n := xs.getD i.toNat 0) (by rw [cellH_of hr, Nat.zero_add, Nat.mul_one, List.getElem?_append_left (by simpa using hi)]; simp [List.getD_eq_getElem?_getD, hi])]
  exact hK

theorem WR {l : Nat} {i v : Int} {K : World → Prop} (hr : Row w g rest xs) (hl : l = xs.length) (h0 : 0 ≤ i) (h1 : i < l) (hK : ∀ w', Row w' g rest (xs.set i.toNat v) → Eff w w' [g] → K w') :
    IDX (some ⟨g, 0, none⟩) l i 1 fun b o => ST1 w ⟨b, o, none⟩ (.int .i64 v) K := by
  refine ⟨h0, h1, ?_⟩
  dsimp only
  have hi : i.toNat < xs.length := by omega
  refine ST1_of trivial hr (by simp; omega) fun w' hb hE => hK w' ?_ hE
  unfold Row
  rw [hb, Nat.zero_add, Nat.mul_one, List.set_append_left _ _ (by simpa using hi), List.map_set]

/-! ### Two that change places -/
variable {P Q R : List Int} {u v : Int}

theorem sw_len : (P ++ u :: (Q ++ v :: R)).length = P.length + 1 + Q.length + 1 + R.length := by simp; omega
theorem sw_lo {i : Nat} (hi : i = P.length) : (P ++ u :: (Q ++ v :: R)).getD i 0 = u := by subst hi; simp [List.getD_eq_getElem?_getD]
theorem sw_hi {i : Nat} (hi : i = P.length + 1 + Q.length) : (P ++ u :: (Q ++ v :: R)).getD i 0 = v := by
  subst hi
  rw [List.getD_eq_getElem?_getD, List.getElem?_append_right (by omega), show P.length + 1 + Q.length - P.length = Q.length + 1 by omega, List.getElem?_cons_succ, List.getElem?_append_right (Nat.le_refl _), Nat.sub_self]
  rfl
theorem sw_set {i j : Nat} (hi : i = P.length) (hj : j = P.length + 1 + Q.length) (a b : Int) : ((P ++ u :: (Q ++ v :: R)).set i a).set j b = P ++ a :: (Q ++ b :: R) := by
  subst hi hj
  rw [List.set_append_right _ _ (Nat.le_refl _), Nat.sub_self, List.set_cons_zero, List.set_append_right _ _ (by omega), show P.length + 1 + Q.length - P.length = Q.length + 1 by omega, List.set_cons_succ, List.set_append_right _ _ (Nat.le_refl _), Nat.sub_self, List.set_cons_zero]
theorem sw_tes {i j : Nat} (hi : i = P.length) (hj : j = P.length + 1 + Q.length) (a b : Int) : ((P ++ u :: (Q ++ v :: R)).set j b).set i a = P ++ a :: (Q ++ b :: R) := by
  rw [List.set_comm _ _ (by omega), sw_set hi hj]

theorem cons_drop {U : List Int} {i : Nat} (h : i < U.length) : U.drop i = U.getD i 0 :: U.drop (i + 1) := by
  rw [List.drop_eq_getElem_cons h]; simp [List.getD_eq_getElem?_getD, h]
theorem take_snoc {U : List Int} {i : Nat} (h : i < U.length) : U.take (i + 1) = U.take i ++ [U.getD i 0] := by
  rw [List.take_succ_eq_append_getElem h]; simp [List.getD_eq_getElem?_getD, h]

/-! ### swapRange, rotate -/
theorem swap_spec {A U M V B : List Int} {l c : Nat} {a b n : Int} (hE : Eff w0 w [g]) (hr : Row w g rest (A ++ (U ++ (M ++ (V ++ B))))) (hl : l = (A ++ (U ++ (M ++ (V ++ B)))).length) (hbig : l ≤ 1000000000000)
    (hUV : U.length = V.length) (ha : a = A.length) (hb : b = A.length + U.length + M.length) (hn : n = U.length) (cmp : Value) :
    CALL Pg F_slices_swapRangeCmpFunc_int [.slice (some ⟨g, 0, none⟩) l c, .int .i64 a, .int .i64 b, .int .i64 n, cmp] w fun v w' => v = .tuple #[] ∧ Eff w0 w' [g] ∧ Row w' g rest (A ++ (V ++ (M ++ (U ++ B)))) := by
  apply C_slices_swapRangeCmpFunc_int
  unfold D_slices_swapRangeCmpFunc_int
  subst ha hb hn
  have hlen : l = A.length + U.length + M.length + V.length + B.length := by rw [hl]; simp; omega
  refine LOOP_of (fun vs w' => ∃ i : Nat, vs = [.int .i64 i] ∧ i ≤ U.length ∧ Eff w0 w' [g] ∧ Row w' g rest (A ++ (V.take i ++ (U.drop i ++ (M ++ (U.take i ++ (V.drop i ++ B)))))))
    (fun vs _ => match vs with | [.int _ n] => U.length - n.toNat | _ => 0) ⟨0, rfl, by omega, hE, by simpa using hr⟩ ?_
  intro w1 v1 ⟨i, hv, hi, hE1, hr1⟩
  simp only [List.cons.injEq, and_true] at hv
  subst hv
  rw [INTV_int]
  refine ITE_d (fun h1 => ?_) (fun h1 => ?_)
  · have hiU : i < U.length := by omega
    have hiV : i < V.length := by omega
    have hx : A ++ (V.take i ++ (U.drop i ++ (M ++ (U.take i ++ (V.drop i ++ B))))) = (A ++ V.take i) ++ U.getD i 0 :: ((U.drop (i + 1) ++ (M ++ U.take i)) ++ V.getD i 0 :: (V.drop (i + 1) ++ B)) := by
      rw [cons_drop hiU, cons_drop hiV]; simp
    have hy : A ++ (V.take (i + 1) ++ (U.drop (i + 1) ++ (M ++ (U.take (i + 1) ++ (V.drop (i + 1) ++ B))))) = (A ++ V.take i) ++ V.getD i 0 :: ((U.drop (i + 1) ++ (M ++ U.take i)) ++ U.getD i 0 :: (V.drop (i + 1) ++ B)) := by
      rw [take_snoc hiU, take_snoc hiV]; simp
    rw [hx] at hr1
    have hP : (A ++ V.take i).length = A.length + i := by simp; omega
    have hQ : (U.drop (i + 1) ++ (M ++ U.take i)).length = U.length - (i + 1) + M.length + i := by simp; omega
    have hL : l = ((A ++ V.take i) ++ U.getD i 0 :: ((U.drop (i + 1) ++ (M ++ U.take i)) ++ V.getD i 0 :: (V.drop (i + 1) ++ B))).length := by
      rw [sw_len, hP, hQ, hlen]; simp; omega
    intro w2 hE2 _
    have hr2 := hr1.eff hE2
    refine BINDw (by omega) (by omega) (BINDw (by omega) (by omega) (BINDw (by omega) (by omega) (RD hr2 hL (by omega) (by omega) ?_)))
    rw [sw_hi (by rw [hP, hQ]; omega)]
    refine BINDw (by omega) (by omega) (RD hr2 hL (by omega) (by omega) ?_)
    rw [sw_lo (by rw [hP]; omega)]
    refine WR hr2 hL (by omega) (by omega) fun w3 hr3 hE3 => ?_
    refine ⟨KEEP_nil, WR hr3 (by rw [List.length_set]; exact hL) (by omega) (by omega) fun w4 hr4 hE4 => ⟨KEEP_nil, ?_⟩⟩
    rw [sw_set (by rw [hP]; omega) (by rw [hP, hQ]; omega), ← hy] at hr4
    exact BINDw (by omega) (by omega) ⟨⟨i + 1, rfl, by omega, effg (effg (effr hE1 hE2) hE3) hE4, hr4⟩, by first | omega | (dsimp only; omega)⟩
  · have : i = U.length := by omega
    subst this
    rw [hUV, List.take_length, List.drop_length, ← hUV, List.take_length, List.drop_length] at hr1
    exact ⟨rfl, hE1, by simpa using hr1⟩

theorem rotate_spec {A U V B : List Int} {l c : Nat} {a m b : Int} (hE : Eff w0 w [g]) (hr : Row w g rest (A ++ (U ++ (V ++ B)))) (hl : l = (A ++ (U ++ (V ++ B))).length) (hbig : l ≤ 1000000000000)
    (hU : 0 < U.length) (hV : 0 < V.length) (ha : a = A.length) (hm : m = A.length + U.length) (hb : b = A.length + U.length + V.length) (cmp : Value) :
    CALL Pg F_slices_rotateCmpFunc_int [.slice (some ⟨g, 0, none⟩) l c, .int .i64 a, .int .i64 m, .int .i64 b, cmp] w fun v w' => v = .tuple #[] ∧ Eff w0 w' [g] ∧ Row w' g rest (A ++ (V ++ (U ++ B))) := by
  apply C_slices_rotateCmpFunc_int
  unfold D_slices_rotateCmpFunc_int
  have hlen : l = A.length + U.length + V.length + B.length := by rw [hl]; simp; omega
  generalize hT : A ++ (V ++ (U ++ B)) = T
  refine BINDw (by omega) (by omega) (BINDw (by omega) (by omega) ?_)
  refine LOOP_of (fun vs w' => ∃ A U V B : List Int, vs = [.int .i64 U.length, .int .i64 V.length] ∧ 0 < U.length ∧ 0 < V.length ∧ m = A.length + U.length ∧ l = A.length + U.length + V.length + B.length ∧ A ++ (V ++ (U ++ B)) = T ∧ Eff w0 w' [g] ∧ Row w' g rest (A ++ (U ++ (V ++ B))))
    (fun vs _ => match vs with | [.int _ p, .int _ q] => p.toNat + q.toNat | _ => 0) ⟨A, U, V, B, by rw [show m - a = U.length by omega, show b - m = V.length by omega], hU, hV, hm, hlen, hT, hE, hr⟩ ?_
  clear hE hr hl hU hV ha hm hb hlen hT A U V B
  intro w1 v1 v2 ⟨A, U, V, B, hv, hU, hV, hm, hlen, hT, hE, hr⟩
  simp only [List.cons.injEq, and_true] at hv
  obtain ⟨rfl, rfl⟩ := hv
  simp only [INTV_int]
  refine ITE_ne (fun h1 => ?_) (fun h1 => ?_)
  · refine ITE_d (fun h2 => ?_) (fun h2 => ?_)
    · -- U is the longer one
      obtain ⟨U1, U2, rfl, hU1⟩ : ∃ U1 U2, U = U1 ++ U2 ∧ U1.length = V.length := ⟨U.take V.length, U.drop V.length, by rw [List.take_append_drop], by simp; omega⟩
      simp only [List.length_append] at h1 h2 hm hlen
      simp only [List.length_append]
      refine BINDw (by omega) (by omega) ?_
      refine (swap_spec (rest := rest) (A := A) (U := U1) (M := U2) (V := V) (B := B) hE (by simpa using hr) (by simp; omega) hbig hU1 (by omega) (by omega) (by omega) cmp).mono fun v w2 ⟨hv, hE2, hr2⟩ => ?_
      subst hv
      rw [TUP_0]
      refine BINDw (by omega) (by omega) ⟨⟨A ++ V, U2, U1, B, ?_, by omega, by omega, by simp; omega, by simp; omega, by rw [← hT]; simp, hE2, by simpa using hr2⟩, ?_⟩
      · rw [hU1]; congr 3; omega
      · omega
    · obtain ⟨V1, V2, rfl, hV2⟩ : ∃ V1 V2, V = V1 ++ V2 ∧ V2.length = U.length := ⟨V.take (V.length - U.length), V.drop (V.length - U.length), by rw [List.take_append_drop], by simp; omega⟩
      simp only [List.length_append] at h1 h2 hlen hV
      simp only [List.length_append]
      refine BINDw (by omega) (by omega) (BINDw (by omega) (by omega) (BINDw (by omega) (by omega) ?_))
      refine (swap_spec (rest := rest) (A := A) (U := U) (M := V1) (V := V2) (B := B) hE (by simpa using hr) (by simp; omega) hbig hV2.symm (by omega) (by omega) rfl cmp).mono fun v w2 ⟨hv, hE2, hr2⟩ => ?_
      subst hv
      rw [TUP_0]
      refine BINDw (by omega) (by omega) ⟨⟨A, V2, V1, U ++ B, ?_, by omega, by omega, by omega, by simp; omega, by rw [← hT]; simp, hE2, by simpa using hr2⟩, ?_⟩
      · rw [hV2]; congr 4; omega
      · omega
  · refine BINDw (by omega) (by omega) ?_
    refine (swap_spec (rest := rest) (A := A) (U := U) (M := []) (V := V) (B := B) hE (by simpa using hr) (by simp; omega) hbig (by omega) (by omega) (by simp; omega) rfl cmp).mono fun v w2 ⟨hv, hE2, hr2⟩ => ?_
    subst hv
    rw [TUP_0]
    exact ⟨by first | rfl | trivial, hE2, by rw [← hT]; simpa using hr2⟩
end
end Go.Proofs.Ytpopdookpbmmpaa
