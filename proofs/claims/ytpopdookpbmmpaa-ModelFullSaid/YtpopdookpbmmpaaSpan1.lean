/- What the functions of package span find: binary search. -/
import Derived.Test.YtpopdookpbmmpaaS1
namespace Go.Proofs.Ytpopdookpbmmpaa
open Go.Den

abbrev Iv := Int × Int
def encV (x : Iv) : List Value := [.int .i64 x.1, .int .i64 x.2]
theorem encV_len (x : Iv) : (encV x).length = 2 := rfl
theorem elem_iv : Elem Pg T_Lapi_Interval T_api_Interval_api_Interval 2 16 := Elem.of (by kernel_rfl)
theorem zero_iv : zeroL Pg T_api_Interval_api_Interval = some [.int .i64 0, .int .i64 0] := by kernel_rfl
abbrev SlV := @Sl Iv encV 2

theorem IDX_v {h : Array Obj} {a : Option Addr} {l : Nat} {xs : List Iv} {i : Int} {K : Nat → Nat → Prop} (hs : SlV h a l xs) (h0 : 0 ≤ i) (h1 : i < l)
    (hK : ∀ b o, cellH h b o = some (.int .i64 (xs.getD i.toNat (0, 0)).1) → cellH h b (o + 1) = some (.int .i64 (xs.getD i.toNat (0, 0)).2) → K b o) : IDX a l i 2 K :=
  IDX_sl hs h0 h1 fun b o x hx hc => hK b o (by
    rw [List.getD_eq_getElem?_getD, hx]
    simpa using hc 0 (.int .i64 x.1) rfl) (by
    rw [List.getD_eq_getElem?_getD, hx]
    simpa using hc 1 (.int .i64 x.2) rfl)

section
variable {w : World}

theorem isNaN_spec (x : Int) : CALL Pg F_cmp_isNaN_int [.int .i64 x] w fun v w' => Eff w w' [] ∧ v = .bool false := by
  apply C_cmp_isNaN_int
  unfold D_cmp_isNaN_int
  exact ⟨Eff.refl w, by simp⟩

/-- What cmp.Compare answers. -/
def cmpF (x y : Int) : Int := if x < y then -1 else if x > y then 1 else 0

theorem Compare_spec (x y : Int) : CALL Pg F_cmp_Compare_int [.int .i64 x, .int .i64 y] w fun v w' => Eff w w' [] ∧ v = .int .i64 (cmpF x y) := by
  apply C_cmp_Compare_int
  unfold D_cmp_Compare_int
  refine (isNaN_spec x).mono fun v w1 ⟨hE1, hv⟩ => ?_
  subst hv
  rw [BOOLV_bool]
  refine (isNaN_spec y).mono fun v w2 ⟨hE2, hv⟩ => ?_
  subst hv
  rw [BOOLV_bool, ITE_false, ITE_false]
  have hE := hE1.trans0 hE2
  refine ITE_d (fun h => ⟨hE, by simp [cmpF, h]⟩) (fun h => ITE_d (fun h2 => ⟨hE, ?_⟩) (fun h2 => ⟨hE, ?_⟩))
  · unfold cmpF; rw [if_neg h, if_pos h2]
  · unfold cmpF; rw [if_neg h, if_neg h2]

theorem find1_spec (x y at_ : Int) : CALL Pg F_pspan_Map_find_1 [.agg #[.int .i64 x, .int .i64 y], .int .i64 at_] w fun v w' => Eff w w' [] ∧ v = .int .i64 (cmpF x at_) := by
  apply C_pspan_Map_find_1
  unfold D_pspan_Map_find_1
  intro b1 w1 hE1 _ hb1
  rw [LDi_of (cellH_of hb1 0)]
  refine (Compare_spec x at_).mono fun v w2 ⟨hE2, hv⟩ => ?_
  subst hv
  rw [INTV_int]
  exact ⟨hE1.trans0 hE2, rfl⟩

theorem shr1 (x : Int) : shI BinOp.shr IntKind.u64 x 1 = x / 2 := by
  unfold shI
  dsimp only
  have : min (1 : Int).toNat IntKind.u64.bits = 1 := rfl
  rw [this, Int.fdiv_eq_ediv_of_nonneg _ (by decide)]
  rfl

/-- Rising by where they begin. -/
def Asc (xs : List Iv) : Prop := ∀ i j, i < j → j < xs.length → (xs.getD i (0, 0)).1 < (xs.getD j (0, 0)).1

/-- k is how many begin ahead of an address. -/
def Low (xs : List Iv) (at_ : Int) (k : Nat) : Prop := k ≤ xs.length ∧ (∀ i, i < k → (xs.getD i (0, 0)).1 < at_) ∧ ∀ i, k ≤ i → i < xs.length → at_ ≤ (xs.getD i (0, 0)).1

theorem Search_spec {a : Option Addr} {l c : Nat} {xs : List Iv} (hs : SlV w.heap a l xs) (hl : xs.length ≤ 4000000000000000000) (ha : Asc xs) (at_ : Int) :
    CALL Pg F_slices_BinarySearchFunc_Lapi_Interval_api_Interval_int [.slice a l c, .int .i64 at_, .func (.func F_pspan_Map_find_1) #[] #[]] w fun v w' => Eff w w' [] ∧
      ∃ k : Nat, Low xs at_ k ∧ v = .tuple #[.int .i64 k, .bool (decide (k < xs.length ∧ (xs.getD k (0, 0)).1 = at_))] := by
  apply C_slices_BinarySearchFunc_Lapi_Interval_api_Interval_int
  unfold D_slices_BinarySearchFunc_Lapi_Interval_api_Interval_int
  have hll : l = xs.length := hs.1
  refine LOOP_of (fun vs w' => ∃ i j : Nat, vs = [.int .i64 i, .int .i64 j] ∧ i ≤ j ∧ j ≤ xs.length ∧ Eff w w' [] ∧ (∀ k, k < i → (xs.getD k (0, 0)).1 < at_) ∧ ∀ k, j ≤ k → k < xs.length → at_ ≤ (xs.getD k (0, 0)).1)
    (fun vs _ => match vs with | [.int _ i, .int _ j] => (j - i).toNat | _ => 0) ⟨0, l, rfl, by omega, by omega, Eff.refl w, by omega, by omega⟩ ?_
  intro w1 v1 v2 ⟨i, j, hv, hij, hj, hE1, hlo, hhi⟩
  simp only [List.cons.injEq, and_true] at hv
  obtain ⟨rfl, rfl⟩ := hv
  simp only [INTV_int]
  refine ITE_d (fun h => ?_) (fun h => ?_)
  · refine BINDw (by omega) (by omega) (BINDu (by omega) (by omega) (GE0_of (by decide) (BINDx (shr1 _) (BINDw (by omega) (by omega) ?_))))
    have hm : ((i : Int) + j) / 2 = (((i + j) / 2 : Nat) : Int) := by omega
    rw [hm]
    generalize hme : (i + j) / 2 = m
    have hm0 : i ≤ m ∧ m < j := by omega
    refine IDX_v (hs.eff hE1) (by omega) (by omega) fun b o h1 h2 => ?_
    have e : (m : Int).toNat = m := by omega
    rw [e] at h1 h2
    rw [LDi_of h1, LDi_of h2]
    refine ⟨by kernel_rfl, ?_⟩
    refine (find1_spec (xs.getD m (0, 0)).1 (xs.getD m (0, 0)).2 at_).mono fun v w2 ⟨hE2, hv⟩ => ?_
    subst hv
    rw [INTV_int]
    have hE := hE1.trans0 hE2
    refine ITE_d (fun h3 => ?_) (fun h3 => ?_)
    · have h4 : (xs.getD m (0, 0)).1 < at_ := by unfold cmpF at h3; split at h3 <;> (try split at h3) <;> omega
      refine BINDw (by omega) (by omega) ⟨⟨m + 1, j, rfl, by omega, by omega, hE, fun k hk => ?_, hhi⟩, by first | omega | (dsimp only; omega)⟩
      rcases Nat.lt_or_ge k m with hkm | hkm
      · have := ha k m hkm (by omega); omega
      · have : k = m := by omega
        exact this ▸ h4
    · have h4 : at_ ≤ (xs.getD m (0, 0)).1 := by unfold cmpF at h3; split at h3 <;> (try split at h3) <;> omega
      refine ⟨⟨i, m, rfl, by omega, by omega, hE, hlo, fun k hk hk2 => ?_⟩, by first | omega | (dsimp only; omega)⟩
      rcases Nat.lt_or_ge m k with hkm | hkm
      · have := ha m k hkm hk2; omega
      · have : k = m := by omega
        exact this ▸ h4
  · have hji : j = i := by omega
    subst hji
    have hlow : Low xs at_ j := ⟨hj, hlo, hhi⟩
    refine ITE_d (fun h1 => ?_) (fun h1 => ?_)
    · refine IDX_v (hs.eff hE1) (by omega) (by omega) fun b o g1 g2 => ?_
      have e : (j : Int).toNat = j := by omega
      rw [e] at g1 g2
      rw [LDi_of g1, LDi_of g2]
      refine ⟨by kernel_rfl, ?_⟩
      refine (find1_spec (xs.getD j (0, 0)).1 (xs.getD j (0, 0)).2 at_).mono fun v w2 ⟨hE2, hv⟩ => ?_
      subst hv
      rw [INTV_int]
      have hb : (cmpF (xs.getD j (0, 0)).1 at_ == 0) = decide (j < xs.length ∧ (xs.getD j (0, 0)).1 = at_) := by
        rw [Bool.eq_iff_iff, decide_eq_true_iff, beq_iff_eq]
        unfold cmpF
        split
        · omega
        · split <;> omega
      exact ⟨hE1.trans0 hE2, j, hlow, by rw [hb]⟩
    · have hb : decide (j < xs.length ∧ (xs.getD j (0, 0)).1 = at_) = false := by
        rw [decide_eq_false_iff_not]; omega
      exact ⟨hE1, j, hlow, by rw [hb]⟩

end
end Go.Proofs.Ytpopdookpbmmpaa
