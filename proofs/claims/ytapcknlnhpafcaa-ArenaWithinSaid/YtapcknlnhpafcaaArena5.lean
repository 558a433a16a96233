/- What the document's functions answer: caps, addresses, blocks; bits. -/
import Derived.Test.YtapcknlnhpafcaaArena4
namespace Go.Proofs.Ytapcknlnhpafcaa
open Go.Den

section
variable {w : World} {c0 c1 c2 c3 : Int} {a : Option Addr} {l c : Nat} {cl : List Int}

theorem getD_pos (hq : ∀ x ∈ cl, 1 ≤ x ∧ x ≤ 512) {k : Nat} (h : k < cl.length) : 1 ≤ cl.getD k 0 ∧ cl.getD k 0 ≤ 512 := by
  have := hq cl[k] (List.getElem_mem h)
  simpa [h] using this

theorem r05_Cap_spec (hc : Cfg w.heap a l cl) (hq : ∀ x ∈ cl, 1 ≤ x ∧ x ≤ 512) (k : Int) :
    CALL Pg F_r05_Cap [cfgV c0 c1 c2 c3 a l c, .int .i64 k] w fun v w' => Eff w w' [] ∧ v = .int .i64 (capF cl k) := by
  apply C_r05_Cap
  unfold D_r05_Cap
  intro b1 w1 hE1 _ hb1
  obtain ⟨_, _, _, _, f4⟩ := cfg_cells hb1
  have hl := hc.l_eq
  refine ITE_d (fun h => ?_) (fun h => ?_)
  · refine ⟨hE1, ?_⟩
    have : capF cl k = 0 := by unfold capF; rw [if_neg (by omega)]
    rw [this]
  rw [LDl_of f4]
  refine ITE_d (fun h2 => ?_) (fun h2 => ?_)
  · refine ⟨hE1, ?_⟩
    have : capF cl k = 0 := by unfold capF; rw [if_neg (by omega)]
    rw [this]
  rw [LDl_of f4]
  have hx := getD_pos hq (k := k.toNat) (by omega)
  refine IDX_i (hc.eff hE1).sl (by omega) (by omega) fun b o hcell => ?_
  rw [LDi_of hcell]
  generalize hxe : cl.getD k.toNat 0 = x at hx
  refine LOOP_of (fun vs w' => ∃ n : Int, vs = [.int .i64 n, .int .i64 (x * n + x)] ∧ 0 ≤ n ∧ x * n ≤ 1024 ∧ n ≤ 1024 ∧ Eff w1 w' [])
    (fun vs _ => match vs with | [.int _ n, _] => (2000 - n).toNat | _ => 0) ⟨0, by simp, by omega, by omega, by omega, Eff.refl _⟩ ?_
  intro w2 v1 v2 ⟨n, hv, hn, hn2, hn3, hE2⟩
  simp only [List.cons.injEq, and_true] at hv
  obtain ⟨rfl, rfl⟩ := hv
  simp only [INTV_int]
  refine ITE_d (fun h3 => ?_) (fun h3 => ?_)
  · have hm : n ≤ x * n := by have := Int.mul_le_mul_of_nonneg_right hx.1 hn; omega
    refine BINDw (by omega) (by omega) ?_
    rw [LDl_of (hE2.cell0 f4)]
    refine IDX_i (hc.eff (hE1.trans0 hE2)).sl (by omega) (by omega) fun b o hcell => ?_
    rw [LDi_of hcell, hxe]
    have e : x * (n + 1) = x * n + x := by rw [Int.mul_add, Int.mul_one]
    refine BINDw (by omega) (by omega) ⟨⟨n + 1, by rw [e], by omega, by omega, by omega, hE2⟩, by first | omega | (dsimp only; omega)⟩
  · refine ⟨hE1.trans0 hE2, ?_⟩
    have : capF cl k = n := by
      unfold capF
      rw [if_pos (by omega), hxe]
      refine (Int.ediv_eq_iff_of_pos (by omega)).2 ⟨?_, ?_⟩
      · rw [Int.mul_comm]; exact hn2
      · have : n * x = x * n := Int.mul_comm _ _
        omega
    rw [this]

theorem r05_Address_spec (hc : Cfg w.heap a l cl) (hq : ∀ x ∈ cl, 1 ≤ x ∧ x ≤ 512) (h2 : c1 ≤ 1000000) (k s i : Int) :
    CALL Pg F_r05_Address [cfgV c0 c1 c2 c3 a l c, .int .i64 k, .agg #[.int .i64 s, .int .i64 i]] w fun v w' => Eff w w' [] ∧ v = .int .i64 (addrF c1 cl k s i) := by
  apply C_r05_Address
  unfold D_r05_Address
  intro b1 w1 hE1 hs1 hb1 b2 w2 hE2 hs2 hb2 w3 hE3 hh3
  have hE13 := (hE1.trans0 hE2).trans0 hE3
  have hb2' := hE3.obj0 hb2
  obtain ⟨f0, f1, f2, f3, f4⟩ := cfg_cells (hE3.obj0 (hE2.obj0 hb1))
  have g0 : cellH w3.heap b2 0 = some (.int .i64 s) := cellH_of hb2' 0
  have g1 : cellH w3.heap b2 1 = some (.int .i64 i) := cellH_of hb2' 1
  rw [LDi_of g0]
  refine ITE_d (fun h => ?_) (fun h => ?_)
  · exact ⟨hE13, by simp [addrF, h]⟩
  rw [LDi_of g0, LDi_of f1]
  refine ITE_d (fun h3 => ?_) (fun h3 => ?_)
  · exact ⟨hE13, by simp [addrF, h3]⟩
  rw [LDi_of g1]
  refine ITE_d (fun h4 => ?_) (fun h4 => ?_)
  · exact ⟨hE13, by simp [addrF, h4]⟩
  rw [LDi_of g1, LDi_of f0, LDi_of f1, LDi_of f2, LDi_of f3, LDl_of f4]
  refine (r05_Cap_spec (hc.eff hE13) hq k).mono fun v w4 ⟨hE4, hv⟩ => ?_
  subst hv
  rw [INTV_int]
  have hE14 := hE13.trans0 hE4
  have g1' := hE4.cell0 g1
  refine ⟨KEEP_cell g1' KEEP_nil, ITE_d (fun h5 => ?_) (fun h5 => ?_)⟩
  · exact ⟨hE14, by simp [addrF, h5]⟩
  obtain ⟨hk0, hk1, hk2⟩ := capF_pos (by omega) h5
  have hcap := capF_le (fun x hx => (hq x hx).1) k
  intro w5 hE5 _
  have hE15 := hE14.trans0 hE5
  have hg := getD_le hq k.toNat
  rw [LDi_of (hE5.cell0 (hE4.cell0 g0))]
  refine BINDw (by omega) (by omega) (BINDw (by omega) (by omega) ?_)
  rw [LDl_of (hE5.cell0 (hE4.cell0 f4))]
  have hl := hc.l_eq
  refine IDX_i (hc.eff hE15).sl (by omega) (by omega) fun b o hcell => ?_
  rw [LDi_of hcell, LDi_of (hE5.cell0 g1'), Int.mul_comm (cl.getD k.toNat 0) i]
  have hm1 : 0 ≤ i * cl.getD k.toNat 0 := Int.mul_nonneg (by omega) hg.1
  have hm2 : i * cl.getD k.toNat 0 ≤ 1024 * 512 := Int.mul_le_mul (by omega) hg.2 hg.1 (by omega)
  refine BINDw (by omega) (by omega) (BINDw (by omega) (by omega) ⟨hE15, ?_⟩)
  have : addrF c1 cl k s i = 65536 + s * 1024 + i * cl.getD k.toNat 0 := by unfold addrF; rw [if_neg]; omega
  rw [this, Int.mul_comm s]

theorem r05_Block_spec (hc : Cfg w.heap a l cl) (hq : ∀ x ∈ cl, 1 ≤ x ∧ x ≤ 512) (h1 : 0 ≤ c1) (h2 : c1 ≤ 1000000) (k at_ : Int) :
    CALL Pg F_r05_Block [cfgV c0 c1 c2 c3 a l c, .int .i64 k, .int .i64 at_] w fun v w' => Eff w w' [] ∧ ∃ s i t, v = .tuple #[.agg #[.int .i64 s, .int .i64 i], .bool t] ∧
      (t = true ∧ 0 ≤ s ∧ s < c1 ∧ 0 ≤ i ∧ i < capF cl k ∧ addrF c1 cl k s i = at_ ∨ t = false ∧ s = 0 ∧ i = 0 ∧ ∀ s i, 0 ≤ s → s < c1 → 0 ≤ i → i < capF cl k → addrF c1 cl k s i ≠ at_) := by
  apply C_r05_Block
  unfold D_r05_Block
  intro b1 w1 hE1 hs1 hb1 b2 w2 hE2 hs2 hb2
  have hcap := capF_le (fun x hx => (hq x hx).1) k
  refine LOOP_of (fun vs w' => ∃ s : Int, vs = [.bool false, .int .i64 s] ∧ 0 ≤ s ∧ s ≤ c1 ∧ Eff w2 w' [] ∧ ∀ s' i, 0 ≤ s' → s' < s → 0 ≤ i → i < capF cl k → addrF c1 cl k s' i ≠ at_)
    (fun vs _ => match vs with | [_, .int _ n] => (c1 - n).toNat | _ => 0) ⟨0, rfl, by omega, h1, Eff.refl _, by omega⟩ ?_
  intro w3 v1 v2 ⟨s, hv, hs0, hs1', hE3, hno⟩
  simp only [List.cons.injEq, and_true] at hv
  obtain ⟨rfl, rfl⟩ := hv
  have hE13 := hE2.trans0 hE3
  obtain ⟨_, f1, _, _, _⟩ := cfg_cells (hE13.obj0 hb1)
  rw [INTV_int, BOOLV_bool, LDi_of f1]
  have hb23 := hE3.obj0 hb2
  refine ITE_d (fun h3 => ?_) (fun h3 => ?_)
  rotate_left
  · refine ST2_of trivial trivial hE13 hs2 hb23 fun w' hE' hb' _ => ?_
    rw [LDi_of (cellH_of hb' 0), LDi_of (cellH_of hb' 1)]
    exact ⟨hE1.trans0 hE', 0, 0, false, rfl, .inr ⟨rfl, rfl, rfl, fun s' i h4 h5 h6 h7 => hno s' i h4 (by omega) h6 h7⟩⟩
  refine LOOP_of (fun vs w' => ∃ i : Int, vs = [.bool false, .int .i64 i] ∧ 0 ≤ i ∧ i ≤ capF cl k ∧ Eff w2 w' [] ∧ ∀ i', 0 ≤ i' → i' < i → addrF c1 cl k s i' ≠ at_)
    (fun vs _ => match vs with | [_, .int _ n] => (capF cl k - n).toNat | _ => 0) ⟨0, rfl, by omega, by omega, hE3, by omega⟩ ?_
  intro w4 v3 v4 ⟨i, hv, hi0, hi1, hE4, hno2⟩
  simp only [List.cons.injEq, and_true] at hv
  obtain ⟨rfl, rfl⟩ := hv
  have hE14 := hE2.trans0 hE4
  obtain ⟨f0, f1, f2, f3, f4⟩ := cfg_cells (hE14.obj0 hb1)
  rw [INTV_int, BOOLV_bool, LDi_of f0, LDi_of f1, LDi_of f2, LDi_of f3, LDl_of f4]
  refine (r05_Cap_spec (hc.eff (hE1.trans0 hE14)) hq k).mono fun v w5 ⟨hE5, hv⟩ => ?_
  subst hv
  rw [INTV_int]
  have hE15 := hE14.trans0 hE5
  have hE25 := hE4.trans0 hE5
  refine ITE_d (fun h4 => ?_) (fun h4 => ?_)
  rotate_left
  · refine BINDw (by omega) (by omega) ⟨⟨s + 1, rfl, by omega, by omega, hE25, fun s' i' g1 g2 g3 g4 => ?_⟩, by first | omega | (dsimp only; omega)⟩
    rcases Int.lt_or_le s' s with h | h
    · exact hno s' i' g1 h g3 g4
    · have : s' = s := by omega
      subst this
      exact hno2 i' g3 (by omega)
  intro b3 w6 hE6 hs6 hb6
  refine ST2_of trivial trivial hE6 hs6 hb6 fun w8 hE8 hb8 _ => ?_
  have hE18 := hE15.trans0 hE8
  obtain ⟨f0, f1, f2, f3, f4⟩ := cfg_cells (hE18.obj0 hb1)
  rw [LDi_of f0, LDi_of f1, LDi_of f2, LDi_of f3, LDl_of f4, LDi_of (cellH_of hb8 0), LDi_of (cellH_of hb8 1)]
  refine (r05_Address_spec (hc.eff (hE1.trans0 hE18)) hq h2 k s i).mono fun v w9 ⟨hE9, hv⟩ => ?_
  subst hv
  rw [INTV_int]
  have hE29 := (hE25.trans0 hE8).trans0 hE9
  have hE19 := hE2.trans0 hE29
  have hb9 := hE9.obj0 hb8
  refine ITE_eq (fun h5 => ?_) (fun h5 => ?_)
  · rw [LDi_of (cellH_of hb9 0), LDi_of (cellH_of hb9 1)]
    refine ST2_of trivial trivial hE19 hs2 (hE29.obj0 hb2) fun w' hE' hb' _ => ?_
    rw [LDi_of (cellH_of hb' 0), LDi_of (cellH_of hb' 1)]
    exact ⟨hE1.trans0 hE', s, i, true, rfl, .inl ⟨rfl, hs0, h3, hi0, h4, h5⟩⟩
  · refine BINDw (by omega) (by omega) ⟨⟨i + 1, rfl, by omega, by omega, hE29, fun i' g1 g2 => ?_⟩, by first | omega | (dsimp only; omega)⟩
    rcases Int.lt_or_le i' i with h | h
    · exact hno2 i' g1 h
    · have : i' = i := by omega
      exact this ▸ h5

/-! ### bits -/
theorem r01_Bit_spec (m : Nat) (hm : m < 18446744073709551616) (n : Nat) (hn : n ≤ 64) : CALL Pg F_r01_Bit [.int .u64 m, .int .i64 n] w fun v w' => Eff w w' [] ∧ v = .bool ((m / 2 ^ n % 2 : Nat) == 1) := by
  apply C_r01_Bit
  unfold D_r01_Bit
  refine LOOP_of (fun vs w' => ∃ k : Nat, vs = [.int .u64 (m / 2 ^ k : Nat), .int .i64 k] ∧ k ≤ n ∧ Eff w w' [])
    (fun vs _ => match vs with | [_, .int _ k] => (n - k).toNat | _ => 0) ⟨0, by simp, by omega, Eff.refl _⟩ ?_
  intro w2 v1 v2 ⟨k, hv, hk, hE2⟩
  simp only [List.cons.injEq, and_true] at hv
  obtain ⟨rfl, rfl⟩ := hv
  simp only [INTV_int]
  have hle : m / 2 ^ k ≤ m := Nat.div_le_self _ _
  have hsu : m / 2 ^ (k + 1) = m / 2 ^ k / 2 := by rw [Nat.pow_succ, ← Nat.div_div_eq_div_mul]
  by_cases h : k < n
  · generalize m / 2 ^ k = q at hle hsu ⊢
    refine ITE_d (fun _ => ?_) (fun h => by omega)
    refine NZ_of (by omega) ?_
    rw [Int.tdiv_eq_ediv_of_nonneg (by omega)]
    have e : (q : Int) / 2 = ((m / 2 ^ (k + 1) : Nat) : Int) := by rw [hsu]; omega
    refine BINDu (by omega) (by omega) (BINDw (by omega) (by omega) ⟨⟨k + 1, by rw [e]; rfl, by omega, hE2⟩, by first | omega | (dsimp only; omega)⟩)
  · have : k = n := by omega
    subst this
    generalize m / 2 ^ k = q at hle hsu ⊢
    refine ITE_d (fun h => by omega) (fun _ => ?_)
    refine NZ_of (by omega) ?_
    rw [Int.tmod_eq_emod_of_nonneg (by omega)]
    refine ⟨hE2, ?_⟩
    congr 1
    rw [Bool.eq_iff_iff]
    simp only [beq_iff_eq]
    omega

theorem r02_Has_spec (m : Nat) (hm : m < 18446744073709551616) (n : Nat) (hn : n ≤ 63) : CALL Pg F_r02_Has [.int .u64 m, .int .i64 n] w fun v w' => Eff w w' [] ∧ v = .bool ((m / 2 ^ n % 2 : Nat) == 1) := by
  apply C_r02_Has
  unfold D_r02_Has
  refine ITE_d (fun h => ?_) (fun h => by omega)
  refine ITE_d (fun h2 => ?_) (fun h2 => by omega)
  refine (r01_Bit_spec m hm n (by omega)).mono fun v w2 ⟨hE2, hv⟩ => ?_
  subst hv
  exact ⟨hE2, rfl⟩

theorem pow_lt64 {k : Nat} (h : k < 64) : 2 ^ k * 2 ≤ 18446744073709551616 := by
  have : 2 ^ (k + 1) ≤ 2 ^ 64 := Nat.pow_le_pow_right (by decide) (by omega)
  rw [Nat.pow_succ] at this
  exact this

theorem r01_Power_spec (n : Nat) (hn : n ≤ 63) : CALL Pg F_r01_Power [.int .i64 n] w fun v w' => Eff w w' [] ∧ v = .int .u64 (2 ^ n : Nat) := by
  apply C_r01_Power
  unfold D_r01_Power
  refine LOOP_of (fun vs w' => ∃ k : Nat, vs = [.int .u64 (2 ^ k : Nat), .int .i64 k] ∧ k ≤ n ∧ Eff w w' [])
    (fun vs _ => match vs with | [_, .int _ k] => (n - k).toNat | _ => 0) ⟨0, by simp, by omega, Eff.refl _⟩ ?_
  intro w2 v1 v2 ⟨k, hv, hk, hE2⟩
  simp only [List.cons.injEq, and_true] at hv
  obtain ⟨rfl, rfl⟩ := hv
  simp only [INTV_int]
  refine ITE_d (fun h => ?_) (fun h => ?_)
  · have := pow_lt64 (k := k) (by omega)
    have h1 : 1 ≤ 2 ^ k := Nat.one_le_two_pow
    have h2 : k + 1 ≤ 63 := by omega
    have h3 : 2 ^ (k + 1) ≤ 2 ^ 63 := Nat.pow_le_pow_right (by decide) h2
    rw [Nat.pow_succ] at h3
    refine BINDu (by omega) (by omega) (BINDw (by omega) (by omega) ⟨⟨k + 1, by simp [Nat.pow_succ], by omega, hE2⟩, by first | omega | (dsimp only; omega)⟩)
  · have : k = n := by omega
    subst this
    exact ⟨hE2, rfl⟩

theorem elem_int : Elem Pg T_Lint T_int 1 8 := Elem.of (by kernel_rfl)

/-- The numbers from nought on. -/
def upTo (n : Nat) : List Int := (List.range n).map fun i : Nat => (i : Int)
theorem upTo_succ (n : Nat) : upTo (n + 1) = upTo n ++ [(n : Int)] := by simp [upTo, List.range_succ]
theorem upTo_len (n : Nat) : (upTo n).length = n := by simp [upTo]

theorem div_ones (k : Nat) (h : k < 64) : 18446744073709551615 / 2 ^ k % 2 = 1 := by
  have : ∀ k : Fin 64, 18446744073709551615 / 2 ^ k.val % 2 = 1 := by decide
  exact this ⟨k, h⟩

theorem r02_List_spec : CALL Pg F_r02_List [.int .u64 18446744073709551615] w fun v w' => Eff w w' [] ∧ ∃ a c, v = .slice a 64 c ∧ SlI w'.heap a 64 (upTo 64) ∧ 64 ≤ c := by
  apply C_r02_List
  unfold D_r02_List
  intro b1 w1 hE1 hs1 hb1
  have hlt := obj_lt hb1
  refine LOOP_of (fun vs w' => ∃ (k : Nat) (v : Value), vs = [v, .int .i64 k] ∧ k ≤ 64 ∧ Eff w w' [] ∧ w'.ownsRow w.heap.size T_int 1 v k ((upTo k).map (Value.int .i64)))
    (fun vs _ => match vs with | [_, .int _ k] => (64 - k).toNat | _ => 0) ⟨0, _, rfl, by omega, hE1, ?_⟩ ?_
  · refine ⟨by simp [upTo], .inr ⟨b1, 0, #[], rfl, hs1, by simpa using hb1, by omega, by omega, by simp, by simp [upTo]⟩⟩
  intro w2 v1 v2 ⟨k, v, hv, hk, hE2, hown⟩
  simp only [List.cons.injEq, and_true] at hv
  obtain ⟨rfl, rfl⟩ := hv
  rw [INTV_int]
  obtain ⟨a, c, rfl⟩ := own_slice hown
  rw [SLV_slice]
  refine ITE_d (fun h => ?_) (fun h => ?_)
  rotate_left
  · have : k = 64 := by omega
    subst this
    exact ⟨hE2, a, c, rfl, (own_slI hown).2, own_cap hown⟩
  refine (r02_Has_spec 18446744073709551615 (by decide) k (by omega)).mono fun v w3 ⟨hE3, hv⟩ => ?_
  subst hv
  rw [BOOLV_bool, div_ones k (by omega)]
  refine ITE_intro (fun _ => ?_) (fun h => by simp at h)
  intro b2 w4 hE4 hs4 hb4
  have hE24 := hE3.trans0 hE4
  refine SEML_append (news := [.int .i64 k]) elem_int (own_eff0 hown hE24) rfl (fun j u hu => ?_) (fun u hu => ?_) (by omega) (by omega) (Nat.le_trans hE2.size hE24.size) fun a' c' w5 hown5 hE5 => ?_
  · rw [Nat.zero_add, cellH_of hb4]; exact hu
  · simp at hu; subst hu; trivial
  rw [SLV_slice]
  refine BINDw (by omega) (by omega) ⟨⟨k + 1, _, rfl, by omega, (hE2.trans0 hE24).own hE5 (own_base hown), ?_⟩, by first | omega | (dsimp only; omega)⟩
  rw [upTo_succ, List.map_append]
  exact hown5

theorem ones_div (k : Nat) : (2 ^ k - 1) / 2 ^ k % 2 = 0 := by
  have h1 : 1 ≤ 2 ^ k := Nat.one_le_two_pow
  rw [Nat.div_eq_of_lt (by omega)]

theorem r02_Of_spec {a : Option Addr} {n c : Nat} {xs : List Int} (hs : SlI w.heap a n xs) (hn : n ≤ 64) (hx : ∀ i, i < n → xs.getD i 0 = i) :
    CALL Pg F_r02_Of [.slice a n c] w fun v w' => Eff w w' [] ∧ v = .int .u64 (2 ^ n - 1 : Nat) := by
  apply C_r02_Of
  unfold D_r02_Of
  refine LOOP_of (fun vs w' => ∃ (k : Nat), vs = [.int .u64 (2 ^ k - 1 : Nat), .int .i64 k] ∧ k ≤ n ∧ Eff w w' [])
    (fun vs _ => match vs with | [_, .int _ k] => (n - k).toNat | _ => 0) ⟨0, rfl, by omega, Eff.refl _⟩ ?_
  intro w2 v1 v2 ⟨k, hv, hk, hE2⟩
  simp only [List.cons.injEq, and_true] at hv
  obtain ⟨rfl, rfl⟩ := hv
  simp only [INTV_int]
  refine ITE_d (fun h => ?_) (fun h => ?_)
  rotate_left
  · have : k = n := by omega
    subst this
    exact ⟨hE2, rfl⟩
  have hp := pow_lt64 (k := k) (by omega)
  have h1 : 1 ≤ 2 ^ k := Nat.one_le_two_pow
  have hk : xs.getD (k : Int).toNat 0 = k := hx k (by omega)
  refine IDX_i (hs.eff hE2) (by omega) (by omega) fun b o hcell => ?_
  rw [LDi_of hcell, hk]
  refine ITE_d (fun _ => ?_) (fun h => by omega)
  refine IDX_i (hs.eff hE2) (by omega) (by omega) fun b o hcell => ?_
  rw [LDi_of hcell, hk]
  refine ITE_d (fun _ => ?_) (fun h => by omega)
  refine IDX_i (hs.eff hE2) (by omega) (by omega) fun b o hcell => ?_
  rw [LDi_of hcell, hk]
  refine (r02_Has_spec _ (by omega) k (by omega)).mono fun v w3 ⟨hE3, hv⟩ => ?_
  subst hv
  rw [BOOLV_bool, ones_div k]
  refine ITE_intro (fun _ => ?_) (fun h => by simp at h)
  have hE23 := hE2.trans0 hE3
  refine IDX_i (hs.eff hE23) (by omega) (by omega) fun b o hcell => ?_
  rw [LDi_of hcell, hk]
  refine (r01_Power_spec k (by omega)).mono fun v w4 ⟨hE4, hv⟩ => ?_
  subst hv
  rw [INTV_int]
  refine BINDu (by omega) (by omega) (BINDw (by omega) (by omega) ⟨⟨k + 1, ?_, by omega, hE23.trans0 hE4⟩, by first | omega | (dsimp only; omega)⟩)
  have e : ((2 ^ k - 1 : Nat) : Int) + ((2 ^ k : Nat) : Int) = ((2 ^ (k + 1) - 1 : Nat) : Int) := by rw [Nat.pow_succ]; omega
  rw [e]; rfl

end
end Go.Proofs.Ytapcknlnhpafcaa
