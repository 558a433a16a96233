/- The law ArenaWithin: what it answers. -/
import Derived.Test.YtapcknlnhpafcaaArena9
import Derived.Test.YtapcknlnhpafcaaG3
namespace Go.Proofs.Ytapcknlnhpafcaa
open Go.Den

section
variable {w : World} {c0 c1 c2 c3 : Int} {a : Option Addr} {l c : Nat} {cl : List Int}

theorem ones_shr {e n : Nat} (h : n < e) : (2 ^ e - 1) / 2 ^ n = 2 ^ (e - n) - 1 := by
  have h1 : 1 ≤ 2 ^ n := Nat.one_le_two_pow
  have h2 : 1 ≤ 2 ^ (e - n) := Nat.one_le_two_pow
  have h3 : 2 ^ e = 2 ^ (e - n) * 2 ^ n := by rw [← Nat.pow_add]; congr 1; omega
  refine Nat.div_eq_of_lt_le ?_ ?_
  · rw [Nat.sub_mul, ← h3]; omega
  · rw [show 2 ^ (e - n) - 1 + 1 = 2 ^ (e - n) by omega, ← h3]
    have : 1 ≤ 2 ^ e := Nat.one_le_two_pow
    omega

theorem ones_odd {d : Nat} (h : 0 < d) : (2 ^ d - 1) % 2 = 1 := by
  have h1 : 1 ≤ 2 ^ (d - 1) := Nat.one_le_two_pow
  have h2 : 2 ^ d = 2 ^ (d - 1) * 2 := by rw [← Nat.pow_succ]; congr 1; omega
  omega

theorem bit_and_one {x : Nat} (h : x % 2 = 1) : bitI .and .u64 (x : Int) 1 = 1 := by
  unfold bitI
  dsimp only
  have : (BitVec.ofInt IntKind.u64.bits (x : Int) &&& BitVec.ofInt IntKind.u64.bits 1).toNat = 1 := by
    show (BitVec.ofInt 64 (x : Int) &&& BitVec.ofInt 64 1).toNat = 1
    rw [BitVec.toNat_and, BitVec.toNat_ofInt, BitVec.toNat_ofInt, show ((1 : Int) % ((2 ^ 64 : Nat) : Int)).toNat = 1 from by decide, Nat.and_one_is_mod]
    have : ((x : Int) % ((2 ^ 64 : Nat) : Int)).toNat = x % 2 ^ 64 := by omega
    rw [this]; omega
  rw [this]; decide

theorem mask_Has_spec {e n : Nat} (he : e ≤ 64) (h : n < e) : CALL Pg F_mask_Mask_Has [.int .u64 ((2 ^ e - 1 : Nat) : Int), .int .i64 n] w fun v w' => Eff w w' [] ∧ v = .bool true := by
  apply C_mask_Mask_Has
  unfold D_mask_Mask_Has
  refine ITE_d (fun _ => ?_) (fun h => by omega)
  refine ITE_d (fun _ => ?_) (fun h => by omega)
  refine BINDu (by omega) (by omega) (GE0_of (by omega) ?_)
  have h1 : shI BinOp.shr IntKind.u64 ((2 ^ e - 1 : Nat) : Int) n = ((2 ^ (e - n) - 1 : Nat) : Int) := by
    unfold shI
    dsimp only
    have hm : min (n : Int).toNat IntKind.u64.bits = n := by
      have : IntKind.u64.bits = 64 := rfl
      omega
    rw [hm, ← ones_shr h]
    have : ((2 : Int) ^ n) = ((2 ^ n : Nat) : Int) := by simp
    rw [this, Int.fdiv_eq_ediv_of_nonneg _ (Int.natCast_nonneg _), Int.natCast_ediv]
  refine BINDx h1 (BINDx (bit_and_one (ones_odd (by omega))) ⟨Eff.refl w, rfl⟩)

theorem ST5_of {w₀ w : World} {b : Nat} {x0 x1 x2 x3 x4 u0 u1 u2 u3 u4 : Value} {t : TypeId} {K : World → Prop} (h0 : SCAL u0) (h1 : SCAL u1) (h2 : SCAL u2) (h3 : SCAL u3) (h4 : SCAL u4) (hE : Eff w₀ w []) (hb0 : w₀.heap.size ≤ b)
    (hb : w.heap[b]? = some (.cells [x0, x1, x2, x3, x4].toArray t (0, 0))) (hK : ∀ w', Eff w₀ w' [] → w'.heap[b]? = some (.cells [u0, u1, u2, u3, u4].toArray t (0, 0)) → Eff w w' [b] → K w') :
    ST1 w ⟨b, 0, none⟩ u0 fun w => ST1 w ⟨b, 1, none⟩ u1 fun w => ST1 w ⟨b, 2, none⟩ u2 fun w => ST1 w ⟨b, 3, none⟩ u3 fun w => ST1 w ⟨b, 4, none⟩ u4 K := by
  have hs : ∀ x ∈ [b], w₀.heap.size ≤ x := by simpa using hb0
  refine ST1_of h0 hb (by simp) fun w1 hb1 hE1 => ST1_of h1 hb1 (by simp) fun w2 hb2 hE2 => ST1_of h2 hb2 (by simp) fun w3 hb3 hE3 => ST1_of h3 hb3 (by simp) fun w4 hb4 hE4 => ST1_of h4 hb4 (by simp) fun w5 hb5 hE5 => ?_
  refine hK w5 (((((hE.own hE1 hs).own hE2 hs).own hE3 hs).own hE4 hs).own hE5 hs) hb5 ?_
  exact ((((hE1.trans hE2).trans hE3).trans hE4).trans hE5).weak (by simp)

theorem not_block {k s i n : Int} (hx : 16 ≤ cl.getD k.toNat 0 ∧ cl.getD k.toNat 0 ≤ 512 ∧ cl.getD k.toNat 0 % 16 = 0) (hs : 0 ≤ s) (hs1 : s < c1) (hi : 0 ≤ i) (hi1 : i < capF cl k) (hn : 0 < n) (hn1 : n < cl.getD k.toNat 0) :
    (blockF c1 cl k (addrF c1 cl k s i + n)).2 = false := by
  rcases hb : blockF c1 cl k (addrF c1 cl k s i + n) with ⟨⟨s', i'⟩, t⟩
  cases t
  · rfl
  exfalso
  obtain ⟨g1, g2, g3, g4, g5⟩ := block_at hx hb
  obtain ⟨a1, a2, a3, _⟩ := at_block (c1 := c1) hx hs hs1 hi hi1
  obtain ⟨b1, b2, b3, _⟩ := at_block (c1 := c1) hx g1 g2 g3 g4
  rw [a1, b1] at g5
  generalize cl.getD k.toNat 0 = x at *
  have hsx : s' = s := by omega
  subst hsx
  have hy : i' * x = i * x + n := by omega
  rcases Int.lt_or_le i i' with h | h
  · have : (i + 1) * x ≤ i' * x := Int.mul_le_mul_of_nonneg_right (by omega) (by omega)
    rw [Int.add_mul, Int.one_mul] at this
    omega
  · have : i' * x ≤ i * x := Int.mul_le_mul_of_nonneg_right h (by omega)
    omega

theorem ArenaWithin_spec {a5 a6 a7 a8 : Int} (hc : Cfg w.heap a l cl) (h5 : 0 ≤ a5 ∧ a5 ≤ 255) (h6 : 0 ≤ a6 ∧ a6 ≤ 255) (h7 : 0 ≤ a7 ∧ a7 ≤ 255) (h8 : 0 ≤ a8 ∧ a8 ≤ 65535) :
    CALL Pg F_l05_ArenaWithin [.agg #[.int .i64 c0, .int .i64 c1, .int .i64 c2, .int .i64 c3, .slice a l c, .int .u8 a5, .int .u8 a6, .int .u8 a7, .int .u16 a8]] w fun v w' => Eff w w' [] ∧ v = .bool true := by
  apply C_l05_ArenaWithin
  unfold D_l05_ArenaWithin
  intro b1 w1 hE1 _ hb1
  refine speaks_spec.mono fun v w2 ⟨hE2, hv⟩ => ?_
  subst hv
  rw [BOOLV_bool]
  refine ITE_intro (fun h => by simp at h) (fun _ => ?_)
  have hE02 := hE1.trans0 hE2
  have hb12 := hE2.obj0 hb1
  refine ⟨fun vs w' => ∃ b2 b3, vs = [.pointer (some ⟨b2, 0, none⟩), .pointer (some ⟨b3, 0, none⟩), .int .u8 a5, .int .u16 a8] ∧ Eff w2 w' [] ∧ w'.heap[b2]? = some (.cells (cfgL c0 c1 c2 c3 a l c).toArray T_api_Config_api_Config (0, 0)) ∧
    w'.heap[b3]? = some (.cells [.int .u8 a6, .int .u8 a7].toArray T_2_uint8 (0, 0)), ?_, ?_⟩
  · intro w3 hE3 _
    have hb := hE3.obj0 hb12
    have keep9 : ∀ w', Eff w3 w' [] → KEEP w' [Fact.cell ⟨b1, 0, none⟩ (.int .i64 c0), Fact.cell ⟨b1, 1, none⟩ (.int .i64 c1), Fact.cell ⟨b1, 2, none⟩ (.int .i64 c2), Fact.cell ⟨b1, 3, none⟩ (.int .i64 c3), Fact.cell ⟨b1, 4, none⟩ (.slice a l c),
        Fact.cell ⟨b1, 5, none⟩ (.int .u8 a5), Fact.cell ⟨b1, 6, none⟩ (.int .u8 a6), Fact.cell ⟨b1, 7, none⟩ (.int .u8 a7), Fact.cell ⟨b1, 8, none⟩ (.int .u16 a8)] := fun w' hE => by
      have hb := hE.obj0 hb
      exact KEEP_cell (cellH_of hb 0) (KEEP_cell (cellH_of hb 1) (KEEP_cell (cellH_of hb 2) (KEEP_cell (cellH_of hb 3) (KEEP_cell (cellH_of hb 4) (KEEP_cell (cellH_of hb 5) (KEEP_cell (cellH_of hb 6) (KEEP_cell (cellH_of hb 7) (KEEP_cell (cellH_of hb 8) KEEP_nil))))))))
    have keep4 : ∀ w', Eff w3 w' [] → KEEP w' [Fact.cell ⟨b1, 5, none⟩ (.int .u8 a5), Fact.cell ⟨b1, 6, none⟩ (.int .u8 a6), Fact.cell ⟨b1, 7, none⟩ (.int .u8 a7), Fact.cell ⟨b1, 8, none⟩ (.int .u16 a8)] := fun w' hE => by
      have hb := hE.obj0 hb
      exact KEEP_cell (cellH_of hb 5) (KEEP_cell (cellH_of hb 6) (KEEP_cell (cellH_of hb 7) (KEEP_cell (cellH_of hb 8) KEEP_nil)))
    rw [LDi_of (cellH_of hb 0), LDi_of (cellH_of hb 1), LDi_of (cellH_of hb 2), LDi_of (cellH_of hb 3), LDl_of (cellH_of hb 4), LDi_of (cellH_of hb 5), LDi_of (cellH_of hb 6), LDi_of (cellH_of hb 7), LDi_of (cellH_of hb 8)]
    refine ⟨?_, ?_⟩
    · intro b2 w4 hE4 hs4 hb4
      refine ⟨keep9 w4 hE4, ?_⟩
      intro b3 w5 hE5 hs5 hb5
      refine ⟨keep9 w5 (hE4.trans0 hE5), ?_⟩
      refine ST5_of trivial trivial trivial trivial trivial (hE4.trans0 hE5) hs4 (hE5.obj0 hb4) fun w10 hE10 hb10 hEx => ?_
      refine ⟨keep4 w10 hE10, ?_⟩
      have hne : b3 ∉ [b2] := by simp; have := obj_lt hb4; omega
      refine ST2_of trivial trivial hE10 (Nat.le_trans hE4.size hs5) (hEx.obj hb5 hne) fun w12 hE12 hb12' hEy => ?_
      refine ⟨KEEP_cell (cellH_of (hE12.obj0 hb) 8) KEEP_nil, b2, b3, rfl, hE3.trans0 hE12, hEy.obj hb10 (by simp at hne ⊢; exact fun h => hne h.symm), hb12'⟩
    · intro b3 w4 hE4 hs4 hb4
      refine ⟨keep9 w4 hE4, ?_⟩
      intro b2 w5 hE5 hs5 hb5
      refine ⟨keep9 w5 (hE4.trans0 hE5), ?_⟩
      refine ST5_of trivial trivial trivial trivial trivial (hE4.trans0 hE5) (Nat.le_trans hE4.size hs5) hb5 fun w10 hE10 hb10 hEx => ?_
      refine ⟨keep4 w10 hE10, ?_⟩
      have hne : b3 ∉ [b2] := by simp; have := obj_lt hb4; omega
      refine ST2_of trivial trivial hE10 hs4 (hEx.obj (hE5.obj0 hb4) hne) fun w12 hE12 hb12' hEy => ?_
      refine ⟨KEEP_cell (cellH_of (hE12.obj0 hb) 8) KEEP_nil, b2, b3, rfl, hE3.trans0 hE12, hEy.obj hb10 (by simp at hne ⊢; exact fun h => hne h.symm), hb12'⟩
  intro w22 v2 v3 v4 v5 ⟨b2, b3, hv, hE22, hb2, hb3⟩
  simp only [List.cons.injEq, and_true] at hv
  obtain ⟨rfl, rfl, rfl, rfl⟩ := hv
  rw [INTV_int, INTV_int, PTRV_pointer, PTRV_pointer]
  have hE0 := hE02.trans0 hE22
  have hc22 := hc.eff hE0
  have NNq : ∀ {b : Nat} {K : Nat → Nat → Prop}, NN (some ⟨b, 0, none⟩) K = K b 0 := rfl
  rw [NNq, CFG_ld hb2]
  refine (r04_May_spec hc22).mono fun v w23 ⟨hE23, m, hv, hm⟩ => ?_
  subst hv
  rw [BOOLV_bool]
  refine ITE_intro (fun _ => ⟨hE0.trans0 hE23, rfl⟩) (fun h => ?_)
  have hm := hm.1 (by simpa using h)
  have hb2 := hE23.obj0 hb2
  have hb3 := hE23.obj0 hb3
  have hc23 := hc22.eff hE23
  have hE0 := hE0.trans0 hE23
  have hsu := hm.sup
  have hcl := hm.cls
  have hL := hm.1.2
  unfold okL at hL
  have hl := hc.l_eq
  obtain ⟨_, _, _, _, f4⟩ := cfg_cells hb2
  refine BINDw (by omega) (by omega) ?_
  rw [NNq, LDl_of f4]
  refine NZ_of (by omega) (BINDx (Int.tmod_eq_emod_of_nonneg (by omega)) ?_)
  have hk0 : 0 ≤ a5 % (l : Int) := Int.emod_nonneg _ (by omega)
  have hk1 : a5 % (l : Int) < l := Int.emod_lt_of_pos _ (by omega)
  generalize hke : a5 % (l : Int) = k at hk0 hk1
  have hx := hm.cls16 (k := k.toNat) (by omega)
  have hcap := capF_le (fun x hx => (hcl x hx).1) k
  have hcap1 : 1 ≤ capF cl k := by
    unfold capF
    rw [if_pos (by omega)]
    exact (Int.le_ediv_iff_mul_le (by omega)).2 (by omega)
  have hcap2 : capF cl k ≤ 64 := by
    unfold capF
    rw [if_pos (by omega)]
    have : 1024 / cl.getD k.toNat 0 * cl.getD k.toNat 0 ≤ 1024 := Int.ediv_mul_le _ (by omega)
    have h2 : 1024 / cl.getD k.toNat 0 * 16 ≤ 1024 / cl.getD k.toNat 0 * cl.getD k.toNat 0 := Int.mul_le_mul_of_nonneg_left hx.1 (Int.ediv_nonneg (by omega) (by omega))
    omega
  have hs0 : 0 ≤ a6 % c1 := Int.emod_nonneg _ (by omega)
  have hs1 : a6 % c1 < c1 := Int.emod_lt_of_pos _ (by omega)
  have hi0 : 0 ≤ a7 % capF cl k := Int.emod_nonneg _ (by omega)
  have hi1 : a7 % capF cl k < capF cl k := Int.emod_lt_of_pos _ (by omega)
  generalize hse : a6 % c1 = s at hs0 hs1
  generalize hie : a7 % capF cl k = i at hi0 hi1
  refine ⟨fun vs w' => ∃ b, vs = [.pointer (some ⟨b, 0, none⟩)] ∧ Eff w23 w' [] ∧ w'.heap[b]? = some (.cells [.int .i64 s, .int .i64 i].toArray T_api_Block_api_Block (0, 0)), ?_, ?_⟩
  · intro w24 hE24 _
    have g2 := hE24.obj0 hb2
    have g3 := hE24.obj0 hb3
    have hc24 := hc23.eff hE24
    obtain ⟨f0, f1, f2, f3, f4⟩ := cfg_cells g2
    refine IDX_arr 0 (by omega) (by omega) rfl ?_
    rw [LDi_of (cellH_of g3 0)]
    refine BINDw (by omega) (by omega) ?_
    rw [NNq, LDi_of f1]
    refine NZ_of (by omega) (BINDx ((Int.tmod_eq_emod_of_nonneg (by omega)).trans hse) ?_)
    refine IDX_arr 1 (by omega) (by omega) rfl ?_
    rw [LDi_of (cellH_of g3 1)]
    refine BINDw (by omega) (by omega) ?_
    rw [NNq, CFG_ld g2]
    have keep3 : ∀ w', Eff w24 w' [] → KEEP w' [Fact.cell ⟨b3, 0, none⟩ (.int .u8 a6), Fact.cell ⟨b2, 0 + 1, none⟩ (.int .i64 c1), Fact.cell ⟨b3, 1, none⟩ (.int .u8 a7)] := fun w' hE =>
      KEEP_cell (cellH_of (hE.obj0 g3) 0) (KEEP_cell (hE.cell0 f1) (KEEP_cell (cellH_of (hE.obj0 g3) 1) KEEP_nil))
    refine ⟨?_, ?_⟩
    · refine (arena_Cap_spec hc24 (fun x hx => (hcl x hx).1) k).mono fun v w25 ⟨hE25, hv⟩ => ?_
      subst hv
      rw [INTV_int]
      refine ⟨keep3 w25 hE25, NZ_of (by omega) (BINDx ((Int.tmod_eq_emod_of_nonneg (by omega)).trans hie) ?_)⟩
      intro b12 w26 hE26 hs26 hb26
      refine ⟨keep3 w26 (hE25.trans0 hE26), ?_⟩
      refine ST2_of trivial trivial hE26 hs26 hb26 fun w28 hE28 hb28 _ => ?_
      exact ⟨KEEP_nil, b12, rfl, (hE24.trans0 hE25).trans0 hE28, hb28⟩
    · intro b13 w29 hE29 hs29 hb29
      refine ⟨?_, ?_⟩
      · have g2 := hE29.obj0 g2
        have g3 := hE29.obj0 g3
        obtain ⟨f0, f1, f2, f3, f4⟩ := cfg_cells g2
        exact KEEP_cell (cellH_of g3 0) (KEEP_cell f1 (KEEP_cell (cellH_of g3 1) (KEEP_cell f0 (KEEP_cell f1 (KEEP_cell f2 (KEEP_cell f3 (KEEP_cell f4 KEEP_nil)))))))
      refine (arena_Cap_spec (hc24.eff hE29) (fun x hx => (hcl x hx).1) k).mono fun v w30 ⟨hE30, hv⟩ => ?_
      subst hv
      rw [INTV_int]
      have hE2430 := hE29.trans0 hE30
      refine ⟨keep3 w30 hE2430, NZ_of (by omega) (BINDx ((Int.tmod_eq_emod_of_nonneg (by omega)).trans hie) ?_)⟩
      refine ST2_of trivial trivial hE2430 hs29 (hE30.obj0 hb29) fun w32 hE32 hb32 _ => ?_
      exact ⟨KEEP_nil, b13, rfl, hE24.trans0 hE32, hb32⟩
  intro w33 v9 ⟨b, hv, hE33, hb⟩
  cases hv
  rw [PTRV_pointer]
  have hc33 := hc23.eff hE33
  have hb2 := hE33.obj0 hb2
  have hE0 := hE0.trans0 hE33
  obtain ⟨p1, p2, p3, _, _, p6⟩ := at_block (c1 := c1) (k := k) (s := s) (i := i) hx hs0 hs1 hi0 hi1
  have hxx := getD_pos hcl (k := k.toNat) (by omega)
  have hn0 : 0 ≤ a8 % cl.getD k.toNat 0 := Int.emod_nonneg _ (by omega)
  have hn1 : a8 % cl.getD k.toNat 0 < cl.getD k.toNat 0 := Int.emod_lt_of_pos _ (by omega)
  generalize hne : a8 % cl.getD k.toNat 0 = n at hn0 hn1
  refine ⟨fun vs w' => vs = [.int .i64 (addrF c1 cl k s i), .int .i64 n] ∧ Eff w33 w' [], ?_, ?_⟩
  · intro w34 hE34 _
    have g2 := hE34.obj0 hb2
    have g := hE34.obj0 hb
    obtain ⟨_, _, _, _, f4⟩ := cfg_cells g2
    rw [NNq, CFG_ld g2, NNq, LDi_of (cellH_of g 0), LDi_of (cellH_of g 1)]
    refine BINDw (by omega) (by omega) ?_
    rw [NNq, LDl_of f4]
    refine IDX_i (hc33.eff hE34).sl (by omega) (by omega) fun b17 o17 hcell => ?_
    rw [LDi_of hcell]
    refine NZ_of (by omega) (BINDx ((Int.tmod_eq_emod_of_nonneg (by omega)).trans hne) ?_)
    refine (arena_Address_spec (hc33.eff hE34) hcl (by omega) k s i).mono fun v w35 ⟨hE35, hv⟩ => ?_
    subst hv
    rw [INTV_int]
    exact ⟨KEEP_cell (hE35.cell0 f4) (KEEP_cell (hE35.cell0 hcell) KEEP_nil), rfl, hE34.trans0 hE35⟩
  intro w36 v11 v12 ⟨hv, hE36⟩
  simp only [List.cons.injEq, and_true] at hv
  obtain ⟨rfl, rfl⟩ := hv
  have g2 := hE36.obj0 hb2
  have g := hE36.obj0 hb
  have hc36 := hc33.eff hE36
  rw [INTV_int, INTV_int, NNq, CFG_ld g2]
  refine BINDw (by omega) (by omega) ?_
  refine (arena_Block_spec hc36 hcl (by omega) (by omega) k _).mono fun v w37 ⟨hE37, hv⟩ => ?_
  subst hv
  rw [TUP_aiib]
  intro b19 w38 hE38 hs38 hb38
  refine ST2_of trivial trivial hE38 hs38 hb38 fun w40 hE40 hb40 _ => ?_
  intro w41 hE41 _
  have hE3641 := (hE37.trans0 hE40).trans0 hE41
  have g2 := hE3641.obj0 g2
  have g := hE3641.obj0 g
  have hc41 := hc36.eff hE3641
  have hE0 := (hE0.trans0 hE36).trans0 hE3641
  have hb41 := hE41.obj0 hb40
  obtain ⟨_, _, _, _, f4⟩ := cfg_cells g2
  have tail : LDl w41 ⟨b2, 0 + 4, none⟩ fun a_8 l_8 _ => IDX a_8 l_8 k 1 fun b_21 o_13 => LDi .i64 w41 ⟨b_21, o_13, none⟩ fun n_50 => BIND (IntKind.i64.wrap (addrF c1 cl k s i + n_50)) fun n_51 =>
      NN (some ⟨b, 0, none⟩) fun b_22 o_14 => LDi .i64 w41 ⟨b_22, o_14, none⟩ fun n_52 => BIND (IntKind.i64.wrap (n_52 + 1)) fun n_53 => BIND (IntKind.i64.wrap (1024 * n_53)) fun n_54 => BIND (IntKind.i64.wrap (65536 + n_54)) fun n_55 =>
      ITE (decide (n_51 ≤ n_55)) (NN (some ⟨b2, 0, none⟩) fun b_23 o_15 =>
          LDi .i64 w41 ⟨b_23, o_15, none⟩ fun n_56 => LDi .i64 w41 ⟨b_23, o_15 + 1, none⟩ fun n_57 => LDi .i64 w41 ⟨b_23, o_15 + 2, none⟩ fun n_58 => LDi .i64 w41 ⟨b_23, o_15 + 3, none⟩ fun n_59 => LDl w41 ⟨b_23, o_15 + 4, none⟩ fun a_9 l_9 c_9 =>
          NN (some ⟨b, 0, none⟩) fun b_24 o_16 => LDi .i64 w41 ⟨b_24, o_16 + 1, none⟩ fun n_60 =>
          CALL Pg F_arena_All [.agg #[.int .i64 n_56, .int .i64 n_57, .int .i64 n_58, .int .i64 n_59, .slice a_9 l_9 c_9], .int .i64 k] w41 fun v_18 w_42 => INTV .u64 v_18 fun n_61 =>
          (KEEP w_42 [Fact.cell ⟨b_24, o_16 + 1, none⟩ (.int .i64 n_60)]) ∧ CALL Pg F_mask_Mask_Has [.int .u64 n_61, .int .i64 n_60] w_42 fun v_19 w_43 => BOOLV v_19 fun t_4 => (KEEP w_43 []) ∧ (Eff w w_43 [] ∧ Value.bool t_4 = .bool true))
        (Eff w w41 [] ∧ Value.bool false = .bool true) := by
    rw [LDl_of f4]
    refine IDX_i hc41.sl (by omega) (by omega) fun b21 o13 hcell => ?_
    rw [LDi_of hcell]
    refine BINDw (by omega) (by omega) ?_
    rw [NNq, LDi_of (cellH_of g 0)]
    refine BINDw (by omega) (by omega) (BINDw (by omega) (by omega) (BINDw (by omega) (by omega) (ITE_d (fun _ => ?_) (fun h => by omega))))
    rw [NNq, CFG_ld g2, NNq, LDi_of (cellH_of g 1)]
    refine (arena_All_spec hc41 (fun x hx => (hcl x hx).1) k).mono fun v w42 ⟨hE42, hv⟩ => ?_
    subst hv
    rw [INTV_int]
    refine ⟨KEEP_cell (cellH_of (hE42.obj0 g) 1) KEEP_nil, ?_⟩
    have e : (2 : Int) ^ (min (capF cl k) 64).toNat - 1 = ((2 ^ (min (capF cl k) 64).toNat - 1 : Nat) : Int) := by
      have : 1 ≤ 2 ^ (min (capF cl k) 64).toNat := Nat.one_le_two_pow
      rw [Int.natCast_sub this]; simp
    have e2 : i = (i.toNat : Int) := by omega
    rw [e, e2]
    refine (mask_Has_spec (by omega) (by omega)).mono fun v w43 ⟨hE43, hv⟩ => ?_
    subst hv
    rw [BOOLV_bool]
    exact ⟨KEEP_nil, (hE0.trans0 hE42).trans0 hE43, rfl⟩
  by_cases hz : n = 0
  · subst hz
    rw [Int.add_zero, p6] at hb41 ⊢
    refine ITE_intro (fun _ => ?_) (fun h => by simp at h)
    refine ITE_intro (fun h => by simp at h) (fun _ => ?_)
    rw [LDi_of (cellH_of hb41 0), LDi_of (cellH_of hb41 1), NNq, LDi_of (cellH_of g 0), LDi_of (cellH_of g 1)]
    refine ITE_intro (fun _ => ?_) (fun h => by simp at h)
    rw [NNq]
    exact tail
  · rw [not_block (c1 := c1) hx hs0 hs1 hi0 hi1 (by omega) hn1]
    refine ITE_intro (fun _ => ?_) (fun h => by simp [hz] at h)
    refine ITE_intro (fun _ => ?_) (fun h => by simp at h)
    rw [NNq]
    exact tail

theorem inside_open {w : World} {cs : List Value} (h : Rds w [.int .i64, .int .i64, .int .i64, .int .i64, .sl [.int .i64], .int .u8, .int .u8, .int .u8, .int .u16] cs) :
    ∃ c0 c1 c2 c3 a l c cl a5 a6 a7 a8, cs = [.int .i64 c0, .int .i64 c1, .int .i64 c2, .int .i64 c3, .slice a l c, .int .u8 a5, .int .u8 a6, .int .u8 a7, .int .u16 a8] ∧ Cfg w.heap a l cl ∧ (0 ≤ a5 ∧ a5 ≤ 255) ∧ (0 ≤ a6 ∧ a6 ≤ 255) ∧ (0 ≤ a7 ∧ a7 ≤ 255) ∧ 0 ≤ a8 ∧ a8 ≤ 65535 := by
  cases h with | int _ h =>
  cases h with | int _ h =>
  cases h with | int _ h =>
  cases h with | int _ h =>
  cases h with | sl b o xs h1 h2 h3 h4 h5 h6 =>
  cases h6 with | int k5 h =>
  cases h with | int k6 h =>
  cases h with | int k7 h =>
  cases h with | int k8 h =>
  cases h
  obtain ⟨cl, hl, _, hm, hs, _⟩ := Rds.ints (.sl b o xs h1 h2 h3 h4 h5 .nil)
  exact ⟨_, _, _, _, _, _, _, cl, _, _, _, _, rfl, ⟨hs, by have : maxLen = 9223372036854775807 := rfl; omega⟩, Go.bounds_u8 k5, Go.bounds_u8 k6, Go.bounds_u8 k7, Go.bounds_u16 k8⟩

end
end Go.Proofs.Ytapcknlnhpafcaa
