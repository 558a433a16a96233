/- What arena's Block answers; masks; who may be. -/
import Derived.Test.YtapcknlnhpafcaaArena2
namespace Go.Proofs.Ytapcknlnhpafcaa
open Go.Den

section
variable {w : World} {c0 c1 c2 c3 : Int} {a : Option Addr} {l c : Nat} {cl : List Int}

/-- Two cells of a block of one's own are set. -/
theorem ST2_of {w₀ w : World} {b : Nat} {x y u v : Value} {t : TypeId} {K : World → Prop} (hu : SCAL u) (hv : SCAL v) (hE : Eff w₀ w []) (hb0 : w₀.heap.size ≤ b)
    (hb : w.heap[b]? = some (.cells [x, y].toArray t (0, 0))) (hK : ∀ w', Eff w₀ w' [] → w'.heap[b]? = some (.cells [u, v].toArray t (0, 0)) → Eff w w' [b] → K w') :
    ST1 w ⟨b, 0, none⟩ u fun w1 => ST1 w1 ⟨b, 1, none⟩ v K := by
  refine ST1_of hu hb (by simp) fun w1 hb1 hE1 => ST1_of hv hb1 (by simp) fun w2 hb2 hE2 => ?_
  refine hK w2 ?_ hb2 ?_
  · exact (hE.own hE1 (by simpa using hb0)).own hE2 (by simpa using hb0)
  · exact (hE1.trans hE2).weak (by simp)

theorem arena_Block_spec (hc : Cfg w.heap a l cl) (hq : ∀ x ∈ cl, 1 ≤ x ∧ x ≤ 512) (h1 : 0 ≤ c1) (h2 : c1 ≤ 1000000) (k at_ : Int) :
    CALL Pg F_arena_Block [cfgV c0 c1 c2 c3 a l c, .int .i64 k, .int .i64 at_] w fun v w' => Eff w w' [] ∧ v = .tuple #[.agg #[.int .i64 (blockF c1 cl k at_).1.1, .int .i64 (blockF c1 cl k at_).1.2], .bool (blockF c1 cl k at_).2] := by
  apply C_arena_Block
  unfold D_arena_Block
  intro b1 w1 hE1 hs1 hb1 b2 w2 hE2 hs2 hb2
  have hE02 := hE1.trans0 hE2
  have hs02 : w.heap.size ≤ b2 := Nat.le_trans hE1.size hs2
  have hno : ∀ wk u1 u2, Eff w1 wk [] → blockF c1 cl k at_ = ((0, 0), false) → wk.heap[b2]? = some (.cells [.int .i64 u1, .int .i64 u2].toArray T_api_Block_api_Block (0, 0)) →
      ST1 wk ⟨b2, 0, none⟩ (.int .i64 0) fun w_4 => ST1 w_4 ⟨b2, 1, none⟩ (.int .i64 0) fun w_5 => LDi .i64 w_5 ⟨b2, 0, none⟩ fun n_7 => LDi .i64 w_5 ⟨b2, 1, none⟩ fun n_8 =>
        Eff w w_5 [] ∧ (Value.tuple #[.agg #[.int .i64 n_7, .int .i64 n_8], .bool false]) = .tuple #[.agg #[.int .i64 (blockF c1 cl k at_).1.1, .int .i64 (blockF c1 cl k at_).1.2], .bool (blockF c1 cl k at_).2] := by
    intro wk u1 u2 hE hn hb
    refine ST2_of trivial trivial hE hs2 hb fun w' hE' hb' _ => ?_
    rw [LDi_of (cellH_of hb' 0), LDi_of (cellH_of hb' 1), hn]
    exact ⟨hE1.trans0 hE', rfl⟩
  obtain ⟨f0, f1, f2, f3, f4⟩ := cfg_cells (hE2.obj0 hb1)
  rw [LDi_of f0, LDi_of f1, LDi_of f2, LDi_of f3, LDl_of f4]
  refine (arena_Place_spec h1 h2 at_).mono fun v w3 ⟨hE3, hv⟩ => ?_
  subst hv
  have hE13 := hE2.trans0 hE3
  have hE03 := hE1.trans0 hE13
  have hb23 := hE3.obj0 hb2
  have hpl := placeF_le c1 at_
  refine ITE_intro (fun h3 => ?_) (fun h3 => ?_)
  · exact hno w3 _ _ hE13 (by simp at h3; simp [blockF, h3]) hb23
  have h3 : (placeF c1 at_).2.2 = true := by simpa using h3
  obtain ⟨f0, f1, f2, f3, f4⟩ := cfg_cells (hE13.obj0 hb1)
  rw [LDi_of f0, LDi_of f1, LDi_of f2, LDi_of f3, LDl_of f4]
  refine (arena_is_spec (hc.eff hE03) k).mono fun v w4 ⟨hE4, hv⟩ => ?_
  subst hv
  have hE14 := hE13.trans0 hE4
  have hE04 := hE1.trans0 hE14
  have hb24 := hE4.obj0 hb23
  refine ITE_intro (fun h5 => ?_) (fun h5 => ?_)
  · exact hno w4 _ _ hE14 (by simp only [Bool.not_eq_true', decide_eq_false_iff_not] at h5; unfold blockF; dsimp only; rw [if_pos (Or.inr (Or.inl h5))]) hb24
  have h5 : 0 ≤ k ∧ k < cl.length := by simpa using h5
  have hl := hc.l_eq
  have hkl : k.toNat < cl.length := by omega
  have hx : 1 ≤ cl.getD k.toNat 0 ∧ cl.getD k.toNat 0 ≤ 512 := by
    have := hq cl[k.toNat] (List.getElem_mem hkl)
    simpa [hkl] using this
  have hcap := capF_le (fun x hx => (hq x hx).1) k
  obtain ⟨_, _, _, _, f4⟩ := cfg_cells (hE14.obj0 hb1)
  refine BINDw (by omega) (by omega) ?_
  rw [LDl_of f4]
  refine IDX_i (hc.eff hE04).sl (by omega) (by omega) fun b o hcell => ?_
  rw [LDi_of hcell]
  have hd0 : 0 ≤ (placeF c1 at_).2.1 * 16 / cl.getD k.toNat 0 := Int.ediv_nonneg (by omega) (by omega)
  have hd1 : (placeF c1 at_).2.1 * 16 / cl.getD k.toNat 0 ≤ (placeF c1 at_).2.1 * 16 := Int.ediv_le_self _ (by omega)
  refine NZ_of (by omega) (BINDx (Int.tmod_eq_emod_of_nonneg (by omega)) (ITE_ne (fun h6 => ?_) (fun h6 => ?_)))
  · exact hno w4 _ _ hE14 (by unfold blockF; dsimp only; rw [if_pos (Or.inr (Or.inr (Or.inl h6)))]) hb24
  refine BINDw (by omega) (by omega) ?_
  rw [LDl_of f4]
  refine IDX_i (hc.eff hE04).sl (by omega) (by omega) fun b o hcell => ?_
  rw [LDi_of hcell]
  refine NZ_of (by omega) ?_
  rw [Int.tdiv_eq_ediv_of_nonneg (by omega)]
  refine BINDw (by omega) (by omega) ?_
  intro b5 w5 hE5 hs5 hb5
  refine ST2_of trivial trivial hE5 hs5 hb5 fun w6 hE6 hb6 _ => ?_
  intro w7 hE7 hh7
  have hE47 := hE6.trans0 hE7
  have hE17 := hE14.trans0 hE47
  have hE07 := hE1.trans0 hE17
  have hb57 := hE7.obj0 hb6
  have g1 := cellH_of hb57 1
  have g0 := cellH_of hb57 0
  obtain ⟨f0, f1, f2, f3, f4⟩ := cfg_cells (hE17.obj0 hb1)
  rw [LDi_of g1, LDi_of f0, LDi_of f1, LDi_of f2, LDi_of f3, LDl_of f4]
  refine (arena_Cap_spec (hc.eff hE07) (fun x hx => (hq x hx).1) k).mono fun v w8 ⟨hE8, hv⟩ => ?_
  subst hv
  rw [INTV_int]
  have hE18 := hE17.trans0 hE8
  have hb28 := (hE47.trans0 hE8).obj0 hb24
  refine ⟨KEEP_cell (hE8.cell0 g1) KEEP_nil, ITE_d (fun h7 => ?_) (fun h7 => ?_)⟩
  · exact hno w8 _ _ hE18 (by unfold blockF; dsimp only; rw [if_pos (Or.inr (Or.inr (Or.inr h7)))]) hb28
  rw [LDi_of (hE8.cell0 g0), LDi_of (hE8.cell0 g1)]
  refine ST2_of trivial trivial hE18 hs2 hb28 fun w' hE' hb' _ => ?_
  rw [LDi_of (cellH_of hb' 0), LDi_of (cellH_of hb' 1)]
  refine ⟨hE1.trans0 hE', ?_⟩
  have hcon : ¬((placeF c1 at_).2.2 = false ∨ ¬ (0 ≤ k ∧ k < cl.length) ∨ ((placeF c1 at_).2.1 * 16) % cl.getD k.toNat 0 ≠ 0 ∨ (placeF c1 at_).2.1 * 16 / cl.getD k.toNat 0 ≥ capF cl k) := by
    rw [h3]; simp only [reduceCtorEq, false_or, not_or, Decidable.not_not]
    exact ⟨h5, h6, h7⟩
  unfold blockF
  dsimp only
  rw [if_neg hcon]

/-! ### masks -/
theorem pow2_le {n : Nat} (h : n ≤ 63) : (1 : Int) ≤ 2 ^ n ∧ (2 : Int) ^ n ≤ 9223372036854775808 := by
  have e : (2 : Int) ^ n = ((2 ^ n : Nat) : Int) := by simp
  have h1 : 2 ^ n ≤ 2 ^ 63 := Nat.pow_le_pow_right (by decide) h
  have h2 : 1 ≤ 2 ^ n := Nat.one_le_two_pow
  rw [e]; omega

theorem mask_Low_spec (n : Int) (h1 : n ≤ 9000000000000000000) : CALL Pg F_mask_Low [.int .i64 n] w fun v w' => Eff w w' [] ∧ v = .int .u64 (2 ^ (min n 64).toNat - 1) := by
  apply C_mask_Low
  unfold D_mask_Low
  refine ITE_d (fun h => ?_) (fun h => ?_)
  · have : (min n 64).toNat = 0 := by omega
    exact ⟨Eff.refl w, by rw [this]; rfl⟩
  refine ITE_d (fun h2 => ?_) (fun h2 => ?_)
  · have : (min n 64).toNat = 64 := by omega
    exact ⟨Eff.refl w, by rw [this]; rfl⟩
  refine BINDu (by omega) (by omega) (GE0_of (by omega) ?_)
  have hn : (min n 64).toNat = n.toNat := by omega
  have hp2 := pow2_le (n := n.toNat) (by omega)
  have hs : shI BinOp.shl IntKind.u64 1 n = 2 ^ n.toNat := by
    have : min n.toNat IntKind.u64.bits = n.toNat := by have : IntKind.u64.bits = 64 := rfl; omega
    unfold shI
    dsimp only
    rw [this, Int.one_mul, wrap_u64 (by omega) (by omega)]
  refine BINDx hs (BINDu (by omega) (by omega) ⟨Eff.refl w, by rw [hn]⟩)

theorem arena_All_spec (hc : Cfg w.heap a l cl) (hp : ∀ x ∈ cl, 1 ≤ x) (k : Int) :
    CALL Pg F_arena_All [cfgV c0 c1 c2 c3 a l c, .int .i64 k] w fun v w' => Eff w w' [] ∧ v = .int .u64 (2 ^ (min (capF cl k) 64).toNat - 1) := by
  apply C_arena_All
  unfold D_arena_All
  intro b1 w1 hE1 _ hb1
  obtain ⟨f0, f1, f2, f3, f4⟩ := cfg_cells hb1
  rw [LDi_of f0, LDi_of f1, LDi_of f2, LDi_of f3, LDl_of f4]
  refine (arena_Cap_spec (hc.eff hE1) hp k).mono fun v w2 ⟨hE2, hv⟩ => ?_
  subst hv
  have := capF_le hp k
  refine (mask_Low_spec _ (by omega)).mono fun v w3 ⟨hE3, hv⟩ => ?_
  subst hv
  exact ⟨(hE1.trans0 hE2).trans0 hE3, rfl⟩

end
end Go.Proofs.Ytapcknlnhpafcaa
