/- What the functions of package arena, and the document's, answer: places, addresses, blocks. -/
import Derived.Test.YtapcknlnhpafcaaArena
namespace Go.Proofs.Ytapcknlnhpafcaa
open Go.Den

section
variable {w : World} {c0 c1 c2 c3 : Int} {a : Option Addr} {l c : Nat} {cl : List Int}

/-- The superblock and the grain of an address. -/
def placeF (c1 at_ : Int) : Int × Int × Bool := if at_ < 65536 ∨ at_ ≥ 65536 + c1 * 1024 ∨ at_ % 16 ≠ 0 then (0, 0, false) else ((at_ - 65536) / 16 / 64, (at_ - 65536) / 16 % 64, true)

theorem arena_Place_spec (h1 : 0 ≤ c1) (h2 : c1 ≤ 1000000) (at_ : Int) :
    CALL Pg F_arena_Place [cfgV c0 c1 c2 c3 a l c, .int .i64 at_] w fun v w' => Eff w w' [] ∧ v = .tuple #[.int .i64 (placeF c1 at_).1, .int .i64 (placeF c1 at_).2.1, .bool (placeF c1 at_).2.2] := by
  apply C_arena_Place
  unfold D_arena_Place
  intro b1 w1 hE1 _ hb1
  refine ITE_d (fun h => ?_) (fun h => ?_)
  · exact ⟨hE1, by simp [placeF, h]⟩
  obtain ⟨f0, f1, f2, f3, f4⟩ := cfg_cells hb1
  rw [LDi_of f0, LDi_of f1, LDi_of f2, LDi_of f3, LDl_of f4]
  refine arena_End_spec.mono fun v w2 ⟨hE2, hv⟩ => ?_
  subst hv
  have hE12 := hE1.trans0 hE2
  rw [INTV_int, wrap_i64 (x := c1 * 1024) (by omega) (by omega), wrap_i64 (by omega) (by omega)]
  refine ITE_d (fun h3 => ?_) (fun h3 => ?_)
  · exact ⟨hE12, by simp [placeF, h3]⟩
  refine NZ_of (by omega) (BINDx (Int.tmod_eq_emod_of_nonneg (by omega)) ?_)
  refine ITE_ne (fun h4 => ?_) (fun h4 => ?_)
  · exact ⟨hE12, by simp [placeF, h4]⟩
  refine BINDw (by omega) (by omega) (NZ_of (by omega) ?_)
  rw [Int.tdiv_eq_ediv_of_nonneg (by omega)]
  refine BINDw (by omega) (by omega) (NZ_of (by omega) ?_)
  rw [Int.tdiv_eq_ediv_of_nonneg (by omega), Int.tmod_eq_emod_of_nonneg (by omega)]
  refine BINDw (by omega) (by omega) (NZ_of (by omega) (BINDx rfl ⟨hE12, ?_⟩))
  have hp : placeF c1 at_ = ((at_ - 65536) / 16 / 64, (at_ - 65536) / 16 % 64, true) := by
    unfold placeF; rw [if_neg]; omega
  rw [hp]

/-- Where a block begins. -/
def addrF (c1 : Int) (cl : List Int) (k s i : Int) : Int := if s < 0 ∨ s ≥ c1 ∨ i < 0 ∨ i ≥ capF cl k then 0 else 65536 + s * 1024 + i * cl.getD k.toNat 0

theorem capF_pos {k i : Int} (h0 : 0 ≤ i) (h : ¬ i ≥ capF cl k) : 0 ≤ k ∧ k < cl.length ∧ i < 1024 / cl.getD k.toNat 0 := by
  unfold capF at h
  split at h
  · rename_i hk; exact ⟨hk.1, hk.2, by omega⟩
  · omega

theorem capF_le (hp : ∀ x ∈ cl, 1 ≤ x) (k : Int) : 0 ≤ capF cl k ∧ capF cl k ≤ 1024 := by
  unfold capF
  split
  · rename_i hk
    have hk1 : k.toNat < cl.length := by omega
    have h1 : 1 ≤ cl.getD k.toNat 0 := by have := hp cl[k.toNat] (List.getElem_mem hk1); simpa [hk1] using this
    exact ⟨Int.ediv_nonneg (by omega) (by omega), Int.ediv_le_self _ (by omega)⟩
  · omega

theorem getD_le (hq : ∀ x ∈ cl, 1 ≤ x ∧ x ≤ 512) (k : Nat) : 0 ≤ cl.getD k 0 ∧ cl.getD k 0 ≤ 512 := by
  rcases Nat.lt_or_ge k cl.length with h | h
  · have := hq cl[k] (List.getElem_mem h)
    simp [h]; omega
  · simp [h]

theorem arena_Address_spec (hc : Cfg w.heap a l cl) (hq : ∀ x ∈ cl, 1 ≤ x ∧ x ≤ 512) (h2 : c1 ≤ 1000000) (k s i : Int) :
    CALL Pg F_arena_Address [cfgV c0 c1 c2 c3 a l c, .int .i64 k, .agg #[.int .i64 s, .int .i64 i]] w fun v w' => Eff w w' [] ∧ v = .int .i64 (addrF c1 cl k s i) := by
  apply C_arena_Address
  unfold D_arena_Address
  intro b1 w1 hE1 hs1 hb1 b2 w2 hE2 hs2 hb2 w3 hE3 hh3
  have hE13 := (hE1.trans0 hE2).trans0 hE3
  have hb2' := hE3.obj0 hb2
  obtain ⟨f0, f1, f2, f3, f4⟩ := cfg_cells (hE3.obj0 (hE2.obj0 hb1))
  have g0 : cellH w3.heap b2 0 = some (.int .i64 s) := cellH_of hb2' 0
  have g1 : cellH w3.heap b2 1 = some (.int .i64 i) := cellH_of hb2' 1
  rw [LDi_of g0]
  refine ITE_d (fun h => ?_) (fun h => ?_)
  · exact ⟨hE13, by simp [addrF, h]⟩
  rw [LDi_of g0, LDi_of f1]
  refine ITE_d (fun h3 => ?_) (fun h3 => ?_)
  · exact ⟨hE13, by simp [addrF, h3]⟩
  rw [LDi_of g1]
  refine ITE_d (fun h4 => ?_) (fun h4 => ?_)
  · exact ⟨hE13, by simp [addrF, h4]⟩
  rw [LDi_of g1, LDi_of f0, LDi_of f1, LDi_of f2, LDi_of f3, LDl_of f4]
  refine (arena_Cap_spec (hc.eff hE13) (fun x hx => (hq x hx).1) k).mono fun v w4 ⟨hE4, hv⟩ => ?_
  subst hv
  rw [INTV_int]
  have hE14 := hE13.trans0 hE4
  have g1' := hE4.cell0 g1
  refine ⟨KEEP_cell g1' KEEP_nil, ITE_d (fun h5 => ?_) (fun h5 => ?_)⟩
  · exact ⟨hE14, by simp [addrF, h5]⟩
  obtain ⟨hk0, hk1, hk2⟩ := capF_pos (by omega) h5
  have hcap := capF_le (fun x hx => (hq x hx).1) k
  intro w5 hE5 _
  have hE15 := hE14.trans0 hE5
  have hg := getD_le hq k.toNat
  rw [LDi_of (hE5.cell0 (hE4.cell0 g0))]
  refine BINDw (by omega) (by omega) (BINDw (by omega) (by omega) ?_)
  rw [LDi_of (hE5.cell0 g1'), LDl_of (hE5.cell0 (hE4.cell0 f4))]
  have hl := hc.l_eq
  refine IDX_i (hc.eff hE15).sl (by omega) (by omega) fun b o hcell => ?_
  rw [LDi_of hcell]
  have hm1 : 0 ≤ i * cl.getD k.toNat 0 := Int.mul_nonneg (by omega) hg.1
  have hm2 : i * cl.getD k.toNat 0 ≤ 1024 * 512 := Int.mul_le_mul (by omega) hg.2 hg.1 (by omega)
  refine BINDw (by omega) (by omega) (BINDw (by omega) (by omega) ⟨hE15, ?_⟩)
  have : addrF c1 cl k s i = 65536 + s * 1024 + i * cl.getD k.toNat 0 := by unfold addrF; rw [if_neg]; omega
  rw [this]

/-- The block that begins at an address. -/
def blockF (c1 : Int) (cl : List Int) (k at_ : Int) : (Int × Int) × Bool :=
  let p := placeF c1 at_
  let x := cl.getD k.toNat 0
  if p.2.2 = false ∨ ¬ (0 ≤ k ∧ k < cl.length) ∨ (p.2.1 * 16) % x ≠ 0 ∨ p.2.1 * 16 / x ≥ capF cl k then ((0, 0), false) else ((p.1, p.2.1 * 16 / x), true)

theorem placeF_le (c1 at_ : Int) : 0 ≤ (placeF c1 at_).2.1 ∧ (placeF c1 at_).2.1 ≤ 63 := by
  unfold placeF; split <;> dsimp only <;> omega

end
end Go.Proofs.Ytapcknlnhpafcaa
