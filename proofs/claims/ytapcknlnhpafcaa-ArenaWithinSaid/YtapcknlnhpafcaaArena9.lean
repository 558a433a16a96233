/- The laws ArenaBlocks and ArenaApart: what they answer. -/
import Derived.Test.YtapcknlnhpafcaaArena8
namespace Go.Proofs.Ytapcknlnhpafcaa
open Go.Den

section
variable {w : World} {c0 c1 c2 c3 : Int} {a : Option Addr} {l c : Nat} {cl : List Int}

theorem upTo_getD {n i : Nat} (h : i < n) : (upTo n).getD i 0 = i := by simp [upTo, h]

theorem r02_Least_spec {n : Int} (h0 : 0 ≤ n) : CALL Pg F_r02_Least [.int .u64 18446744073709551615, .int .i64 n] w fun v w' => Eff w w' [] ∧ v = .int .u64 (2 ^ (min n 64).toNat - 1 : Nat) := by
  apply C_r02_Least
  unfold D_r02_Least
  refine r02_List_spec.mono fun v w1 ⟨hE1, a, c, hv, hs, hc⟩ => ?_
  subst hv
  rw [SLV_slice]
  refine ITE_d (fun h => by omega) (fun _ => ?_)
  refine ITE_d (fun h => ?_) (fun h => ?_)
  · refine SILX_h elem_int h0 (by omega) ?_
    rw [SLV_slice]
    have hs' := hs.sub (lo := 0) (hi := n.toNat) (c := c) (by omega) (by omega) hc
    rw [Nat.sub_zero, List.drop_zero] at hs'
    refine (r02_Of_spec hs' (by omega) (fun i hi => ?_)).mono fun v w2 ⟨hE2, hv⟩ => ?_
    · rw [List.getD_eq_getElem?_getD, List.getElem?_take, if_pos hi, ← List.getD_eq_getElem?_getD]
      exact upTo_getD (by omega)
    · subst hv
      rw [INTV_int]
      have : (min n 64).toNat = n.toNat := by omega
      exact ⟨hE1.trans0 hE2, by rw [this]⟩
  · refine (r02_Of_spec hs (by omega) (fun i hi => upTo_getD hi)).mono fun v w2 ⟨hE2, hv⟩ => ?_
    subst hv
    rw [INTV_int]
    have : (min n 64).toNat = 64 := by omega
    exact ⟨hE1.trans0 hE2, by rw [this]⟩

theorem r02_Low_spec {n : Int} (h0 : 0 ≤ n) : CALL Pg F_r02_Low [.int .i64 n] w fun v w' => Eff w w' [] ∧ v = .int .u64 (2 ^ (min n 64).toNat - 1 : Nat) := by
  apply C_r02_Low
  unfold D_r02_Low
  refine (r02_Least_spec h0).mono fun v w1 ⟨hE1, hv⟩ => ?_
  subst hv
  rw [INTV_int]
  exact ⟨hE1, rfl⟩

/-! ### blocks and addresses -/
theorem mayP.cls16 (h : mayP c0 c1 c2 c3 cl) {k : Nat} (hk : k < cl.length) : 16 ≤ cl.getD k 0 ∧ cl.getD k 0 ≤ 512 ∧ cl.getD k 0 % 16 = 0 := by
  have := h.2 k hk
  unfold okAt at this
  omega

theorem mul_mod16 {x i : Int} (h : x % 16 = 0) : ∃ t, i * x = 16 * t := by
  obtain ⟨z, hz⟩ := Int.dvd_of_emod_eq_zero h
  exact ⟨i * z, by rw [hz, ← Int.mul_assoc, Int.mul_comm i 16, Int.mul_assoc]⟩

theorem cap_mul {x i : Int} (hx : 1 ≤ x) (hi : i < 1024 / x) : i * x + x ≤ 1024 := by
  have h1 : i + 1 ≤ 1024 / x := by omega
  have h2 := (Int.le_ediv_iff_mul_le (by omega)).1 h1
  rw [Int.add_mul, Int.one_mul] at h2
  exact h2

/-- What is to be known of a block that is. -/
theorem at_block {k s i : Int} (hx : 16 ≤ cl.getD k.toNat 0 ∧ cl.getD k.toNat 0 ≤ 512 ∧ cl.getD k.toNat 0 % 16 = 0) (hs : 0 ≤ s) (hs1 : s < c1) (hi : 0 ≤ i) (hi1 : i < capF cl k) :
    addrF c1 cl k s i = 65536 + s * 1024 + i * cl.getD k.toNat 0 ∧ 0 ≤ i * cl.getD k.toNat 0 ∧ i * cl.getD k.toNat 0 + cl.getD k.toNat 0 ≤ 1024 ∧ (∃ t, i * cl.getD k.toNat 0 = 16 * t) ∧
      placeF c1 (addrF c1 cl k s i) = (s, i * cl.getD k.toNat 0 / 16, true) ∧ blockF c1 cl k (addrF c1 cl k s i) = ((s, i), true) := by
  obtain ⟨hk0, hk1, hk2⟩ := capF_pos (cl := cl) (k := k) hi (by omega)
  have h1 : addrF c1 cl k s i = 65536 + s * 1024 + i * cl.getD k.toNat 0 := by unfold addrF; rw [if_neg (by omega)]
  have h2 : 0 ≤ i * cl.getD k.toNat 0 := Int.mul_nonneg hi (by omega)
  have h3 := cap_mul (x := cl.getD k.toNat 0) (by omega) hk2
  obtain ⟨t, h4⟩ := mul_mod16 (x := cl.getD k.toNat 0) (i := i) hx.2.2
  have h5 : placeF c1 (addrF c1 cl k s i) = (s, i * cl.getD k.toNat 0 / 16, true) := by
    unfold placeF
    rw [h1, h4, if_neg (by omega)]
    simp only [Prod.mk.injEq, and_true]
    omega
  refine ⟨h1, h2, h3, ⟨t, h4⟩, h5, ?_⟩
  unfold blockF
  dsimp only
  rw [h5]
  dsimp only
  have h6 : i * cl.getD k.toNat 0 / 16 * 16 = i * cl.getD k.toNat 0 := by omega
  rw [h6, Int.mul_emod_left, Int.mul_ediv_cancel _ (by omega), if_neg]
  simp only [Bool.true_eq_false, false_or, ne_eq, not_true_eq_false, not_or, Decidable.not_not]
  exact ⟨⟨hk0, by omega⟩, by omega⟩

/-- What a block that is found is. -/
theorem block_at {k x s i : Int} (hx : 16 ≤ cl.getD k.toNat 0 ∧ cl.getD k.toNat 0 ≤ 512 ∧ cl.getD k.toNat 0 % 16 = 0) (h : blockF c1 cl k x = ((s, i), true)) : 0 ≤ s ∧ s < c1 ∧ 0 ≤ i ∧ i < capF cl k ∧ addrF c1 cl k s i = x := by
  unfold blockF at h
  dsimp only at h
  split at h
  · cases h
  rename_i hn
  simp only [not_or, Decidable.not_not, Bool.not_eq_false, ge_iff_le] at hn
  obtain ⟨h1, h2, h3, h4⟩ := hn
  simp only [Prod.mk.injEq, and_true] at h
  obtain ⟨rfl, rfl⟩ := h
  have hp := placeF_le c1 x
  unfold placeF at h1 h3 h4 hp ⊢
  split at h1
  · cases h1
  rename_i hc
  rw [if_neg hc] at h3 h4 hp ⊢
  dsimp only at h3 h4 hp ⊢
  have e : (x - 65536) / 16 % 64 * 16 / cl.getD k.toNat 0 * cl.getD k.toNat 0 = (x - 65536) / 16 % 64 * 16 := by
    have := Int.mul_ediv_add_emod ((x - 65536) / 16 % 64 * 16) (cl.getD k.toNat 0)
    rw [h3, Int.mul_comm] at this
    omega
  have e0 : 0 ≤ (x - 65536) / 16 % 64 * 16 / cl.getD k.toNat 0 := Int.ediv_nonneg (by omega) (by omega)
  refine ⟨by omega, by omega, e0, by omega, ?_⟩
  unfold addrF
  rw [if_neg (by omega), e]
  omega

theorem block_same {k x s i : Int} {t : Bool} (hx : 0 ≤ k → k < cl.length → 16 ≤ cl.getD k.toNat 0 ∧ cl.getD k.toNat 0 ≤ 512 ∧ cl.getD k.toNat 0 % 16 = 0)
    (h : t = true ∧ 0 ≤ s ∧ s < c1 ∧ 0 ≤ i ∧ i < capF cl k ∧ addrF c1 cl k s i = x ∨ t = false ∧ s = 0 ∧ i = 0 ∧ ∀ s i, 0 ≤ s → s < c1 → 0 ≤ i → i < capF cl k → addrF c1 cl k s i ≠ x) : blockF c1 cl k x = ((s, i), t) := by
  rcases h with ⟨rfl, h1, h2, h3, h4, h5⟩ | ⟨rfl, rfl, rfl, h1⟩
  · obtain ⟨hk0, hk1, _⟩ := capF_pos (cl := cl) (k := k) h3 (by omega)
    rw [← h5]
    exact (at_block (hx hk0 hk1) h1 h2 h3 h4).2.2.2.2.2
  · rcases hb : blockF c1 cl k x with ⟨⟨s, i⟩, t⟩
    cases t
    · unfold blockF at hb
      dsimp only at hb
      split at hb
      · exact hb.symm
      · cases hb
    · exfalso
      have hk : 0 ≤ k ∧ k < cl.length := by
        unfold blockF at hb
        dsimp only at hb
        split at hb
        · cases hb
        · rename_i hn
          simp only [not_or, Decidable.not_not] at hn
          exact hn.2.1
      obtain ⟨g1, g2, g3, g4, g5⟩ := block_at (hx hk.1 hk.2) hb
      exact h1 s i g1 g2 g3 g4 g5

theorem ArenaBlocks_spec (hc : Cfg w.heap a l cl) (k s i x : Int) : CALL Pg F_l05_ArenaBlocks [cfgV c0 c1 c2 c3 a l c, .int .i64 k, .agg #[.int .i64 s, .int .i64 i, .int .i64 x]] w fun v w' => Eff w w' [] ∧ v = .bool true := by
  apply C_l05_ArenaBlocks
  unfold D_l05_ArenaBlocks
  intro b1 w1 hE1 _ hb1 b2 w2 hE2 hs2 hb2
  refine head_of (K := fun v w' => Eff w w' [] ∧ v = .bool true) (hE1.trans0 hE2) (hE2.obj0 hb1) hc (fun w' h => ⟨h, rfl⟩) fun w4 hE4 hb4 hc4 hm => ?_
  have hs := hm.sup
  have hcl := hm.cls
  obtain ⟨_, f1, _, _, _⟩ := cfg_cells hb4
  have hE := (hE1.trans0 hE2).trans0 hE4
  rw [LDi_of f1]
  refine ITE_d (fun _ => ⟨hE, rfl⟩) (fun h8 => ?_)
  have hb24 := hE4.obj0 hb2
  refine IDX_arr 0 (by omega) (by omega) rfl ?_
  rw [LDi_of (cellH_of hb24 0)]
  refine IDX_arr 1 (by omega) (by omega) rfl ?_
  rw [LDi_of (cellH_of hb24 1)]
  intro b5 w5 hE5 hs5 hb5
  refine ST2_of trivial trivial hE5 hs5 hb5 fun w7 hE7 hb7 _ => ?_
  rw [CFG_ld (hE7.obj0 hb4)]
  refine IDX_arr 2 (by omega) (by omega) rfl ?_
  rw [LDi_of (cellH_of (hE7.obj0 hb24) 2)]
  refine (arena_Block_spec (hc4.eff hE7) hcl (by omega) (by omega) k x).mono fun v w8 ⟨hE8, hv⟩ => ?_
  subst hv
  rw [TUP_aiib]
  have hE48 := hE7.trans0 hE8
  have hb8 := hE8.obj0 hb7
  intro b7 w9 hE9 hs9 hb9
  refine ST2_of trivial trivial hE9 hs9 hb9 fun w11 hE11 hb11 _ => ?_
  have hE4b := hE48.trans0 hE11
  rw [CFG_ld (hE4b.obj0 hb4)]
  refine IDX_arr 2 (by omega) (by omega) rfl ?_
  rw [LDi_of (cellH_of (hE4b.obj0 hb24) 2)]
  refine (r05_Block_spec (hc4.eff hE4b) hcl (by omega) (by omega) k x).mono fun v w12 ⟨hE12, s', i', t', hv, hblk⟩ => ?_
  subst hv
  rw [TUP_aiib]
  have hsame := block_same (fun h1 h2 => hm.cls16 (k := k.toNat) (by omega)) hblk
  have hE4c := hE4b.trans0 hE12
  intro b9 w13 hE13 hs13 hb13
  refine ST2_of trivial trivial hE13 hs13 hb13 fun w15 hE15 hb15 _ => ?_
  have hE4d := hE4c.trans0 hE15
  rw [CFG_ld (hE4d.obj0 hb4)]
  refine (r05_Cap_spec (hc4.eff hE4d) hcl k).mono fun v w16 ⟨hE16, hv⟩ => ?_
  subst hv
  rw [INTV_int]
  intro w17 hE17 _
  have hE4e := (hE4d.trans0 hE16).trans0 hE17
  have hE7e := (((hE8.trans0 hE11).trans0 hE12).trans0 hE15).trans0 (hE16.trans0 hE17)
  have hb5e := hE7e.obj0 hb7
  rw [CFG_ld (hE4e.obj0 hb4), LDi_of (cellH_of hb5e 0), LDi_of (cellH_of hb5e 1), CFG_ld (hE4e.obj0 hb4), LDi_of (cellH_of hb5e 0), LDi_of (cellH_of hb5e 1)]
  refine (arena_Address_spec (hc4.eff hE4e) hcl (by omega) k s i).mono fun v w18 ⟨hE18, hv⟩ => ?_
  subst hv
  rw [INTV_int]
  have hE4f := hE4e.trans0 hE18
  refine ⟨?_, ?_⟩
  · obtain ⟨f0, f1, f2, f3, f4⟩ := cfg_cells (hE4f.obj0 hb4)
    have hb5f := hE18.obj0 hb5e
    exact KEEP_cell f0 (KEEP_cell f1 (KEEP_cell f2 (KEEP_cell f3 (KEEP_cell f4 (KEEP_cell (cellH_of hb5f 0) (KEEP_cell (cellH_of hb5f 1) KEEP_nil))))))
  refine (r05_Address_spec (hc4.eff hE4f) hcl (by omega) k s i).mono fun v w19 ⟨hE19, hv⟩ => ?_
  subst hv
  rw [INTV_int]
  have hE4g := hE4f.trans0 hE19
  refine ⟨KEEP_nil, ITE_eq (fun _ => ?_) (fun h => absurd rfl h)⟩
  have hb7g := (((hE12.trans0 hE15).trans0 (hE16.trans0 hE17)).trans0 (hE18.trans0 hE19)).obj0 hb11
  have hb9g := ((hE16.trans0 hE17).trans0 (hE18.trans0 hE19)).obj0 hb15
  rw [LDi_of (cellH_of hb7g 0), LDi_of (cellH_of hb7g 1), LDi_of (cellH_of hb9g 0), LDi_of (cellH_of hb9g 1), hsame]
  refine ITE_intro (fun _ => ?_) (fun h => by simp at h)
  refine ITE_intro (fun _ => ?_) (fun h => by simp at h)
  rw [CFG_ld (hE4g.obj0 hb4)]
  refine (arena_Cap_spec (hc4.eff hE4g) (fun x hx => (hcl x hx).1) k).mono fun v w20 ⟨hE20, hv⟩ => ?_
  subst hv
  rw [INTV_int]
  refine ⟨KEEP_nil, ITE_eq (fun _ => ?_) (fun h => absurd rfl h)⟩
  have hE4h := hE4g.trans0 hE20
  rw [CFG_ld (hE4h.obj0 hb4)]
  refine (arena_All_spec (hc4.eff hE4h) (fun x hx => (hcl x hx).1) k).mono fun v w21 ⟨hE21, hv⟩ => ?_
  subst hv
  rw [INTV_int]
  refine ⟨KEEP_nil, ?_⟩
  have hcap := capF_le (fun x hx => (hcl x hx).1) k
  refine (r02_Low_spec hcap.1).mono fun v w22 ⟨hE22, hv⟩ => ?_
  subst hv
  rw [INTV_int]
  refine ⟨KEEP_nil, hE.trans0 ((hE4h.trans0 hE21).trans0 hE22), ?_⟩
  congr 1
  rw [beq_iff_eq]
  have e : ((2 ^ (min (capF cl k) 64).toNat - 1 : Nat) : Int) = (2 : Int) ^ (min (capF cl k) 64).toNat - 1 := by
    have : 1 ≤ 2 ^ (min (capF cl k) 64).toNat := Nat.one_le_two_pow
    rw [Int.natCast_sub this]; simp
  exact e.symm

theorem ArenaApart_spec (hc : Cfg w.heap a l cl) (k : Int) : CALL Pg F_l05_ArenaApart [cfgV c0 c1 c2 c3 a l c, .int .i64 k] w fun v w' => Eff w w' [] ∧ v = .bool true := by
  apply C_l05_ArenaApart
  unfold D_l05_ArenaApart
  intro b1 w1 hE1 _ hb1
  refine head_of (K := fun v w' => Eff w w' [] ∧ v = .bool true) hE1 hb1 hc (fun w' h => ⟨h, rfl⟩) fun w3 hE3 hb3 hc3 hm => ?_
  have hsu := hm.sup
  have hcl := hm.cls
  have hE := hE1.trans0 hE3
  obtain ⟨_, f1, _, _, f4⟩ := cfg_cells hb3
  refine ITE_d (fun _ => ⟨hE, rfl⟩) (fun h1 => ?_)
  rw [LDl_of f4]
  refine ITE_d (fun _ => ⟨hE, rfl⟩) (fun h2 => ?_)
  rw [LDi_of f1]
  refine ITE_d (fun _ => ⟨hE, rfl⟩) (fun h3 => ?_)
  rw [LDi_of f1]
  have hl := hc.l_eq
  have hx := hm.cls16 (k := k.toNat) (by omega)
  have hcap := capF_le (fun x hx => (hcl x hx).1) k
  generalize hxe : cl.getD k.toNat 0 = x at hx
  refine LOOP_of (fun vs w' => ∃ s last : Int, vs = [.bool false, .int .i64 last, .int .i64 s] ∧ 0 ≤ s ∧ s ≤ c1 ∧ 65536 ≤ last ∧ last ≤ 65536 + s * 1024 ∧ Eff w3 w' [])
    (fun vs _ => match vs with | [_, _, .int _ n] => (c1 - n).toNat | _ => 0) ⟨0, 65536, rfl, by omega, by omega, by omega, by omega, Eff.refl _⟩ ?_
  intro w4 v1 v2 v3 ⟨s, last, hv, hs0, hs1, hla, hlast, hE4⟩
  simp only [List.cons.injEq, and_true] at hv
  obtain ⟨rfl, rfl, rfl⟩ := hv
  simp only [INTV_int, BOOLV_bool]
  refine ITE_d (fun h4 => ?_) (fun h4 => ?_)
  rotate_left
  · rw [CFG_ld (hE4.obj0 hb3)]
    refine arena_End_spec.mono fun v w5 ⟨hE5, hv⟩ => ?_
    subst hv
    rw [INTV_int, wrap_i64 (x := c1 * 1024) (by omega) (by omega), wrap_i64 (by omega) (by omega)]
    refine ⟨hE.trans0 (hE4.trans0 hE5), ?_⟩
    congr 1
    rw [decide_eq_true_iff]; omega
  rw [CFG_ld (hE4.obj0 hb3)]
  refine (arena_Cap_spec (hc3.eff hE4) (fun x hx => (hcl x hx).1) k).mono fun v w5 ⟨hE5, hv⟩ => ?_
  subst hv
  rw [INTV_int]
  refine LOOP_of (fun vs w' => ∃ i last : Int, vs = [.bool false, .int .i64 last, .int .i64 i] ∧ 0 ≤ i ∧ i ≤ capF cl k ∧ 65536 ≤ last ∧ last ≤ 65536 + s * 1024 + i * x ∧ Eff w3 w' [])
    (fun vs _ => match vs with | [_, _, .int _ n] => (capF cl k - n).toNat | _ => 0) ⟨0, last, rfl, by omega, by omega, by omega, by omega, hE4.trans0 hE5⟩ ?_
  intro w6 v1 v2 v3 ⟨i, last', hv, hi0, hi1, hla', hlast', hE6⟩
  simp only [List.cons.injEq, and_true] at hv
  obtain ⟨rfl, rfl, rfl⟩ := hv
  simp only [INTV_int, BOOLV_bool]
  refine ITE_d (fun h5 => ?_) (fun h5 => ?_)
  rotate_left
  · refine BINDw (by omega) (by omega) ⟨⟨s + 1, last', rfl, by omega, by omega, hla', ?_, hE6⟩, by first | omega | (dsimp only; omega)⟩
    rcases Int.lt_or_eq_of_le hi0 with h6 | h6
    · have h7 : 0 ≤ i - 1 ∧ i - 1 < capF cl k := by omega
      have := (at_block (c1 := c1) (k := k) (s := s) (i := i - 1) (by rw [hxe]; exact hx) hs0 h4 h7.1 h7.2).2.2.1
      rw [hxe, Int.sub_mul] at this
      omega
    · rw [← h6] at hlast'; omega
  have hb6 := hE6.obj0 hb3
  rw [CFG_ld hb6]
  have hab := at_block (c1 := c1) (k := k) (s := s) (i := i) (by rw [hxe]; exact hx) hs0 h4 hi0 h5
  rw [hxe] at hab
  obtain ⟨g1, g2, g3, ⟨t, g4⟩, g5, g6⟩ := hab
  refine (arena_Address_spec (hc3.eff hE6) hcl (by omega) k s i).mono fun v w7 ⟨hE7, hv⟩ => ?_
  subst hv
  rw [INTV_int]
  have hE37 := hE6.trans0 hE7
  rw [CFG_ld (hE37.obj0 hb3)]
  refine (arena_Block_spec (hc3.eff hE37) hcl (by omega) (by omega) k _).mono fun v w8 ⟨hE8, hv⟩ => ?_
  subst hv
  rw [TUP_aiib, g6]
  have hE38 := hE37.trans0 hE8
  intro b2 w9 hE9 hs9 hb9
  refine ST2_of trivial trivial hE9 hs9 hb9 fun w11 hE11 hb11 _ => ?_
  have hE3b := hE38.trans0 hE11
  rw [CFG_ld (hE3b.obj0 hb3)]
  refine (arena_Place_spec (by omega) (by omega) _).mono fun v w12 ⟨hE12, hv⟩ => ?_
  subst hv
  rw [TUP_iib, g5]
  dsimp only
  have hE3c := hE3b.trans0 hE12
  have hb12 := hE12.obj0 hb11
  refine ITE_d (fun h => by omega) (fun _ => ?_)
  refine NZ_of (by omega) (BINDx (Int.tmod_eq_emod_of_nonneg (by omega)) (ITE_ne (fun h => by omega) (fun _ => ?_)))
  refine ITE_intro (fun h => by simp at h) (fun _ => ?_)
  rw [LDi_of (cellH_of hb12 0), LDi_of (cellH_of hb12 1)]
  refine ITE_intro (fun h => by simp at h) (fun _ => ?_)
  refine ITE_intro (fun h => by simp at h) (fun _ => ?_)
  refine ITE_ne (fun h => absurd rfl h) (fun _ => ?_)
  refine BINDw (by omega) (by omega) (BINDw (by omega) (by omega) (BINDw (by omega) (by omega) (BINDw (by omega) (by omega) ?_)))
  refine ITE_ne (fun h => by omega) (fun _ => ?_)
  obtain ⟨_, _, _, _, f4'⟩ := cfg_cells (hE3c.obj0 hb3)
  rw [LDl_of f4']
  refine IDX_i (hc3.eff hE3c).sl (by omega) (by omega) fun b o hcell => ?_
  rw [LDi_of hcell, hxe]
  have e : (i + 1) * x = i * x + x := by rw [Int.add_mul, Int.one_mul]
  exact BINDw (by omega) (by omega) (BINDw (by omega) (by omega) ⟨⟨i + 1, _, rfl, by omega, by omega, by omega, by omega, hE3c⟩, by first | omega | (dsimp only; omega)⟩)

theorem ints3_open {w : World} {cs : List Value} (h : Rds w [.int .i64, .int .i64, .int .i64] cs) : ∃ x y z : Int, cs = [.int .i64 x, .int .i64 y, .int .i64 z] := by
  cases h with | int _ h =>
  cases h with | int _ h =>
  cases h with | int _ h =>
  cases h
  exact ⟨_, _, _, rfl⟩

end
end Go.Proofs.Ytapcknlnhpafcaa
