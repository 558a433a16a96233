/- The law ModelFull: what it answers. -/
import Derived.Test.YtpopdookpbmmpaaModel7
namespace Go.Proofs.Ytpopdookpbmmpaa
open Go.Den
set_option maxRecDepth 100000
set_option maxHeartbeats 4000000

/-- So many intervals of one length, one behind the other. -/
def full (s : Int) (k : Nat) : List Iv := (List.range k).map fun i : Nat => (65536 + s * (i : Int), s)

theorem full_len {s : Int} {k : Nat} : (full s k).length = k := by simp [full]
theorem full_succ {s : Int} {k : Nat} : full s (k + 1) = full s k ++ [(65536 + s * k, s)] := by simp [full, List.range_succ]
theorem full_at {s : Int} {k i : Nat} (h : i < k) : (full s k).getD i (0, 0) = (65536 + s * i, s) := by simp [full, h]
theorem full_mem {s : Int} {k : Nat} {y : Iv} : y ∈ full s k ↔ ∃ i : Nat, i < k ∧ y = (65536 + s * i, s) := by
  simp only [full, List.mem_map, List.mem_range]
  exact ⟨fun ⟨i, h1, h2⟩ => ⟨i, h1, h2.symm⟩, fun ⟨i, h1, h2⟩ => ⟨i, h1, h2.symm⟩⟩
theorem full_sum {s : Int} {k : Nat} : sumF (full s k) = k * s := by
  induction k with
  | zero => simp [full, sumF]
  | succ k ih =>
    rw [full_succ]
    unfold sumF at *
    rw [List.map_append, List.sum_append, ih]
    simp only [List.map_cons, List.map_nil, List.sum_cons, List.sum_nil, Int.natCast_succ, Int.add_mul]
    omega

theorem mul_lt {s : Int} (hs : 1 ≤ s) {i k : Nat} (h : i < k) : s * i + s ≤ s * k := by
  have : s * ((i : Int) + 1) ≤ s * k := Int.mul_le_mul_of_nonneg_left (by omega) (by omega)
  rw [Int.mul_add, Int.mul_one] at this
  exact this

theorem full_low {s : Int} (hs : 1 ≤ s) {k j : Nat} (h : Low (full s k) (65536 + s * k) j) : j = k := by
  have h1 := h.1
  rw [full_len] at h1
  by_cases hj : j < k
  · have := h.2.2 j (Nat.le_refl _) (by rw [full_len]; exact hj)
    rw [full_at hj] at this
    have := mul_lt hs hj
    dsimp only at *
    omega
  · omega

theorem full_ins {s : Int} {k : Nat} : insL (full s k) (65536 + s * k, s) k = full s (k + 1) := by
  unfold insL
  rw [full_succ, List.take_of_length_le (by rw [full_len]; omega), List.drop_of_length_le (by rw [full_len]; omega)]

/-- The next is put, as long as there is room. -/
theorem full_next {c1 : Int} {cl : List Int} {k : Nat} {n : Int} (h1 : 1 ≤ c1 ∧ c1 ≤ 64) (hs : 16 ≤ sizeF c1 cl n) (hm : sizeF c1 cl n % 16 = 0) (he : sizeF c1 cl n * k + sizeF c1 cl n ≤ 1024 * c1) :
    verdict c1 cl (full (sizeF c1 cl n) k) 1 n 0 (65536 + sizeF c1 cl n * k) = (true, 1) := by
  unfold verdict
  generalize sizeF c1 cl n = s at *
  have h0 : 0 ≤ s * (k : Int) := Int.mul_nonneg (by omega) (by omega)
  have h2 : s * (k : Int) % 16 = 0 := by rw [Int.mul_emod, hm]; simp
  rw [if_pos rfl, if_neg (by omega), if_neg (by simp), if_pos]
  refine ⟨by unfold grainP; omega, by omega, ?_⟩
  unfold Fit
  dsimp only
  refine ⟨by omega, by omega, by omega, by omega, ?_⟩
  unfold overF
  rw [List.any_eq_false]
  intro y hy
  obtain ⟨i, hi, rfl⟩ := full_mem.1 hy
  have := mul_lt (s := s) (by omega) hi
  have : 0 ≤ s * (i : Int) := Int.mul_nonneg (by omega) (by omega)
  simp only [decide_eq_true_eq]
  unfold Ov
  dsimp only
  omega

/-- Where all is full, nothing more is put. -/
theorem full_no {c1 : Int} {cl : List Int} {k : Nat} {n at_ : Int} (hs : 16 ≤ sizeF c1 cl n) (he : 1024 * c1 < sizeF c1 cl n * k + sizeF c1 cl n) :
    verdict c1 cl (full (sizeF c1 cl n) k) 1 n 0 at_ = (false, 0) := by
  unfold verdict
  generalize sizeF c1 cl n = s at *
  rw [if_pos rfl, if_neg (by omega), if_neg (by simp), if_neg]
  rintro ⟨hg, hend, hf⟩
  unfold grainP at hg
  have hlt : at_ < 65536 + s * k := by omega
  have hq0 : 0 ≤ (at_ - 65536) / s := Int.ediv_nonneg (by omega) (by omega)
  have hdm := Int.mul_ediv_add_emod (at_ - 65536) s
  have hr0 := Int.emod_nonneg (at_ - 65536) (show s ≠ 0 by omega)
  have hr1 := Int.emod_lt_of_pos (at_ - 65536) (show 0 < s by omega)
  have hqk : (at_ - 65536) / s < k := Int.ediv_lt_of_lt_mul (by omega) (by rw [Int.mul_comm]; omega)
  have hov : overF (full s k) (at_, s) = true := by
    unfold overF
    rw [List.any_eq_true]
    refine ⟨(65536 + s * ((((at_ - 65536) / s).toNat : Nat) : Int), s), full_mem.2 ⟨((at_ - 65536) / s).toNat, by omega, rfl⟩, decide_eq_true ?_⟩
    rw [Int.toNat_of_nonneg hq0]
    unfold Ov
    dsimp only
    omega
  have := hf.2.2.2.2
  rw [hov] at this; cases this

theorem size_some {c0 c1 c2 c3 : Int} {cl : List Int} (hm : mayP c0 c1 c2 c3 cl) {n : Int} (h1 : 1 ≤ n) (h2 : n ≤ 1024 * c1) : sizeF c1 cl n ≠ 0 := by
  rcases classF_cases cl n with ⟨h3, _⟩ | ⟨k, h3, h4, _⟩
  · unfold sizeF runF
    rw [h3, if_neg (by simp), if_neg (by simp), if_neg (by omega), if_neg (by omega)]
    omega
  · have := hm.cls16 h4
    unfold sizeF
    rw [h3, if_pos rfl, show ((k : Int)).toNat = k by omega]
    omega

section
variable {w : World} {c0 c1 c2 c3 : Int} {ca : Option Addr} {cl cc : Nat} {cls : List Int}

theorem ModelFull_spec (hc : Cfg w.heap ca cl cls) {x y : Int} (hx : 0 ≤ x ∧ x ≤ 65535) (hy : 0 ≤ y ∧ y ≤ 65535) :
    CALL Pg F_l22_ModelFull [cfgV c0 c1 c2 c3 ca cl cc, .int .u16 x, .int .u16 y] w fun v w' => Eff w w' [] ∧ v = .bool true := by
  apply C_l22_ModelFull
  unfold D_l22_ModelFull
  intro b1 w1 hE1 hs1 hb1
  refine l22_speaks_spec.mono fun v w2 ⟨hE2, hv⟩ => ?_
  subst hv
  have hE02 := hE1.trans0 hE2
  have hb12 := hE2.obj0 hb1
  rw [BOOLV_bool]
  refine ITE_intro (fun h => by cases h) (fun _ => ?_)
  rw [LDi_of (cellH_of hb12 0), LDi_of (cellH_of hb12 1), LDi_of (cellH_of hb12 2), LDi_of (cellH_of hb12 3), LDl_of (cellH_of hb12 4)]
  refine (r04_May_spec (hc.eff hE02)).mono fun v w3 ⟨hE3, t, hv, ht⟩ => ?_
  subst hv
  rw [BOOLV_bool]
  have hE03 := hE02.trans0 hE3
  have hb13 := hE3.obj0 hb12
  refine ITE_intro (fun _ => ⟨hE03, rfl⟩) (fun h => ?_)
  have hm : mayP c0 c1 c2 c3 cls := ht.1 (by simpa using h)
  have hsup := hm.sup
  rw [LDi_of (cellH_of hb13 1)]
  refine ITE_d (fun _ => ⟨hE03, rfl⟩) (fun h8 => ?_)
  refine BINDw (by omega) (by omega) ?_
  rw [LDi_of (cellH_of hb13 1)]
  refine BINDw (by omega) (by omega) (NZ_of (by omega) ?_)
  have hmod := Int.tmod_eq_emod_of_nonneg (a := x) (b := 1024 * c1) (by omega)
  have hm0 := Int.emod_nonneg x (show 1024 * c1 ≠ 0 by omega)
  have hm1 := Int.emod_lt_of_pos x (show 0 < 1024 * c1 by omega)
  refine BINDx rfl ?_
  rw [hmod]
  refine BINDw (by omega) (by omega) ?_
  obtain ⟨n, hn⟩ : ∃ n, n = 1 + x % (1024 * c1) := ⟨_, rfl⟩
  rw [← hn]
  rw [LDi_of (cellH_of hb13 0), LDi_of (cellH_of hb13 1), LDi_of (cellH_of hb13 2), LDi_of (cellH_of hb13 3), LDl_of (cellH_of hb13 4)]
  refine (model_New_spec (hc.eff hE03) hm).mono fun v w4 ⟨m, ca', cl', cc', hv, hmod4⟩ => ?_
  subst hv
  rw [PTRV_pointer]
  intro b2 w5 hE5 hs5 hb5
  refine ST2_of trivial trivial hE5 hs5 hb5 fun w7 hE7 hb27 _ => ?_
  have hM7 := hmod4.eff0 hE7
  have hE37 := hM7.mg.eff
  have hE07 := hE03.trans0 hE37
  have hb17 := hE37.obj0 hb13
  rw [LDi_of (cellH_of hb17 0), LDi_of (cellH_of hb17 1), LDi_of (cellH_of hb17 2), LDi_of (cellH_of hb17 3), LDl_of (cellH_of hb17 4)]
  refine (r22_Size_spec (hc.eff hE07) hm n).mono fun v w8 ⟨hE8, hv⟩ => ?_
  subst hv
  rw [INTV_int]
  have hsz := sizeF_le hm n
  have hne := size_some hm (n := n) (by omega) (by omega)
  have hs16 := hsz.2.2.1 hne
  obtain ⟨s, hs⟩ : ∃ s, s = sizeF c1 cls n := ⟨_, rfl⟩
  have hM8 := hM7.eff0 hE8
  have haw : AwayG (cfgL c0 c1 c2 c3 ca' cl' cc') T_model_Model_model_Model w7 m b2 := hmod4.mg.away hE7 hs5 (obj_lt hb27)
  have hb28 := hE8.obj0 hb27
  rw [← hs] at hs16 hsz hne ⊢
  refine LOOP_of (fun vs w' => ∃ k : Nat, vs = [.bool false, .int .i64 k] ∧ s * k ≤ 1024 * c1 ∧ Mod c0 c1 c2 c3 ca' cl' cc' cls w3 w' m (full s k) ∧ AwayG (cfgL c0 c1 c2 c3 ca' cl' cc') T_model_Model_model_Model w' m b2 ∧ w'.heap[b2]? = w8.heap[b2]?)
    (fun vs _ => match vs with | [_, .int _ n] => (1024 * c1 - s * n).toNat | _ => 0) ⟨0, rfl, by omega, hM8, haw.eff0 hE8, rfl⟩ ?_
  intro w9 v5 v6 ⟨k, hv, hk, hM, hawk, hbk⟩
  simp only [List.cons.injEq, and_true] at hv
  obtain ⟨rfl, rfl⟩ := hv
  rw [INTV_int, BOOLV_bool]
  rw [hb28] at hbk
  have hE39 := hM.mg.eff
  have hE09 := hE03.trans0 hE39
  have hb19 := hE39.obj0 hb13
  have hsk0 : 0 ≤ s * (k : Int) := Int.mul_nonneg (by omega) (by omega)
  have hkk : (k : Int) ≤ s * k := by
    have : (1 : Int) * k ≤ s * k := Int.mul_le_mul_of_nonneg_right (by omega) (by omega)
    omega
  have hsk1 : s * ((k : Int) + 1) = s * k + s := by rw [Int.mul_add, Int.mul_one]
  refine BINDw (by omega) (by omega) (BINDw (by rw [hsk1]; omega) (by rw [hsk1]; omega) ?_)
  rw [hsk1]
  refine BINDw (by omega) (by omega) ?_
  rw [LDi_of (cellH_of hb19 1)]
  refine BINDw (by omega) (by omega) (BINDw (by omega) (by omega) ?_)
  refine ITE_d (fun h1 => ?_) (fun h1 => ?_)
  · rw [LDi_of (cellH_of hbk 0), LDi_of (cellH_of hbk 1)]
    refine BINDw (by omega) (by omega) (BINDw (by omega) (by omega) ?_)
    refine (Do_spec hM (by rw [full_len]; omega) 1 n 0 (65536 + s * k)).mono fun v w10 ⟨xs', hv, hM10, hk10, hax⟩ => ?_
    have hvd := full_next (cl := cls) (k := k) (n := n) hsup (by rw [← hs]; exact hs16) (by rw [← hs]; exact hsz.2.2.2) (by rw [← hs]; omega)
    rw [← hs] at hvd hax
    rw [hvd] at hv hax
    subst hv
    rw [BOOLV_bool]
    refine ITE_intro (fun h => by cases h) (fun _ => ?_)
    obtain ⟨_, j, hlow, hins⟩ := hax
    have hj := full_low (by omega) hlow
    rw [hj, full_ins] at hins
    subst hins
    obtain ⟨hq1, hq2⟩ := hk10 b2 hawk
    refine BINDw (by omega) (by omega) ⟨⟨k + 1, rfl, by rw [Int.natCast_succ, hsk1]; omega, hM10, hq1, by rw [hq2, hbk, hb28]⟩, ?_⟩
    dsimp only
    rw [hsk1]
    omega
  · have hyw : IntKind.i64.wrap y = y := wrap_i64 (by omega) (by omega)
    refine BINDw (by omega) (by omega) ?_
    rw [LDi_of (cellH_of hb19 1)]
    refine BINDw (by omega) (by omega) (BINDw (by omega) (by omega) (NZ_of (by omega) ?_))
    have hmod := Int.tmod_eq_emod_of_nonneg (a := y) (b := 64 * c1 + 4) (by omega)
    have hq0 := Int.emod_nonneg y (show 64 * c1 + 4 ≠ 0 by omega)
    have hq1 := Int.emod_lt_of_pos y (show 0 < 64 * c1 + 4 by omega)
    refine BINDx rfl ?_
    rw [hmod]
    refine BINDw (by omega) (by omega) (BINDw (by omega) (by omega) ?_)
    obtain ⟨at_, hat⟩ : ∃ at_, at_ = 65536 + 16 * (y % (64 * c1 + 4)) := ⟨_, rfl⟩
    rw [← hat]
    refine ⟨fun vs w' => w' = w9 ∧ vs = [.bool false], ?_, ?_⟩
    · refine BINDw (by omega) (by omega) (BINDw (by omega) (by omega) ?_)
      refine ITE_d (fun h2 => ?_) (fun h2 => ⟨rfl, rfl⟩)
      refine BINDw (by omega) (by omega) ?_
      rw [LDi_of (cellH_of hb19 1)]
      refine BINDw (by omega) (by omega) (BINDw (by omega) (by omega) ⟨rfl, ?_⟩)
      rw [decide_eq_false (by omega)]
    · intro w11 v8 ⟨hw, hv⟩
      subst hw
      cases hv
      rw [BOOLV_bool]
      refine (Bytes_specM hM (by rw [full_len]; omega)).mono fun u w12 ⟨hE12, hu⟩ => ?_
      subst hu
      rw [INTV_int]
      have hks : (k : Int) * s = s * k := Int.mul_comm _ _
      refine BINDw (by omega) (by omega) ?_
      refine ITE_eq (fun _ => ?_) (fun h => absurd full_sum h)
      have hb212 := hE12.obj0 hbk
      rw [LDi_of (cellH_of hb212 0), LDi_of (cellH_of hb212 1)]
      refine (Do_spec (hM.eff0 hE12) (by rw [full_len]; omega) 1 n 0 at_).mono fun v w13 ⟨xs', hv, hM13, hk13, hax⟩ => ?_
      have hvd := full_no (cl := cls) (k := k) (n := n) (at_ := at_) (by rw [← hs]; exact hs16) (by rw [← hs]; omega)
      rw [← hs] at hvd hax
      rw [hvd] at hv hax
      subst hv
      have hxx : xs' = full s k := hax
      subst hxx
      rw [BOOLV_bool]
      refine ITE_intro (fun _ => ?_) (fun h => by cases h)
      have hb213 : w13.heap[b2]? = _ := (hk13 b2 (hawk.eff0 hE12)).2.trans hb212
      rw [LDi_of (cellH_of hb213 0), LDi_of (cellH_of hb213 1)]
      refine (Do_spec hM13 (by rw [full_len]; omega) 1 n 5 0).mono fun v w14 ⟨xs2, hv, hM14, _, _⟩ => ?_
      have hvd : verdict c1 cls (full s k) 1 n 5 0 = (true, 0) := by
        unfold verdict
        rw [if_pos rfl, ← hs, if_neg hne, if_pos (by decide)]
        rfl
      rw [hvd] at hv
      subst hv
      rw [BOOLV_bool]
      exact ⟨hE03.trans0 hM14.mg.eff, rfl⟩
end
end Go.Proofs.Ytpopdookpbmmpaa
