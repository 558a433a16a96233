/- What the document's model answers; whether intervals are the same. -/
import Derived.Test.YtpopdookpbmmpaaModel2
namespace Go.Proofs.Ytpopdookpbmmpaa
open Go.Den
set_option maxRecDepth 100000
set_option maxHeartbeats 4000000

/-- What the document does. -/
def ActsR (ys : List Iv) (i : Iv) (at_ : Int) : Nat → List Iv → Prop
  | 1, ys' => ys' = ys ++ [i]
  | 2, ys' => ys' = ys.filter fun y => y.1 != at_
  | _, ys' => ys' = ys

/-- Each address once. -/
def Uniq (ys : List Iv) : Prop := ∀ x ∈ ys, ∀ y ∈ ys, x.1 = y.1 → x = y

theorem uniq_get {ys : List Iv} (hu : Uniq ys) {y : Iv} (hy : y ∈ ys) : getF ys y.1 = some y := by
  rcases h : getF ys y.1 with _ | z
  · unfold getF at h
    rw [List.find?_eq_none] at h
    exact absurd (beq_self_eq_true y.1) (h y hy)
  · obtain ⟨hz, hz1⟩ := getF_some h
    rw [hu z hz y hy hz1]

theorem perm_uniq {xs ys : List Iv} (ha : Asc xs) (hp : xs.Perm ys) : Uniq ys := fun _ hx _ hy h => asc_mem ha (hp.mem_iff.2 hx) (hp.mem_iff.2 hy) h

theorem perm_getF {xs ys : List Iv} (ha : Asc xs) (hp : xs.Perm ys) (at_ : Int) : getF xs at_ = getF ys at_ := by
  rcases h : getF ys at_ with _ | y
  · refine perm_none hp fun y hy he => ?_
    unfold getF at h
    rw [List.find?_eq_none] at h
    exact h y hy (by simpa using he)
  · obtain ⟨hy, hy1⟩ := getF_some h
    have := perm_get ha hp hy
    rw [hy1] at this; exact this

theorem verdict_same {xs ys : List Iv} (ha : Asc xs) (hp : xs.Perm ys) (c1 : Int) (cl : List Int) (rk rn ac an : Int) : verdict c1 cl xs rk rn ac an = verdict c1 cl ys rk rn ac an :=
  verdict_perm hp rk rn ac an (perm_getF ha hp rn)

theorem acts_perm {xs xs' ys ys' : List Iv} {i : Iv} {at_ : Int} (ha : Asc xs) (hp : xs.Perm ys) : ∀ {n : Nat}, Acts xs i at_ n xs' → ActsR ys i at_ n ys' → xs'.Perm ys'
  | 0, h, k => by rw [show xs' = xs from h, show ys' = ys from k]; exact hp
  | 1, ⟨_, k, _, h⟩, h2 => by rw [h, show ys' = _ from h2]; exact perm_ins hp
  | 2, ⟨k, hk, hk1, h⟩, h2 => by rw [h, show ys' = _ from h2, ← hk1]; exact perm_drop ha hp hk
  | _ + 3, h, k => by rw [show xs' = xs from h, show ys' = ys from k]; exact hp

section
variable {w : World} {c0 c1 c2 c3 : Int} {ca : Option Addr} {cl cc : Nat} {cls : List Int}

theorem r22_Grain_spec (h1 : 1 ≤ c1 ∧ c1 ≤ 64) (x : Int) : CALL Pg F_r22_Grain [cfgV c0 c1 c2 c3 ca cl cc, .int .i64 x] w fun v w' => Eff w w' [] ∧ v = .bool (decide (grainP c1 x)) := by
  apply C_r22_Grain
  unfold D_r22_Grain
  intro b1 w1 hE1 hs1 hb1
  refine ITE_d (fun h2 => ?_) (fun h2 => ⟨hE1, by rw [decide_eq_false (by unfold grainP; omega)]⟩)
  rw [LDi_of (cellH_of hb1 1)]
  refine BINDw (by omega) (by omega) (BINDw (by omega) (by omega) ?_)
  refine ITE_d (fun h3 => ?_) (fun h3 => ⟨hE1, by rw [decide_eq_false (by unfold grainP; omega)]⟩)
  refine NZ_of (by omega) ?_
  rw [show x.tmod 16 = x % 16 from Int.tmod_eq_emod_of_nonneg (by omega)]
  refine BINDx rfl ⟨hE1, ?_⟩
  rw [show (x % 16 == 0) = decide (grainP c1 x) from by rw [Bool.eq_iff_iff, beq_iff_eq, decide_eq_true_eq]; unfold grainP; omega]

theorem r22_Size_spec (hc : Cfg w.heap ca cl cls) (hm : mayP c0 c1 c2 c3 cls) (n : Int) : CALL Pg F_r22_Size [cfgV c0 c1 c2 c3 ca cl cc, .int .i64 n] w fun v w' => Eff w w' [] ∧ v = .int .i64 (sizeF c1 cls n) := by
  apply C_r22_Size
  unfold D_r22_Size
  have hsup := hm.sup
  have hl := hc.l_eq
  intro b1 w1 hE1 hs1 hb1
  rw [LDi_of (cellH_of hb1 0), LDi_of (cellH_of hb1 1), LDi_of (cellH_of hb1 2), LDi_of (cellH_of hb1 3), LDl_of (cellH_of hb1 4)]
  refine (r05_Class_spec (hc.eff hE1) n).mono fun v w2 ⟨hE2, k, hv, hk⟩ => ?_
  subst hv
  rw [INTV_int]
  have hcl := class_same hk
  have hE02 := hE1.trans0 hE2
  have hb2 := hE2.obj0 hb1
  refine ITE_d (fun h1 => ?_) (fun h1 => ?_)
  · rw [LDl_of (cellH_of hb2 4)]
    have hkl : k < cls.length := by
      rcases hk with ⟨h2, _⟩ | ⟨_, h2, _⟩
      · omega
      · exact h2
    refine IDX_i (hc.eff hE02).sl h1 (by omega) fun b o hcell => ?_
    rw [LDi_of hcell]
    have hcl2 : classF cls n = (k, true) := by rw [hcl, if_neg (by omega)]
    refine ⟨hE02, ?_⟩
    unfold sizeF
    rw [hcl2, if_pos rfl]
  · rw [LDi_of (cellH_of hb2 0), LDi_of (cellH_of hb2 1), LDi_of (cellH_of hb2 2), LDi_of (cellH_of hb2 3), LDl_of (cellH_of hb2 4)]
    refine (r05_Run_spec (hc.eff hE02) (by omega) (by omega) n).mono fun v w3 ⟨hE3, hv⟩ => ?_
    subst hv
    rw [INTV_int]
    have hr := runF_le hm n
    refine BINDw (by omega) (by omega) ⟨hE02.trans0 hE3, ?_⟩
    have : k = -1 := by
      rcases hk with ⟨h2, _⟩ | ⟨h2, _⟩
      · exact h2
      · omega
    have hcl2 : classF cls n = (0, false) := by rw [hcl, if_pos this]
    unfold sizeF
    rw [hcl2, if_neg (by simp)]

theorem r22_Do_spec (hc : Cfg w.heap ca cl cls) (hm : mayP c0 c1 c2 c3 cls) {a : Option Addr} {l c : Nat} {ys : List Iv} (hs : SlV w.heap a l ys) (hl : l ≤ 1000000) (hy : ∀ y ∈ ys, Mid y) (hu : Uniq ys) (rk rn ac an : Int) :
    CALL Pg F_r22_Do [cfgV c0 c1 c2 c3 ca cl cc, .slice a l c, .agg #[.int .i64 rk, .int .i64 rn], .agg #[.int .i64 ac, .int .i64 an]] w fun v w' => Eff w w' [] ∧ ∃ a' l' c' ys', v = .tuple #[.slice a' l' c', .bool (verdict c1 cls ys rk rn ac an).1] ∧
      ActsR ys (an, sizeF c1 cls rn) rn (verdict c1 cls ys rk rn ac an).2 ys' ∧ (a' = a ∧ l' = l ∧ c' = c ∧ ys' = ys ∨ Ow w' (.slice a' l' c') ys' ∧ ∀ b ∈ ownL (.slice a' l' c'), w.heap.size ≤ b) := by
  apply C_r22_Do
  unfold D_r22_Do
  have hsup := hm.sup
  have hsz := sizeF_le hm rn
  have hll := hs.1
  obtain ⟨V, hV⟩ : ∃ V, V = verdict c1 cls ys rk rn ac an := ⟨_, rfl⟩
  rw [← hV]
  have stay : ∀ (w' : World) (t : Bool), Eff w w' [] → V = (t, 0) → Eff w w' [] ∧ ∃ a' l' c' ys', Value.tuple #[.slice a l c, .bool t] = .tuple #[.slice a' l' c', .bool V.1] ∧
      ActsR ys (an, sizeF c1 cls rn) rn V.2 ys' ∧ (a' = a ∧ l' = l ∧ c' = c ∧ ys' = ys ∨ Ow w' (.slice a' l' c') ys' ∧ ∀ b ∈ ownL (.slice a' l' c'), w.heap.size ≤ b) :=
    fun w' t hE ht => ⟨hE, a, l, c, ys, by rw [ht], by rw [ht]; rfl, .inl ⟨rfl, rfl, rfl, rfl⟩⟩
  intro b1 w1 hE1 hs1 hb1 b2 w2 hE2 hs2 hb2 b3 w3 hE3 hs3 hb3
  have hE03 := (hE1.trans0 hE2).trans0 hE3
  have hb13 := (hE2.trans0 hE3).obj0 hb1
  have hb23 := hE3.obj0 hb2
  rw [LDi_of (cellH_of hb23 0)]
  refine ITE_eq (fun h1 => ?_) (fun h1 => ?_)
  · subst h1
    rw [LDi_of (cellH_of hb13 0), LDi_of (cellH_of hb13 1), LDi_of (cellH_of hb13 2), LDi_of (cellH_of hb13 3), LDl_of (cellH_of hb13 4), LDi_of (cellH_of hb23 1)]
    refine (r22_Size_spec (hc.eff hE03) hm rn).mono fun v w4 ⟨hE4, hv⟩ => ?_
    subst hv
    rw [INTV_int]
    have hE04 := hE03.trans0 hE4
    have hb34 := hE4.obj0 hb3
    have hb14 := hE4.obj0 hb13
    generalize hS : sizeF c1 cls rn = s at *
    refine ITE_eq (fun h2 => ?_) (fun h2 => ?_)
    · intro w5 hE5 _
      have hb35 := hE5.obj0 hb34
      rw [LDi_of (cellH_of hb35 0), LDi_of (cellH_of hb35 1), pair_eq]
      refine stay w5 _ (hE04.trans0 hE5) ?_
      rw [hV]
      unfold verdict
      rw [if_pos rfl, hS, if_pos h2]
    rw [LDi_of (cellH_of hb34 0)]
    refine ITE_ne (fun h3 => ?_) (fun h3 => ?_)
    · intro w6 hE6 _
      have hb36 := hE6.obj0 hb34
      rw [LDi_of (cellH_of hb36 0), LDi_of (cellH_of hb36 1), pair_eq]
      refine stay w6 _ (hE04.trans0 hE6) ?_
      rw [hV]
      unfold verdict
      rw [if_pos rfl, hS, if_neg h2, if_pos h3]
    subst h3
    have hV2 : V = if grainP c1 an ∧ an + s ≤ 65536 + 1024 * c1 ∧ Fit ys (an, s) then (true, 1) else (false, 0) := by
      rw [hV]
      unfold verdict
      rw [if_pos rfl, hS, if_neg h2, if_neg (by simp)]
    refine ⟨fun vs w' => vs = [.slice none 0 0, .bool false] ∧ Eff w4 w' [] ∧ grainP c1 an ∧ an + s ≤ 65536 + 1024 * c1, ⟨fun vs w' => vs = [.bool (decide (¬ (grainP c1 an ∧ an + s ≤ 65536 + 1024 * c1)))] ∧ Eff w4 w' [], ?_, ?_⟩, ?_⟩
    · rw [LDi_of (cellH_of hb14 0), LDi_of (cellH_of hb14 1), LDi_of (cellH_of hb14 2), LDi_of (cellH_of hb14 3), LDl_of (cellH_of hb14 4), LDi_of (cellH_of hb34 1)]
      refine (r22_Grain_spec hsup an).mono fun v w7 ⟨hE7, hv⟩ => ?_
      subst hv
      rw [BOOLV_bool]
      have hb37 := hE7.obj0 hb34
      refine ITE_intro (fun h5 => ?_) (fun h5 => ?_)
      · have hg : ¬ grainP c1 an := by simpa using h5
        exact ⟨by rw [decide_eq_true (show ¬ (grainP c1 an ∧ an + s ≤ 65536 + 1024 * c1) from fun h => hg h.1)], hE7⟩
      · have hg : grainP c1 an := by simpa using h5
        have hg2 := hg
        unfold grainP at hg2
        rw [LDi_of (cellH_of hb37 1)]
        refine BINDw (by omega) (by omega) ?_
        rw [LDi_of (cellH_of (hE7.obj0 hb14) 1)]
        refine BINDw (by omega) (by omega) (BINDw (by omega) (by omega) ⟨?_, hE7⟩)
        rw [decide_eq_decide.2 (show an + s > 65536 + 1024 * c1 ↔ ¬ (grainP c1 an ∧ an + s ≤ 65536 + 1024 * c1) from ⟨fun h1 h2 => by omega, fun h1 => by
          by_cases h2 : an + s > 65536 + 1024 * c1
          · exact h2
          · exact absurd ⟨hg, by omega⟩ h1⟩)]
    · intro w8 v3 ⟨hv, hE8⟩
      cases hv
      rw [BOOLV_bool]
      refine ITE_d (fun h5 => stay w8 _ (hE04.trans0 hE8) ?_) (fun h5 => ⟨rfl, hE8, ?_⟩)
      · rw [hV2, if_neg (fun h => h5 ⟨h.1, h.2.1⟩)]
      · by_cases h6 : grainP c1 an ∧ an + s ≤ 65536 + 1024 * c1
        · exact h6
        · exact absurd h6 h5
    intro w9 v4 v5 ⟨hv, hE9, hg1, hg2⟩
    simp only [List.cons.injEq, and_true] at hv
    obtain ⟨rfl, rfl⟩ := hv
    rw [BOOLV_bool, SLV_slice]
    have hE09 := hE04.trans0 hE9
    have hb39 := hE9.obj0 hb34
    rw [LDi_of (cellH_of hb39 1)]
    have hmid : Mid (an, s) := by
      unfold grainP at hg1
      unfold Mid
      dsimp only
      omega
    refine (r06_Put_spec (i := (an, s)) (hs.eff hE09) (by omega) hy hmid).mono fun u w10 ⟨hE10, hr⟩ => ?_
    rcases hr with ⟨hf, rfl⟩ | ⟨hf, a', c', rfl, ho, hn⟩
    · rw [TUP_slb]
      refine stay w10 _ (hE09.trans0 hE10) ?_
      rw [hV2, if_neg (fun h => hf h.2.2)]
    · rw [TUP_slb]
      have e : V = (true, 1) := by rw [hV2, if_pos ⟨hg1, hg2, hf⟩]
      exact ⟨hE09.trans0 hE10, a', l + 1, c', ys ++ [(an, s)], by rw [e], by rw [e]; rfl, .inr ⟨ho, fun b hb => Nat.le_trans hE09.size (hn b hb)⟩⟩
  refine ⟨fun vs w' => vs = [.bool (decide (rk = 2 ∨ rk = 3))] ∧ w' = w3, ⟨fun vs w' => vs = [.bool (rk == 2)] ∧ w' = w3, ⟨rfl, rfl⟩, ?_⟩, ?_⟩
  · intro w11 v9 ⟨hv, hw⟩
    subst hw
    cases hv
    rw [BOOLV_bool]
    refine ITE_intro (fun h => ⟨?_, rfl⟩) (fun h => ⟨?_, rfl⟩)
    · rw [h, decide_eq_true (.inl (by simpa using h))]
    · have h2 : rk ≠ 2 := by simpa using h
      rw [show (rk == 3) = decide (rk = 2 ∨ rk = 3) from by rw [Bool.eq_iff_iff]; simp [h2]]
  intro w12 v10 ⟨hv, hw⟩
  subst hw
  cases hv
  rw [BOOLV_bool]
  refine ITE_d (fun h2 => ?_) (fun h2 => ?_)
  · rw [LDi_of (cellH_of hb23 1)]
    refine (r06_Find_spec (hs.eff hE03) (by omega) rn).mono fun u w13 ⟨hE13, q, hu', hq⟩ => ?_
    subst hu'
    rw [INTV_int]
    have hE013 := hE03.trans0 hE13
    have hb313 := hE13.obj0 hb3
    have hV2 : V = freeV ys rk rn ac an := by
      rw [hV]
      unfold verdict freeV
      rw [if_neg h1, if_pos h2]
      cases getF ys rn <;> rfl
    rcases hq with ⟨rfl, hno⟩ | ⟨hq0, hq1, hq2⟩
    · have hg : getF ys rn = none := by
        unfold getF
        rw [List.find?_eq_none]
        intro y hy'
        simpa using hno y hy'
      refine ITE_d (fun _ => ?_) (fun h => by omega)
      intro w14 hE14 _
      have hb314 := hE14.obj0 hb313
      rw [LDi_of (cellH_of hb314 0), LDi_of (cellH_of hb314 1), pair_eq]
      refine stay w14 _ (hE013.trans0 hE14) ?_
      rw [hV2]
      unfold freeV
      rw [hg]
    · have hmem : ys.getD q.toNat (0, 0) ∈ ys := by
        have e : ys.getD q.toNat (0, 0) = ys[q.toNat]'(by omega) := by simp [show q.toNat < ys.length by omega]
        rw [e]; exact List.getElem_mem _
      have hg := uniq_get hu hmem
      rw [hq2] at hg
      refine ITE_d (fun h => by omega) (fun _ => ?_)
      intro w15 hE15 _
      have hE015 := hE013.trans0 hE15
      have hb315 := hE15.obj0 hb313
      have hb215 := (hE13.trans0 hE15).obj0 hb23
      rw [LDi_of (cellH_of hb315 0), LDi_of (cellH_of hb315 1)]
      refine IDX_v (hs.eff hE015) hq0 (by omega) fun b o g1 g2 => ?_
      rw [LDi_of g2, pair_eq]
      by_cases hok : ac = 0 ∧ an = (ys.getD q.toNat (0, 0)).2
      · have e : V = (true, if rk = 2 then 2 else 0) := by
          rw [hV2]
          unfold freeV
          rw [hg]
          dsimp only
          rw [if_pos hok]
        refine ITE_intro (fun h => absurd h (by rw [decide_eq_true hok]; simp)) (fun _ => ?_)
        rw [LDi_of (cellH_of hb215 0)]
        refine ITE_eq (fun h3 => ?_) (fun h3 => ?_)
        · rw [LDi_of (cellH_of hb215 1)]
          refine (r06_Drop_spec (hs.eff hE015) (by omega) rn).mono fun u w16 ⟨hE16, a5, l5, c5, hu', ho, hn⟩ => ?_
          subst hu'
          rw [SLV_slice]
          exact ⟨hE015.trans0 hE16, a5, l5, c5, _, by rw [e], by rw [e, if_pos h3]; rfl, .inr ⟨ho, fun b hb => Nat.le_trans hE015.size (hn b hb)⟩⟩
        · exact stay w15 _ hE015 (by rw [e, if_neg h3])
      · refine ITE_intro (fun _ => stay w15 _ hE015 ?_) (fun h => absurd h (by rw [decide_eq_false hok]; simp))
        rw [hV2]
        unfold freeV
        rw [hg]
        dsimp only
        rw [if_neg hok]
  · intro w17 hE17 _
    have hb317 := hE17.obj0 hb3
    rw [LDi_of (cellH_of hb317 0), LDi_of (cellH_of hb317 1), pair_eq]
    refine stay w17 _ (hE03.trans0 hE17) ?_
    rw [hV]
    unfold verdict
    rw [if_neg h1, if_neg h2]

theorem l22_same_spec {ga wa : Option Addr} {gl gc wl wc : Nat} {xs ys : List Iv} (hg : SlV w.heap ga gl xs) (hw : SlV w.heap wa wl ys) (ha : Asc xs) (hp : xs.Perm ys) (hl : gl ≤ 1000000) :
    CALL Pg F_l22_same [.slice ga gl gc, .slice wa wl wc] w fun v w' => Eff w w' [] ∧ v = .bool true := by
  apply C_l22_same
  unfold D_l22_same
  have hgl := hg.1
  have hwl := hw.1
  have hpl := hp.length_eq
  refine ITE_ne (fun h => by omega) (fun _ => ?_)
  refine LOOP_of (fun vs w' => ∃ j : Nat, vs = [.bool false, .int .i64 j] ∧ j ≤ xs.length ∧ Eff w w' [])
    (fun vs _ => match vs with | [_, .int _ n] => xs.length - n.toNat | _ => 0) ⟨0, rfl, by omega, Eff.refl _⟩ ?_
  intro w1 v1 v2 ⟨j, hv, hj, hE1⟩
  simp only [List.cons.injEq, and_true] at hv
  obtain ⟨rfl, rfl⟩ := hv
  rw [INTV_int, BOOLV_bool]
  refine ITE_d (fun h2 => ?_) (fun h2 => ⟨hE1, rfl⟩)
  have hjl : j < xs.length := by omega
  have e : (j : Int).toNat = j := by omega
  refine IDX_v (hg.eff hE1) (by omega) (by omega) fun b o g1 g2 => ?_
  rw [e] at g1 g2
  rw [LDi_of g1, LDi_of g2]
  intro b2 w2 hE2 hs2 hb2
  refine ST2_of trivial trivial hE2 hs2 hb2 fun w4 hE4 hb4 _ => ?_
  rw [LDi_of (cellH_of hb4 0)]
  have hE04 := hE1.trans0 hE4
  refine (r06_Find_spec (hw.eff hE04) (by omega) _).mono fun u w5 ⟨hE5, q, hu, hq⟩ => ?_
  subst hu
  rw [INTV_int]
  have hE05 := hE04.trans0 hE5
  have hb5 := hE5.obj0 hb4
  have hmem : xs.getD j (0, 0) ∈ ys := by
    have e : xs.getD j (0, 0) = xs[j] := by simp [hjl]
    rw [e]; exact hp.mem_iff.1 (List.getElem_mem _)
  rcases hq with ⟨h3, h4⟩ | ⟨h3, h4, h5⟩
  · exact absurd rfl (h4 _ hmem)
  have hsame : ys.getD q.toNat (0, 0) = xs.getD j (0, 0) := by
    have e : ys.getD q.toNat (0, 0) = ys[q.toNat]'(by omega) := by simp [show q.toNat < ys.length by omega]
    have h6 : ys.getD q.toNat (0, 0) ∈ ys := by rw [e]; exact List.getElem_mem _
    exact asc_mem ha (hp.mem_iff.2 h6) (hp.mem_iff.2 hmem) h5
  refine ⟨fun vs w' => vs = [.bool false] ∧ Eff w w' [], ?_, ?_⟩
  · intro w6 hE6 _
    have hE06 := hE05.trans0 hE6
    have hb6 := hE6.obj0 hb5
    refine ITE_d (fun h => by omega) (fun _ => ?_)
    refine IDX_v (hw.eff hE06) h3 (by omega) fun b o g1 g2 => ?_
    rw [LDi_of g1, LDi_of g2, LDi_of (cellH_of hb6 0), LDi_of (cellH_of hb6 1), hsame]
    refine ITE_intro (fun h => by simp at h) (fun _ => ?_)
    refine ITE_d (fun h6 => ?_) (fun h6 => ⟨rfl, hE06⟩)
    refine BINDw (by omega) (by omega) (IDX_v (hg.eff hE06) (by omega) (by omega) fun b o g1 g2 => ?_)
    rw [show ((j : Int) - 1).toNat = j - 1 by omega] at g1 g2
    rw [LDi_of g1, LDi_of (cellH_of hb6 0)]
    have := ha (j - 1) j (by omega) hjl
    exact ⟨by rw [decide_eq_false (by omega)], hE06⟩
  · intro w7 v4 ⟨hv, hE7⟩
    cases hv
    rw [BOOLV_bool, ITE_false]
    exact BINDw (by omega) (by omega) ⟨⟨j + 1, rfl, by omega, hE7⟩, by first | omega | (dsimp only; omega)⟩
end
end Go.Proofs.Ytpopdookpbmmpaa
