/- The law ModelUndoes: what it answers. -/
import Derived.Test.YtpopdookpbmmpaaModel6
namespace Go.Proofs.Ytpopdookpbmmpaa
open Go.Den
set_option maxRecDepth 100000
set_option maxHeartbeats 4000000

/-- What lies apart between two places is not longer than what lies between them. -/
theorem sum_between {xs : List Iv} (ha : Ap xs) {lo hi : Int} (hb : ∀ x ∈ xs, lo ≤ x.1 ∧ x.1 + x.2 ≤ hi) (hlo : lo ≤ hi) : sumF xs ≤ hi - lo := by
  have key : ∀ j, j < xs.length → sumF (xs.take (j + 1)) ≤ (xs.getD j (0, 0)).1 + (xs.getD j (0, 0)).2 - lo := by
    intro j
    induction j with
    | zero =>
      intro hj
      rw [sumF_take hj]
      have e : xs.getD 0 (0, 0) = xs[0] := by simp [hj]
      have := hb xs[0] (List.getElem_mem _)
      rw [e]
      simp only [List.take_zero, sumF, List.map_nil, List.sum_nil]
      omega
    | succ j ih =>
      intro hj
      rw [sumF_take hj]
      have := ih (by omega)
      have := ha j (j + 1) (by omega) hj
      omega
  rcases Nat.eq_zero_or_pos xs.length with h0 | h0
  · have : xs = [] := List.length_eq_zero_iff.1 h0
    subst this
    simp only [sumF, List.map_nil, List.sum_nil]
    omega
  · have h1 := key (xs.length - 1) (by omega)
    rw [show xs.length - 1 + 1 = xs.length by omega, List.take_length] at h1
    have e : xs.getD (xs.length - 1) (0, 0) = xs[xs.length - 1] := by simp [show xs.length - 1 < xs.length by omega]
    have := hb xs[xs.length - 1] (List.getElem_mem _)
    rw [e] at h1
    omega

theorem verdict_two {c1 : Int} {cl : List Int} {zs : List Iv} {rk rn ac an : Int} (h : (verdict c1 cl zs rk rn ac an).2 = 2) : rk = 2 := by
  unfold verdict at h
  split at h
  · split at h
    · cases h
    · split at h
      · cases h
      · split at h <;> cases h
  · split at h
    · split at h
      · cases h
      · split at h
        · split at h
          · assumption
          · cases h
        · cases h
    · cases h

theorem verdict_most {c1 : Int} {cl : List Int} {zs : List Iv} {rk rn ac an : Int} : (verdict c1 cl zs rk rn ac an).2 ≤ 2 := by
  unfold verdict
  split
  · split
    · simp
    · split
      · simp
      · split <;> simp
  · split
    · split
      · simp
      · split
        · split <;> simp
        · simp
    · simp

theorem verdict_alloc {c1 : Int} {cl : List Int} {zs : List Iv} {rn an : Int} (h : (verdict c1 cl zs 1 rn 0 an).1 = true) : (verdict c1 cl zs 1 rn 0 an).2 = 1 := by
  unfold verdict at *
  rw [if_pos rfl] at *
  split
  · rename_i h2
    rw [if_pos h2] at h
    simp at h
  · rename_i h2
    rw [if_neg h2, if_neg (by simp)] at h
    rw [if_neg (by simp)]
    split
    · rfl
    · rename_i h3
      rw [if_neg h3] at h; cases h

theorem ins_get {xs : List Iv} {x : Iv} {k : Nat} (ha : Asc (insL xs x k)) : getF (insL xs x k) x.1 = some x := by
  have hu : Uniq (insL xs x k) := fun _ hx _ hy h => asc_mem ha hx hy h
  exact uniq_get hu (by unfold insL; simp)

/-- Behind an interval that was put: the same is not put again; its length is told; it is dropped, and what was is there again. -/
theorem undo_again {c1 : Int} {cl : List Int} {xs : List Iv} {k : Nat} {rn an : Int} (hf : Fit xs (an, sizeF c1 cl rn)) :
    verdict c1 cl (insL xs (an, sizeF c1 cl rn) k) 1 rn 0 an = (false, 0) := by
  unfold verdict
  have h1 : 1 ≤ sizeF c1 cl rn := hf.2.2.1
  rw [if_pos rfl, if_neg (by omega), if_neg (by simp), if_neg]
  intro h
  have h2 := h.2.2.2.2.2.2
  have h3 : overF (insL xs (an, sizeF c1 cl rn) k) (an, sizeF c1 cl rn) = true := by
    unfold overF
    rw [List.any_eq_true]
    refine ⟨(an, sizeF c1 cl rn), by unfold insL; simp, decide_eq_true ?_⟩
    unfold Ov
    dsimp only
    omega
  rw [h3] at h2; cases h2

theorem undo_told {c1 : Int} {cl : List Int} {xs : List Iv} {k : Nat} {rn an rk : Int} (ha : Asc (insL xs (an, sizeF c1 cl rn) k)) (hrk : rk = 2 ∨ rk = 3) :
    verdict c1 cl (insL xs (an, sizeF c1 cl rn) k) rk an 0 (sizeF c1 cl rn) = (true, if rk = 2 then 2 else 0) := by
  unfold verdict
  rw [if_neg (by omega), if_pos hrk, show an = (an, sizeF c1 cl rn).1 from rfl, ins_get ha]
  dsimp only
  rw [if_pos ⟨rfl, rfl⟩]

theorem act_cells {w : World} {cs : List Value} (h : Rds w [.int .i64, .int .i64, .int .i64, .int .i64] cs) : ∃ x0 x1 x2 x3 : Int, cs = [.int .i64 x0, .int .i64 x1, .int .i64 x2, .int .i64 x3] := by
  cases h with | int _ h =>
  cases h with | int _ h =>
  cases h with | int _ h =>
  cases h with | int _ h =>
  cases h
  exact ⟨_, _, _, _, rfl⟩

section
variable {w : World} {c0 c1 c2 c3 : Int} {ca : Option Addr} {cl cc : Nat} {cls : List Int} {acts : List Actn} {aa : Option Addr} {al ac : Nat}

theorem ModelUndoes_spec (hc : Cfg w.heap ca cl cls) (hs : SlA w.heap aa al acts) (x0 x1 x2 x3 : Int) :
    CALL Pg F_l22_ModelUndoes [cfgV c0 c1 c2 c3 ca cl cc, .slice aa al ac, .agg #[.int .i64 x0, .int .i64 x1, .int .i64 x2, .int .i64 x3]] w fun v w' => Eff w w' [] ∧ v = .bool true := by
  apply C_l22_ModelUndoes
  unfold D_l22_ModelUndoes
  intro b1 w1 hE1 hs1 hb1 b2 w2 hE2 hs2 hb2
  refine l22_speaks_spec.mono fun v w3 ⟨hE3, hv⟩ => ?_
  subst hv
  have hE03 := (hE1.trans0 hE2).trans0 hE3
  have hb13 := (hE2.trans0 hE3).obj0 hb1
  have hb23 := hE3.obj0 hb2
  rw [BOOLV_bool]
  refine ITE_intro (fun h => by cases h) (fun _ => ?_)
  rw [LDi_of (cellH_of hb13 0), LDi_of (cellH_of hb13 1), LDi_of (cellH_of hb13 2), LDi_of (cellH_of hb13 3), LDl_of (cellH_of hb13 4)]
  refine (r04_May_spec (hc.eff hE03)).mono fun v w4 ⟨hE4, t, hv, ht⟩ => ?_
  subst hv
  rw [BOOLV_bool]
  have hE04 := hE03.trans0 hE4
  have hb14 := hE4.obj0 hb13
  have hb24 := hE4.obj0 hb23
  refine ITE_intro (fun _ => ⟨hE04, rfl⟩) (fun h => ?_)
  have hm : mayP c0 c1 c2 c3 cls := ht.1 (by simpa using h)
  have hsup := hm.sup
  refine ITE_d (fun _ => ⟨hE04, rfl⟩) (fun hlen => ?_)
  have hll := hs.1
  rw [LDi_of (cellH_of hb14 0), LDi_of (cellH_of hb14 1), LDi_of (cellH_of hb14 2), LDi_of (cellH_of hb14 3), LDl_of (cellH_of hb14 4)]
  refine (model_New_spec (hc.eff hE04) hm).mono fun v w5 ⟨m, ca', cl', cc', hv, hmod⟩ => ?_
  subst hv
  rw [PTRV_pointer]
  refine LOOP_of (fun vs w' => ∃ (k : Nat) (xs : List Iv), vs = [.int .i64 k] ∧ k ≤ al ∧ xs.length ≤ k ∧ Mod c0 c1 c2 c3 ca' cl' cc' cls w4 w' m xs)
    (fun vs _ => match vs with | [.int _ n] => al - n.toNat | _ => 0) ⟨0, [], rfl, by omega, by simp, hmod⟩ ?_
  intro w6 v4 ⟨k, xs, hv, hk, hxk, hM⟩
  cases hv
  rw [INTV_int]
  have hE46 := hM.mg.eff
  have hE06 := hE04.trans0 hE46
  refine ITE_d (fun h1 => ?_) (fun h1 => ?_)
  · refine IDX_a (hs.eff hE06) (by omega) fun b o g0 g1 g2 g3 => ?_
    obtain ⟨x, hx⟩ : ∃ x, x = atA acts k := ⟨_, rfl⟩
    rw [← hx] at g0 g1 g2 g3
    obtain ⟨rk, rn, ak, an⟩ := x
    dsimp only at g0 g1 g2 g3
    rw [LDi_of g0, LDi_of g1, LDi_of g2, LDi_of g3]
    intro b4 w7 hE7 hs7 hb7
    refine ST4_of trivial trivial trivial trivial hE7 hs7 hb7 fun w11 hE11 hb411 _ => ?_
    rw [LDi_of (cellH_of hb411 0), LDi_of (cellH_of hb411 1), LDi_of (cellH_of hb411 2), LDi_of (cellH_of hb411 3)]
    refine (Do_spec (hM.eff0 hE11) (by omega) rk rn ak an).mono fun v w12 ⟨xs', hv, hM12, _, hax⟩ => ?_
    subst hv
    rw [BOOLV_bool]
    have hlen' := acts_len hax
    exact BINDw (by omega) (by omega) ⟨⟨k + 1, xs', rfl, by omega, by omega, hM12⟩, by first | omega | (dsimp only; omega)⟩
  refine (Live_spec hM).mono fun u w13 ⟨hE13, ⟨a3, c3', hu⟩, how, hon, _⟩ => ?_
  subst hu
  rw [SLV_slice]
  have hasc := hM.mg.asc
  -- what is kept from here on: the model, and what was live
  let St (w' : World) (zs : List Iv) : Prop := Mod c0 c1 c2 c3 ca' cl' cc' cls w4 w' m zs ∧ SlV w'.heap a3 xs.length xs ∧ ∀ b o, a3 = some ⟨b, o, none⟩ → AwayG (cfgL c0 c1 c2 c3 ca' cl' cc') T_model_Model_model_Model w' m b
  have stE : ∀ {wa wb : World} {zs : List Iv}, St wa zs → Eff wa wb [] → St wb zs := fun h hE => ⟨h.1.eff0 hE, h.2.1.eff hE, fun b o hb => (h.2.2 b o hb).eff0 hE⟩
  have stK : ∀ {wa wb : World} {zs zs' : List Iv}, St wa zs → Mod c0 c1 c2 c3 ca' cl' cc' cls w4 wb m zs' → Keeps c0 c1 c2 c3 ca' cl' cc' wa wb m → St wb zs' :=
    fun h hM hk => ⟨hM, Sl.same h.2.1 fun b y hb => (hk b (h.2.2 b y hb)).2, fun b y hb => (hk b (h.2.2 b y hb)).1⟩
  have hSt13 : St w13 xs := ⟨hM.eff0 hE13, how.sl.2, fun b o hb => by
    obtain ⟨q1, q2⟩ := own_blk how hb
    exact hM.mg.away hE13 (hon b q1) q2⟩
  have c1b : ∀ {wa : World} {zs : List Iv}, St wa zs → wa.heap[b1]? = _ := fun h => h.1.mg.eff.obj0 hb14
  have c2b : ∀ {wa : World} {zs : List Iv}, St wa zs → wa.heap[b2]? = _ := fun h => h.1.mg.eff.obj0 hb24
  obtain ⟨V, hV⟩ : ∃ V, V = verdict c1 cls xs x0 x1 x2 x3 := ⟨_, rfl⟩
  obtain ⟨s, hsz⟩ : ∃ s, s = sizeF c1 cls x1 := ⟨_, rfl⟩
  refine ⟨fun vs w' => vs = [.bool false] ∧ St w' xs,
    ⟨fun vs w' => ∃ xs1, vs = [.bool (decide (V.1 = true ∧ x0 = 1 ∧ x2 = 0))] ∧ St w' xs1 ∧ Acts xs (x3, s) x1 V.2 xs1, ?_, ?_⟩, ?_⟩
  · have hb213 := c2b hSt13
    rw [LDi_of (cellH_of hb213 0), LDi_of (cellH_of hb213 1), LDi_of (cellH_of hb213 2), LDi_of (cellH_of hb213 3)]
    refine (Do_spec hSt13.1 (by omega) x0 x1 x2 x3).mono fun v w14 ⟨xs1, hv, hM14, hk14, hax⟩ => ?_
    subst hv
    rw [← hV, ← hsz] at hax
    have hSt14 := stK hSt13 hM14 hk14
    have hb214 := c2b hSt14
    rw [BOOLV_bool, ← hV]
    refine ITE_intro (fun h => ?_) (fun h => ⟨xs1, by rw [decide_eq_false (by simp [h])], hSt14, hax⟩)
    rw [LDi_of (cellH_of hb214 0)]
    refine ITE_eq (fun h2 => ?_) (fun h2 => ⟨xs1, by rw [decide_eq_false (by simp [h2])], hSt14, hax⟩)
    rw [LDi_of (cellH_of hb214 2)]
    exact ⟨xs1, by rw [show (x2 == 0) = decide (V.1 = true ∧ x0 = 1 ∧ x2 = 0) from by rw [Bool.eq_iff_iff]; simp [h, h2]], hSt14, hax⟩
  · intro w15 v8 ⟨xs1, hv, hSt15, hax⟩
    cases hv
    rw [BOOLV_bool]
    have hb115 := c1b hSt15
    have hb215 := c2b hSt15
    have hE015 : Eff w w15 [] := hE04.trans0 hSt15.1.mg.eff
    have hlen1 := acts_len hax
    refine ITE_d (fun h2 => ?_) (fun h2 => ?_)
    · obtain ⟨h2, h3, h4⟩ := h2
      subst h3 h4
      rw [LDi_of (cellH_of hb115 0), LDi_of (cellH_of hb115 1), LDi_of (cellH_of hb115 2), LDi_of (cellH_of hb115 3), LDl_of (cellH_of hb115 4), LDi_of (cellH_of hb215 1)]
      refine (r22_Size_spec (hc.eff hE015) hm x1).mono fun v w16 ⟨hE16, hv⟩ => ?_
      subst hv
      rw [INTV_int]
      have hSt16 := stE hSt15 hE16
      have hV2 : V.2 = 1 := by rw [hV]; exact verdict_alloc (by rw [← hV]; exact h2)
      rw [hV2] at hax
      obtain ⟨hfit, i, hlow, hins⟩ := hax
      rw [hsz] at hfit hins
      have hasc1 := hSt15.1.mg.asc
      refine ⟨fun vs w' => vs = [.bool false] ∧ St w' xs, ?_, ?_⟩
      · refine (Live_spec hSt16.1).mono fun u w17 ⟨hE17, ⟨a5, c5, hu⟩, _⟩ => ?_
        subst hu
        rw [SLV_slice]
        have hSt17 := stE hSt16 hE17
        have hb217 := c2b hSt17
        have hl1 : xs1.length = xs.length + 1 := by rw [hins]; exact insL_len hlow.1
        refine BINDw (by omega) (by omega) (ITE_ne (fun h => by omega) (fun _ => ?_))
        rw [LDi_of (cellH_of hb217 0), LDi_of (cellH_of hb217 1), LDi_of (cellH_of hb217 2), LDi_of (cellH_of hb217 3)]
        refine (Do_spec hSt17.1 (by omega) 1 x1 0 x3).mono fun v w18 ⟨xs2, hv, hM18, hk18, ha2⟩ => ?_
        rw [hins, undo_again hfit] at hv ha2
        subst hv
        rw [BOOLV_bool]
        have hSt18 := stK hSt17 hM18 hk18
        have hx2 : xs2 = insL xs (x3, sizeF c1 cls x1) i := ha2
        refine ITE_intro (fun h => by cases h) (fun _ => ?_)
        have hb218 := c2b hSt18
        rw [LDi_of (cellH_of hb218 3)]
        have hasc2 : Asc (insL xs (x3, sizeF c1 cls x1) i) := by rw [← hins]; exact hasc1
        have hl2 : (insL xs (x3, sizeF c1 cls x1) i).length = xs.length + 1 := insL_len hlow.1
        rw [hx2] at hSt18
        refine (Do_spec hSt18.1 (by omega) 3 x3 0 (sizeF c1 cls x1)).mono fun v w19 ⟨xs3, hv, hM19, hk19, ha3⟩ => ?_
        rw [undo_told hasc2 (.inr rfl)] at hv ha3
        subst hv
        rw [BOOLV_bool]
        have hSt19 := stK hSt18 hM19 hk19
        have hx3 : xs3 = insL xs (x3, sizeF c1 cls x1) i := ha3
        rw [hx3] at hSt19
        refine ITE_intro (fun h => by cases h) (fun _ => ?_)
        have hb219 := c2b hSt19
        rw [LDi_of (cellH_of hb219 3)]
        refine (Do_spec hSt19.1 (by omega) 2 x3 0 (sizeF c1 cls x1)).mono fun v w20 ⟨xs4, hv, hM20, hk20, ha4⟩ => ?_
        rw [undo_told hasc2 (.inl rfl)] at hv ha4
        subst hv
        rw [BOOLV_bool]
        have hSt20 := stK hSt19 hM20 hk20
        obtain ⟨i', hi', hi1, hx4⟩ : ∃ k, k < (insL xs (x3, sizeF c1 cls x1) i).length ∧ ((insL xs (x3, sizeF c1 cls x1) i).getD k (0, 0)).1 = x3 ∧ xs4 = dropL (insL xs (x3, sizeF c1 cls x1) i) k := ha4
        have hii : i' = i := asc_unique hasc2 hi' (by have := hlow.1; omega) (by rw [hi1, insL_getD hlow.1, if_neg (by omega), if_pos rfl])
        rw [hii, drop_ins hlow.1] at hx4
        rw [hx4] at hSt20
        exact ⟨rfl, hSt20⟩
      · intro w21 v14 ⟨hv, hSt21⟩
        cases hv
        rw [BOOLV_bool]
        exact ITE_intro (fun h => by cases h) (fun _ => ⟨rfl, hSt21⟩)
    · refine ⟨fun vs w' => vs = [.bool (decide (x0 = 2 ∧ xs1.length < xs.length))] ∧ St w' xs1, ?_, ?_⟩
      · rw [LDi_of (cellH_of hb215 0)]
        refine ITE_eq (fun h3 => ?_) (fun h3 => ⟨by rw [decide_eq_false (by omega)], hSt15⟩)
        refine (Live_spec hSt15.1).mono fun u w22 ⟨hE22, ⟨a6, c6, hu⟩, _⟩ => ?_
        subst hu
        rw [SLV_slice]
        exact ⟨by rw [decide_eq_decide.2 (show (xs1.length : Int) < xs.length ↔ (x0 = 2 ∧ xs1.length < xs.length) by omega)], stE hSt15 hE22⟩
      · intro w23 v16 ⟨hv, hSt23⟩
        cases hv
        rw [BOOLV_bool]
        have hVm : V.2 ≤ 2 := by rw [hV]; exact verdict_most
        refine ITE_d (fun h3 => ?_) (fun h3 => ?_)
        · have hb223 := c2b hSt23
          rw [LDi_of (cellH_of hb223 0), LDi_of (cellH_of hb223 1)]
          refine (Do_spec hSt23.1 (by omega) x0 x1 4 0).mono fun v w24 ⟨xs5, hv, hM24, _, _⟩ => ?_
          subst hv
          rw [BOOLV_bool]
          refine ⟨hE04.trans0 hM24.mg.eff, ?_⟩
          have h4 : V.2 = 2 := by
            rcases show V.2 = 0 ∨ V.2 = 1 ∨ V.2 = 2 by omega with h4 | h4 | h4
            · rw [h4] at hax
              have : xs1 = xs := hax
              subst this; omega
            · rw [h4] at hax
              obtain ⟨_, i, hlow, hins⟩ := hax
              rw [hins, insL_len hlow.1] at h3; omega
            · exact h4
          rw [h4] at hax
          obtain ⟨i, hi, hi1, hd⟩ := hax
          have hno : getF xs1 x1 = none := by
            rw [hd, drop_filter hasc hi, hi1]
            unfold getF
            rw [List.find?_eq_none]
            intro y hy
            have := (List.mem_filter.1 hy).2
            simpa using this
          unfold verdict
          rw [if_neg (by omega), if_pos (.inl h3.1), hno]
          rfl
        · refine ⟨rfl, ?_⟩
          have h4 : xs1 = xs := by
            rcases show V.2 = 0 ∨ V.2 = 1 ∨ V.2 = 2 by omega with h4 | h4 | h4
            · rw [h4] at hax
              exact hax
            · have h5 := verdict_fit (by rw [← hV]; exact h4)
              have h6 : V.1 = true := by
                rcases h7 : V.1 with _ | _
                · rw [hV] at h7
                  have := verdict_no h7
                  rw [← hV, h4] at this; cases this
                · rfl
              exact absurd ⟨h6, h5.1, h5.2.2.1⟩ h2
            · have h5 := verdict_two (by rw [← hV]; exact h4)
              rw [h4] at hax
              obtain ⟨i, hi, _, hd⟩ := hax
              have : xs1.length = xs.length - 1 := by rw [hd]; exact dropL_len hi
              exact absurd ⟨h5, by omega⟩ h3
          rw [h4] at hSt23
          exact hSt23
  · intro w25 v18 ⟨hv, hSt25⟩
    cases hv
    rw [BOOLV_bool]
    refine (Live_spec hSt25.1).mono fun u w26 ⟨hE26, ⟨a7, c7, hu⟩, how7, _⟩ => ?_
    subst hu
    rw [SLV_slice]
    have hSt26 := stE hSt25 hE26
    have hsl7 := how7.sl.2
    refine LOOP_of (fun vs w' => ∃ j : Nat, vs = [.bool false, .int .i64 j] ∧ j ≤ xs.length ∧ Eff w26 w' [])
      (fun vs _ => match vs with | [_, .int _ n] => xs.length - n.toNat | _ => 0) ⟨0, rfl, by omega, Eff.refl _⟩ ?_
    intro w27 v20 v21 ⟨j, hv, hj, hE27⟩
    simp only [List.cons.injEq, and_true] at hv
    obtain ⟨rfl, rfl⟩ := hv
    rw [INTV_int, BOOLV_bool]
    refine ITE_d (fun h2 => ?_) (fun h2 => ?_)
    · intro w28 hE28 _
      have hE2628 := hE27.trans0 hE28
      refine ITE_d (fun h => by omega) (fun _ => ?_)
      refine IDX_v (hsl7.eff hE2628) (by omega) (by omega) fun b o g1 g2 => ?_
      rw [LDi_of g1, LDi_of g2]
      refine IDX_v (hSt26.2.1.eff hE2628) (by omega) (by omega) fun b o g1 g2 => ?_
      rw [LDi_of g1, LDi_of g2]
      refine ITE_intro (fun h => by simp at h) (fun _ => ?_)
      exact BINDw (by omega) (by omega) ⟨⟨j + 1, rfl, by omega, hE2628⟩, by first | omega | (dsimp only; omega)⟩
    · intro w29 hE29 _
      have hSt29 := stE hSt26 (hE27.trans0 hE29)
      have hb129 := c1b hSt29
      refine ITE_eq (fun _ => ?_) (fun h => absurd rfl h)
      rw [LDi_of (cellH_of hb129 1)]
      refine BINDw (by omega) (by omega) ?_
      refine (Bytes_specM hSt29.1 (by omega)).mono fun u w30 ⟨hE30, hu⟩ => ?_
      subst hu
      rw [INTV_int]
      have hb130 := hE30.obj0 hb129
      refine ⟨KEEP_cell (cellH_of hb130 1) KEEP_nil, (hE04.trans0 hSt29.1.mg.eff).trans0 hE30, ?_⟩
      have := sum_between (lo := 65536) (hi := 65536 + 1024 * c1) hM.mg.ap (fun y hy => by
        have := hM.grains y hy
        unfold grainP at this
        omega) (by omega)
      rw [decide_eq_true (show sumF xs ≤ 1024 * c1 by omega)]
end
end Go.Proofs.Ytpopdookpbmmpaa
