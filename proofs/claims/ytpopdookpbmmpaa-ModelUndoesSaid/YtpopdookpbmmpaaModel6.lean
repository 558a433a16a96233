/- The law ModelDoes: what it answers. -/
import Derived.Test.YtpopdookpbmmpaaModel5
namespace Go.Proofs.Ytpopdookpbmmpaa
open Go.Den
set_option maxRecDepth 100000
set_option maxHeartbeats 4000000

abbrev Actn := Int × Int × Int × Int
def encA (x : Actn) : List Value := [.int .i64 x.1, .int .i64 x.2.1, .int .i64 x.2.2.1, .int .i64 x.2.2.2]
abbrev SlA := @Sl Actn encA 4
def atA (xs : List Actn) (i : Nat) : Actn := xs.getD i (0, 0, 0, 0)

theorem IDX_a {h : Array Obj} {a : Option Addr} {l : Nat} {xs : List Actn} {i : Nat} {K : Nat → Nat → Prop} (hs : SlA h a l xs) (h1 : i < l)
    (hK : ∀ b o, cellH h b o = some (.int .i64 (atA xs i).1) → cellH h b (o + 1) = some (.int .i64 (atA xs i).2.1) → cellH h b (o + 2) = some (.int .i64 (atA xs i).2.2.1) → cellH h b (o + 3) = some (.int .i64 (atA xs i).2.2.2) → K b o) : IDX a l i 4 K :=
  IDX_sl hs (by omega) (by omega) fun b o x hx hc => by
    have e : atA xs i = x := by
      unfold atA
      rw [List.getD_eq_getElem?_getD, show i = (i : Int).toNat by omega, hx]
      rfl
    refine hK b o ?_ ?_ ?_ ?_
    · rw [e]; simpa using hc 0 (.int .i64 x.1) rfl
    · rw [e]; exact hc 1 (.int .i64 x.2.1) rfl
    · rw [e]; exact hc 2 (.int .i64 x.2.2.1) rfl
    · rw [e]; exact hc 3 (.int .i64 x.2.2.2) rfl

theorem acts_open {w : World} {a : Option Addr} {l c : Nat} (h : Rds w [.sl [.int .i64, .int .i64, .int .i64, .int .i64]] [.slice a l c]) : ∃ os : List Actn, SlA w.heap a l os := by
  obtain ⟨os, _, _, _, hs, _⟩ := h.slice encA (by simp) (fun cs hcs => by
    cases hcs with | int _ h =>
    cases h with | int _ h =>
    cases h with | int _ h =>
    cases h with | int _ h =>
    cases h
    exact ⟨(_, _, _, _), rfl⟩)
  exact ⟨os, hs⟩

section
variable {w : World} {c0 c1 c2 c3 : Int} {ca : Option Addr} {cl cc : Nat} {cls : List Int} {acts : List Actn} {aa : Option Addr} {al ac : Nat}

theorem ModelDoes_spec (hc : Cfg w.heap ca cl cls) (hs : SlA w.heap aa al acts) :
    CALL Pg F_l22_ModelDoes [cfgV c0 c1 c2 c3 ca cl cc, .slice aa al ac] w fun v w' => Eff w w' [] ∧ v = .bool true := by
  apply C_l22_ModelDoes
  unfold D_l22_ModelDoes
  intro b1 w1 hE1 hs1 hb1
  refine l22_speaks_spec.mono fun v w2 ⟨hE2, hv⟩ => ?_
  subst hv
  have hE02 := hE1.trans0 hE2
  have hb12 := hE2.obj0 hb1
  rw [BOOLV_bool]
  refine ITE_intro (fun h => by cases h) (fun _ => ?_)
  rw [LDi_of (cellH_of hb12 0), LDi_of (cellH_of hb12 1), LDi_of (cellH_of hb12 2), LDi_of (cellH_of hb12 3), LDl_of (cellH_of hb12 4)]
  refine (r04_May_spec (hc.eff hE02)).mono fun v w3 ⟨hE3, t, hv, ht⟩ => ?_
  subst hv
  rw [BOOLV_bool]
  have hE03 := hE02.trans0 hE3
  have hb13 := hE3.obj0 hb12
  refine ITE_intro (fun _ => ⟨hE03, rfl⟩) (fun h => ?_)
  have hm : mayP c0 c1 c2 c3 cls := ht.1 (by simpa using h)
  refine ITE_d (fun _ => ⟨hE03, rfl⟩) (fun hlen => ?_)
  have hll := hs.1
  rw [LDi_of (cellH_of hb13 0), LDi_of (cellH_of hb13 1), LDi_of (cellH_of hb13 2), LDi_of (cellH_of hb13 3), LDl_of (cellH_of hb13 4)]
  refine (model_New_spec (hc.eff hE03) hm).mono fun v w4 ⟨m, ca', cl', cc', hv, hmod⟩ => ?_
  subst hv
  rw [PTRV_pointer]
  have hgood0 : Good [] := ⟨fun y hy => (by cases hy), fun x hx => (by cases hx)⟩
  have hsy0 : SlV w4.heap none 0 [] := ⟨rfl, .inl rfl⟩
  refine LOOP_of (fun vs w' => ∃ (k : Nat) (xs ys : List Iv) (a : Option Addr) (c : Nat), vs = [.slice a ys.length c, .bool false, .int .i64 k] ∧ k ≤ al ∧ xs.length ≤ k ∧ Mod c0 c1 c2 c3 ca' cl' cc' cls w3 w' m xs ∧ xs.Perm ys ∧ Good ys ∧ SlV w'.heap a ys.length ys ∧
      ∀ b o, a = some ⟨b, o, none⟩ → AwayG (cfgL c0 c1 c2 c3 ca' cl' cc') T_model_Model_model_Model w' m b)
    (fun vs _ => match vs with | [_, _, .int _ n] => al - n.toNat | _ => 0) ⟨0, [], [], none, 0, rfl, by omega, by simp, hmod, List.Perm.refl _, hgood0, hsy0, fun b o h => by cases h⟩ ?_
  intro w5 v4 v5 v6 ⟨k, xs, ys, a3, cc3, hv, hk, hxk, hM, hp, hgood, hsy, haw⟩
  simp only [List.cons.injEq, and_true] at hv
  obtain ⟨rfl, rfl, rfl⟩ := hv
  rw [INTV_int, BOOLV_bool, SLV_slice]
  have hE35 := hM.mg.eff
  have hE05 := hE03.trans0 hE35
  have hyl := hp.length_eq
  have hasc := hM.mg.asc
  refine ITE_d (fun h1 => ?_) (fun h1 => ?_)
  · refine IDX_a (hs.eff hE05) (by omega) fun b o g0 g1 g2 g3 => ?_
    obtain ⟨x, hx⟩ : ∃ x, x = atA acts k := ⟨_, rfl⟩
    rw [← hx] at g0 g1 g2 g3
    obtain ⟨rk, rn, ak, an⟩ := x
    dsimp only at g0 g1 g2 g3
    rw [LDi_of g0, LDi_of g1, LDi_of g2, LDi_of g3]
    intro b3 w6 hE6 hs6 hb6
    refine ST4_of trivial trivial trivial trivial hE6 hs6 hb6 fun w10 hE10 hb310 _ => ?_
    have hE310 := hE35.trans0 hE10
    have hE010 := hE03.trans0 hE310
    have hb110 := hE310.obj0 hb13
    rw [LDi_of (cellH_of hb110 0), LDi_of (cellH_of hb110 1), LDi_of (cellH_of hb110 2), LDi_of (cellH_of hb110 3), LDl_of (cellH_of hb110 4)]
    rw [LDi_of (cellH_of hb310 0), LDi_of (cellH_of hb310 1), LDi_of (cellH_of hb310 2), LDi_of (cellH_of hb310 3)]
    have hM10 := hM.eff0 hE10
    refine (r22_Do_spec (hc.eff hE010) hm (hsy.eff hE10) (by omega) (good_mid hgood) hgood.2 rk rn ak an).mono fun v w11 ⟨hE11, a5, l5, c5, ys', hv, ha, hnew⟩ => ?_
    subst hv
    rw [TUP_slb]
    have hae := actR_iff.1 ha
    have hgood' : Good ys' := by rw [hae]; exact good_act hgood
    have hvs := verdict_same hasc hp c1 cls rk rn ak an
    have hM11 := hM10.eff0 hE11
    have hnew' : l5 = ys'.length ∧ SlV w11.heap a5 ys'.length ys' ∧ ∀ b o, a5 = some ⟨b, o, none⟩ → AwayG (cfgL c0 c1 c2 c3 ca' cl' cc') T_model_Model_model_Model w11 m b := by
      rcases hnew with ⟨rfl, rfl, rfl, rfl⟩ | ⟨how, hn⟩
      · exact ⟨rfl, (hsy.eff hE10).eff hE11, fun b o hb => ((haw b o hb).eff0 hE10).eff0 hE11⟩
      · have h3 := how.sl
        have h4 := h3.2
        rw [h3.1] at h4
        refine ⟨h3.1, h4, fun b o hb => ?_⟩
        obtain ⟨q1, q2⟩ := own_blk how hb
        exact hM10.mg.away hE11 (hn b q1) q2
    obtain ⟨rfl, hsy', haw'⟩ := hnew'
    refine ⟨fun vs w' => w' = w11 ∧ ∃ a c, vs = [.slice a ys'.length c] ∧ SlV w11.heap a ys'.length ys' ∧ ∀ b o, a = some ⟨b, o, none⟩ → AwayG (cfgL c0 c1 c2 c3 ca' cl' cc') T_model_Model_model_Model w11 m b,
      ⟨fun vs w' => w' = w11 ∧ vs = [.bool (verdict c1 cls ys rk rn ak an).1], ⟨rfl, rfl⟩, ?_⟩, ?_⟩
    · intro w12 v10 ⟨hw, hv⟩
      subst hw
      cases hv
      rw [BOOLV_bool]
      refine ITE_intro (fun h => ⟨rfl, a5, c5, rfl, hsy', haw'⟩) (fun h => ?_)
      have h3 := verdict_no h
      rw [h3] at hae
      have hae : ys' = ys := hae
      subst hae
      exact ⟨rfl, a3, cc3, rfl, (hsy.eff hE10).eff hE11, fun b o hb => ((haw b o hb).eff0 hE10).eff0 hE11⟩
    intro w13 v11 ⟨hw, a6, c6, hv, hsy6, haw6⟩
    subst hw
    cases hv
    rw [SLV_slice]
    have hb313 := hE11.obj0 hb310
    rw [LDi_of (cellH_of hb313 0), LDi_of (cellH_of hb313 1), LDi_of (cellH_of hb313 2), LDi_of (cellH_of hb313 3)]
    refine (Do_spec hM11 (by omega) rk rn ak an).mono fun v w14 ⟨xs', hv, hM14, hk14, hax⟩ => ?_
    subst hv
    rw [BOOLV_bool, hvs]
    refine ITE_intro (fun h => by simp at h) (fun _ => ?_)
    have hlen' := acts_len hax
    rw [hvs] at hax
    have hp' := acts_perm hasc hp hax ha
    have hsy14 : SlV w14.heap a6 ys'.length ys' := Sl.same hsy6 fun b y hb => (hk14 b (haw6 b y hb)).2
    have haw14 : ∀ b o, a6 = some ⟨b, o, none⟩ → AwayG (cfgL c0 c1 c2 c3 ca' cl' cc') T_model_Model_model_Model w14 m b := fun b y hb => (hk14 b (haw6 b y hb)).1
    refine (Live_spec hM14).mono fun u w15 ⟨hE15, ⟨a2, c2', hu⟩, how, _⟩ => ?_
    subst hu
    rw [SLV_slice]
    refine (l22_same_spec how.sl.2 (hsy14.eff hE15) hM14.mg.asc hp' (by omega)).mono fun u w16 ⟨hE16, hu⟩ => ?_
    subst hu
    rw [BOOLV_bool]
    refine ITE_intro (fun h => by cases h) (fun _ => ?_)
    have hE1416 := hE15.trans0 hE16
    exact BINDw (by omega) (by omega) ⟨⟨k + 1, xs', ys', a6, c6, rfl, by omega, by omega, hM14.eff0 hE1416, hp', hgood', hsy14.eff hE1416, fun b y hb => (haw14 b y hb).eff0 hE1416⟩, by first | omega | (dsimp only; omega)⟩
  · have hlens : Lens ys := fun y hy => (hgood.1 y hy).2
    refine LOOP_of (fun vs w' => ∃ j : Nat, vs = [.int .i64 (sumF (ys.take j)), .int .i64 j] ∧ j ≤ ys.length ∧ Eff w5 w' [])
      (fun vs _ => match vs with | [_, .int _ n] => ys.length - n.toNat | _ => 0) ⟨0, by simp [sumF], by omega, Eff.refl _⟩ ?_
    intro w17 v15 v16 ⟨j, hv, hj, hE17⟩
    simp only [List.cons.injEq, and_true] at hv
    obtain ⟨rfl, rfl⟩ := hv
    rw [INTV_int, INTV_int]
    refine ITE_d (fun h2 => ?_) (fun h2 => ?_)
    · have hjl : j < ys.length := by omega
      refine IDX_v (hsy.eff hE17) (by omega) (by omega) fun b o g1 g2 => ?_
      rw [Int.toNat_natCast] at g1 g2
      rw [LDi_of g1, LDi_of g2]
      intro b5 w18 hE18 hs18 hb18
      refine ST2_of trivial trivial hE18 hs18 hb18 fun w20 hE20 hb20 _ => ?_
      rw [LDi_of (n := (ys.getD j (0, 0)).2) (cellH_of hb20 1)]
      have hs1 := sumF_le hlens j
      have hs2 := sumF_le hlens (j + 1)
      have hst := sumF_take hjl
      rw [← hst]
      refine BINDw (by omega) (by omega) (BINDw (by omega) (by omega) ⟨⟨j + 1, rfl, by omega, hE17.trans0 hE20⟩, by first | omega | (dsimp only; omega)⟩)
    · have hjl : j = ys.length := by omega
      subst hjl
      refine (Bytes_specM (hM.eff0 hE17) (by omega)).mono fun u w21 ⟨hE21, hu⟩ => ?_
      subst hu
      rw [INTV_int, List.take_length]
      exact ⟨(hE05.trans0 hE17).trans0 hE21, by rw [sumF_perm hp]; simp⟩
end
end Go.Proofs.Ytpopdookpbmmpaa
