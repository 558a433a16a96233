/- The claims' own check; the law ModelReplays. -/
import Derived.Test.YtpopdookpbmmpaaModel4
namespace Go.Proofs.Ytpopdookpbmmpaa
open Go.Den
set_option maxRecDepth 100000
set_option maxHeartbeats 4000000

def twoM : List Ev := [⟨0, 1, 16, 0, 65536, 0, 0, 1, 0⟩, ⟨0, 1, 16, 0, 65536, 0, 0, 2, 0⟩]

theorem twoM_ord : IsOrd twoM [0, 1] := by
  refine ⟨?_, ?_⟩
  · have : cnt twoM = [0, 1] := by decide
    rw [this]
  · rw [List.pairwise_cons]
    refine ⟨fun a ha => ?_, by simp⟩
    simp at ha
    subst ha
    left
    decide

theorem twoM_rep : repF 1 [16] twoM [0, 1] [] = ([(65536, 16)], 1) := by decide
theorem one_free : verdict 1 [16] [(65536, 16)] 2 65536 0 16 = (true, 2) := by decide

theorem may_one : mayP 1 1 1 0 [16] := by
  refine ⟨⟨by unfold okU; omega, by unfold okL; decide⟩, fun i hi => ?_⟩
  have hi : i < 1 := hi
  obtain rfl : i = 0 := by omega
  unfold okAt
  decide

/-- Five cells of a block of one's own are set. -/
theorem ST5_of {w₀ w : World} {b : Nat} {x0 x1 x2 x3 x4 u0 u1 u2 u3 u4 : Value} {t : TypeId} {K : World → Prop} (h0 : SCAL u0) (h1 : SCAL u1) (h2 : SCAL u2) (h3 : SCAL u3) (h4 : SCAL u4) (hE : Eff w₀ w []) (hb0 : w₀.heap.size ≤ b)
    (hb : w.heap[b]? = some (.cells [x0, x1, x2, x3, x4].toArray t (0, 0))) (hK : ∀ w', Eff w₀ w' [] → w'.heap[b]? = some (.cells [u0, u1, u2, u3, u4].toArray t (0, 0)) → Eff w w' [b] → K w') :
    ST1 w ⟨b, 0, none⟩ u0 fun w => ST1 w ⟨b, 1, none⟩ u1 fun w => ST1 w ⟨b, 2, none⟩ u2 fun w => ST1 w ⟨b, 3, none⟩ u3 fun w => ST1 w ⟨b, 4, none⟩ u4 K := by
  have hs : ∀ x ∈ [b], w₀.heap.size ≤ x := by simpa using hb0
  refine ST1_of h0 hb (by simp) fun w1 hb1 hE1 => ST1_of h1 hb1 (by simp) fun w2 hb2 hE2 => ST1_of h2 hb2 (by simp) fun w3 hb3 hE3 => ST1_of h3 hb3 (by simp) fun w4 hb4 hE4 => ST1_of h4 hb4 (by simp) fun w5 hb5 hE5 => ?_
  refine hK w5 (((((hE.own hE1 hs).own hE2 hs).own hE3 hs).own hE4 hs).own hE5 hs) hb5 ?_
  exact ((((hE1.trans hE2).trans hE3).trans hE4).trans hE5).weak (by simp)

/-- Four cells of a block of one's own are set. -/
theorem ST4_of {w₀ w : World} {b : Nat} {x0 x1 x2 x3 u0 u1 u2 u3 : Value} {t : TypeId} {K : World → Prop} (h0 : SCAL u0) (h1 : SCAL u1) (h2 : SCAL u2) (h3 : SCAL u3) (hE : Eff w₀ w []) (hb0 : w₀.heap.size ≤ b)
    (hb : w.heap[b]? = some (.cells [x0, x1, x2, x3].toArray t (0, 0))) (hK : ∀ w', Eff w₀ w' [] → w'.heap[b]? = some (.cells [u0, u1, u2, u3].toArray t (0, 0)) → Eff w w' [b] → K w') :
    ST1 w ⟨b, 0, none⟩ u0 fun w => ST1 w ⟨b, 1, none⟩ u1 fun w => ST1 w ⟨b, 2, none⟩ u2 fun w => ST1 w ⟨b, 3, none⟩ u3 K := by
  have hs : ∀ x ∈ [b], w₀.heap.size ≤ x := by simpa using hb0
  refine ST1_of h0 hb (by simp) fun w1 hb1 hE1 => ST1_of h1 hb1 (by simp) fun w2 hb2 hE2 => ST1_of h2 hb2 (by simp) fun w3 hb3 hE3 => ST1_of h3 hb3 (by simp) fun w4 hb4 hE4 => ?_
  refine hK w4 ((((hE.own hE1 hs).own hE2 hs).own hE3 hs).own hE4 hs) hb4 ?_
  exact (((hE1.trans hE2).trans hE3).trans hE4).weak (by simp)

section
variable {w : World}

theorem l22_speaks_spec : CALL Pg F_l22_speaks [] w fun u w' => Eff w w' [] ∧ u = .bool true := by
  apply C_l22_speaks
  unfold D_l22_speaks
  intro b1 w1 hE1 hs1 hb1 b2 w2 hE2 hs2 hb2
  refine ST5_of trivial trivial trivial trivial trivial hE2 hs2 hb2 fun w7 hE7 hb27 _ => ?_
  intro b3 w8 hE8 hs8 hb3
  refine ST2_of trivial trivial hE8 hs8 hb3 fun w10 hE10 hb310 _ => ?_
  have hb210 := hE10.obj0 hb27
  rw [LDi_of (cellH_of hb210 0), LDi_of (cellH_of hb210 1), LDi_of (cellH_of hb210 2), LDi_of (cellH_of hb210 3), LDl_of (cellH_of hb210 4), LDi_of (cellH_of hb310 0), LDi_of (cellH_of hb310 1), LDi_of (cellH_of hb310 0), LDi_of (cellH_of hb310 1)]
  intro b4 w11 hE11 hs11 hb4
  have hsl : SlE w11.heap (some ⟨b4, 0, none⟩) 2 twoM := sl_one (xs := twoM) encE_len (by omega) hb4 (by decide)
  have hE111 := (hE7.trans0 hE10).trans0 hE11
  have hE011 := hE1.trans0 hE111
  have hcl : SlI w1.heap (some ⟨b1, 0, none⟩) 1 [16] := sl_one (xs := [(16 : Int)]) (enc := fun x => [.int .i64 x]) (size := 1) (fun _ => rfl) (by omega) hb1 (by decide)
  have hcfg : Cfg w11.heap (some ⟨b1, 0, none⟩) 1 [16] := ⟨hcl.eff hE111, by decide⟩
  refine (model_Replay_spec hcfg may_one hsl (by omega)).mono fun v w12 ⟨hE12, o, m, ca', cl', cc', w₀, xs, ho, hv, hE₀, hmod, hp, _⟩ => ?_
  have hoe := ho.unique twoM_ord
  subst hv hoe
  rw [twoM_rep] at hp ⊢
  have hxs : xs = [(65536, 16)] := List.perm_singleton.1 hp
  subst hxs
  rw [TUP_pi]
  refine ITE_eq (fun _ => ?_) (fun h => absurd rfl h)
  refine SILN_neqptr (e := T_model_Model_model_Model) (by kernel_rfl) ?_
  rw [BOOLV_bool, ITE_true]
  refine (Bytes_specM hmod (by decide)).mono fun u w13 ⟨hE13, hu⟩ => ?_
  subst hu
  rw [INTV_int]
  refine ITE_eq (fun _ => ?_) (fun h => absurd (by decide) h)
  have hmod13 := hmod.eff0 hE13
  refine (Live_spec hmod13).mono fun u w14 ⟨hE14, ⟨a', c', hu⟩, _⟩ => ?_
  subst hu
  rw [SLV_slice]
  refine ITE_eq (fun _ => ?_) (fun h => absurd (by decide) h)
  have hmod14 := hmod13.eff0 hE14
  refine (Do_spec hmod14 (by decide) 2 65536 0 16).mono fun u w15 ⟨xs', hu, hmod15, _, ha⟩ => ?_
  rw [one_free] at hu ha
  subst hu
  rw [BOOLV_bool, ITE_true]
  obtain ⟨k, hk, _, hx'⟩ := ha
  have hk : k < 1 := hk
  obtain rfl : k = 0 := by omega
  have hx' : xs' = [] := hx'
  subst hx'
  refine (Bytes_specM hmod15 (by decide)).mono fun u w16 ⟨hE16, hu⟩ => ?_
  subst hu
  rw [INTV_int]
  exact ⟨(hE011.trans0 hE₀).trans0 (hmod15.mg.eff.trans0 hE16), rfl⟩

variable {c0 c1 c2 c3 : Int} {ca : Option Addr} {cl cc : Nat} {cls : List Int} {l : List Ev} {la : Option Addr} {ll lc : Nat}

theorem ModelReplays_spec (hc : Cfg w.heap ca cl cls) (hs : SlE w.heap la ll l) :
    CALL Pg F_l22_ModelReplays [cfgV c0 c1 c2 c3 ca cl cc, .slice la ll lc] w fun v w' => Eff w w' [] ∧ v = .bool true := by
  apply C_l22_ModelReplays
  unfold D_l22_ModelReplays
  intro b1 w1 hE1 hs1 hb1
  refine l22_speaks_spec.mono fun v w2 ⟨hE2, hv⟩ => ?_
  subst hv
  have hE02 := hE1.trans0 hE2
  have hb12 := hE2.obj0 hb1
  rw [BOOLV_bool]
  refine ITE_intro (fun h => by cases h) (fun _ => ?_)
  rw [LDi_of (cellH_of hb12 0), LDi_of (cellH_of hb12 1), LDi_of (cellH_of hb12 2), LDi_of (cellH_of hb12 3), LDl_of (cellH_of hb12 4)]
  refine (r04_May_spec (hc.eff hE02)).mono fun v w3 ⟨hE3, t, hv, ht⟩ => ?_
  subst hv
  rw [BOOLV_bool]
  have hE03 := hE02.trans0 hE3
  have hb13 := hE3.obj0 hb12
  refine ITE_intro (fun _ => ⟨hE03, rfl⟩) (fun h => ?_)
  have hm : mayP c0 c1 c2 c3 cls := ht.1 (by simpa using h)
  refine ITE_d (fun _ => ⟨hE03, rfl⟩) (fun hlen => ?_)
  have hll := hs.1
  rw [LDi_of (cellH_of hb13 0), LDi_of (cellH_of hb13 1), LDi_of (cellH_of hb13 2), LDi_of (cellH_of hb13 3), LDl_of (cellH_of hb13 4)]
  refine (model_Replay_spec (hc.eff hE03) hm (hs.eff hE03) (by omega)).mono fun v w4 ⟨hE4, o, m, ca', cl', cc', w₀, xs, ho, hv, hE₀, hmod, hp, hxl⟩ => ?_
  subst hv
  rw [TUP_pi]
  have hE04 := hE03.trans0 hE4
  have hb14 := hE4.obj0 hb13
  rw [LDi_of (cellH_of hb14 0), LDi_of (cellH_of hb14 1), LDi_of (cellH_of hb14 2), LDi_of (cellH_of hb14 3), LDl_of (cellH_of hb14 4)]
  refine (r22_Replay_spec (hc.eff hE04) hm (hs.eff hE04) (by omega) ho).mono fun v w5 ⟨hE5, a', l', c', hv, hsl, hl'⟩ => ?_
  subst hv
  rw [TUP_sli]
  refine SILN_neqptr (e := T_model_Model_model_Model) (by kernel_rfl) ?_
  rw [BOOLV_bool, ITE_true]
  refine ITE_eq (fun _ => ?_) (fun h => absurd rfl h)
  have hmod5 := hmod.eff0 hE5
  refine (Live_spec hmod5).mono fun u w6 ⟨hE6, ⟨a2, c2', hu⟩, how, _⟩ => ?_
  subst hu
  rw [SLV_slice]
  have hasc := hmod.mg.asc
  have hsg := how.sl.2
  refine (l22_same_spec hsg (hsl.eff hE6) hasc hp (by omega)).mono fun u w7 ⟨hE7, hu⟩ => ?_
  subst hu
  rw [BOOLV_bool]
  exact ⟨((hE04.trans0 hE5).trans0 hE6).trans0 hE7, rfl⟩
end
end Go.Proofs.Ytpopdookpbmmpaa
