/- A worker's step: where there is nothing to do; where what it is asked for cannot be. The claims' own check. -/
import Derived.Test.YthjbakeddjkdkaaGreatDoorHand5
namespace Go.Proofs.YthjbakeddjkdkaaGreatDoor
open Go.Den
set_option maxRecDepth 100000
set_option maxHeartbeats 4000000

/-- What a step tells. -/
abbrev prL (t0 t1 t2 t3 : Bool) (n0 n1 n2 n3 : Int) : List Value := [.bool t0, .bool t1, .bool t2, .bool t3, .int .i64 n0, .int .i64 n1, .int .i64 n2, .int .i64 n3]
abbrev prV (t0 t1 t2 t3 : Bool) (n0 n1 n2 n3 : Int) : Value := .agg #[.bool t0, .bool t1, .bool t2, .bool t3, .int .i64 n0, .int .i64 n1, .int .i64 n2, .int .i64 n3]

section
variable {w : World} {c0 c1 c2 c3 : Int} {cls : List Int} {h sp sk : Nat} {qa : Option Addr} {ql qc : Nat}

theorem ST8_own {w : World} {b : Nat} {x0 x1 x2 x3 x4 x5 x6 x7 u0 u1 u2 u3 u4 u5 u6 u7 : Value} {t : TypeId} {K : World → Prop}
    (hs : SCAL u0 ∧ SCAL u1 ∧ SCAL u2 ∧ SCAL u3 ∧ SCAL u4 ∧ SCAL u5 ∧ SCAL u6 ∧ SCAL u7)
    (hb : w.heap[b]? = some (.cells [x0, x1, x2, x3, x4, x5, x6, x7].toArray t (0, 0)))
    (hK : ∀ w', w'.heap[b]? = some (.cells [u0, u1, u2, u3, u4, u5, u6, u7].toArray t (0, 0)) → Eff w w' [b] → K w') :
    ST1 w ⟨b, 0, none⟩ u0 fun w => ST1 w ⟨b, 1, none⟩ u1 fun w => ST1 w ⟨b, 2, none⟩ u2 fun w => ST1 w ⟨b, 3, none⟩ u3 fun w => ST1 w ⟨b, 4, none⟩ u4 fun w =>
      ST1 w ⟨b, 5, none⟩ u5 fun w => ST1 w ⟨b, 6, none⟩ u6 fun w => ST1 w ⟨b, 7, none⟩ u7 K := by
  obtain ⟨s0, s1, s2, s3, s4, s5, s6, s7⟩ := hs
  refine ST1_of s0 hb (by simp) fun w1 h1 e1 => ST1_of s1 h1 (by simp) fun w2 h2 e2 => ST1_of s2 h2 (by simp) fun w3 h3 e3 => ST1_of s3 h3 (by simp) fun w4 h4 e4 => ST1_of s4 h4 (by simp) fun w5 h5 e5 =>
    ST1_of s5 h5 (by simp) fun w6 h6 e6 => ST1_of s6 h6 (by simp) fun w7 h7 e7 => ST1_of s7 h7 (by simp) fun w8 h8 e8 => ?_
  exact hK w8 h8 (effg (effg (effg (effg (effg (effg (effg e1 e2) e3) e4) e5) e6) e7) e8)

theorem ST8_of {w₀ w : World} {b : Nat} {x0 x1 x2 x3 x4 x5 x6 x7 u0 u1 u2 u3 u4 u5 u6 u7 : Value} {t : TypeId} {K : World → Prop}
    (hs : SCAL u0 ∧ SCAL u1 ∧ SCAL u2 ∧ SCAL u3 ∧ SCAL u4 ∧ SCAL u5 ∧ SCAL u6 ∧ SCAL u7) (hE : Eff w₀ w []) (hb0 : w₀.heap.size ≤ b)
    (hb : w.heap[b]? = some (.cells [x0, x1, x2, x3, x4, x5, x6, x7].toArray t (0, 0)))
    (hK : ∀ w', Eff w₀ w' [] → w'.heap[b]? = some (.cells [u0, u1, u2, u3, u4, u5, u6, u7].toArray t (0, 0)) → Eff w w' [b] → K w') :
    ST1 w ⟨b, 0, none⟩ u0 fun w => ST1 w ⟨b, 1, none⟩ u1 fun w => ST1 w ⟨b, 2, none⟩ u2 fun w => ST1 w ⟨b, 3, none⟩ u3 fun w => ST1 w ⟨b, 4, none⟩ u4 fun w =>
      ST1 w ⟨b, 5, none⟩ u5 fun w => ST1 w ⟨b, 6, none⟩ u6 fun w => ST1 w ⟨b, 7, none⟩ u7 K := by
  obtain ⟨s0, s1, s2, s3, s4, s5, s6, s7⟩ := hs
  refine ST1_of s0 hb (by simp) fun w1 h1 e1 => ST1_of s1 h1 (by simp) fun w2 h2 e2 => ST1_of s2 h2 (by simp) fun w3 h3 e3 => ST1_of s3 h3 (by simp) fun w4 h4 e4 => ST1_of s4 h4 (by simp) fun w5 h5 e5 =>
    ST1_of s5 h5 (by simp) fun w6 h6 e6 => ST1_of s6 h6 (by simp) fun w7 h7 e7 => ST1_of s7 h7 (by simp) fun w8 h8 e8 => ?_
  have hall := effg (effg (effg (effg (effg (effg (effg e1 e2) e3) e4) e5) e6) e7) e8
  exact hK w8 (hE.own hall (by simpa using hb0)) h8 hall

theorem LD8 {b : Nat} {t0 t1 t2 t3 : Bool} {n0 n1 n2 n3 : Int} {t : TypeId} {K : Bool → Bool → Bool → Bool → Int → Int → Int → Int → Prop} (hb : w.heap[b]? = some (.cells (prL t0 t1 t2 t3 n0 n1 n2 n3).toArray t (0, 0))) (hK : K t0 t1 t2 t3 n0 n1 n2 n3) :
    LDb w ⟨b, 0, none⟩ fun t0 => LDb w ⟨b, 1, none⟩ fun t1 => LDb w ⟨b, 2, none⟩ fun t2 => LDb w ⟨b, 3, none⟩ fun t3 => LDi .i64 w ⟨b, 4, none⟩ fun n0 => LDi .i64 w ⟨b, 5, none⟩ fun n1 => LDi .i64 w ⟨b, 6, none⟩ fun n2 => LDi .i64 w ⟨b, 7, none⟩ fun n3 => K t0 t1 t2 t3 n0 n1 n2 n3 := by
  rw [LDb_of (cellH_of hb 0), LDb_of (cellH_of hb 1), LDb_of (cellH_of hb 2), LDb_of (cellH_of hb 3), LDi_of (cellH_of hb 4), LDi_of (cellH_of hb 5), LDi_of (cellH_of hb 6), LDi_of (cellH_of hb 7)]
  exact hK

/-- Where there is nothing to do. -/
theorem Step_idle (hh : HandAt w h sp sk qa 0 qc) : CALL Pg F_phand_Hand_Step [.pointer (some ⟨h, 0, none⟩)] w fun v w' => Eff w w' [] ∧ v = prV false false false false 0 0 0 0 := by
  apply C_phand_Hand_Step
  unfold D_phand_Hand_Step
  intro b1 w1 hE1 hs1 hb1
  refine (Idle_spec (hh.eff hE1)).mono fun v w2 ⟨hw, hv⟩ => ?_
  subst hw
  subst hv
  rw [BOOLV_bool, decide_eq_true rfl]
  refine ITE_intro (fun _ => ?_) (fun h => by cases h)
  refine ST8_of ⟨trivial, trivial, trivial, trivial, trivial, trivial, trivial, trivial⟩ hE1 hs1 hb1 fun w10 hE10 hb10 _ => ?_
  exact LD8 hb10 ⟨hE10, rfl⟩

theorem TUP_ib {n : Int} {t : Bool} {K : Int → Bool → Prop} : (TUPV (.tuple #[.int .i64 n, .bool t]) fun cs => GETV cs 0 fun v => INTV .i64 v fun n => GETV cs 1 fun u => BOOLV u fun t => LEN cs 2 (K n t)) = K n t := rfl

/-- Nought bytes cannot be asked for. -/
theorem Check0_spec {ca : Option Addr} {cl cc : Nat} (hc : Cfg w.heap ca cl cls) (hm : mayP c0 c1 c2 c3 cls) :
    CALL Pg F_ask_Check [cfgV c0 c1 c2 c3 ca cl cc, .agg #[.int .i64 1, .int .i64 0]] w fun v w' => Eff w w' [] ∧ v = .tuple #[.agg #[.int .i64 0, .int .i64 0], .int .i64 3] := by
  apply C_ask_Check
  unfold D_ask_Check
  have hsup := hm.sup
  intro b1 w1 hE1 hs1 hb1 b2 w2 hE2 hs2 hb2 b3 w3 hE3 hs3 hb3
  have hb13 := (hE2.trans0 hE3).obj0 hb1
  have hb23 := hE3.obj0 hb2
  have hE02 := hE1.trans0 hE2
  have hE03 := hE02.trans0 hE3
  rw [LDi_of (n := 1) (cellH_of hb23 0)]
  refine ITE_eq (fun _ => ?_) (fun h => absurd rfl h)
  rw [CFG_ld hb13, LDi_of (n := 0) (cellH_of hb23 1)]
  have h0 : classF cls 0 = (0, false) := by unfold classF; rw [if_pos (by omega)]
  refine (arena_Class_spec (hc.eff hE03) 0).mono fun v w4 ⟨hE4, hv⟩ => ?_
  subst hv
  rw [h0, TUP_ib]
  refine ITE_intro (fun h => by cases h) (fun _ => ?_)
  have hE34 := hE4
  have hE04 := hE03.trans0 hE4
  rw [CFG_ld (hE4.obj0 hb13), LDi_of (n := 0) (cellH_of (hE4.obj0 hb23) 1)]
  refine (arena_Run_spec (hc.eff hE04) (by omega) (by omega) 0).mono fun v w8 ⟨hE8, hv⟩ => ?_
  subst hv
  have hr : runF c1 cls 0 = 0 := by unfold runF; rw [h0, if_neg (by simp), if_pos (by omega)]
  rw [hr, INTV_int]
  refine ITE_d (fun h => absurd h (by omega)) (fun _ => ?_)
  refine ST2_of (w₀ := w2) trivial trivial ((hE3.trans0 hE4).trans0 hE8) hs3 ((hE4.trans0 hE8).obj0 hb3) fun w13 hE13 hb13' _ => ?_
  rw [LDi_of (n := 0) (cellH_of hb13' 0), LDi_of (n := 0) (cellH_of hb13' 1)]
  exact ⟨hE02.trans0 hE13, rfl⟩

/-- Something new that cannot be: over at once. -/
theorem begin_spec {w₀ : World} {x : Int} (hm : mayP c0 c1 c2 c3 cls) (hs : Shop w₀ sp c0 c1 c2 c3 cls) (hE0 : Eff w₀ w [])
    (hh : w.heap[h]? = some (.cells [.pointer (some ⟨sp, 0, none⟩), .int .i64 x, .pointer (some ⟨sk, 0, none⟩), .slice qa ql qc, .nilIface, .int .i64 1, .int .i64 0].toArray T_hand_Hand_hand_Hand (0, 0)))
    {p : Nat} {t1 : Bool} (hp : w.heap[p]? = some (.cells (prL true t1 false false 0 0 0 0).toArray T_hand_Progress_hand_Progress (0, 0))) (hph : p ≠ h) (hp0 : w₀.heap.size ≤ p) :
    CALL Pg F_phand_Hand_begin [.pointer (some ⟨h, 0, none⟩), .pointer (some ⟨p, 0, none⟩)] w fun v w' => v = .tuple #[] ∧ Eff w w' [p] ∧ w'.heap[p]? = some (.cells (prL true t1 true true 1 0 3 0).toArray T_hand_Progress_hand_Progress (0, 0)) := by
  apply C_phand_Hand_begin
  unfold D_phand_Hand_begin
  obtain ⟨a', c', p1, p2, p3, hsp, hsl⟩ := hs
  have hlen : cls.length ≤ 16 := hm.1.2.2
  rw [NNp, LDi_of (n := 1) (cellH_of hh 5), LDi_of (n := 0) (cellH_of hh 6), NNp]
  refine ST1_of trivial hp (by simp) fun w1 hp1 e1 => ST1_of trivial hp1 (by simp) fun w2 hp2 e2 => ?_
  have hE2 := effg e1 e2
  intro w3 hE3 _
  have hE03 : Eff w w3 [p] := (hE2.trans hE3).weak (by intro b hb _; simpa using hb)
  have hE003 : Eff w₀ w3 [] := hE0.own hE03 (by simpa using hp0)
  have hh3 := hE03.obj hh (by simpa using hph.symm)
  have hsp3 := hE003.obj0 hsp
  have hp3 := hE3.obj0 hp2
  have hc3 : Cfg w3.heap a' cls.length cls := ⟨hsl.eff hE003, by omega⟩
  rw [NNp, LDp_of (cellH_of hh3 0), NNp, LDi_of (cellH_of hsp3 0), LDi_of (cellH_of hsp3 1), LDi_of (cellH_of hsp3 2), LDi_of (cellH_of hsp3 3), LDl_of (cellH_of hsp3 4), NNp, LDi_of (n := 1) (cellH_of hh3 5), LDi_of (n := 0) (cellH_of hh3 6)]
  constructor
  · refine (Check0_spec hc3 hm).mono fun v w4 ⟨hE4, hv⟩ => ?_
    subst hv
    rw [TUP_iic]
    refine ⟨KEEP_nil, ?_⟩
    intro b6 w5 hE5 hs5 hb5
    refine ⟨KEEP_nil, ?_⟩
    refine ST2_of trivial trivial hE5 hs5 hb5 fun w7 hE7 hb7 _ => ⟨KEEP_nil, ?_⟩
    have hE37 := hE4.trans0 hE7
    have hp7 := hE37.obj0 hp3
    refine ITE_ne (fun _ => ?_) (fun h => absurd h (by decide))
    rw [NNp]
    refine ST1_of trivial hp7 (by simp) fun w8 h8 e8 => ST1_of trivial h8 (by simp) fun w9 h9 e9 => ?_
    rw [NNp]
    refine ST1_of trivial h9 (by simp) fun w10 h10 e10 => ?_
    rw [NNp]
    refine ST1_of trivial h10 (by simp) fun w11 h11 e11 => ?_
    have hall := effg (effg (effg e8 e9) e10) e11
    exact ⟨rfl, ((hE03.trans hE37).trans hall).weak (by intro b hb _; simpa using hb), h11⟩
  · intro b6 w5 hE5 hs5 hb5
    have hh5 := hE5.obj0 hh3
    have hsp5 := hE5.obj0 hsp3
    refine ⟨KEEP_cell (cellH_of hh5 0) (KEEP_cell (cellH_of hsp5 0) (KEEP_cell (cellH_of hsp5 1) (KEEP_cell (cellH_of hsp5 2) (KEEP_cell (cellH_of hsp5 3) (KEEP_cell (cellH_of hsp5 4) (KEEP_cell (cellH_of hh5 5) (KEEP_cell (cellH_of hh5 6) KEEP_nil))))))), ?_⟩
    refine (Check0_spec (hc3.eff hE5) hm).mono fun v w6 ⟨hE6, hv⟩ => ?_
    subst hv
    rw [TUP_iic]
    refine ⟨KEEP_nil, ?_⟩
    refine ST2_of trivial trivial (hE5.trans0 hE6) hs5 (hE6.obj0 hb5) fun w7 hE7 hb7 _ => ⟨KEEP_nil, ?_⟩
    have hE37 := hE7
    have hp7 := hE37.obj0 hp3
    refine ITE_ne (fun _ => ?_) (fun h => absurd h (by decide))
    rw [NNp]
    refine ST1_of trivial hp7 (by simp) fun w8 h8 e8 => ST1_of trivial h8 (by simp) fun w9 h9 e9 => ?_
    rw [NNp]
    refine ST1_of trivial h9 (by simp) fun w10 h10 e10 => ?_
    rw [NNp]
    refine ST1_of trivial h10 (by simp) fun w11 h11 e11 => ?_
    have hall := effg (effg (effg e8 e9) e10) e11
    exact ⟨rfl, ((hE03.trans hE37).trans hall).weak (by intro b hb _; simpa using hb), h11⟩

/-- A step at what cannot be. -/
theorem Step_bad {w₀ : World} (hm : mayP c0 c1 c2 c3 cls) (hs : Shop w₀ sp c0 c1 c2 c3 cls) (hE0 : Eff w₀ w []) (hh0 : w₀.heap.size ≤ h) (hh : HandAt w h sp sk qa 1 qc) (hq : SlV w.heap qa 1 [(1, 0)]) :
    CALL Pg F_phand_Hand_Step [.pointer (some ⟨h, 0, none⟩)] w fun v w' => v = prV true true true true 1 0 3 0 ∧ Eff w w' [h] ∧ ∃ qa' qc', HandAt w' h sp sk qa' 0 qc' := by
  apply C_phand_Hand_Step
  unfold D_phand_Hand_Step
  obtain ⟨ms, hu⟩ := u_job
  intro b1 w1 hE1 hs1 hb1
  have hh1 := hh.eff hE1
  refine (Idle_spec hh1).mono fun v w2 ⟨hw, hv⟩ => ?_
  subst hw
  subst hv
  rw [BOOLV_bool, decide_eq_false (by omega)]
  refine ITE_intro (fun h => by cases h) (fun _ => ?_)
  obtain ⟨x, k, n, hh1⟩ := hh1
  have hhl := obj_lt hh1
  have hhl0 : h < w.heap.size := by
    obtain ⟨_, _, _, q⟩ := hh
    exact obj_lt q
  rw [NNp, LDV_of (cellH_of hh1 4)]
  refine SILN_errnil hu ?_
  rw [BOOLV_bool]
  intro b3 w11 hE11 hs11 hb11
  have hl1 := obj_lt hb1
  refine ST8_of ⟨trivial, trivial, trivial, trivial, trivial, trivial, trivial, trivial⟩ hE11 hs11 hb11 fun w19 hE19 hb319 _ => ?_
  rw [LDb_of (cellH_of hb319 1), ITE_true]
  intro w20 hE20 _
  have hE120 := hE19.trans0 hE20
  have hE020 := hE1.trans0 hE120
  have hh20 := hE120.obj0 hh1
  have hq20 := hq.eff hE020
  have hb320 := hE20.obj0 hb319
  rw [NNp, LDl_of (cellH_of hh20 3)]
  refine IDX_v hq20 (by omega) (by omega) fun b o hc0 hc1 => ?_
  rw [LDi_of (n := 1) hc0, LDi_of (n := 0) hc1, NNp, LDl_of (cellH_of hh20 3)]
  refine SILN_l elem_iv (by omega) (by omega) ?_
  rw [SLV_slice, NNp]
  refine ST1_of trivial hh20 (by simp) fun w21 h21 e21 => ST1_of trivial h21 (by simp) fun w22 h22 e22 => ⟨KEEP_nil, ?_⟩
  rw [NNp]
  refine ST1_of trivial h22 (by simp) fun w23 h23 e23 => ⟨KEEP_nil, ?_⟩
  have hEh := effg (effg e21 e22) e23
  have hb3h : b3 ≠ h := by omega
  have hb1h : b1 ≠ h := by omega
  have hsz := hE0.size
  have hE023 : Eff w₀ w23 [] := (hE0.trans0 hE020).own hEh (by simpa using hh0)
  refine (begin_spec hm hs hE023 h23 (hEh.obj hb320 (by simpa using hb3h)) hb3h (by omega)).mono fun v w24 ⟨hv, hE24, hp24⟩ => ?_
  subst hv
  show LDb _ _ _
  rw [LDb_of (cellH_of hp24 3), ITE_true]
  have hb120 := hE120.obj0 hb1
  have hb124 := hE24.obj (hEh.obj hb120 (by simpa using hb1h)) (by simp; omega)
  have hh24 := hE24.obj h23 (by simpa using hb3h.symm)
  have hE024 : Eff w w24 [h] := by
    have q1 : Eff w w23 [h] := (hE020.trans hEh).weak (by intro b hb _; simpa using hb)
    refine (q1.trans hE24).weak ?_
    intro b hb hlt
    simp at hb ⊢
    rcases hb with q | q
    · exact q
    · omega
  refine LD8 hp24 ?_
  refine ST8_own ⟨trivial, trivial, trivial, trivial, trivial, trivial, trivial, trivial⟩ hb124 fun w32 hb132 hE32' => ?_
  refine LD8 hb132 ⟨rfl, ?_, subA qa qc 1 2, qc - 1, x, 1, 0, ?_⟩
  · refine (hE024.trans hE32').weak ?_
    intro b hb hlt
    simp at hb ⊢
    rcases hb with q | q
    · exact q
    · omega
  · exact hE32'.obj hh24 (by simpa using hb1h.symm)
end
end Go.Proofs.YthjbakeddjkdkaaGreatDoor
