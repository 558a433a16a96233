/- A shop that is opened. -/
import Derived.Test.YthjbakeddjkdkaaGreatDoorHand2
namespace Go.Proofs.YthjbakeddjkdkaaGreatDoor
open Go.Den
set_option maxRecDepth 100000
set_option maxHeartbeats 4000000

section
variable {w : World} {c0 c1 c2 c3 : Int} {ca : Option Addr} {cl cc : Nat} {cls : List Int}

theorem in_spec (n a b : Int) : CALL Pg F_conf_in_int [.int .i64 n, .int .i64 a, .int .i64 b] w fun v w' => Eff w w' [] ∧ v = .bool (decide (a ≤ n ∧ n ≤ b)) := by
  apply C_conf_in_int
  unfold D_conf_in_int
  refine ITE_d (fun h => ⟨Eff.refl _, ?_⟩) (fun h => ⟨Eff.refl _, ?_⟩)
  · rw [decide_eq_decide.2 (show n ≤ b ↔ (a ≤ n ∧ n ≤ b) by omega)]
  · rw [decide_eq_false (by omega)]

theorem Check_spec (hc : Cfg w.heap ca cl cls) (hm : mayP c0 c1 c2 c3 cls) :
    CALL Pg F_conf_Check [cfgV c0 c1 c2 c3 ca cl cc] w fun v w' => Eff w w' [] ∧ v = .int .i64 0 := by
  apply C_conf_Check
  unfold D_conf_Check
  obtain ⟨⟨hu, hk⟩, hat⟩ := hm
  unfold okU at hu
  unfold okL at hk
  have hl := hc.l_eq
  intro b1 w1 hE1 hs1 hb1
  rw [LDi_of (cellH_of hb1 0)]
  refine (in_spec c0 1 64).mono fun v w2 ⟨hE2, hv⟩ => ?_
  subst hv
  rw [BOOLV_bool, decide_eq_true (by omega)]
  refine ITE_intro (fun h => by cases h) (fun _ => ?_)
  have hb2 := hE2.obj0 hb1
  rw [LDi_of (cellH_of hb2 1)]
  refine (in_spec c1 1 64).mono fun v w3 ⟨hE3, hv⟩ => ?_
  subst hv
  rw [BOOLV_bool, decide_eq_true (by omega)]
  refine ITE_intro (fun h => by cases h) (fun _ => ?_)
  have hb3 := hE3.obj0 hb2
  rw [LDi_of (cellH_of hb3 2)]
  refine (in_spec c2 1 64).mono fun v w4 ⟨hE4, hv⟩ => ?_
  subst hv
  rw [BOOLV_bool, decide_eq_true (by omega)]
  refine ITE_intro (fun h => by cases h) (fun _ => ?_)
  have hb4 := hE4.obj0 hb3
  rw [LDi_of (cellH_of hb4 3)]
  refine (in_spec c3 0 8).mono fun v w5 ⟨hE5, hv⟩ => ?_
  subst hv
  rw [BOOLV_bool, decide_eq_true (by omega)]
  refine ITE_intro (fun h => by cases h) (fun _ => ?_)
  have hb5 := hE5.obj0 hb4
  rw [LDl_of (cellH_of hb5 4)]
  refine (in_spec cl 1 16).mono fun v w6 ⟨hE6, hv⟩ => ?_
  subst hv
  rw [BOOLV_bool, decide_eq_true (by omega)]
  refine ITE_intro (fun h => by cases h) (fun _ => ?_)
  have hb6 := hE6.obj0 hb5
  have hE06 := ((((hE1.trans0 hE2).trans0 hE3).trans0 hE4).trans0 hE5).trans0 hE6
  rw [LDl_of (cellH_of hb6 4)]
  refine LOOP_of (fun vs w' => ∃ i : Nat, vs = [.int .i64 0, .int .i64 (if i = 0 then 0 else cls.getD (i - 1) 0), .int .i64 i] ∧ i ≤ cls.length ∧ Eff w w' [])
    (fun vs _ => match vs with | [_, _, .int _ n] => cls.length - n.toNat | _ => 0) ⟨0, rfl, by omega, hE06⟩ ?_
  intro w7 v1 v2 v3 ⟨i, hv, hi, hE7⟩
  cases hv
  rw [INTV_int, INTV_int, INTV_int]
  refine ITE_d (fun h1 => ?_) (fun h1 => ⟨hE7, rfl⟩)
  refine IDX_i (hc.eff hE7).sl (by omega) h1 fun b o hcell => ?_
  rw [LDi_of hcell, Int.toNat_natCast]
  have := hat i (by omega)
  unfold okAt at this
  obtain ⟨q1, q2, q3, q4⟩ := this
  refine ITE_d (fun h2 => ?_) (fun _ => ?_)
  · exfalso
    split at h2
    · omega
    · rcases q4 with h | h
      · exact absurd h (by assumption)
      · omega
  refine ITE_d (fun h2 => by omega) (fun _ => ?_)
  refine NZ_of (by omega) (BINDx (Int.tmod_eq_emod_of_nonneg (by omega)) ?_)
  refine ITE_ne (fun h2 => absurd q3 h2) (fun _ => ?_)
  exact BINDw (by omega) (by omega) ⟨⟨i + 1, by rw [if_neg (by omega)]; rfl, by omega, hE7⟩, by first | omega | (dsimp only; omega)⟩

/-- A shop in block b: its settings, with classes of its own; what else it has nobody reads here. -/
def Shop (w : World) (b : Nat) (c0 c1 c2 c3 : Int) (cls : List Int) : Prop :=
  ∃ a' c' p1 p2 p3, w.heap[b]? = some (.cells [.int .i64 c0, .int .i64 c1, .int .i64 c2, .int .i64 c3, .slice a' cls.length c', .pointer p1, .pointer p2, .pointer p3].toArray T_ask_Shop_ask_Shop (0, 0)) ∧ SlI w.heap a' cls.length cls
theorem Shop.eff {w' : World} {b : Nat} (h : Shop w b c0 c1 c2 c3 cls) (hE : Eff w w' []) : Shop w' b c0 c1 c2 c3 cls := by
  obtain ⟨a', c', p1, p2, p3, h1, h2⟩ := h
  exact ⟨a', c', p1, p2, p3, hE.obj0 h1, h2.eff hE⟩

theorem Open_spec (hf : Fld w) (hc : Cfg w.heap ca cl cls) (hm : mayP c0 c1 c2 c3 cls) :
    CALL Pg F_ask_Open [cfgV c0 c1 c2 c3 ca cl cc] w fun v w' => Eff w w' [] ∧ ∃ b, v = .tuple #[.pointer (some ⟨b, 0, none⟩), .int .i64 0] ∧ Shop w' b c0 c1 c2 c3 cls ∧ w.heap.size ≤ b := by
  apply C_ask_Open
  unfold D_ask_Open
  have hm' := hm
  obtain ⟨⟨hu, hk⟩, hat⟩ := hm'
  unfold okU at hu
  unfold okL at hk
  have hl := hc.l_eq
  intro b1 w1 hE1 hs1 hb1
  rw [CFG_ld hb1]
  refine (Check_spec (hc.eff hE1) hm).mono fun v w2 ⟨hE2, hv⟩ => ?_
  subst hv
  rw [INTV_int]
  refine ITE_ne (fun h => absurd rfl h) (fun _ => ?_)
  have hE02 := hE1.trans0 hE2
  have hb12 := hE2.obj0 hb1
  rw [CFG_ld hb12]
  refine (conf_Copy_spec (hc.eff hE02) (by omega)).mono fun v w3 ⟨hE3, a3, k3, hv, ho3, hn3⟩ => ?_
  subst hv
  rw [AGG_cfg]
  have hE03 := hE02.trans0 hE3
  have hb13 := hE3.obj0 hb12
  have hl1 := obj_lt hb12
  refine ST5_of trivial trivial trivial trivial trivial hE03 hs1 hb13 fun w8 hE8 hb18 hE8' => ?_
  have hsl8 : SlI w8.heap a3 cls.length cls := (OwI.sl (own_eff ho3 hE8' (fun b hb => by have := hn3 b hb; simp; omega))).2
  have hc8 : Cfg w8.heap a3 cls.length cls := ⟨hsl8, by omega⟩
  rw [CFG_ld hb18]
  refine (heart_New_spec hc8 (by omega)).mono fun v w9 ⟨hE9, a9, k9, hv⟩ => ?_
  subst hv
  rw [AGG_cfg]
  have hE09 := hE8.trans0 hE9
  have hb19 := hE9.obj0 hb18
  intro b2 w10 hE10 hs10 hb10
  refine ST5_of trivial trivial trivial trivial trivial hE10 hs10 hb10 fun w15 hE15 hb215 _ => ?_
  have hE015 := hE09.trans0 hE15
  have hb115 := hE15.obj0 hb19
  rw [CFG_ld hb215, LDi_of (cellH_of hb115 0)]
  refine (hall_Size_spec (by omega) (by omega)).mono fun v w16 ⟨hE16, hv⟩ => ?_
  subst hv
  rw [INTV_int]
  have hE016 := hE015.trans0 hE16
  have hb116 := hE16.obj0 hb115
  rw [CFG_ld hb116]
  refine (live_Size_spec (by omega)).mono fun v w17 ⟨hE17, hv⟩ => ?_
  subst hv
  rw [INTV_int]
  have hE017 := hE016.trans0 hE17
  have hb117 := hE17.obj0 hb116
  have hb217 := (hE16.trans0 hE17).obj0 hb215
  have hbnd : 2 * c0 * (2 * c1 + 3 * c0) ≤ 128 * 320 := Int.mul_le_mul (by omega) (by omega) (by omega) (by omega)
  have hpos : 0 ≤ 2 * c0 * (2 * c1 + 3 * c0) := Int.mul_nonneg (by omega) (by omega)
  refine BINDw (by omega) (by omega) ?_
  obtain ⟨n, hn⟩ : ∃ n : Nat, 1 + 4 * c0 + 2 * c0 * (2 * c1 + 3 * c0) + c1 * 64 = n := ⟨(1 + 4 * c0 + 2 * c0 * (2 * c1 + 3 * c0) + c1 * 64).toNat, by omega⟩
  rw [hn]
  refine (mem_New_spec (n := n) (by omega)).mono fun v w18 ⟨hE18, m, g, hv, hm18, hg18, hM⟩ => ?_
  subst hv
  rw [PTRV_ptr]
  intro w19 hE19 _
  have hE1719 := hE18.trans0 hE19
  have hE019 := hE017.trans0 hE1719
  have hb119 := hE1719.obj0 hb117
  have hb219 := hE1719.obj0 hb217
  have hM19 := hM.eff hE19
  rw [CFG_ld hb119, LDi_of (cellH_of hb119 0), LDi_of (cellH_of hb119 3), CFG_ld hb219, CFG_ld hb119]
  obtain ⟨x0, hx0⟩ : ∃ x : Nat, c0 = x := ⟨c0.toNat, by omega⟩
  have hnew := hall_New_spec (c0 := c0) (c1 := c1) (c2 := c2) (c3 := c3) (ca := a9) (cl := cls.length) (cc := k9) (hf.eff hE019) hM19 (by omega) (x := x0) (by omega) c3
  rw [← hx0] at hnew
  refine hnew.mono fun v w20 ⟨hE20, p, hv⟩ => ?_
  subst hv
  rw [PTRV_ptr]
  have hsz17 := hE017.size
  have hE020 : Eff w w20 [] := hE019.own hE20 (by simp; omega)
  have hl119 := obj_lt hb117
  have hne : b1 ∉ [m, g] := by simp; omega
  have hb120 := hE20.obj hb119 hne
  have hE8_17 : Eff w8 w17 [] := (((hE9.trans0 hE15).trans0 hE16).trans0 hE17)
  have hE8_20 : Eff w8 w20 [] := (hE8_17.trans0 hE1719).own hE20 (by have := hE8_17.size; simp; omega)
  have hc20 := hc8.eff hE8_20
  refine ⟨?_, ?_⟩
  · obtain ⟨f0, f1, f2, f3, f4⟩ := cfg_cells hb120
    exact KEEP_cell f0 (KEEP_cell f1 (KEEP_cell f2 (KEEP_cell f3 (KEEP_cell f4 (KEEP_cell f0 (KEEP_cell f1 (KEEP_cell f2 (KEEP_cell f3 (KEEP_cell f4 KEEP_nil)))))))))
  refine (live_New_spec hc20 (by omega) _ _).mono fun v w21 ⟨hE21, q, hv⟩ => ?_
  subst hv
  rw [PTRV_ptr]
  have hb121 := hE21.obj0 hb120
  refine ⟨KEEP_cfg hb121, ?_⟩
  intro b3 w22 hE22 hs22 hb22
  have hE021 := hE020.trans0 hE21
  refine ⟨KEEP_nil, hE021.trans0 hE22, b3, rfl, ⟨a3, k3, _, _, _, hb22, ((hc20.eff (hE21.trans0 hE22)).sl)⟩, by have := hE021.size; omega⟩
end
end Go.Proofs.YthjbakeddjkdkaaGreatDoor
