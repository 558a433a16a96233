/- What the evaluator asks of each function, in readable form: printed by a program of this claim's own. -/
import Derived.Test.YtpopdookpbmmpaaN
import Derived.Test.YtpopdookpbmmpaaDen
namespace Go.Proofs.Ytpopdookpbmmpaa
open Go.Den
set_option linter.unusedVariables false
set_option maxRecDepth 1000000
def D_l22_speaks (w : World) (K : Value → World → Prop) : Prop :=
  NEW w [.int .i64 16] T_int fun b_1 w_1 =>
  NEW w_1 [.int .i64 0, .int .i64 0, .int .i64 0, .int .i64 0, .slice none 0 0] T_api_Config_api_Config fun b_2 w_2 =>
  ST1 w_2 ⟨b_2, 0, none⟩ (.int .i64 1) fun w_3 =>
  ST1 w_3 ⟨b_2, 1, none⟩ (.int .i64 1) fun w_4 =>
  ST1 w_4 ⟨b_2, 2, none⟩ (.int .i64 1) fun w_5 =>
  ST1 w_5 ⟨b_2, 3, none⟩ (.int .i64 0) fun w_6 =>
  ST1 w_6 ⟨b_2, 4, none⟩ (.slice (some ⟨b_1, 0, none⟩) 1 1) fun w_7 =>
  NEW w_7 [.int .i64 0, .int .i64 0] T_api_Request_api_Request fun b_3 w_8 =>
  ST1 w_8 ⟨b_3, 0, none⟩ (.int .i64 1) fun w_9 =>
  ST1 w_9 ⟨b_3, 1, none⟩ (.int .i64 16) fun w_10 =>
  LDi .i64 w_10 ⟨b_2, 0, none⟩ fun n_1 =>
  LDi .i64 w_10 ⟨b_2, 1, none⟩ fun n_2 =>
  LDi .i64 w_10 ⟨b_2, 2, none⟩ fun n_3 =>
  LDi .i64 w_10 ⟨b_2, 3, none⟩ fun n_4 =>
  LDl w_10 ⟨b_2, 4, none⟩ fun a_1 l_1 c_1 =>
  LDi .i64 w_10 ⟨b_3, 0, none⟩ fun n_5 =>
  LDi .i64 w_10 ⟨b_3, 1, none⟩ fun n_6 =>
  LDi .i64 w_10 ⟨b_3, 0, none⟩ fun n_7 =>
  LDi .i64 w_10 ⟨b_3, 1, none⟩ fun n_8 =>
  NEW w_10 [.int .i64 0, .int .i64 n_5, .int .i64 n_6, .int .i64 0, .int .i64 65536, .int .i64 0, .int .i64 0, .int .i64 1, .int .i64 0, .int .i64 0, .int .i64 n_7, .int .i64 n_8, .int .i64 0, .int .i64 65536, .int .i64 0, .int .i64 0, .int .i64 2, .int .i64 0] T_api_Event_api_Event fun b_4 w_11 =>
  CALL Pg F_model_Replay [.agg #[.int .i64 n_1, .int .i64 n_2, .int .i64 n_3, .int .i64 n_4, .slice a_1 l_1 c_1], .slice (some ⟨b_4, 0, none⟩) 2 2] w_11 fun v_1 w_12 =>
  TUPV v_1 fun cs_1 =>
  GETV cs_1 0 fun v_2 =>
  PTRV v_2 fun q_1 =>
  GETV cs_1 1 fun v_3 =>
  INTV .i64 v_3 fun n_9 =>
  LEN cs_1 2 (
  ITE (n_9 == 1) (
   SILN Pg (binE BinOp.neq T_pmodel_Model (Operand.tmp 23) (Operand.const (.pointer none)) (.pointer q_1) (.pointer none)) fun v_4 =>
   BOOLV v_4 fun t_1 =>
   ITE (t_1) (
    CALL Pg F_pmodel_Model_Bytes [.pointer q_1] w_12 fun v_5 w_13 =>
    INTV .i64 v_5 fun n_10 =>
    ITE (n_10 == 16) (
     CALL Pg F_pmodel_Model_Live [.pointer q_1] w_13 fun v_6 w_14 =>
     SLV v_6 fun _ l_2 _ =>
     ITE ((↑l_2 : Int) == 1) (
      CALL Pg F_pmodel_Model_Do [.pointer q_1, .agg #[.int .i64 2, .int .i64 65536], .agg #[.int .i64 0, .int .i64 16]] w_14 fun v_7 w_15 =>
      BOOLV v_7 fun t_2 =>
      ITE (t_2) (
       CALL Pg F_pmodel_Model_Bytes [.pointer q_1] w_15 fun v_8 w_16 =>
       INTV .i64 v_8 fun n_11 =>
       K (.bool (n_11 == 0)) w_16) (
       K (.bool false) w_15)) (
      K (.bool false) w_14)) (
     K (.bool false) w_13)) (
    K (.bool false) w_12)) (
   K (.bool false) w_12))
theorem E_l22_speaks (w : World) (K : Value → World → Prop) :
    D_l22_speaks w K = vcFn Pg Try.f38 [] [] w K := by kernel_rfl
theorem C_l22_speaks {w : World} {K : Value → World → Prop} (h : D_l22_speaks w K) :
    CALL Pg F_l22_speaks [] w K :=
  call_of_vc [] Try.func38 rfl (Nat.le_of_ble_eq_true (by kernel_rfl)) ((E_l22_speaks w K) ▸ h)
def D_l22_ModelDoes (c0 : Int) (c1 : Int) (c2 : Int) (c3 : Int) (c4a : Option Addr) (c4l : Nat) (c4c : Nat) (actsa : Option Addr) (actsl : Nat) (actsc : Nat) (w : World) (K : Value → World → Prop) : Prop :=
  NEW w [.int .i64 c0, .int .i64 c1, .int .i64 c2, .int .i64 c3, .slice c4a c4l c4c] T_api_Config_api_Config fun b_1 w_1 =>
  CALL Pg F_l22_speaks [] w_1 fun v_1 w_2 =>
  BOOLV v_1 fun t_1 =>
  ITE (!t_1) (
   K (.bool false) w_2) (
   LDi .i64 w_2 ⟨b_1, 0, none⟩ fun n_1 =>
   LDi .i64 w_2 ⟨b_1, 1, none⟩ fun n_2 =>
   LDi .i64 w_2 ⟨b_1, 2, none⟩ fun n_3 =>
   LDi .i64 w_2 ⟨b_1, 3, none⟩ fun n_4 =>
   LDl w_2 ⟨b_1, 4, none⟩ fun a_1 l_1 c_1 =>
   CALL Pg F_r04_May [.agg #[.int .i64 n_1, .int .i64 n_2, .int .i64 n_3, .int .i64 n_4, .slice a_1 l_1 c_1]] w_2 fun v_2 w_3 =>
   BOOLV v_2 fun t_2 =>
   ITE (!t_2) (
    K (.bool true) w_3) (
    ITE (decide ((↑actsl : Int) > 100)) (
     K (.bool true) w_3) (
     LDi .i64 w_3 ⟨b_1, 0, none⟩ fun n_5 =>
     LDi .i64 w_3 ⟨b_1, 1, none⟩ fun n_6 =>
     LDi .i64 w_3 ⟨b_1, 2, none⟩ fun n_7 =>
     LDi .i64 w_3 ⟨b_1, 3, none⟩ fun n_8 =>
     LDl w_3 ⟨b_1, 4, none⟩ fun a_2 l_2 c_2 =>
     CALL Pg F_model_New [.agg #[.int .i64 n_5, .int .i64 n_6, .int .i64 n_7, .int .i64 n_8, .slice a_2 l_2 c_2]] w_3 fun v_3 w_4 =>
     PTRV v_3 fun q_1 =>
     LOOP [.slice none 0 0, .bool false, .int .i64 0] w_4 fun I_1 N_1 =>
     ∀ w_5 : World,
     ∀ v_4 : Value,
     ∀ v_5 : Value,
     ∀ v_6 : Value,
     (I_1 [v_4, v_5, v_6] w_5 →
     INTV .i64 v_6 fun n_9 =>
     BOOLV v_5 fun t_3 =>
     SLV v_4 fun a_3 l_3 c_3 =>
     ITE (decide (n_9 < (↑actsl : Int))) (
      IDX actsa actsl n_9 4 fun b_2 o_1 =>
      LDi .i64 w_5 ⟨b_2, o_1, none⟩ fun n_10 =>
      LDi .i64 w_5 ⟨b_2, o_1 + 1, none⟩ fun n_11 =>
      LDi .i64 w_5 ⟨b_2, o_1 + 2, none⟩ fun n_12 =>
      LDi .i64 w_5 ⟨b_2, o_1 + 3, none⟩ fun n_13 =>
      NEW w_5 [.int .i64 0, .int .i64 0, .int .i64 0, .int .i64 0] T_chandlerylaw22_Act_l22_Act fun b_3 w_6 =>
      ST1 w_6 ⟨b_3, 0, none⟩ (.int .i64 n_10) fun w_7 =>
      ST1 w_7 ⟨b_3, 1, none⟩ (.int .i64 n_11) fun w_8 =>
      ST1 w_8 ⟨b_3, 2, none⟩ (.int .i64 n_12) fun w_9 =>
      ST1 w_9 ⟨b_3, 3, none⟩ (.int .i64 n_13) fun w_10 =>
      LDi .i64 w_10 ⟨b_1, 0, none⟩ fun n_14 =>
      LDi .i64 w_10 ⟨b_1, 1, none⟩ fun n_15 =>
      LDi .i64 w_10 ⟨b_1, 2, none⟩ fun n_16 =>
      LDi .i64 w_10 ⟨b_1, 3, none⟩ fun n_17 =>
      LDl w_10 ⟨b_1, 4, none⟩ fun a_4 l_4 c_4 =>
      LDi .i64 w_10 ⟨b_3, 0, none⟩ fun n_18 =>
      LDi .i64 w_10 ⟨b_3, 1, none⟩ fun n_19 =>
      LDi .i64 w_10 ⟨b_3, 2, none⟩ fun n_20 =>
      LDi .i64 w_10 ⟨b_3, 3, none⟩ fun n_21 =>
      CALL Pg F_r22_Do [.agg #[.int .i64 n_14, .int .i64 n_15, .int .i64 n_16, .int .i64 n_17, .slice a_4 l_4 c_4], .slice a_3 l_3 c_3, .agg #[.int .i64 n_18, .int .i64 n_19], .agg #[.int .i64 n_20, .int .i64 n_21]] w_10 fun v_7 w_11 =>
      TUPV v_7 fun cs_1 =>
      GETV cs_1 0 fun v_8 =>
      SLV v_8 fun a_5 l_5 c_5 =>
      GETV cs_1 1 fun v_9 =>
      BOOLV v_9 fun t_4 =>
      LEN cs_1 2 (
      JOIN fun J_1 =>
      ((
       JOIN fun J_2 =>
       ((
        J_2 [.bool t_4] w_11) ∧
        ∀ w_12 : World,
        ∀ v_10 : Value,
        (J_2 [v_10] w_12 →
        BOOLV v_10 fun t_5 =>
        ITE (t_5) (
         J_1 [.slice a_5 l_5 c_5] w_12) (
         J_1 [.slice a_3 l_3 c_3] w_12)))) ∧
       ∀ w_13 : World,
       ∀ v_11 : Value,
       (J_1 [v_11] w_13 →
       SLV v_11 fun a_6 l_6 c_6 =>
       LDi .i64 w_13 ⟨b_3, 0, none⟩ fun n_22 =>
       LDi .i64 w_13 ⟨b_3, 1, none⟩ fun n_23 =>
       LDi .i64 w_13 ⟨b_3, 2, none⟩ fun n_24 =>
       LDi .i64 w_13 ⟨b_3, 3, none⟩ fun n_25 =>
       CALL Pg F_pmodel_Model_Do [.pointer q_1, .agg #[.int .i64 n_22, .int .i64 n_23], .agg #[.int .i64 n_24, .int .i64 n_25]] w_13 fun v_12 w_14 =>
       BOOLV v_12 fun t_6 =>
       ITE (!t_6 == t_4) (
        K (.bool false) w_14) (
        CALL Pg F_pmodel_Model_Live [.pointer q_1] w_14 fun v_13 w_15 =>
        SLV v_13 fun a_7 l_7 c_7 =>
        CALL Pg F_l22_same [.slice a_7 l_7 c_7, .slice a_6 l_6 c_6] w_15 fun v_14 w_16 =>
        BOOLV v_14 fun t_7 =>
        ITE (!t_7) (
         K (.bool false) w_16) (
         BIND (IntKind.i64.wrap (n_9 + 1)) fun n_26 =>
         N_1 [v_4, v_5, v_6] w_5 [.slice a_6 l_6 c_6, .bool t_3, .int .i64 n_26] w_16)))))) (
      LOOP [.int .i64 0, .int .i64 0] w_5 fun I_2 N_2 =>
      ∀ w_17 : World,
      ∀ v_15 : Value,
      ∀ v_16 : Value,
      (I_2 [v_15, v_16] w_17 →
      INTV .i64 v_16 fun n_27 =>
      INTV .i64 v_15 fun n_28 =>
      ITE (decide (n_27 < (↑l_3 : Int))) (
       IDX a_3 l_3 n_27 2 fun b_4 o_2 =>
       LDi .i64 w_17 ⟨b_4, o_2, none⟩ fun n_29 =>
       LDi .i64 w_17 ⟨b_4, o_2 + 1, none⟩ fun n_30 =>
       NEW w_17 [.int .i64 0, .int .i64 0] T_api_Interval_api_Interval fun b_5 w_18 =>
       ST1 w_18 ⟨b_5, 0, none⟩ (.int .i64 n_29) fun w_19 =>
       ST1 w_19 ⟨b_5, 1, none⟩ (.int .i64 n_30) fun w_20 =>
       LDi .i64 w_20 ⟨b_5, 1, none⟩ fun n_31 =>
       BIND (IntKind.i64.wrap (n_28 + n_31)) fun n_32 =>
       BIND (IntKind.i64.wrap (n_27 + 1)) fun n_33 =>
       N_2 [v_15, v_16] w_17 [.int .i64 n_32, .int .i64 n_33] w_20) (
       CALL Pg F_pmodel_Model_Bytes [.pointer q_1] w_17 fun v_17 w_21 =>
       INTV .i64 v_17 fun n_34 =>
       K (.bool (n_34 == n_28)) w_21)))))))
theorem E_l22_ModelDoes (c0 : Int) (c1 : Int) (c2 : Int) (c3 : Int) (c4a : Option Addr) (c4l : Nat) (c4c : Nat) (actsa : Option Addr) (actsl : Nat) (actsc : Nat) (w : World) (K : Value → World → Prop) :
    D_l22_ModelDoes c0 c1 c2 c3 c4a c4l c4c actsa actsl actsc w K = vcFn Pg Try.f12 [11] [.agg #[.int .i64 c0, .int .i64 c1, .int .i64 c2, .int .i64 c3, .slice c4a c4l c4c], .slice actsa actsl actsc] w K := by kernel_rfl
theorem C_l22_ModelDoes {c0 : Int} {c1 : Int} {c2 : Int} {c3 : Int} {c4a : Option Addr} {c4l : Nat} {c4c : Nat} {actsa : Option Addr} {actsl : Nat} {actsc : Nat} {w : World} {K : Value → World → Prop} (h : D_l22_ModelDoes c0 c1 c2 c3 c4a c4l c4c actsa actsl actsc w K) :
    CALL Pg F_l22_ModelDoes [.agg #[.int .i64 c0, .int .i64 c1, .int .i64 c2, .int .i64 c3, .slice c4a c4l c4c], .slice actsa actsl actsc] w K :=
  call_of_vc [11] Try.func12 rfl (Nat.le_of_ble_eq_true (by kernel_rfl)) ((E_l22_ModelDoes c0 c1 c2 c3 c4a c4l c4c actsa actsl actsc w K) ▸ h)
def D_l22_ModelReplays (c0 : Int) (c1 : Int) (c2 : Int) (c3 : Int) (c4a : Option Addr) (c4l : Nat) (c4c : Nat) (la : Option Addr) (ll : Nat) (lc : Nat) (w : World) (K : Value → World → Prop) : Prop :=
  NEW w [.int .i64 c0, .int .i64 c1, .int .i64 c2, .int .i64 c3, .slice c4a c4l c4c] T_api_Config_api_Config fun b_1 w_1 =>
  CALL Pg F_l22_speaks [] w_1 fun v_1 w_2 =>
  BOOLV v_1 fun t_1 =>
  ITE (!t_1) (
   K (.bool false) w_2) (
   LDi .i64 w_2 ⟨b_1, 0, none⟩ fun n_1 =>
   LDi .i64 w_2 ⟨b_1, 1, none⟩ fun n_2 =>
   LDi .i64 w_2 ⟨b_1, 2, none⟩ fun n_3 =>
   LDi .i64 w_2 ⟨b_1, 3, none⟩ fun n_4 =>
   LDl w_2 ⟨b_1, 4, none⟩ fun a_1 l_1 c_1 =>
   CALL Pg F_r04_May [.agg #[.int .i64 n_1, .int .i64 n_2, .int .i64 n_3, .int .i64 n_4, .slice a_1 l_1 c_1]] w_2 fun v_2 w_3 =>
   BOOLV v_2 fun t_2 =>
   ITE (!t_2) (
    K (.bool true) w_3) (
    ITE (decide ((↑ll : Int) > 60)) (
     K (.bool true) w_3) (
     LDi .i64 w_3 ⟨b_1, 0, none⟩ fun n_5 =>
     LDi .i64 w_3 ⟨b_1, 1, none⟩ fun n_6 =>
     LDi .i64 w_3 ⟨b_1, 2, none⟩ fun n_7 =>
     LDi .i64 w_3 ⟨b_1, 3, none⟩ fun n_8 =>
     LDl w_3 ⟨b_1, 4, none⟩ fun a_2 l_2 c_2 =>
     CALL Pg F_model_Replay [.agg #[.int .i64 n_5, .int .i64 n_6, .int .i64 n_7, .int .i64 n_8, .slice a_2 l_2 c_2], .slice la ll lc] w_3 fun v_3 w_4 =>
     TUPV v_3 fun cs_1 =>
     GETV cs_1 0 fun v_4 =>
     PTRV v_4 fun q_1 =>
     GETV cs_1 1 fun v_5 =>
     INTV .i64 v_5 fun n_9 =>
     LEN cs_1 2 (
     LDi .i64 w_4 ⟨b_1, 0, none⟩ fun n_10 =>
     LDi .i64 w_4 ⟨b_1, 1, none⟩ fun n_11 =>
     LDi .i64 w_4 ⟨b_1, 2, none⟩ fun n_12 =>
     LDi .i64 w_4 ⟨b_1, 3, none⟩ fun n_13 =>
     LDl w_4 ⟨b_1, 4, none⟩ fun a_3 l_3 c_3 =>
     CALL Pg F_r22_Replay [.agg #[.int .i64 n_10, .int .i64 n_11, .int .i64 n_12, .int .i64 n_13, .slice a_3 l_3 c_3], .slice la ll lc] w_4 fun v_6 w_5 =>
     TUPV v_6 fun cs_2 =>
     GETV cs_2 0 fun v_7 =>
     SLV v_7 fun a_4 l_4 c_4 =>
     GETV cs_2 1 fun v_8 =>
     INTV .i64 v_8 fun n_14 =>
     LEN cs_2 2 (
     SILN Pg (binE BinOp.neq T_pmodel_Model (Operand.tmp 31) (Operand.const (.pointer none)) (.pointer q_1) (.pointer none)) fun v_9 =>
     BOOLV v_9 fun t_3 =>
     ITE (t_3) (
      ITE (n_9 == n_14) (
       CALL Pg F_pmodel_Model_Live [.pointer q_1] w_5 fun v_10 w_6 =>
       SLV v_10 fun a_5 l_5 c_5 =>
       CALL Pg F_l22_same [.slice a_5 l_5 c_5, .slice a_4 l_4 c_4] w_6 fun v_11 w_7 =>
       BOOLV v_11 fun t_4 =>
       K (.bool t_4) w_7) (
       K (.bool false) w_5)) (
      K (.bool false) w_5))))))
theorem E_l22_ModelReplays (c0 : Int) (c1 : Int) (c2 : Int) (c3 : Int) (c4a : Option Addr) (c4l : Nat) (c4c : Nat) (la : Option Addr) (ll : Nat) (lc : Nat) (w : World) (K : Value → World → Prop) :
    D_l22_ModelReplays c0 c1 c2 c3 c4a c4l c4c la ll lc w K = vcFn Pg Try.f13 [] [.agg #[.int .i64 c0, .int .i64 c1, .int .i64 c2, .int .i64 c3, .slice c4a c4l c4c], .slice la ll lc] w K := by kernel_rfl
theorem C_l22_ModelReplays {c0 : Int} {c1 : Int} {c2 : Int} {c3 : Int} {c4a : Option Addr} {c4l : Nat} {c4c : Nat} {la : Option Addr} {ll : Nat} {lc : Nat} {w : World} {K : Value → World → Prop} (h : D_l22_ModelReplays c0 c1 c2 c3 c4a c4l c4c la ll lc w K) :
    CALL Pg F_l22_ModelReplays [.agg #[.int .i64 c0, .int .i64 c1, .int .i64 c2, .int .i64 c3, .slice c4a c4l c4c], .slice la ll lc] w K :=
  call_of_vc [] Try.func13 rfl (Nat.le_of_ble_eq_true (by kernel_rfl)) ((E_l22_ModelReplays c0 c1 c2 c3 c4a c4l c4c la ll lc w K) ▸ h)
def D_l22_ModelUndoes (c0 : Int) (c1 : Int) (c2 : Int) (c3 : Int) (c4a : Option Addr) (c4l : Nat) (c4c : Nat) (actsa : Option Addr) (actsl : Nat) (actsc : Nat) (x0 : Int) (x1 : Int) (x2 : Int) (x3 : Int) (w : World) (K : Value → World → Prop) : Prop :=
  NEW w [.int .i64 c0, .int .i64 c1, .int .i64 c2, .int .i64 c3, .slice c4a c4l c4c] T_api_Config_api_Config fun b_1 w_1 =>
  NEW w_1 [.int .i64 x0, .int .i64 x1, .int .i64 x2, .int .i64 x3] T_chandlerylaw22_Act_l22_Act fun b_2 w_2 =>
  CALL Pg F_l22_speaks [] w_2 fun v_1 w_3 =>
  BOOLV v_1 fun t_1 =>
  ITE (!t_1) (
   K (.bool false) w_3) (
   LDi .i64 w_3 ⟨b_1, 0, none⟩ fun n_1 =>
   LDi .i64 w_3 ⟨b_1, 1, none⟩ fun n_2 =>
   LDi .i64 w_3 ⟨b_1, 2, none⟩ fun n_3 =>
   LDi .i64 w_3 ⟨b_1, 3, none⟩ fun n_4 =>
   LDl w_3 ⟨b_1, 4, none⟩ fun a_1 l_1 c_1 =>
   CALL Pg F_r04_May [.agg #[.int .i64 n_1, .int .i64 n_2, .int .i64 n_3, .int .i64 n_4, .slice a_1 l_1 c_1]] w_3 fun v_2 w_4 =>
   BOOLV v_2 fun t_2 =>
   ITE (!t_2) (
    K (.bool true) w_4) (
    ITE (decide ((↑actsl : Int) > 60)) (
     K (.bool true) w_4) (
     LDi .i64 w_4 ⟨b_1, 0, none⟩ fun n_5 =>
     LDi .i64 w_4 ⟨b_1, 1, none⟩ fun n_6 =>
     LDi .i64 w_4 ⟨b_1, 2, none⟩ fun n_7 =>
     LDi .i64 w_4 ⟨b_1, 3, none⟩ fun n_8 =>
     LDl w_4 ⟨b_1, 4, none⟩ fun a_2 l_2 c_2 =>
     CALL Pg F_model_New [.agg #[.int .i64 n_5, .int .i64 n_6, .int .i64 n_7, .int .i64 n_8, .slice a_2 l_2 c_2]] w_4 fun v_3 w_5 =>
     PTRV v_3 fun q_1 =>
     LOOP [.int .i64 0] w_5 fun I_1 N_1 =>
     ∀ w_6 : World,
     ∀ v_4 : Value,
     (I_1 [v_4] w_6 →
     INTV .i64 v_4 fun n_9 =>
     ITE (decide (n_9 < (↑actsl : Int))) (
      IDX actsa actsl n_9 4 fun b_3 o_1 =>
      LDi .i64 w_6 ⟨b_3, o_1, none⟩ fun n_10 =>
      LDi .i64 w_6 ⟨b_3, o_1 + 1, none⟩ fun n_11 =>
      LDi .i64 w_6 ⟨b_3, o_1 + 2, none⟩ fun n_12 =>
      LDi .i64 w_6 ⟨b_3, o_1 + 3, none⟩ fun n_13 =>
      NEW w_6 [.int .i64 0, .int .i64 0, .int .i64 0, .int .i64 0] T_chandlerylaw22_Act_l22_Act fun b_4 w_7 =>
      ST1 w_7 ⟨b_4, 0, none⟩ (.int .i64 n_10) fun w_8 =>
      ST1 w_8 ⟨b_4, 1, none⟩ (.int .i64 n_11) fun w_9 =>
      ST1 w_9 ⟨b_4, 2, none⟩ (.int .i64 n_12) fun w_10 =>
      ST1 w_10 ⟨b_4, 3, none⟩ (.int .i64 n_13) fun w_11 =>
      LDi .i64 w_11 ⟨b_4, 0, none⟩ fun n_14 =>
      LDi .i64 w_11 ⟨b_4, 1, none⟩ fun n_15 =>
      LDi .i64 w_11 ⟨b_4, 2, none⟩ fun n_16 =>
      LDi .i64 w_11 ⟨b_4, 3, none⟩ fun n_17 =>
      CALL Pg F_pmodel_Model_Do [.pointer q_1, .agg #[.int .i64 n_14, .int .i64 n_15], .agg #[.int .i64 n_16, .int .i64 n_17]] w_11 fun v_5 w_12 =>
      BOOLV v_5 fun _ =>
      BIND (IntKind.i64.wrap (n_9 + 1)) fun n_18 =>
      N_1 [v_4] w_6 [.int .i64 n_18] w_12) (
      CALL Pg F_pmodel_Model_Live [.pointer q_1] w_6 fun v_6 w_13 =>
      SLV v_6 fun a_3 l_3 _ =>
      JOIN fun J_1 =>
      ((
       JOIN fun J_2 =>
       ((
        LDi .i64 w_13 ⟨b_2, 0, none⟩ fun n_19 =>
        LDi .i64 w_13 ⟨b_2, 1, none⟩ fun n_20 =>
        LDi .i64 w_13 ⟨b_2, 2, none⟩ fun n_21 =>
        LDi .i64 w_13 ⟨b_2, 3, none⟩ fun n_22 =>
        CALL Pg F_pmodel_Model_Do [.pointer q_1, .agg #[.int .i64 n_19, .int .i64 n_20], .agg #[.int .i64 n_21, .int .i64 n_22]] w_13 fun v_7 w_14 =>
        BOOLV v_7 fun t_4 =>
        ITE (t_4) (
         LDi .i64 w_14 ⟨b_2, 0, none⟩ fun n_23 =>
         ITE (n_23 == 1) (
          LDi .i64 w_14 ⟨b_2, 2, none⟩ fun n_24 =>
          J_2 [.bool (n_24 == 0)] w_14) (
          J_2 [.bool false] w_14)) (
         J_2 [.bool false] w_14)) ∧
        ∀ w_15 : World,
        ∀ v_8 : Value,
        (J_2 [v_8] w_15 →
        BOOLV v_8 fun t_5 =>
        ITE (t_5) (
         LDi .i64 w_15 ⟨b_1, 0, none⟩ fun n_25 =>
         LDi .i64 w_15 ⟨b_1, 1, none⟩ fun n_26 =>
         LDi .i64 w_15 ⟨b_1, 2, none⟩ fun n_27 =>
         LDi .i64 w_15 ⟨b_1, 3, none⟩ fun n_28 =>
         LDl w_15 ⟨b_1, 4, none⟩ fun a_4 l_4 c_4 =>
         LDi .i64 w_15 ⟨b_2, 1, none⟩ fun n_29 =>
         CALL Pg F_r22_Size [.agg #[.int .i64 n_25, .int .i64 n_26, .int .i64 n_27, .int .i64 n_28, .slice a_4 l_4 c_4], .int .i64 n_29] w_15 fun v_9 w_16 =>
         INTV .i64 v_9 fun n_30 =>
         JOIN fun J_3 =>
         ((
          CALL Pg F_pmodel_Model_Live [.pointer q_1] w_16 fun v_10 w_17 =>
          SLV v_10 fun _ l_5 _ =>
          BIND (IntKind.i64.wrap ((↑l_3 : Int) + 1)) fun n_31 =>
          ITE ((↑l_5 : Int) != n_31) (
           J_3 [.bool true] w_17) (
           LDi .i64 w_17 ⟨b_2, 0, none⟩ fun n_32 =>
           LDi .i64 w_17 ⟨b_2, 1, none⟩ fun n_33 =>
           LDi .i64 w_17 ⟨b_2, 2, none⟩ fun n_34 =>
           LDi .i64 w_17 ⟨b_2, 3, none⟩ fun n_35 =>
           CALL Pg F_pmodel_Model_Do [.pointer q_1, .agg #[.int .i64 n_32, .int .i64 n_33], .agg #[.int .i64 n_34, .int .i64 n_35]] w_17 fun v_11 w_18 =>
           BOOLV v_11 fun t_6 =>
           ITE (t_6) (
            J_3 [.bool true] w_18) (
            LDi .i64 w_18 ⟨b_2, 3, none⟩ fun n_36 =>
            CALL Pg F_pmodel_Model_Do [.pointer q_1, .agg #[.int .i64 3, .int .i64 n_36], .agg #[.int .i64 0, .int .i64 n_30]] w_18 fun v_12 w_19 =>
            BOOLV v_12 fun t_7 =>
            ITE (!t_7) (
             J_3 [.bool true] w_19) (
             LDi .i64 w_19 ⟨b_2, 3, none⟩ fun n_37 =>
             CALL Pg F_pmodel_Model_Do [.pointer q_1, .agg #[.int .i64 2, .int .i64 n_37], .agg #[.int .i64 0, .int .i64 n_30]] w_19 fun v_13 w_20 =>
             BOOLV v_13 fun t_8 =>
             J_3 [.bool !t_8] w_20)))) ∧
          ∀ w_21 : World,
          ∀ v_14 : Value,
          (J_3 [v_14] w_21 →
          BOOLV v_14 fun t_9 =>
          ITE (t_9) (
           K (.bool false) w_21) (
           J_1 [.bool false] w_21)))) (
         JOIN fun J_4 =>
         ((
          LDi .i64 w_15 ⟨b_2, 0, none⟩ fun n_38 =>
          ITE (n_38 == 2) (
           CALL Pg F_pmodel_Model_Live [.pointer q_1] w_15 fun v_15 w_22 =>
           SLV v_15 fun _ l_6 _ =>
           J_4 [.bool (decide ((↑l_6 : Int) < (↑l_3 : Int)))] w_22) (
           J_4 [.bool false] w_15)) ∧
          ∀ w_23 : World,
          ∀ v_16 : Value,
          (J_4 [v_16] w_23 →
          BOOLV v_16 fun t_10 =>
          ITE (t_10) (
           LDi .i64 w_23 ⟨b_2, 0, none⟩ fun n_39 =>
           LDi .i64 w_23 ⟨b_2, 1, none⟩ fun n_40 =>
           CALL Pg F_pmodel_Model_Do [.pointer q_1, .agg #[.int .i64 n_39, .int .i64 n_40], .agg #[.int .i64 4, .int .i64 0]] w_23 fun v_17 w_24 =>
           BOOLV v_17 fun t_11 =>
           K (.bool t_11) w_24) (
           J_1 [.bool false] w_23))))))) ∧
       ∀ w_25 : World,
       ∀ v_18 : Value,
       (J_1 [v_18] w_25 →
       BOOLV v_18 fun t_12 =>
       CALL Pg F_pmodel_Model_Live [.pointer q_1] w_25 fun v_19 w_26 =>
       SLV v_19 fun a_7 l_7 _ =>
       LOOP [.bool t_12, .int .i64 0] w_26 fun I_2 N_2 =>
       ∀ w_27 : World,
       ∀ v_20 : Value,
       ∀ v_21 : Value,
       (I_2 [v_20, v_21] w_27 →
       INTV .i64 v_21 fun n_41 =>
       BOOLV v_20 fun t_13 =>
       ITE (decide (n_41 < (↑l_3 : Int))) (
        DRAW w_27 fun w_28 =>
        ITE (decide (n_41 ≥ (↑l_7 : Int))) (
         K (.bool false) w_28) (
         IDX a_7 l_7 n_41 2 fun b_5 o_2 =>
         LDi .i64 w_28 ⟨b_5, o_2, none⟩ fun n_42 =>
         LDi .i64 w_28 ⟨b_5, o_2 + 1, none⟩ fun n_43 =>
         IDX a_3 l_3 n_41 2 fun b_6 o_3 =>
         LDi .i64 w_28 ⟨b_6, o_3, none⟩ fun n_44 =>
         LDi .i64 w_28 ⟨b_6, o_3 + 1, none⟩ fun n_45 =>
         ITE (!(n_42 == n_44 && (n_43 == n_45 && true))) (
          K (.bool false) w_28) (
          BIND (IntKind.i64.wrap (n_41 + 1)) fun n_46 =>
          N_2 [v_20, v_21] w_27 [.bool t_13, .int .i64 n_46] w_28))) (
        DRAW w_27 fun w_29 =>
        ITE ((↑l_7 : Int) == (↑l_3 : Int)) (
         LDi .i64 w_29 ⟨b_1, 1, none⟩ fun n_47 =>
         BIND (IntKind.i64.wrap (1024 * n_47)) fun n_48 =>
         CALL Pg F_pmodel_Model_Bytes [.pointer q_1] w_29 fun v_22 w_30 =>
         INTV .i64 v_22 fun n_49 =>
         ((
          KEEP w_30 [Fact.cell ⟨b_1, 1, none⟩ (.int .i64 n_47)]) ∧
          K (.bool (decide (n_49 ≤ n_48))) w_30)) (
         K (.bool false) w_29))))))))))
theorem E_l22_ModelUndoes (c0 : Int) (c1 : Int) (c2 : Int) (c3 : Int) (c4a : Option Addr) (c4l : Nat) (c4c : Nat) (actsa : Option Addr) (actsl : Nat) (actsc : Nat) (x0 : Int) (x1 : Int) (x2 : Int) (x3 : Int) (w : World) (K : Value → World → Prop) :
    D_l22_ModelUndoes c0 c1 c2 c3 c4a c4l c4c actsa actsl actsc x0 x1 x2 x3 w K = vcFn Pg Try.f14 [12, 14, 16] [.agg #[.int .i64 c0, .int .i64 c1, .int .i64 c2, .int .i64 c3, .slice c4a c4l c4c], .slice actsa actsl actsc, .agg #[.int .i64 x0, .int .i64 x1, .int .i64 x2, .int .i64 x3]] w K := by kernel_rfl
theorem C_l22_ModelUndoes {c0 : Int} {c1 : Int} {c2 : Int} {c3 : Int} {c4a : Option Addr} {c4l : Nat} {c4c : Nat} {actsa : Option Addr} {actsl : Nat} {actsc : Nat} {x0 : Int} {x1 : Int} {x2 : Int} {x3 : Int} {w : World} {K : Value → World → Prop} (h : D_l22_ModelUndoes c0 c1 c2 c3 c4a c4l c4c actsa actsl actsc x0 x1 x2 x3 w K) :
    CALL Pg F_l22_ModelUndoes [.agg #[.int .i64 c0, .int .i64 c1, .int .i64 c2, .int .i64 c3, .slice c4a c4l c4c], .slice actsa actsl actsc, .agg #[.int .i64 x0, .int .i64 x1, .int .i64 x2, .int .i64 x3]] w K :=
  call_of_vc [12, 14, 16] Try.func14 rfl (Nat.le_of_ble_eq_true (by kernel_rfl)) ((E_l22_ModelUndoes c0 c1 c2 c3 c4a c4l c4c actsa actsl actsc x0 x1 x2 x3 w K) ▸ h)
def D_l22_ModelFull (c0 : Int) (c1 : Int) (c2 : Int) (c3 : Int) (c4a : Option Addr) (c4l : Nat) (c4c : Nat) (size : Int) (at_ : Int) (w : World) (K : Value → World → Prop) : Prop :=
  NEW w [.int .i64 c0, .int .i64 c1, .int .i64 c2, .int .i64 c3, .slice c4a c4l c4c] T_api_Config_api_Config fun b_1 w_1 =>
  CALL Pg F_l22_speaks [] w_1 fun v_1 w_2 =>
  BOOLV v_1 fun t_1 =>
  ITE (!t_1) (
   K (.bool false) w_2) (
   LDi .i64 w_2 ⟨b_1, 0, none⟩ fun n_1 =>
   LDi .i64 w_2 ⟨b_1, 1, none⟩ fun n_2 =>
   LDi .i64 w_2 ⟨b_1, 2, none⟩ fun n_3 =>
   LDi .i64 w_2 ⟨b_1, 3, none⟩ fun n_4 =>
   LDl w_2 ⟨b_1, 4, none⟩ fun a_1 l_1 c_1 =>
   CALL Pg F_r04_May [.agg #[.int .i64 n_1, .int .i64 n_2, .int .i64 n_3, .int .i64 n_4, .slice a_1 l_1 c_1]] w_2 fun v_2 w_3 =>
   BOOLV v_2 fun t_2 =>
   ITE (!t_2) (
    K (.bool true) w_3) (
    LDi .i64 w_3 ⟨b_1, 1, none⟩ fun n_5 =>
    ITE (decide (n_5 > 8)) (
     K (.bool true) w_3) (
     BIND (IntKind.i64.wrap size) fun n_6 =>
     LDi .i64 w_3 ⟨b_1, 1, none⟩ fun n_7 =>
     BIND (IntKind.i64.wrap (1024 * n_7)) fun n_8 =>
     NZ n_8 (
     BIND (n_6.tmod n_8) fun n_9 =>
     BIND (IntKind.i64.wrap (1 + n_9)) fun n_10 =>
     LDi .i64 w_3 ⟨b_1, 0, none⟩ fun n_11 =>
     LDi .i64 w_3 ⟨b_1, 1, none⟩ fun n_12 =>
     LDi .i64 w_3 ⟨b_1, 2, none⟩ fun n_13 =>
     LDi .i64 w_3 ⟨b_1, 3, none⟩ fun n_14 =>
     LDl w_3 ⟨b_1, 4, none⟩ fun a_2 l_2 c_2 =>
     CALL Pg F_model_New [.agg #[.int .i64 n_11, .int .i64 n_12, .int .i64 n_13, .int .i64 n_14, .slice a_2 l_2 c_2]] w_3 fun v_3 w_4 =>
     PTRV v_3 fun q_1 =>
     NEW w_4 [.int .i64 0, .int .i64 0] T_api_Request_api_Request fun b_2 w_5 =>
     ST1 w_5 ⟨b_2, 0, none⟩ (.int .i64 1) fun w_6 =>
     ST1 w_6 ⟨b_2, 1, none⟩ (.int .i64 n_10) fun w_7 =>
     LDi .i64 w_7 ⟨b_1, 0, none⟩ fun n_15 =>
     LDi .i64 w_7 ⟨b_1, 1, none⟩ fun n_16 =>
     LDi .i64 w_7 ⟨b_1, 2, none⟩ fun n_17 =>
     LDi .i64 w_7 ⟨b_1, 3, none⟩ fun n_18 =>
     LDl w_7 ⟨b_1, 4, none⟩ fun a_3 l_3 c_3 =>
     CALL Pg F_r22_Size [.agg #[.int .i64 n_15, .int .i64 n_16, .int .i64 n_17, .int .i64 n_18, .slice a_3 l_3 c_3], .int .i64 n_10] w_7 fun v_4 w_8 =>
     INTV .i64 v_4 fun n_19 =>
     LOOP [.bool false, .int .i64 0] w_8 fun I_1 N_1 =>
     ∀ w_9 : World,
     ∀ v_5 : Value,
     ∀ v_6 : Value,
     (I_1 [v_5, v_6] w_9 →
     INTV .i64 v_6 fun n_20 =>
     BOOLV v_5 fun t_3 =>
     BIND (IntKind.i64.wrap (n_20 + 1)) fun n_21 =>
     BIND (IntKind.i64.wrap (n_19 * n_21)) fun n_22 =>
     BIND (IntKind.i64.wrap (65536 + n_22)) fun n_23 =>
     LDi .i64 w_9 ⟨b_1, 1, none⟩ fun n_24 =>
     BIND (IntKind.i64.wrap (1024 * n_24)) fun n_25 =>
     BIND (IntKind.i64.wrap (65536 + n_25)) fun n_26 =>
     ITE (decide (n_23 ≤ n_26)) (
      LDi .i64 w_9 ⟨b_2, 0, none⟩ fun n_27 =>
      LDi .i64 w_9 ⟨b_2, 1, none⟩ fun n_28 =>
      BIND (IntKind.i64.wrap (n_19 * n_20)) fun n_29 =>
      BIND (IntKind.i64.wrap (65536 + n_29)) fun n_30 =>
      CALL Pg F_pmodel_Model_Do [.pointer q_1, .agg #[.int .i64 n_27, .int .i64 n_28], .agg #[.int .i64 0, .int .i64 n_30]] w_9 fun v_7 w_10 =>
      BOOLV v_7 fun t_4 =>
      ITE (!t_4) (
       K (.bool false) w_10) (
       BIND (IntKind.i64.wrap (n_20 + 1)) fun n_31 =>
       N_1 [v_5, v_6] w_9 [.bool t_3, .int .i64 n_31] w_10)) (
      BIND (IntKind.i64.wrap at_) fun n_32 =>
      LDi .i64 w_9 ⟨b_1, 1, none⟩ fun n_33 =>
      BIND (IntKind.i64.wrap (64 * n_33)) fun n_34 =>
      BIND (IntKind.i64.wrap (n_34 + 4)) fun n_35 =>
      NZ n_35 (
      BIND (n_32.tmod n_35) fun n_36 =>
      BIND (IntKind.i64.wrap (16 * n_36)) fun n_37 =>
      BIND (IntKind.i64.wrap (65536 + n_37)) fun n_38 =>
      JOIN fun J_1 =>
      ((
       BIND (IntKind.i64.wrap (n_19 * n_20)) fun n_39 =>
       BIND (IntKind.i64.wrap (65536 + n_39)) fun n_40 =>
       ITE (decide (n_38 ≥ n_40)) (
        BIND (IntKind.i64.wrap (n_38 + n_19)) fun n_41 =>
        LDi .i64 w_9 ⟨b_1, 1, none⟩ fun n_42 =>
        BIND (IntKind.i64.wrap (1024 * n_42)) fun n_43 =>
        BIND (IntKind.i64.wrap (65536 + n_43)) fun n_44 =>
        J_1 [.bool (decide (n_41 ≤ n_44))] w_9) (
        J_1 [.bool false] w_9)) ∧
       ∀ w_11 : World,
       ∀ v_8 : Value,
       (J_1 [v_8] w_11 →
       BOOLV v_8 fun t_5 =>
       CALL Pg F_pmodel_Model_Bytes [.pointer q_1] w_11 fun v_9 w_12 =>
       INTV .i64 v_9 fun n_45 =>
       BIND (IntKind.i64.wrap (n_20 * n_19)) fun n_46 =>
       ITE (n_45 == n_46) (
        LDi .i64 w_12 ⟨b_2, 0, none⟩ fun n_47 =>
        LDi .i64 w_12 ⟨b_2, 1, none⟩ fun n_48 =>
        CALL Pg F_pmodel_Model_Do [.pointer q_1, .agg #[.int .i64 n_47, .int .i64 n_48], .agg #[.int .i64 0, .int .i64 n_38]] w_12 fun v_10 w_13 =>
        BOOLV v_10 fun t_6 =>
        ITE (t_6 == t_5) (
         LDi .i64 w_13 ⟨b_2, 0, none⟩ fun n_49 =>
         LDi .i64 w_13 ⟨b_2, 1, none⟩ fun n_50 =>
         CALL Pg F_pmodel_Model_Do [.pointer q_1, .agg #[.int .i64 n_49, .int .i64 n_50], .agg #[.int .i64 5, .int .i64 0]] w_13 fun v_11 w_14 =>
         BOOLV v_11 fun t_7 =>
         K (.bool t_7) w_14) (
         K (.bool false) w_13)) (
        K (.bool false) w_12))))))))))
theorem E_l22_ModelFull (c0 : Int) (c1 : Int) (c2 : Int) (c3 : Int) (c4a : Option Addr) (c4l : Nat) (c4c : Nat) (size : Int) (at_ : Int) (w : World) (K : Value → World → Prop) :
    D_l22_ModelFull c0 c1 c2 c3 c4a c4l c4c size at_ w K = vcFn Pg Try.f15 [14] [.agg #[.int .i64 c0, .int .i64 c1, .int .i64 c2, .int .i64 c3, .slice c4a c4l c4c], .int .u16 size, .int .u16 at_] w K := by kernel_rfl
theorem C_l22_ModelFull {c0 : Int} {c1 : Int} {c2 : Int} {c3 : Int} {c4a : Option Addr} {c4l : Nat} {c4c : Nat} {size : Int} {at_ : Int} {w : World} {K : Value → World → Prop} (h : D_l22_ModelFull c0 c1 c2 c3 c4a c4l c4c size at_ w K) :
    CALL Pg F_l22_ModelFull [.agg #[.int .i64 c0, .int .i64 c1, .int .i64 c2, .int .i64 c3, .slice c4a c4l c4c], .int .u16 size, .int .u16 at_] w K :=
  call_of_vc [14] Try.func15 rfl (Nat.le_of_ble_eq_true (by kernel_rfl)) ((E_l22_ModelFull c0 c1 c2 c3 c4a c4l c4c size at_ w K) ▸ h)

end Go.Proofs.Ytpopdookpbmmpaa
