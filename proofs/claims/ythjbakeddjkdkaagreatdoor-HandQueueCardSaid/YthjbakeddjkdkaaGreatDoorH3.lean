/- What the evaluator asks of each function, in readable form: printed by a program of this claim's own. -/
import Derived.Test.YthjbakeddjkdkaaGreatDoorN
import Derived.Test.YthjbakeddjkdkaaGreatDoorDen
namespace Go.Proofs.YthjbakeddjkdkaaGreatDoor
open Go.Den
set_option linter.unusedVariables false
set_option maxRecDepth 1000000
def D_r04_May (c0 : Int) (c1 : Int) (c2 : Int) (c3 : Int) (c4a : Option Addr) (c4l : Nat) (c4c : Nat) (w : World) (K : Value → World → Prop) : Prop :=
  NEW w [.int .i64 c0, .int .i64 c1, .int .i64 c2, .int .i64 c3, .slice c4a c4l c4c] T_api_Config_api_Config fun b_1 w_1 =>
  JOIN fun J_1 =>
  ((
   LDi .i64 w_1 ⟨b_1, 0, none⟩ fun n_1 =>
   ITE (decide (n_1 ≥ 1)) (
    LDi .i64 w_1 ⟨b_1, 0, none⟩ fun n_2 =>
    ITE (decide (n_2 ≤ 64)) (
     LDi .i64 w_1 ⟨b_1, 1, none⟩ fun n_3 =>
     ITE (decide (n_3 ≥ 1)) (
      LDi .i64 w_1 ⟨b_1, 1, none⟩ fun n_4 =>
      ITE (decide (n_4 ≤ 64)) (
       LDi .i64 w_1 ⟨b_1, 2, none⟩ fun n_5 =>
       ITE (decide (n_5 ≥ 1)) (
        LDi .i64 w_1 ⟨b_1, 2, none⟩ fun n_6 =>
        ITE (decide (n_6 ≤ 64)) (
         LDi .i64 w_1 ⟨b_1, 3, none⟩ fun n_7 =>
         ITE (decide (n_7 ≥ 0)) (
          LDi .i64 w_1 ⟨b_1, 3, none⟩ fun n_8 =>
          J_1 [.bool (decide (n_8 ≤ 8))] w_1) (
          J_1 [.bool false] w_1)) (
         J_1 [.bool false] w_1)) (
        J_1 [.bool false] w_1)) (
       J_1 [.bool false] w_1)) (
      J_1 [.bool false] w_1)) (
     J_1 [.bool false] w_1)) (
    J_1 [.bool false] w_1)) ∧
   ∀ w_2 : World,
   ∀ v_1 : Value,
   (J_1 [v_1] w_2 →
   BOOLV v_1 fun t_1 =>
   JOIN fun J_2 =>
   ((
    ITE (t_1) (
     LDl w_2 ⟨b_1, 4, none⟩ fun _ l_1 _ =>
     ITE (decide ((↑l_1 : Int) ≥ 1)) (
      LDl w_2 ⟨b_1, 4, none⟩ fun _ l_2 _ =>
      J_2 [.bool (decide ((↑l_2 : Int) ≤ 16))] w_2) (
      J_2 [.bool false] w_2)) (
     J_2 [.bool false] w_2)) ∧
    ∀ w_3 : World,
    ∀ v_2 : Value,
    (J_2 [v_2] w_3 →
    BOOLV v_2 fun t_2 =>
    LOOP [.bool t_2, .int .i64 0] w_3 fun I_1 N_1 =>
    ∀ w_4 : World,
    ∀ v_3 : Value,
    ∀ v_4 : Value,
    (I_1 [v_3, v_4] w_4 →
    INTV .i64 v_4 fun n_9 =>
    BOOLV v_3 fun t_3 =>
    LDl w_4 ⟨b_1, 4, none⟩ fun _ l_3 _ =>
    ITE (decide (n_9 < (↑l_3 : Int))) (
     LDl w_4 ⟨b_1, 4, none⟩ fun a_4 l_4 _ =>
     IDX a_4 l_4 n_9 1 fun b_2 o_1 =>
     LDi .i64 w_4 ⟨b_2, o_1, none⟩ fun n_10 =>
     ITE (t_3) (
      ITE (decide (n_10 ≥ 16)) (
       ITE (decide (n_10 ≤ 512)) (
        NZ 16 (
        BIND (n_10.tmod 16) fun n_11 =>
        ITE (n_11 == 0) (
         ITE (n_9 == 0) (
          BIND (IntKind.i64.wrap (n_9 + 1)) fun n_12 =>
          N_1 [v_3, v_4] w_4 [.bool true, .int .i64 n_12] w_4) (
          LDl w_4 ⟨b_1, 4, none⟩ fun a_5 l_5 _ =>
          BIND (IntKind.i64.wrap (n_9 - 1)) fun n_13 =>
          IDX a_5 l_5 n_13 1 fun b_3 o_2 =>
          LDi .i64 w_4 ⟨b_3, o_2, none⟩ fun n_14 =>
          BIND (IntKind.i64.wrap (n_9 + 1)) fun n_15 =>
          N_1 [v_3, v_4] w_4 [.bool (decide (n_14 < n_10)), .int .i64 n_15] w_4)) (
         BIND (IntKind.i64.wrap (n_9 + 1)) fun n_16 =>
         N_1 [v_3, v_4] w_4 [.bool false, .int .i64 n_16] w_4))) (
        BIND (IntKind.i64.wrap (n_9 + 1)) fun n_17 =>
        N_1 [v_3, v_4] w_4 [.bool false, .int .i64 n_17] w_4)) (
       BIND (IntKind.i64.wrap (n_9 + 1)) fun n_18 =>
       N_1 [v_3, v_4] w_4 [.bool false, .int .i64 n_18] w_4)) (
      BIND (IntKind.i64.wrap (n_9 + 1)) fun n_19 =>
      N_1 [v_3, v_4] w_4 [.bool false, .int .i64 n_19] w_4)) (
     K (.bool t_3) w_4))))))
theorem E_r04_May (c0 : Int) (c1 : Int) (c2 : Int) (c3 : Int) (c4a : Option Addr) (c4l : Nat) (c4c : Nat) (w : World) (K : Value → World → Prop) :
    D_r04_May c0 c1 c2 c3 c4a c4l c4c w K = vcFn Pg Tryz.f5 [1, 2] [.agg #[.int .i64 c0, .int .i64 c1, .int .i64 c2, .int .i64 c3, .slice c4a c4l c4c]] w K := by kernel_rfl
theorem C_r04_May {c0 : Int} {c1 : Int} {c2 : Int} {c3 : Int} {c4a : Option Addr} {c4l : Nat} {c4c : Nat} {w : World} {K : Value → World → Prop} (h : D_r04_May c0 c1 c2 c3 c4a c4l c4c w K) :
    CALL Pg F_r04_May [.agg #[.int .i64 c0, .int .i64 c1, .int .i64 c2, .int .i64 c3, .slice c4a c4l c4c]] w K :=
  call_of_vc [1, 2] Tryz.func5 rfl (Nat.le_of_ble_eq_true (by kernel_rfl)) ((E_r04_May c0 c1 c2 c3 c4a c4l c4c w K) ▸ h)
def D_l17_speaks (w : World) (K : Value → World → Prop) : Prop :=
  NEW w [.int .i64 16] T_int fun b_1 w_1 =>
  CALL Pg F_ask_Open [.agg #[.int .i64 1, .int .i64 1, .int .i64 1, .int .i64 0, .slice (some ⟨b_1, 0, none⟩) 1 1]] w_1 fun v_1 w_2 =>
  TUPV v_1 fun cs_1 =>
  GETV cs_1 0 fun v_2 =>
  PTRV v_2 fun q_1 =>
  GETV cs_1 1 fun v_3 =>
  INTV .i64 v_3 fun n_1 =>
  LEN cs_1 2 (
  ITE (n_1 != 0) (
   K (.bool false) w_2) (
   SILN Pg (binE BinOp.eql T_pask_Shop (Operand.tmp 15) (Operand.const (.pointer none)) (.pointer q_1) (.pointer none)) fun v_4 =>
   BOOLV v_4 fun t_1 =>
   ITE (t_1) (
    K (.bool false) w_2) (
    CALL Pg F_hand_New [.pointer q_1, .int .i64 0] w_2 fun v_5 w_3 =>
    PTRV v_5 fun q_2 =>
    SILN Pg (binE BinOp.eql T_phand_Hand (Operand.tmp 20) (Operand.const (.pointer none)) (.pointer q_2) (.pointer none)) fun v_6 =>
    BOOLV v_6 fun t_2 =>
    ITE (t_2) (
     K (.bool false) w_3) (
     CALL Pg F_phand_Hand_Idle [.pointer q_2] w_3 fun v_7 w_4 =>
     BOOLV v_7 fun t_3 =>
     ITE (!t_3) (
      K (.bool false) w_4) (
      CALL Pg F_phand_Hand_Step [.pointer q_2] w_4 fun v_8 w_5 =>
      AGGV v_8 fun cs_2 =>
      GETV cs_2 0 fun v_9 =>
      BOOLV v_9 fun t_4 =>
      GETV cs_2 1 fun v_10 =>
      BOOLV v_10 fun t_5 =>
      GETV cs_2 2 fun v_11 =>
      BOOLV v_11 fun t_6 =>
      GETV cs_2 3 fun v_12 =>
      BOOLV v_12 fun t_7 =>
      GETV cs_2 4 fun v_13 =>
      INTV .i64 v_13 fun n_2 =>
      GETV cs_2 5 fun v_14 =>
      INTV .i64 v_14 fun n_3 =>
      GETV cs_2 6 fun v_15 =>
      INTV .i64 v_15 fun n_4 =>
      GETV cs_2 7 fun v_16 =>
      INTV .i64 v_16 fun n_5 =>
      LEN cs_2 8 (
      ITE (!(t_4 == false && (t_5 == false && (t_6 == false && (t_7 == false && (n_2 == 0 && (n_3 == 0 && true) && (n_4 == 0 && (n_5 == 0 && true) && true))))))) (
       K (.bool false) w_5) (
       NEW w_5 [.int .i64 1, .int .i64 0] T_api_Request_api_Request fun b_2 w_6 =>
       CALL Pg F_phand_Hand_Ask [.pointer q_2, .slice (some ⟨b_2, 0, none⟩) 1 1] w_6 fun v_17 w_7 =>
       TUPV v_17 fun cs_3 =>
       LEN cs_3 0 (
       CALL Pg F_phand_Hand_Idle [.pointer q_2] w_7 fun v_18 w_8 =>
       BOOLV v_18 fun t_8 =>
       CALL Pg F_phand_Hand_Step [.pointer q_2] w_8 fun v_19 w_9 =>
       AGGV v_19 fun cs_4 =>
       GETV cs_4 0 fun v_20 =>
       BOOLV v_20 fun t_9 =>
       GETV cs_4 1 fun v_21 =>
       BOOLV v_21 fun t_10 =>
       GETV cs_4 2 fun v_22 =>
       BOOLV v_22 fun t_11 =>
       GETV cs_4 3 fun v_23 =>
       BOOLV v_23 fun t_12 =>
       GETV cs_4 4 fun v_24 =>
       INTV .i64 v_24 fun n_6 =>
       GETV cs_4 5 fun v_25 =>
       INTV .i64 v_25 fun n_7 =>
       GETV cs_4 6 fun v_26 =>
       INTV .i64 v_26 fun n_8 =>
       GETV cs_4 7 fun v_27 =>
       INTV .i64 v_27 fun n_9 =>
       LEN cs_4 8 (
       NEW w_9 [.bool false, .bool false, .bool false, .bool false, .int .i64 0, .int .i64 0, .int .i64 0, .int .i64 0] T_hand_Progress_hand_Progress fun b_3 w_10 =>
       ST1 w_10 ⟨b_3, 0, none⟩ (.bool t_9) fun w_11 =>
       ST1 w_11 ⟨b_3, 1, none⟩ (.bool t_10) fun w_12 =>
       ST1 w_12 ⟨b_3, 2, none⟩ (.bool t_11) fun w_13 =>
       ST1 w_13 ⟨b_3, 3, none⟩ (.bool t_12) fun w_14 =>
       ST1 w_14 ⟨b_3, 4, none⟩ (.int .i64 n_6) fun w_15 =>
       ST1 w_15 ⟨b_3, 5, none⟩ (.int .i64 n_7) fun w_16 =>
       ST1 w_16 ⟨b_3, 6, none⟩ (.int .i64 n_8) fun w_17 =>
       ST1 w_17 ⟨b_3, 7, none⟩ (.int .i64 n_9) fun w_18 =>
       ITE (!t_8) (
        CALL Pg F_phand_Hand_Idle [.pointer q_2] w_18 fun v_28 w_19 =>
        BOOLV v_28 fun t_13 =>
        ITE (t_13) (
         LDb w_19 ⟨b_3, 0, none⟩ fun t_14 =>
         LDb w_19 ⟨b_3, 1, none⟩ fun t_15 =>
         LDb w_19 ⟨b_3, 2, none⟩ fun t_16 =>
         LDb w_19 ⟨b_3, 3, none⟩ fun t_17 =>
         LDi .i64 w_19 ⟨b_3, 4, none⟩ fun n_10 =>
         LDi .i64 w_19 ⟨b_3, 5, none⟩ fun n_11 =>
         LDi .i64 w_19 ⟨b_3, 6, none⟩ fun n_12 =>
         LDi .i64 w_19 ⟨b_3, 7, none⟩ fun n_13 =>
         K (.bool (t_14 == true && (t_15 == true && (t_16 == true && (t_17 == true && (n_10 == 1 && (n_11 == 0 && true) && (n_12 == 3 && (n_13 == 0 && true) && true))))))) w_19) (
         K (.bool false) w_19)) (
        K (.bool false) w_18))))))))))
theorem E_l17_speaks (w : World) (K : Value → World → Prop) :
    D_l17_speaks w K = vcFn Pg Tryz.f4 [] [] w K := by kernel_rfl
theorem C_l17_speaks {w : World} {K : Value → World → Prop} (h : D_l17_speaks w K) :
    CALL Pg F_l17_speaks [] w K :=
  call_of_vc [] Tryz.func4 rfl (Nat.le_of_ble_eq_true (by kernel_rfl)) ((E_l17_speaks w K) ▸ h)
def D_l17_HandQueue (c0 : Int) (c1 : Int) (c2 : Int) (c3 : Int) (c4a : Option Addr) (c4l : Nat) (c4c : Nat) (aa : Option Addr) (al : Nat) (ac : Nat) (ba : Option Addr) (bl : Nat) (bc : Nat) (w : World) (K : Value → World → Prop) : Prop :=
  NEW w [.int .i64 c0, .int .i64 c1, .int .i64 c2, .int .i64 c3, .slice c4a c4l c4c] T_api_Config_api_Config fun b_1 w_1 =>
  CALL Pg F_l17_speaks [] w_1 fun v_1 w_2 =>
  BOOLV v_1 fun t_1 =>
  ITE (!t_1) (
   K (.bool false) w_2) (
   LDi .i64 w_2 ⟨b_1, 0, none⟩ fun n_1 =>
   LDi .i64 w_2 ⟨b_1, 1, none⟩ fun n_2 =>
   LDi .i64 w_2 ⟨b_1, 2, none⟩ fun n_3 =>
   LDi .i64 w_2 ⟨b_1, 3, none⟩ fun n_4 =>
   LDl w_2 ⟨b_1, 4, none⟩ fun a_1 l_1 c_1 =>
   CALL Pg F_r04_May [.agg #[.int .i64 n_1, .int .i64 n_2, .int .i64 n_3, .int .i64 n_4, .slice a_1 l_1 c_1]] w_2 fun v_2 w_3 =>
   BOOLV v_2 fun t_2 =>
   ITE (!t_2) (
    K (.bool true) w_3) (
    ITE (decide ((↑al : Int) > 60)) (
     K (.bool true) w_3) (
     ITE (decide ((↑bl : Int) > 60)) (
      K (.bool true) w_3) (
      LDi .i64 w_3 ⟨b_1, 0, none⟩ fun n_5 =>
      LDi .i64 w_3 ⟨b_1, 1, none⟩ fun n_6 =>
      LDi .i64 w_3 ⟨b_1, 2, none⟩ fun n_7 =>
      LDi .i64 w_3 ⟨b_1, 3, none⟩ fun n_8 =>
      LDl w_3 ⟨b_1, 4, none⟩ fun a_2 l_2 c_2 =>
      CALL Pg F_ask_Open [.agg #[.int .i64 n_5, .int .i64 n_6, .int .i64 n_7, .int .i64 n_8, .slice a_2 l_2 c_2]] w_3 fun v_3 w_4 =>
      TUPV v_3 fun cs_1 =>
      GETV cs_1 0 fun v_4 =>
      PTRV v_4 fun q_1 =>
      GETV cs_1 1 fun v_5 =>
      INTV .i64 v_5 fun _ =>
      LEN cs_1 2 (
      SILN Pg (binE BinOp.eql T_pask_Shop (Operand.tmp 36) (Operand.const (.pointer none)) (.pointer q_1) (.pointer none)) fun v_6 =>
      BOOLV v_6 fun t_3 =>
      ITE (t_3) (
       K (.bool false) w_4) (
       LDi .i64 w_4 ⟨b_1, 0, none⟩ fun n_10 =>
       BIND (IntKind.i64.wrap (n_10 - 1)) fun n_11 =>
       CALL Pg F_hand_New [.pointer q_1, .int .i64 n_11] w_4 fun v_7 w_5 =>
       PTRV v_7 fun q_2 =>
       NEW w_5 [] T_api_Request_api_Request fun b_2 w_6 =>
       SEML Pg w_6 (Builtin.append_ #[T_Lapi_Request, T_Lapi_Request] T_Lapi_Request #[.slice (some ⟨b_2, 0, none⟩) 0 0, .slice aa al ac]) fun v_8 w_7 =>
       SLV v_8 fun a_3 l_3 c_3 =>
       CALL Pg F_phand_Hand_Ask [.pointer q_2, .slice a_3 l_3 c_3] w_7 fun v_9 w_8 =>
       TUPV v_9 fun cs_2 =>
       LEN cs_2 0 (
       CALL Pg F_phand_Hand_Ask [.pointer q_2, .slice ba bl bc] w_8 fun v_10 w_9 =>
       TUPV v_10 fun cs_3 =>
       LEN cs_3 0 (
       LOOP [.int .i64 0] w_9 fun I_1 N_1 =>
       ∀ w_10 : World,
       ∀ v_11 : Value,
       (I_1 [v_11] w_10 →
       INTV .i64 v_11 fun n_12 =>
       ITE (decide (n_12 < (↑l_3 : Int))) (
        IDX a_3 l_3 n_12 2 fun b_3 o_1 =>
        LDi .i64 w_10 ⟨b_3, o_1 + 1, none⟩ fun n_13 =>
        BIND (IntKind.i64.wrap (n_13 + 1)) fun n_14 =>
        IDX a_3 l_3 n_12 2 fun b_4 o_2 =>
        ST1 w_10 ⟨b_4, o_2 + 1, none⟩ (.int .i64 n_14) fun w_11 =>
        BIND (IntKind.i64.wrap (n_12 + 1)) fun n_15 =>
        N_1 [v_11] w_10 [.int .i64 n_15] w_11) (
        CALL Pg F_phand_Hand_Queue [.pointer q_2] w_10 fun v_12 w_12 =>
        SLV v_12 fun a_4 l_4 _ =>
        LOOP [.bool false, .int .i64 0] w_12 fun I_2 N_2 =>
        ∀ w_13 : World,
        ∀ v_13 : Value,
        ∀ v_14 : Value,
        (I_2 [v_13, v_14] w_13 →
        INTV .i64 v_14 fun n_16 =>
        BOOLV v_13 fun t_4 =>
        ITE (decide (n_16 < (↑l_4 : Int))) (
         NEW w_13 [.int .i64 0, .int .i64 0] T_api_Request_api_Request fun b_5 w_14 =>
         ST1 w_14 ⟨b_5, 0, none⟩ (.int .i64 0) fun w_15 =>
         ST1 w_15 ⟨b_5, 1, none⟩ (.int .i64 0) fun w_16 =>
         ITE (decide (n_16 < (↑al : Int))) (
          IDX aa al n_16 2 fun b_6 o_3 =>
          LDi .i64 w_16 ⟨b_6, o_3, none⟩ fun n_17 =>
          LDi .i64 w_16 ⟨b_6, o_3 + 1, none⟩ fun n_18 =>
          ST1 w_16 ⟨b_5, 0, none⟩ (.int .i64 n_17) fun w_17 =>
          ST1 w_17 ⟨b_5, 1, none⟩ (.int .i64 n_18) fun w_18 =>
          DRAW w_18 fun w_19 =>
          IDX a_4 l_4 n_16 2 fun b_7 o_4 =>
          LDi .i64 w_19 ⟨b_7, o_4, none⟩ fun n_19 =>
          LDi .i64 w_19 ⟨b_7, o_4 + 1, none⟩ fun n_20 =>
          LDi .i64 w_19 ⟨b_5, 0, none⟩ fun n_21 =>
          LDi .i64 w_19 ⟨b_5, 1, none⟩ fun n_22 =>
          ITE (!(n_19 == n_21 && (n_20 == n_22 && true))) (
           K (.bool false) w_19) (
           IDX a_4 l_4 n_16 2 fun b_8 o_5 =>
           LDi .i64 w_19 ⟨b_8, o_5, none⟩ fun n_23 =>
           BIND (IntKind.i64.wrap (n_23 + 1)) fun n_24 =>
           IDX a_4 l_4 n_16 2 fun b_9 o_6 =>
           ST1 w_19 ⟨b_9, o_6, none⟩ (.int .i64 n_24) fun w_20 =>
           BIND (IntKind.i64.wrap (n_16 + 1)) fun n_25 =>
           N_2 [v_13, v_14] w_13 [.bool t_4, .int .i64 n_25] w_20)) (
          BIND (IntKind.i64.wrap ((↑al : Int) + (↑bl : Int))) fun n_26 =>
          ITE (decide (n_16 < n_26)) (
           BIND (IntKind.i64.wrap (n_16 - (↑al : Int))) fun n_27 =>
           IDX ba bl n_27 2 fun b_10 o_7 =>
           LDi .i64 w_16 ⟨b_10, o_7, none⟩ fun n_28 =>
           LDi .i64 w_16 ⟨b_10, o_7 + 1, none⟩ fun n_29 =>
           ST1 w_16 ⟨b_5, 0, none⟩ (.int .i64 n_28) fun w_21 =>
           ST1 w_21 ⟨b_5, 1, none⟩ (.int .i64 n_29) fun w_22 =>
           DRAW w_22 fun w_23 =>
           IDX a_4 l_4 n_16 2 fun b_11 o_8 =>
           LDi .i64 w_23 ⟨b_11, o_8, none⟩ fun n_30 =>
           LDi .i64 w_23 ⟨b_11, o_8 + 1, none⟩ fun n_31 =>
           LDi .i64 w_23 ⟨b_5, 0, none⟩ fun n_32 =>
           LDi .i64 w_23 ⟨b_5, 1, none⟩ fun n_33 =>
           ITE (!(n_30 == n_32 && (n_31 == n_33 && true))) (
            K (.bool false) w_23) (
            IDX a_4 l_4 n_16 2 fun b_12 o_9 =>
            LDi .i64 w_23 ⟨b_12, o_9, none⟩ fun n_34 =>
            BIND (IntKind.i64.wrap (n_34 + 1)) fun n_35 =>
            IDX a_4 l_4 n_16 2 fun b_13 o_10 =>
            ST1 w_23 ⟨b_13, o_10, none⟩ (.int .i64 n_35) fun w_24 =>
            BIND (IntKind.i64.wrap (n_16 + 1)) fun n_36 =>
            N_2 [v_13, v_14] w_13 [.bool t_4, .int .i64 n_36] w_24)) (
           DRAW w_16 fun w_25 =>
           IDX a_4 l_4 n_16 2 fun b_14 o_11 =>
           LDi .i64 w_25 ⟨b_14, o_11, none⟩ fun n_37 =>
           LDi .i64 w_25 ⟨b_14, o_11 + 1, none⟩ fun n_38 =>
           LDi .i64 w_25 ⟨b_5, 0, none⟩ fun n_39 =>
           LDi .i64 w_25 ⟨b_5, 1, none⟩ fun n_40 =>
           ITE (!(n_37 == n_39 && (n_38 == n_40 && true))) (
            K (.bool false) w_25) (
            IDX a_4 l_4 n_16 2 fun b_15 o_12 =>
            LDi .i64 w_25 ⟨b_15, o_12, none⟩ fun n_41 =>
            BIND (IntKind.i64.wrap (n_41 + 1)) fun n_42 =>
            IDX a_4 l_4 n_16 2 fun b_16 o_13 =>
            ST1 w_25 ⟨b_16, o_13, none⟩ (.int .i64 n_42) fun w_26 =>
            BIND (IntKind.i64.wrap (n_16 + 1)) fun n_43 =>
            N_2 [v_13, v_14] w_13 [.bool t_4, .int .i64 n_43] w_26)))) (
         CALL Pg F_phand_Hand_Queue [.pointer q_2] w_13 fun v_15 w_27 =>
         SLV v_15 fun a_5 l_5 _ =>
         DRAW w_27 fun w_28 =>
         BIND (IntKind.i64.wrap ((↑al : Int) + (↑bl : Int))) fun n_44 =>
         ITE ((↑l_4 : Int) == n_44) (
          CALL Pg F_phand_Hand_Idle [.pointer q_2] w_28 fun v_16 w_29 =>
          BOOLV v_16 fun t_5 =>
          ((
           KEEP w_29 []) ∧
           ITE (t_5 == ((↑l_4 : Int) == 0)) (
            ITE ((↑l_5 : Int) == (↑l_4 : Int)) (
             ITE ((↑l_4 : Int) == 0) (
              CALL Pg F_phand_Hand_Own [.pointer q_2, .int .i64 0] w_29 fun v_17 w_30 =>
              SLV v_17 fun _ l_6 _ =>
              ((
               KEEP w_30 []) ∧
               K (.bool ((↑l_6 : Int) == 0)) w_30)) (
              IDX a_5 l_5 0 2 fun b_17 o_14 =>
              LDi .i64 w_29 ⟨b_17, o_14, none⟩ fun n_45 =>
              IDX a_4 l_4 0 2 fun b_18 o_15 =>
              LDi .i64 w_29 ⟨b_18, o_15, none⟩ fun n_46 =>
              BIND (IntKind.i64.wrap (n_46 - 1)) fun n_47 =>
              ITE (n_45 == n_47) (
               CALL Pg F_phand_Hand_Own [.pointer q_2, .int .i64 0] w_29 fun v_18 w_31 =>
               SLV v_18 fun _ l_7 _ =>
               ((
                KEEP w_31 []) ∧
                K (.bool ((↑l_7 : Int) == 0)) w_31)) (
               K (.bool false) w_29))) (
             K (.bool false) w_29)) (
            K (.bool false) w_29))) (
          K (.bool false) w_28)))))))))))))
theorem E_l17_HandQueue (c0 : Int) (c1 : Int) (c2 : Int) (c3 : Int) (c4a : Option Addr) (c4l : Nat) (c4c : Nat) (aa : Option Addr) (al : Nat) (ac : Nat) (ba : Option Addr) (bl : Nat) (bc : Nat) (w : World) (K : Value → World → Prop) :
    D_l17_HandQueue c0 c1 c2 c3 c4a c4l c4c aa al ac ba bl bc w K = vcFn Pg Tryz.f3 [] [.agg #[.int .i64 c0, .int .i64 c1, .int .i64 c2, .int .i64 c3, .slice c4a c4l c4c], .slice aa al ac, .slice ba bl bc] w K := by kernel_rfl
theorem C_l17_HandQueue {c0 : Int} {c1 : Int} {c2 : Int} {c3 : Int} {c4a : Option Addr} {c4l : Nat} {c4c : Nat} {aa : Option Addr} {al : Nat} {ac : Nat} {ba : Option Addr} {bl : Nat} {bc : Nat} {w : World} {K : Value → World → Prop} (h : D_l17_HandQueue c0 c1 c2 c3 c4a c4l c4c aa al ac ba bl bc w K) :
    CALL Pg F_l17_HandQueue [.agg #[.int .i64 c0, .int .i64 c1, .int .i64 c2, .int .i64 c3, .slice c4a c4l c4c], .slice aa al ac, .slice ba bl bc] w K :=
  call_of_vc [] Tryz.func3 rfl (Nat.le_of_ble_eq_true (by kernel_rfl)) ((E_l17_HandQueue c0 c1 c2 c3 c4a c4l c4c aa al ac ba bl bc w K) ▸ h)

end Go.Proofs.YthjbakeddjkdkaaGreatDoor
