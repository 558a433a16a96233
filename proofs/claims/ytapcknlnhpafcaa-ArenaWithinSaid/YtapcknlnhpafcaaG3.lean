/- What the evaluator asks of each function, in readable form: printed by a program of this claim's own. -/
import Derived.Test.YtapcknlnhpafcaaN
import Derived.Test.YtapcknlnhpafcaaDen
namespace Go.Proofs.Ytapcknlnhpafcaa
open Go.Den
set_option linter.unusedVariables false
set_option maxRecDepth 1000000
def D_l05_ArenaWithin (a0 : Int) (a1 : Int) (a2 : Int) (a3 : Int) (a4a : Option Addr) (a4l : Nat) (a4c : Nat) (a5 : Int) (a6 : Int) (a7 : Int) (a8 : Int) (w : World) (K : Value → World → Prop) : Prop :=
  NEW w [.int .i64 a0, .int .i64 a1, .int .i64 a2, .int .i64 a3, .slice a4a a4l a4c, .int .u8 a5, .int .u8 a6, .int .u8 a7, .int .u16 a8] T_chandlerylaw05_Inside_l05_Inside fun b_1 w_1 =>
  CALL Pg F_l05_speaks [] w_1 fun v_1 w_2 =>
  BOOLV v_1 fun t_1 =>
  ITE (!t_1) (
   K (.bool false) w_2) (
   JOIN fun J_1 =>
   ((
    DRAW w_2 fun w_3 =>
    LDi .i64 w_3 ⟨b_1, 0, none⟩ fun n_1 =>
    LDi .i64 w_3 ⟨b_1, 1, none⟩ fun n_2 =>
    LDi .i64 w_3 ⟨b_1, 2, none⟩ fun n_3 =>
    LDi .i64 w_3 ⟨b_1, 3, none⟩ fun n_4 =>
    LDl w_3 ⟨b_1, 4, none⟩ fun a_1 l_1 c_1 =>
    LDi .u8 w_3 ⟨b_1, 5, none⟩ fun n_5 =>
    LDi .u8 w_3 ⟨b_1, 6, none⟩ fun n_6 =>
    LDi .u8 w_3 ⟨b_1, 7, none⟩ fun n_7 =>
    LDi .u16 w_3 ⟨b_1, 8, none⟩ fun n_8 =>
    ((
     NEW w_3 [.int .i64 0, .int .i64 0, .int .i64 0, .int .i64 0, .slice none 0 0] T_api_Config_api_Config fun b_2 w_4 =>
     ((
      KEEP w_4 [Fact.cell ⟨b_1, 0, none⟩ (.int .i64 n_1), Fact.cell ⟨b_1, 1, none⟩ (.int .i64 n_2), Fact.cell ⟨b_1, 2, none⟩ (.int .i64 n_3), Fact.cell ⟨b_1, 3, none⟩ (.int .i64 n_4), Fact.cell ⟨b_1, 4, none⟩ (.slice a_1 l_1 c_1), Fact.cell ⟨b_1, 5, none⟩ (.int .u8 n_5), Fact.cell ⟨b_1, 6, none⟩ (.int .u8 n_6), Fact.cell ⟨b_1, 7, none⟩ (.int .u8 n_7), Fact.cell ⟨b_1, 8, none⟩ (.int .u16 n_8)]) ∧
      NEW w_4 [.int .u8 0, .int .u8 0] T_2_uint8 fun b_3 w_5 =>
      ((
       KEEP w_5 [Fact.cell ⟨b_1, 0, none⟩ (.int .i64 n_1), Fact.cell ⟨b_1, 1, none⟩ (.int .i64 n_2), Fact.cell ⟨b_1, 2, none⟩ (.int .i64 n_3), Fact.cell ⟨b_1, 3, none⟩ (.int .i64 n_4), Fact.cell ⟨b_1, 4, none⟩ (.slice a_1 l_1 c_1), Fact.cell ⟨b_1, 5, none⟩ (.int .u8 n_5), Fact.cell ⟨b_1, 6, none⟩ (.int .u8 n_6), Fact.cell ⟨b_1, 7, none⟩ (.int .u8 n_7), Fact.cell ⟨b_1, 8, none⟩ (.int .u16 n_8)]) ∧
       ST1 w_5 ⟨b_2, 0, none⟩ (.int .i64 n_1) fun w_6 =>
       ST1 w_6 ⟨b_2, 1, none⟩ (.int .i64 n_2) fun w_7 =>
       ST1 w_7 ⟨b_2, 2, none⟩ (.int .i64 n_3) fun w_8 =>
       ST1 w_8 ⟨b_2, 3, none⟩ (.int .i64 n_4) fun w_9 =>
       ST1 w_9 ⟨b_2, 4, none⟩ (.slice a_1 l_1 c_1) fun w_10 =>
       ((
        KEEP w_10 [Fact.cell ⟨b_1, 5, none⟩ (.int .u8 n_5), Fact.cell ⟨b_1, 6, none⟩ (.int .u8 n_6), Fact.cell ⟨b_1, 7, none⟩ (.int .u8 n_7), Fact.cell ⟨b_1, 8, none⟩ (.int .u16 n_8)]) ∧
        ST1 w_10 ⟨b_3, 0, none⟩ (.int .u8 n_6) fun w_11 =>
        ST1 w_11 ⟨b_3, 1, none⟩ (.int .u8 n_7) fun w_12 =>
        ((
         KEEP w_12 [Fact.cell ⟨b_1, 8, none⟩ (.int .u16 n_8)]) ∧
         J_1 [.pointer (some ⟨b_2, 0, none⟩), .pointer (some ⟨b_3, 0, none⟩), .int .u8 n_5, .int .u16 n_8] w_12))))) ∧
     NEW w_3 [.int .u8 0, .int .u8 0] T_2_uint8 fun b_4 w_13 =>
     ((
      KEEP w_13 [Fact.cell ⟨b_1, 0, none⟩ (.int .i64 n_1), Fact.cell ⟨b_1, 1, none⟩ (.int .i64 n_2), Fact.cell ⟨b_1, 2, none⟩ (.int .i64 n_3), Fact.cell ⟨b_1, 3, none⟩ (.int .i64 n_4), Fact.cell ⟨b_1, 4, none⟩ (.slice a_1 l_1 c_1), Fact.cell ⟨b_1, 5, none⟩ (.int .u8 n_5), Fact.cell ⟨b_1, 6, none⟩ (.int .u8 n_6), Fact.cell ⟨b_1, 7, none⟩ (.int .u8 n_7), Fact.cell ⟨b_1, 8, none⟩ (.int .u16 n_8)]) ∧
      NEW w_13 [.int .i64 0, .int .i64 0, .int .i64 0, .int .i64 0, .slice none 0 0] T_api_Config_api_Config fun b_5 w_14 =>
      ((
       KEEP w_14 [Fact.cell ⟨b_1, 0, none⟩ (.int .i64 n_1), Fact.cell ⟨b_1, 1, none⟩ (.int .i64 n_2), Fact.cell ⟨b_1, 2, none⟩ (.int .i64 n_3), Fact.cell ⟨b_1, 3, none⟩ (.int .i64 n_4), Fact.cell ⟨b_1, 4, none⟩ (.slice a_1 l_1 c_1), Fact.cell ⟨b_1, 5, none⟩ (.int .u8 n_5), Fact.cell ⟨b_1, 6, none⟩ (.int .u8 n_6), Fact.cell ⟨b_1, 7, none⟩ (.int .u8 n_7), Fact.cell ⟨b_1, 8, none⟩ (.int .u16 n_8)]) ∧
       ST1 w_14 ⟨b_5, 0, none⟩ (.int .i64 n_1) fun w_15 =>
       ST1 w_15 ⟨b_5, 1, none⟩ (.int .i64 n_2) fun w_16 =>
       ST1 w_16 ⟨b_5, 2, none⟩ (.int .i64 n_3) fun w_17 =>
       ST1 w_17 ⟨b_5, 3, none⟩ (.int .i64 n_4) fun w_18 =>
       ST1 w_18 ⟨b_5, 4, none⟩ (.slice a_1 l_1 c_1) fun w_19 =>
       ((
        KEEP w_19 [Fact.cell ⟨b_1, 5, none⟩ (.int .u8 n_5), Fact.cell ⟨b_1, 6, none⟩ (.int .u8 n_6), Fact.cell ⟨b_1, 7, none⟩ (.int .u8 n_7), Fact.cell ⟨b_1, 8, none⟩ (.int .u16 n_8)]) ∧
        ST1 w_19 ⟨b_4, 0, none⟩ (.int .u8 n_6) fun w_20 =>
        ST1 w_20 ⟨b_4, 1, none⟩ (.int .u8 n_7) fun w_21 =>
        ((
         KEEP w_21 [Fact.cell ⟨b_1, 8, none⟩ (.int .u16 n_8)]) ∧
         J_1 [.pointer (some ⟨b_5, 0, none⟩), .pointer (some ⟨b_4, 0, none⟩), .int .u8 n_5, .int .u16 n_8] w_21)))))) ∧
    ∀ w_22 : World,
    ∀ v_2 : Value,
    ∀ v_3 : Value,
    ∀ v_4 : Value,
    ∀ v_5 : Value,
    (J_1 [v_2, v_3, v_4, v_5] w_22 →
    INTV .u16 v_5 fun n_9 =>
    INTV .u8 v_4 fun n_10 =>
    PTRV v_3 fun q_1 =>
    PTRV v_2 fun q_2 =>
    NN q_2 fun b_6 o_1 =>
    LDi .i64 w_22 ⟨b_6, o_1, none⟩ fun n_11 =>
    LDi .i64 w_22 ⟨b_6, o_1 + 1, none⟩ fun n_12 =>
    LDi .i64 w_22 ⟨b_6, o_1 + 2, none⟩ fun n_13 =>
    LDi .i64 w_22 ⟨b_6, o_1 + 3, none⟩ fun n_14 =>
    LDl w_22 ⟨b_6, o_1 + 4, none⟩ fun a_2 l_2 c_2 =>
    CALL Pg F_r04_May [.agg #[.int .i64 n_11, .int .i64 n_12, .int .i64 n_13, .int .i64 n_14, .slice a_2 l_2 c_2]] w_22 fun v_6 w_23 =>
    BOOLV v_6 fun t_2 =>
    ITE (!t_2) (
     K (.bool true) w_23) (
     BIND (IntKind.i64.wrap n_10) fun n_15 =>
     NN q_2 fun b_7 o_2 =>
     LDl w_23 ⟨b_7, o_2 + 4, none⟩ fun _ l_3 _ =>
     NZ ((↑l_3 : Int)) (
     BIND (n_15.tmod (↑l_3 : Int)) fun n_16 =>
     JOIN fun J_2 =>
     ((
      DRAW w_23 fun w_24 =>
      IDX q_1 2 0 1 fun b_8 o_3 =>
      LDi .u8 w_24 ⟨b_8, o_3, none⟩ fun n_17 =>
      BIND (IntKind.i64.wrap n_17) fun n_18 =>
      NN q_2 fun b_9 o_4 =>
      LDi .i64 w_24 ⟨b_9, o_4 + 1, none⟩ fun n_19 =>
      NZ n_19 (
      BIND (n_18.tmod n_19) fun n_20 =>
      IDX q_1 2 1 1 fun b_10 o_5 =>
      LDi .u8 w_24 ⟨b_10, o_5, none⟩ fun n_21 =>
      BIND (IntKind.i64.wrap n_21) fun n_22 =>
      NN q_2 fun b_11 o_6 =>
      LDi .i64 w_24 ⟨b_11, o_6, none⟩ fun n_23 =>
      LDi .i64 w_24 ⟨b_11, o_6 + 1, none⟩ fun n_24 =>
      LDi .i64 w_24 ⟨b_11, o_6 + 2, none⟩ fun n_25 =>
      LDi .i64 w_24 ⟨b_11, o_6 + 3, none⟩ fun n_26 =>
      LDl w_24 ⟨b_11, o_6 + 4, none⟩ fun a_4 l_4 c_4 =>
      ((
       CALL Pg F_arena_Cap [.agg #[.int .i64 n_23, .int .i64 n_24, .int .i64 n_25, .int .i64 n_26, .slice a_4 l_4 c_4], .int .i64 n_16] w_24 fun v_7 w_25 =>
       INTV .i64 v_7 fun n_27 =>
       ((
        KEEP w_25 [Fact.cell ⟨b_8, o_3, none⟩ (.int .u8 n_17), Fact.cell ⟨b_9, o_4 + 1, none⟩ (.int .i64 n_19), Fact.cell ⟨b_10, o_5, none⟩ (.int .u8 n_21)]) ∧
        NZ n_27 (
        BIND (n_22.tmod n_27) fun n_28 =>
        NEW w_25 [.int .i64 0, .int .i64 0] T_api_Block_api_Block fun b_12 w_26 =>
        ((
         KEEP w_26 [Fact.cell ⟨b_8, o_3, none⟩ (.int .u8 n_17), Fact.cell ⟨b_9, o_4 + 1, none⟩ (.int .i64 n_19), Fact.cell ⟨b_10, o_5, none⟩ (.int .u8 n_21)]) ∧
         ST1 w_26 ⟨b_12, 0, none⟩ (.int .i64 n_20) fun w_27 =>
         ST1 w_27 ⟨b_12, 1, none⟩ (.int .i64 n_28) fun w_28 =>
         ((
          KEEP w_28 []) ∧
          J_2 [.pointer (some ⟨b_12, 0, none⟩)] w_28))))) ∧
       NEW w_24 [.int .i64 0, .int .i64 0] T_api_Block_api_Block fun b_13 w_29 =>
       ((
        KEEP w_29 [Fact.cell ⟨b_8, o_3, none⟩ (.int .u8 n_17), Fact.cell ⟨b_9, o_4 + 1, none⟩ (.int .i64 n_19), Fact.cell ⟨b_10, o_5, none⟩ (.int .u8 n_21), Fact.cell ⟨b_11, o_6, none⟩ (.int .i64 n_23), Fact.cell ⟨b_11, o_6 + 1, none⟩ (.int .i64 n_24), Fact.cell ⟨b_11, o_6 + 2, none⟩ (.int .i64 n_25), Fact.cell ⟨b_11, o_6 + 3, none⟩ (.int .i64 n_26), Fact.cell ⟨b_11, o_6 + 4, none⟩ (.slice a_4 l_4 c_4)]) ∧
        CALL Pg F_arena_Cap [.agg #[.int .i64 n_23, .int .i64 n_24, .int .i64 n_25, .int .i64 n_26, .slice a_4 l_4 c_4], .int .i64 n_16] w_29 fun v_8 w_30 =>
        INTV .i64 v_8 fun n_29 =>
        ((
         KEEP w_30 [Fact.cell ⟨b_8, o_3, none⟩ (.int .u8 n_17), Fact.cell ⟨b_9, o_4 + 1, none⟩ (.int .i64 n_19), Fact.cell ⟨b_10, o_5, none⟩ (.int .u8 n_21)]) ∧
         NZ n_29 (
         BIND (n_22.tmod n_29) fun n_30 =>
         ST1 w_30 ⟨b_13, 0, none⟩ (.int .i64 n_20) fun w_31 =>
         ST1 w_31 ⟨b_13, 1, none⟩ (.int .i64 n_30) fun w_32 =>
         ((
          KEEP w_32 []) ∧
          J_2 [.pointer (some ⟨b_13, 0, none⟩)] w_32))))))) ∧
      ∀ w_33 : World,
      ∀ v_9 : Value,
      (J_2 [v_9] w_33 →
      PTRV v_9 fun q_3 =>
      JOIN fun J_3 =>
      ((
       DRAW w_33 fun w_34 =>
       NN q_2 fun b_14 o_7 =>
       LDi .i64 w_34 ⟨b_14, o_7, none⟩ fun n_31 =>
       LDi .i64 w_34 ⟨b_14, o_7 + 1, none⟩ fun n_32 =>
       LDi .i64 w_34 ⟨b_14, o_7 + 2, none⟩ fun n_33 =>
       LDi .i64 w_34 ⟨b_14, o_7 + 3, none⟩ fun n_34 =>
       LDl w_34 ⟨b_14, o_7 + 4, none⟩ fun a_5 l_5 c_5 =>
       NN q_3 fun b_15 o_8 =>
       LDi .i64 w_34 ⟨b_15, o_8, none⟩ fun n_35 =>
       LDi .i64 w_34 ⟨b_15, o_8 + 1, none⟩ fun n_36 =>
       BIND (IntKind.i64.wrap n_9) fun n_37 =>
       NN q_2 fun b_16 o_9 =>
       LDl w_34 ⟨b_16, o_9 + 4, none⟩ fun a_6 l_6 c_6 =>
       IDX a_6 l_6 n_16 1 fun b_17 o_10 =>
       LDi .i64 w_34 ⟨b_17, o_10, none⟩ fun n_38 =>
       NZ n_38 (
       BIND (n_37.tmod n_38) fun n_39 =>
       CALL Pg F_arena_Address [.agg #[.int .i64 n_31, .int .i64 n_32, .int .i64 n_33, .int .i64 n_34, .slice a_5 l_5 c_5], .int .i64 n_16, .agg #[.int .i64 n_35, .int .i64 n_36]] w_34 fun v_10 w_35 =>
       INTV .i64 v_10 fun n_40 =>
       ((
        KEEP w_35 [Fact.cell ⟨b_16, o_9 + 4, none⟩ (.slice a_6 l_6 c_6), Fact.cell ⟨b_17, o_10, none⟩ (.int .i64 n_38)]) ∧
        J_3 [.int .i64 n_40, .int .i64 n_39] w_35))) ∧
       ∀ w_36 : World,
       ∀ v_11 : Value,
       ∀ v_12 : Value,
       (J_3 [v_11, v_12] w_36 →
       INTV .i64 v_12 fun n_41 =>
       INTV .i64 v_11 fun n_42 =>
       NN q_2 fun b_18 o_11 =>
       LDi .i64 w_36 ⟨b_18, o_11, none⟩ fun n_43 =>
       LDi .i64 w_36 ⟨b_18, o_11 + 1, none⟩ fun n_44 =>
       LDi .i64 w_36 ⟨b_18, o_11 + 2, none⟩ fun n_45 =>
       LDi .i64 w_36 ⟨b_18, o_11 + 3, none⟩ fun n_46 =>
       LDl w_36 ⟨b_18, o_11 + 4, none⟩ fun a_7 l_7 c_7 =>
       BIND (IntKind.i64.wrap (n_42 + n_41)) fun n_47 =>
       CALL Pg F_arena_Block [.agg #[.int .i64 n_43, .int .i64 n_44, .int .i64 n_45, .int .i64 n_46, .slice a_7 l_7 c_7], .int .i64 n_16, .int .i64 n_47] w_36 fun v_13 w_37 =>
       TUPV v_13 fun cs_1 =>
       GETV cs_1 0 fun v_14 =>
       AGGV v_14 fun cs_2 =>
       GETV cs_2 0 fun v_15 =>
       INTV .i64 v_15 fun n_48 =>
       GETV cs_2 1 fun v_16 =>
       INTV .i64 v_16 fun n_49 =>
       LEN cs_2 2 (
       GETV cs_1 1 fun v_17 =>
       BOOLV v_17 fun t_3 =>
       LEN cs_1 2 (
       NEW w_37 [.int .i64 0, .int .i64 0] T_api_Block_api_Block fun b_19 w_38 =>
       ST1 w_38 ⟨b_19, 0, none⟩ (.int .i64 n_48) fun w_39 =>
       ST1 w_39 ⟨b_19, 1, none⟩ (.int .i64 n_49) fun w_40 =>
       DRAW w_40 fun w_41 =>
       ITE (t_3 == (n_41 == 0)) (
        ITE (!t_3) (
         NN q_2 fun b_20 o_12 =>
         LDl w_41 ⟨b_20, o_12 + 4, none⟩ fun a_8 l_8 _ =>
         IDX a_8 l_8 n_16 1 fun b_21 o_13 =>
         LDi .i64 w_41 ⟨b_21, o_13, none⟩ fun n_50 =>
         BIND (IntKind.i64.wrap (n_42 + n_50)) fun n_51 =>
         NN q_3 fun b_22 o_14 =>
         LDi .i64 w_41 ⟨b_22, o_14, none⟩ fun n_52 =>
         BIND (IntKind.i64.wrap (n_52 + 1)) fun n_53 =>
         BIND (IntKind.i64.wrap (1024 * n_53)) fun n_54 =>
         BIND (IntKind.i64.wrap (65536 + n_54)) fun n_55 =>
         ITE (decide (n_51 ≤ n_55)) (
          NN q_2 fun b_23 o_15 =>
          LDi .i64 w_41 ⟨b_23, o_15, none⟩ fun n_56 =>
          LDi .i64 w_41 ⟨b_23, o_15 + 1, none⟩ fun n_57 =>
          LDi .i64 w_41 ⟨b_23, o_15 + 2, none⟩ fun n_58 =>
          LDi .i64 w_41 ⟨b_23, o_15 + 3, none⟩ fun n_59 =>
          LDl w_41 ⟨b_23, o_15 + 4, none⟩ fun a_9 l_9 c_9 =>
          NN q_3 fun b_24 o_16 =>
          LDi .i64 w_41 ⟨b_24, o_16 + 1, none⟩ fun n_60 =>
          CALL Pg F_arena_All [.agg #[.int .i64 n_56, .int .i64 n_57, .int .i64 n_58, .int .i64 n_59, .slice a_9 l_9 c_9], .int .i64 n_16] w_41 fun v_18 w_42 =>
          INTV .u64 v_18 fun n_61 =>
          ((
           KEEP w_42 [Fact.cell ⟨b_24, o_16 + 1, none⟩ (.int .i64 n_60)]) ∧
           CALL Pg F_mask_Mask_Has [.int .u64 n_61, .int .i64 n_60] w_42 fun v_19 w_43 =>
           BOOLV v_19 fun t_4 =>
           ((
            KEEP w_43 []) ∧
            K (.bool t_4) w_43))) (
          K (.bool false) w_41)) (
         LDi .i64 w_41 ⟨b_19, 0, none⟩ fun n_62 =>
         LDi .i64 w_41 ⟨b_19, 1, none⟩ fun n_63 =>
         NN q_3 fun b_25 o_17 =>
         LDi .i64 w_41 ⟨b_25, o_17, none⟩ fun n_64 =>
         LDi .i64 w_41 ⟨b_25, o_17 + 1, none⟩ fun n_65 =>
         ITE (n_62 == n_64 && (n_63 == n_65 && true)) (
          NN q_2 fun b_26 o_18 =>
          LDl w_41 ⟨b_26, o_18 + 4, none⟩ fun a_10 l_10 _ =>
          IDX a_10 l_10 n_16 1 fun b_27 o_19 =>
          LDi .i64 w_41 ⟨b_27, o_19, none⟩ fun n_66 =>
          BIND (IntKind.i64.wrap (n_42 + n_66)) fun n_67 =>
          NN q_3 fun b_28 o_20 =>
          LDi .i64 w_41 ⟨b_28, o_20, none⟩ fun n_68 =>
          BIND (IntKind.i64.wrap (n_68 + 1)) fun n_69 =>
          BIND (IntKind.i64.wrap (1024 * n_69)) fun n_70 =>
          BIND (IntKind.i64.wrap (65536 + n_70)) fun n_71 =>
          ITE (decide (n_67 ≤ n_71)) (
           NN q_2 fun b_29 o_21 =>
           LDi .i64 w_41 ⟨b_29, o_21, none⟩ fun n_72 =>
           LDi .i64 w_41 ⟨b_29, o_21 + 1, none⟩ fun n_73 =>
           LDi .i64 w_41 ⟨b_29, o_21 + 2, none⟩ fun n_74 =>
           LDi .i64 w_41 ⟨b_29, o_21 + 3, none⟩ fun n_75 =>
           LDl w_41 ⟨b_29, o_21 + 4, none⟩ fun a_11 l_11 c_11 =>
           NN q_3 fun b_30 o_22 =>
           LDi .i64 w_41 ⟨b_30, o_22 + 1, none⟩ fun n_76 =>
           CALL Pg F_arena_All [.agg #[.int .i64 n_72, .int .i64 n_73, .int .i64 n_74, .int .i64 n_75, .slice a_11 l_11 c_11], .int .i64 n_16] w_41 fun v_20 w_44 =>
           INTV .u64 v_20 fun n_77 =>
           ((
            KEEP w_44 [Fact.cell ⟨b_30, o_22 + 1, none⟩ (.int .i64 n_76)]) ∧
            CALL Pg F_mask_Mask_Has [.int .u64 n_77, .int .i64 n_76] w_44 fun v_21 w_45 =>
            BOOLV v_21 fun t_5 =>
            ((
             KEEP w_45 []) ∧
             K (.bool t_5) w_45))) (
           K (.bool false) w_41)) (
          K (.bool false) w_41))) (
        K (.bool false) w_41))))))))))))
theorem E_l05_ArenaWithin (a0 : Int) (a1 : Int) (a2 : Int) (a3 : Int) (a4a : Option Addr) (a4l : Nat) (a4c : Nat) (a5 : Int) (a6 : Int) (a7 : Int) (a8 : Int) (w : World) (K : Value → World → Prop) :
    D_l05_ArenaWithin a0 a1 a2 a3 a4a a4l a4c a5 a6 a7 a8 w K = vcFn Pg Try.f8 [3, 7, 8] [.agg #[.int .i64 a0, .int .i64 a1, .int .i64 a2, .int .i64 a3, .slice a4a a4l a4c, .int .u8 a5, .int .u8 a6, .int .u8 a7, .int .u16 a8]] w K := by kernel_rfl
theorem C_l05_ArenaWithin {a0 : Int} {a1 : Int} {a2 : Int} {a3 : Int} {a4a : Option Addr} {a4l : Nat} {a4c : Nat} {a5 : Int} {a6 : Int} {a7 : Int} {a8 : Int} {w : World} {K : Value → World → Prop} (h : D_l05_ArenaWithin a0 a1 a2 a3 a4a a4l a4c a5 a6 a7 a8 w K) :
    CALL Pg F_l05_ArenaWithin [.agg #[.int .i64 a0, .int .i64 a1, .int .i64 a2, .int .i64 a3, .slice a4a a4l a4c, .int .u8 a5, .int .u8 a6, .int .u8 a7, .int .u16 a8]] w K :=
  call_of_vc [3, 7, 8] Try.func8 rfl (Nat.le_of_ble_eq_true (by kernel_rfl)) ((E_l05_ArenaWithin a0 a1 a2 a3 a4a a4l a4c a5 a6 a7 a8 w K) ▸ h)

end Go.Proofs.Ytapcknlnhpafcaa
