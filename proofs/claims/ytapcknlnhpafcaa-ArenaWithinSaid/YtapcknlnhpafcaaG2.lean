/- What the evaluator asks of each function, in readable form: printed by a program of this claim's own. -/
import Derived.Test.YtapcknlnhpafcaaN
import Derived.Test.YtapcknlnhpafcaaDen
namespace Go.Proofs.Ytapcknlnhpafcaa
open Go.Den
set_option linter.unusedVariables false
set_option maxRecDepth 1000000
def D_l05_ArenaSizes (c0 : Int) (c1 : Int) (c2 : Int) (c3 : Int) (c4a : Option Addr) (c4l : Nat) (c4c : Nat) (size : Int) (w : World) (K : Value → World → Prop) : Prop :=
  NEW w [.int .i64 c0, .int .i64 c1, .int .i64 c2, .int .i64 c3, .slice c4a c4l c4c] T_api_Config_api_Config fun b_1 w_1 =>
  CALL Pg F_l05_speaks [] w_1 fun v_1 w_2 =>
  BOOLV v_1 fun t_1 =>
  ITE (!t_1) (
   K (.bool false) w_2) (
   LDi .i64 w_2 ⟨b_1, 0, none⟩ fun n_1 =>
   LDi .i64 w_2 ⟨b_1, 1, none⟩ fun n_2 =>
   LDi .i64 w_2 ⟨b_1, 2, none⟩ fun n_3 =>
   LDi .i64 w_2 ⟨b_1, 3, none⟩ fun n_4 =>
   LDl w_2 ⟨b_1, 4, none⟩ fun a_1 l_1 c_1 =>
   CALL Pg F_r04_May [.agg #[.int .i64 n_1, .int .i64 n_2, .int .i64 n_3, .int .i64 n_4, .slice a_1 l_1 c_1]] w_2 fun v_2 w_3 =>
   BOOLV v_2 fun t_2 =>
   ITE (!t_2) (
    K (.bool true) w_3) (
    LDi .i64 w_3 ⟨b_1, 0, none⟩ fun n_5 =>
    LDi .i64 w_3 ⟨b_1, 1, none⟩ fun n_6 =>
    LDi .i64 w_3 ⟨b_1, 2, none⟩ fun n_7 =>
    LDi .i64 w_3 ⟨b_1, 3, none⟩ fun n_8 =>
    LDl w_3 ⟨b_1, 4, none⟩ fun a_2 l_2 c_2 =>
    CALL Pg F_arena_Class [.agg #[.int .i64 n_5, .int .i64 n_6, .int .i64 n_7, .int .i64 n_8, .slice a_2 l_2 c_2], .int .i64 size] w_3 fun v_3 w_4 =>
    TUPV v_3 fun cs_1 =>
    GETV cs_1 0 fun v_4 =>
    INTV .i64 v_4 fun n_9 =>
    GETV cs_1 1 fun v_5 =>
    BOOLV v_5 fun t_3 =>
    LEN cs_1 2 (
    LDi .i64 w_4 ⟨b_1, 0, none⟩ fun n_10 =>
    LDi .i64 w_4 ⟨b_1, 1, none⟩ fun n_11 =>
    LDi .i64 w_4 ⟨b_1, 2, none⟩ fun n_12 =>
    LDi .i64 w_4 ⟨b_1, 3, none⟩ fun n_13 =>
    LDl w_4 ⟨b_1, 4, none⟩ fun a_3 l_3 c_3 =>
    CALL Pg F_r05_Class [.agg #[.int .i64 n_10, .int .i64 n_11, .int .i64 n_12, .int .i64 n_13, .slice a_3 l_3 c_3], .int .i64 size] w_4 fun v_6 w_5 =>
    INTV .i64 v_6 fun n_14 =>
    JOIN fun J_1 =>
    ((
     JOIN fun J_2 =>
     ((
      DRAW w_5 fun w_6 =>
      ITE (!t_3 == decide (n_14 ≥ 0)) (
       J_2 [.bool true] w_6) (
       ITE (t_3) (
        ITE (n_9 != n_14) (
         J_2 [.bool true] w_6) (
         ITE (!t_3) (
          ITE (n_9 != 0) (
           J_2 [.bool true] w_6) (
           LDi .i64 w_6 ⟨b_1, 0, none⟩ fun n_15 =>
           LDi .i64 w_6 ⟨b_1, 1, none⟩ fun n_16 =>
           LDi .i64 w_6 ⟨b_1, 2, none⟩ fun n_17 =>
           LDi .i64 w_6 ⟨b_1, 3, none⟩ fun n_18 =>
           LDl w_6 ⟨b_1, 4, none⟩ fun a_4 l_4 c_4 =>
           LDi .i64 w_6 ⟨b_1, 0, none⟩ fun n_19 =>
           LDi .i64 w_6 ⟨b_1, 1, none⟩ fun n_20 =>
           LDi .i64 w_6 ⟨b_1, 2, none⟩ fun n_21 =>
           LDi .i64 w_6 ⟨b_1, 3, none⟩ fun n_22 =>
           LDl w_6 ⟨b_1, 4, none⟩ fun a_5 l_5 c_5 =>
           CALL Pg F_arena_Run [.agg #[.int .i64 n_15, .int .i64 n_16, .int .i64 n_17, .int .i64 n_18, .slice a_4 l_4 c_4], .int .i64 size] w_6 fun v_7 w_7 =>
           INTV .i64 v_7 fun n_23 =>
           ((
            KEEP w_7 [Fact.cell ⟨b_1, 0, none⟩ (.int .i64 n_19), Fact.cell ⟨b_1, 1, none⟩ (.int .i64 n_20), Fact.cell ⟨b_1, 2, none⟩ (.int .i64 n_21), Fact.cell ⟨b_1, 3, none⟩ (.int .i64 n_22), Fact.cell ⟨b_1, 4, none⟩ (.slice a_5 l_5 c_5)]) ∧
            CALL Pg F_r05_Run [.agg #[.int .i64 n_19, .int .i64 n_20, .int .i64 n_21, .int .i64 n_22, .slice a_5 l_5 c_5], .int .i64 size] w_7 fun v_8 w_8 =>
            INTV .i64 v_8 fun n_24 =>
            ((
             KEEP w_8 []) ∧
             J_2 [.bool (n_23 != n_24)] w_8)))) (
          LDi .i64 w_6 ⟨b_1, 0, none⟩ fun n_25 =>
          LDi .i64 w_6 ⟨b_1, 1, none⟩ fun n_26 =>
          LDi .i64 w_6 ⟨b_1, 2, none⟩ fun n_27 =>
          LDi .i64 w_6 ⟨b_1, 3, none⟩ fun n_28 =>
          LDl w_6 ⟨b_1, 4, none⟩ fun a_6 l_6 c_6 =>
          LDi .i64 w_6 ⟨b_1, 0, none⟩ fun n_29 =>
          LDi .i64 w_6 ⟨b_1, 1, none⟩ fun n_30 =>
          LDi .i64 w_6 ⟨b_1, 2, none⟩ fun n_31 =>
          LDi .i64 w_6 ⟨b_1, 3, none⟩ fun n_32 =>
          LDl w_6 ⟨b_1, 4, none⟩ fun a_7 l_7 c_7 =>
          CALL Pg F_arena_Run [.agg #[.int .i64 n_25, .int .i64 n_26, .int .i64 n_27, .int .i64 n_28, .slice a_6 l_6 c_6], .int .i64 size] w_6 fun v_9 w_9 =>
          INTV .i64 v_9 fun n_33 =>
          ((
           KEEP w_9 [Fact.cell ⟨b_1, 0, none⟩ (.int .i64 n_29), Fact.cell ⟨b_1, 1, none⟩ (.int .i64 n_30), Fact.cell ⟨b_1, 2, none⟩ (.int .i64 n_31), Fact.cell ⟨b_1, 3, none⟩ (.int .i64 n_32), Fact.cell ⟨b_1, 4, none⟩ (.slice a_7 l_7 c_7)]) ∧
           CALL Pg F_r05_Run [.agg #[.int .i64 n_29, .int .i64 n_30, .int .i64 n_31, .int .i64 n_32, .slice a_7 l_7 c_7], .int .i64 size] w_9 fun v_10 w_10 =>
           INTV .i64 v_10 fun n_34 =>
           ((
            KEEP w_10 []) ∧
            J_2 [.bool (n_33 != n_34)] w_10))))) (
        ITE (!t_3) (
         ITE (n_9 != 0) (
          J_2 [.bool true] w_6) (
          LDi .i64 w_6 ⟨b_1, 0, none⟩ fun n_35 =>
          LDi .i64 w_6 ⟨b_1, 1, none⟩ fun n_36 =>
          LDi .i64 w_6 ⟨b_1, 2, none⟩ fun n_37 =>
          LDi .i64 w_6 ⟨b_1, 3, none⟩ fun n_38 =>
          LDl w_6 ⟨b_1, 4, none⟩ fun a_8 l_8 c_8 =>
          LDi .i64 w_6 ⟨b_1, 0, none⟩ fun n_39 =>
          LDi .i64 w_6 ⟨b_1, 1, none⟩ fun n_40 =>
          LDi .i64 w_6 ⟨b_1, 2, none⟩ fun n_41 =>
          LDi .i64 w_6 ⟨b_1, 3, none⟩ fun n_42 =>
          LDl w_6 ⟨b_1, 4, none⟩ fun a_9 l_9 c_9 =>
          CALL Pg F_arena_Run [.agg #[.int .i64 n_35, .int .i64 n_36, .int .i64 n_37, .int .i64 n_38, .slice a_8 l_8 c_8], .int .i64 size] w_6 fun v_11 w_11 =>
          INTV .i64 v_11 fun n_43 =>
          ((
           KEEP w_11 [Fact.cell ⟨b_1, 0, none⟩ (.int .i64 n_39), Fact.cell ⟨b_1, 1, none⟩ (.int .i64 n_40), Fact.cell ⟨b_1, 2, none⟩ (.int .i64 n_41), Fact.cell ⟨b_1, 3, none⟩ (.int .i64 n_42), Fact.cell ⟨b_1, 4, none⟩ (.slice a_9 l_9 c_9)]) ∧
           CALL Pg F_r05_Run [.agg #[.int .i64 n_39, .int .i64 n_40, .int .i64 n_41, .int .i64 n_42, .slice a_9 l_9 c_9], .int .i64 size] w_11 fun v_12 w_12 =>
           INTV .i64 v_12 fun n_44 =>
           ((
            KEEP w_12 []) ∧
            J_2 [.bool (n_43 != n_44)] w_12)))) (
         LDi .i64 w_6 ⟨b_1, 0, none⟩ fun n_45 =>
         LDi .i64 w_6 ⟨b_1, 1, none⟩ fun n_46 =>
         LDi .i64 w_6 ⟨b_1, 2, none⟩ fun n_47 =>
         LDi .i64 w_6 ⟨b_1, 3, none⟩ fun n_48 =>
         LDl w_6 ⟨b_1, 4, none⟩ fun a_10 l_10 c_10 =>
         LDi .i64 w_6 ⟨b_1, 0, none⟩ fun n_49 =>
         LDi .i64 w_6 ⟨b_1, 1, none⟩ fun n_50 =>
         LDi .i64 w_6 ⟨b_1, 2, none⟩ fun n_51 =>
         LDi .i64 w_6 ⟨b_1, 3, none⟩ fun n_52 =>
         LDl w_6 ⟨b_1, 4, none⟩ fun a_11 l_11 c_11 =>
         CALL Pg F_arena_Run [.agg #[.int .i64 n_45, .int .i64 n_46, .int .i64 n_47, .int .i64 n_48, .slice a_10 l_10 c_10], .int .i64 size] w_6 fun v_13 w_13 =>
         INTV .i64 v_13 fun n_53 =>
         ((
          KEEP w_13 [Fact.cell ⟨b_1, 0, none⟩ (.int .i64 n_49), Fact.cell ⟨b_1, 1, none⟩ (.int .i64 n_50), Fact.cell ⟨b_1, 2, none⟩ (.int .i64 n_51), Fact.cell ⟨b_1, 3, none⟩ (.int .i64 n_52), Fact.cell ⟨b_1, 4, none⟩ (.slice a_11 l_11 c_11)]) ∧
          CALL Pg F_r05_Run [.agg #[.int .i64 n_49, .int .i64 n_50, .int .i64 n_51, .int .i64 n_52, .slice a_11 l_11 c_11], .int .i64 size] w_13 fun v_14 w_14 =>
          INTV .i64 v_14 fun n_54 =>
          ((
           KEEP w_14 []) ∧
           J_2 [.bool (n_53 != n_54)] w_14)))))) ∧
      ∀ w_15 : World,
      ∀ v_15 : Value,
      (J_2 [v_15] w_15 →
      BOOLV v_15 fun t_4 =>
      ITE (t_4) (
       K (.bool false) w_15) (
       J_1 [.bool false] w_15)))) ∧
     ∀ w_16 : World,
     ∀ v_16 : Value,
     (J_1 [v_16] w_16 →
     BOOLV v_16 fun _ =>
     ITE (decide (size ≥ 1)) (
      LDi .i64 w_16 ⟨b_1, 0, none⟩ fun n_55 =>
      LDi .i64 w_16 ⟨b_1, 1, none⟩ fun n_56 =>
      LDi .i64 w_16 ⟨b_1, 2, none⟩ fun n_57 =>
      LDi .i64 w_16 ⟨b_1, 3, none⟩ fun n_58 =>
      LDl w_16 ⟨b_1, 4, none⟩ fun a_12 l_12 c_12 =>
      CALL Pg F_arena_Most [.agg #[.int .i64 n_55, .int .i64 n_56, .int .i64 n_57, .int .i64 n_58, .slice a_12 l_12 c_12]] w_16 fun v_17 w_17 =>
      INTV .i64 v_17 fun n_59 =>
      DRAW w_17 fun w_18 =>
      LDi .i64 w_18 ⟨b_1, 0, none⟩ fun n_60 =>
      LDi .i64 w_18 ⟨b_1, 1, none⟩ fun n_61 =>
      LDi .i64 w_18 ⟨b_1, 2, none⟩ fun n_62 =>
      LDi .i64 w_18 ⟨b_1, 3, none⟩ fun n_63 =>
      LDl w_18 ⟨b_1, 4, none⟩ fun a_13 l_13 c_13 =>
      LDi .i64 w_18 ⟨b_1, 1, none⟩ fun n_64 =>
      BIND (IntKind.i64.wrap (1024 * n_64)) fun n_65 =>
      CALL Pg F_arena_Most [.agg #[.int .i64 n_60, .int .i64 n_61, .int .i64 n_62, .int .i64 n_63, .slice a_13 l_13 c_13]] w_18 fun v_18 w_19 =>
      INTV .i64 v_18 fun n_66 =>
      ((
       KEEP w_19 [Fact.cell ⟨b_1, 1, none⟩ (.int .i64 n_64)]) ∧
       ITE (n_66 == n_65) (
        LDi .i64 w_19 ⟨b_1, 0, none⟩ fun n_67 =>
        LDi .i64 w_19 ⟨b_1, 1, none⟩ fun n_68 =>
        LDi .i64 w_19 ⟨b_1, 2, none⟩ fun n_69 =>
        LDi .i64 w_19 ⟨b_1, 3, none⟩ fun n_70 =>
        LDl w_19 ⟨b_1, 4, none⟩ fun a_14 l_14 c_14 =>
        CALL Pg F_arena_Run [.agg #[.int .i64 n_67, .int .i64 n_68, .int .i64 n_69, .int .i64 n_70, .slice a_14 l_14 c_14], .int .i64 size] w_19 fun v_19 w_20 =>
        INTV .i64 v_19 fun n_71 =>
        ((
         KEEP w_20 []) ∧
         ITE (decide (size ≤ n_59) == !t_3 == decide (n_71 > 0)) (
          ITE (!t_3) (
           K (.bool true) w_20) (
           LDl w_20 ⟨b_1, 4, none⟩ fun a_15 l_15 _ =>
           IDX a_15 l_15 n_9 1 fun b_2 o_1 =>
           LDi .i64 w_20 ⟨b_2, o_1, none⟩ fun n_72 =>
           K (.bool (decide (size ≤ n_72))) w_20)) (
          K (.bool false) w_20))) (
        K (.bool false) w_19))) (
      DRAW w_16 fun w_21 =>
      LDi .i64 w_21 ⟨b_1, 0, none⟩ fun n_73 =>
      LDi .i64 w_21 ⟨b_1, 1, none⟩ fun n_74 =>
      LDi .i64 w_21 ⟨b_1, 2, none⟩ fun n_75 =>
      LDi .i64 w_21 ⟨b_1, 3, none⟩ fun n_76 =>
      LDl w_21 ⟨b_1, 4, none⟩ fun a_16 l_16 c_16 =>
      LDi .i64 w_21 ⟨b_1, 1, none⟩ fun n_77 =>
      BIND (IntKind.i64.wrap (1024 * n_77)) fun n_78 =>
      CALL Pg F_arena_Most [.agg #[.int .i64 n_73, .int .i64 n_74, .int .i64 n_75, .int .i64 n_76, .slice a_16 l_16 c_16]] w_21 fun v_20 w_22 =>
      INTV .i64 v_20 fun n_79 =>
      ((
       KEEP w_22 [Fact.cell ⟨b_1, 1, none⟩ (.int .i64 n_77)]) ∧
       ITE (n_79 == n_78) (
        LDi .i64 w_22 ⟨b_1, 0, none⟩ fun n_80 =>
        LDi .i64 w_22 ⟨b_1, 1, none⟩ fun n_81 =>
        LDi .i64 w_22 ⟨b_1, 2, none⟩ fun n_82 =>
        LDi .i64 w_22 ⟨b_1, 3, none⟩ fun n_83 =>
        LDl w_22 ⟨b_1, 4, none⟩ fun a_17 l_17 c_17 =>
        CALL Pg F_arena_Run [.agg #[.int .i64 n_80, .int .i64 n_81, .int .i64 n_82, .int .i64 n_83, .slice a_17 l_17 c_17], .int .i64 size] w_22 fun v_21 w_23 =>
        INTV .i64 v_21 fun n_84 =>
        ((
         KEEP w_23 []) ∧
         ITE (false == !t_3 == decide (n_84 > 0)) (
          ITE (!t_3) (
           K (.bool true) w_23) (
           LDl w_23 ⟨b_1, 4, none⟩ fun a_18 l_18 _ =>
           IDX a_18 l_18 n_9 1 fun b_3 o_2 =>
           LDi .i64 w_23 ⟨b_3, o_2, none⟩ fun n_85 =>
           K (.bool (decide (size ≤ n_85))) w_23)) (
          K (.bool false) w_23))) (
        K (.bool false) w_22))))))))
theorem E_l05_ArenaSizes (c0 : Int) (c1 : Int) (c2 : Int) (c3 : Int) (c4a : Option Addr) (c4l : Nat) (c4c : Nat) (size : Int) (w : World) (K : Value → World → Prop) :
    D_l05_ArenaSizes c0 c1 c2 c3 c4a c4l c4c size w K = vcFn Pg Try.f3 [7] [.agg #[.int .i64 c0, .int .i64 c1, .int .i64 c2, .int .i64 c3, .slice c4a c4l c4c], .int .i64 size] w K := by kernel_rfl
theorem C_l05_ArenaSizes {c0 : Int} {c1 : Int} {c2 : Int} {c3 : Int} {c4a : Option Addr} {c4l : Nat} {c4c : Nat} {size : Int} {w : World} {K : Value → World → Prop} (h : D_l05_ArenaSizes c0 c1 c2 c3 c4a c4l c4c size w K) :
    CALL Pg F_l05_ArenaSizes [.agg #[.int .i64 c0, .int .i64 c1, .int .i64 c2, .int .i64 c3, .slice c4a c4l c4c], .int .i64 size] w K :=
  call_of_vc [7] Try.func3 rfl (Nat.le_of_ble_eq_true (by kernel_rfl)) ((E_l05_ArenaSizes c0 c1 c2 c3 c4a c4l c4c size w K) ▸ h)
def D_l05_ArenaApart (c0 : Int) (c1 : Int) (c2 : Int) (c3 : Int) (c4a : Option Addr) (c4l : Nat) (c4c : Nat) (class_ : Int) (w : World) (K : Value → World → Prop) : Prop :=
  NEW w [.int .i64 c0, .int .i64 c1, .int .i64 c2, .int .i64 c3, .slice c4a c4l c4c] T_api_Config_api_Config fun b_1 w_1 =>
  CALL Pg F_l05_speaks [] w_1 fun v_1 w_2 =>
  BOOLV v_1 fun t_1 =>
  ITE (!t_1) (
   K (.bool false) w_2) (
   LDi .i64 w_2 ⟨b_1, 0, none⟩ fun n_1 =>
   LDi .i64 w_2 ⟨b_1, 1, none⟩ fun n_2 =>
   LDi .i64 w_2 ⟨b_1, 2, none⟩ fun n_3 =>
   LDi .i64 w_2 ⟨b_1, 3, none⟩ fun n_4 =>
   LDl w_2 ⟨b_1, 4, none⟩ fun a_1 l_1 c_1 =>
   CALL Pg F_r04_May [.agg #[.int .i64 n_1, .int .i64 n_2, .int .i64 n_3, .int .i64 n_4, .slice a_1 l_1 c_1]] w_2 fun v_2 w_3 =>
   BOOLV v_2 fun t_2 =>
   ITE (!t_2) (
    K (.bool true) w_3) (
    ITE (decide (class_ < 0)) (
     K (.bool true) w_3) (
     LDl w_3 ⟨b_1, 4, none⟩ fun _ l_2 _ =>
     ITE (decide (class_ ≥ (↑l_2 : Int))) (
      K (.bool true) w_3) (
      LDi .i64 w_3 ⟨b_1, 1, none⟩ fun n_5 =>
      ITE (decide (n_5 > 8)) (
       K (.bool true) w_3) (
       LDi .i64 w_3 ⟨b_1, 1, none⟩ fun n_6 =>
       LOOP [.bool false, .int .i64 65536, .int .i64 0] w_3 fun I_1 N_1 =>
       ∀ w_4 : World,
       ∀ v_3 : Value,
       ∀ v_4 : Value,
       ∀ v_5 : Value,
       (I_1 [v_3, v_4, v_5] w_4 →
       INTV .i64 v_5 fun n_7 =>
       INTV .i64 v_4 fun n_8 =>
       BOOLV v_3 fun t_3 =>
       ITE (decide (n_7 < n_6)) (
        LDi .i64 w_4 ⟨b_1, 0, none⟩ fun n_9 =>
        LDi .i64 w_4 ⟨b_1, 1, none⟩ fun n_10 =>
        LDi .i64 w_4 ⟨b_1, 2, none⟩ fun n_11 =>
        LDi .i64 w_4 ⟨b_1, 3, none⟩ fun n_12 =>
        LDl w_4 ⟨b_1, 4, none⟩ fun a_3 l_3 c_3 =>
        CALL Pg F_arena_Cap [.agg #[.int .i64 n_9, .int .i64 n_10, .int .i64 n_11, .int .i64 n_12, .slice a_3 l_3 c_3], .int .i64 class_] w_4 fun v_6 w_5 =>
        INTV .i64 v_6 fun n_13 =>
        LOOP [.bool t_3, .int .i64 n_8, .int .i64 0] w_5 fun I_2 N_2 =>
        ∀ w_6 : World,
        ∀ v_7 : Value,
        ∀ v_8 : Value,
        ∀ v_9 : Value,
        (I_2 [v_7, v_8, v_9] w_6 →
        INTV .i64 v_9 fun n_14 =>
        INTV .i64 v_8 fun n_15 =>
        BOOLV v_7 fun t_4 =>
        ITE (decide (n_14 < n_13)) (
         LDi .i64 w_6 ⟨b_1, 0, none⟩ fun n_16 =>
         LDi .i64 w_6 ⟨b_1, 1, none⟩ fun n_17 =>
         LDi .i64 w_6 ⟨b_1, 2, none⟩ fun n_18 =>
         LDi .i64 w_6 ⟨b_1, 3, none⟩ fun n_19 =>
         LDl w_6 ⟨b_1, 4, none⟩ fun a_4 l_4 c_4 =>
         CALL Pg F_arena_Address [.agg #[.int .i64 n_16, .int .i64 n_17, .int .i64 n_18, .int .i64 n_19, .slice a_4 l_4 c_4], .int .i64 class_, .agg #[.int .i64 n_7, .int .i64 n_14]] w_6 fun v_10 w_7 =>
         INTV .i64 v_10 fun n_20 =>
         LDi .i64 w_7 ⟨b_1, 0, none⟩ fun n_21 =>
         LDi .i64 w_7 ⟨b_1, 1, none⟩ fun n_22 =>
         LDi .i64 w_7 ⟨b_1, 2, none⟩ fun n_23 =>
         LDi .i64 w_7 ⟨b_1, 3, none⟩ fun n_24 =>
         LDl w_7 ⟨b_1, 4, none⟩ fun a_5 l_5 c_5 =>
         CALL Pg F_arena_Block [.agg #[.int .i64 n_21, .int .i64 n_22, .int .i64 n_23, .int .i64 n_24, .slice a_5 l_5 c_5], .int .i64 class_, .int .i64 n_20] w_7 fun v_11 w_8 =>
         TUPV v_11 fun cs_1 =>
         GETV cs_1 0 fun v_12 =>
         AGGV v_12 fun cs_2 =>
         GETV cs_2 0 fun v_13 =>
         INTV .i64 v_13 fun n_25 =>
         GETV cs_2 1 fun v_14 =>
         INTV .i64 v_14 fun n_26 =>
         LEN cs_2 2 (
         GETV cs_1 1 fun v_15 =>
         BOOLV v_15 fun t_5 =>
         LEN cs_1 2 (
         NEW w_8 [.int .i64 0, .int .i64 0] T_api_Block_api_Block fun b_2 w_9 =>
         ST1 w_9 ⟨b_2, 0, none⟩ (.int .i64 n_25) fun w_10 =>
         ST1 w_10 ⟨b_2, 1, none⟩ (.int .i64 n_26) fun w_11 =>
         LDi .i64 w_11 ⟨b_1, 0, none⟩ fun n_27 =>
         LDi .i64 w_11 ⟨b_1, 1, none⟩ fun n_28 =>
         LDi .i64 w_11 ⟨b_1, 2, none⟩ fun n_29 =>
         LDi .i64 w_11 ⟨b_1, 3, none⟩ fun n_30 =>
         LDl w_11 ⟨b_1, 4, none⟩ fun a_6 l_6 c_6 =>
         CALL Pg F_arena_Place [.agg #[.int .i64 n_27, .int .i64 n_28, .int .i64 n_29, .int .i64 n_30, .slice a_6 l_6 c_6], .int .i64 n_20] w_11 fun v_16 w_12 =>
         TUPV v_16 fun cs_3 =>
         GETV cs_3 0 fun v_17 =>
         INTV .i64 v_17 fun n_31 =>
         GETV cs_3 1 fun v_18 =>
         INTV .i64 v_18 fun n_32 =>
         GETV cs_3 2 fun v_19 =>
         BOOLV v_19 fun t_6 =>
         LEN cs_3 3 (
         ITE (decide (n_20 < n_15)) (
          K (.bool false) w_12) (
          NZ 16 (
          BIND (n_20.tmod 16) fun n_33 =>
          ITE (n_33 != 0) (
           K (.bool false) w_12) (
           ITE (!t_5) (
            K (.bool false) w_12) (
            LDi .i64 w_12 ⟨b_2, 0, none⟩ fun n_34 =>
            LDi .i64 w_12 ⟨b_2, 1, none⟩ fun n_35 =>
            ITE (!(n_34 == n_7 && (n_35 == n_14 && true))) (
             K (.bool false) w_12) (
             ITE (!t_6) (
              K (.bool false) w_12) (
              ITE (n_31 != n_7) (
               K (.bool false) w_12) (
               BIND (IntKind.i64.wrap (1024 * n_31)) fun n_36 =>
               BIND (IntKind.i64.wrap (65536 + n_36)) fun n_37 =>
               BIND (IntKind.i64.wrap (16 * n_32)) fun n_38 =>
               BIND (IntKind.i64.wrap (n_37 + n_38)) fun n_39 =>
               ITE (n_39 != n_20) (
                K (.bool false) w_12) (
                LDl w_12 ⟨b_1, 4, none⟩ fun a_7 l_7 _ =>
                IDX a_7 l_7 class_ 1 fun b_3 o_1 =>
                LDi .i64 w_12 ⟨b_3, o_1, none⟩ fun n_40 =>
                BIND (IntKind.i64.wrap (n_20 + n_40)) fun n_41 =>
                BIND (IntKind.i64.wrap (n_14 + 1)) fun n_42 =>
                N_2 [v_7, v_8, v_9] w_6 [.bool t_4, .int .i64 n_41, .int .i64 n_42] w_12)))))))))))) (
         BIND (IntKind.i64.wrap (n_7 + 1)) fun n_43 =>
         N_1 [v_3, v_4, v_5] w_4 [.bool t_4, .int .i64 n_15, .int .i64 n_43] w_6))) (
        LDi .i64 w_4 ⟨b_1, 0, none⟩ fun n_44 =>
        LDi .i64 w_4 ⟨b_1, 1, none⟩ fun n_45 =>
        LDi .i64 w_4 ⟨b_1, 2, none⟩ fun n_46 =>
        LDi .i64 w_4 ⟨b_1, 3, none⟩ fun n_47 =>
        LDl w_4 ⟨b_1, 4, none⟩ fun a_8 l_8 c_8 =>
        CALL Pg F_arena_End [.agg #[.int .i64 n_44, .int .i64 n_45, .int .i64 n_46, .int .i64 n_47, .slice a_8 l_8 c_8]] w_4 fun v_20 w_13 =>
        INTV .i64 v_20 fun n_48 =>
        K (.bool (decide (n_8 ≤ n_48))) w_13)))))))
theorem E_l05_ArenaApart (c0 : Int) (c1 : Int) (c2 : Int) (c3 : Int) (c4a : Option Addr) (c4l : Nat) (c4c : Nat) (class_ : Int) (w : World) (K : Value → World → Prop) :
    D_l05_ArenaApart c0 c1 c2 c3 c4a c4l c4c class_ w K = vcFn Pg Try.f4 [] [.agg #[.int .i64 c0, .int .i64 c1, .int .i64 c2, .int .i64 c3, .slice c4a c4l c4c], .int .i64 class_] w K := by kernel_rfl
theorem C_l05_ArenaApart {c0 : Int} {c1 : Int} {c2 : Int} {c3 : Int} {c4a : Option Addr} {c4l : Nat} {c4c : Nat} {class_ : Int} {w : World} {K : Value → World → Prop} (h : D_l05_ArenaApart c0 c1 c2 c3 c4a c4l c4c class_ w K) :
    CALL Pg F_l05_ArenaApart [.agg #[.int .i64 c0, .int .i64 c1, .int .i64 c2, .int .i64 c3, .slice c4a c4l c4c], .int .i64 class_] w K :=
  call_of_vc [] Try.func4 rfl (Nat.le_of_ble_eq_true (by kernel_rfl)) ((E_l05_ArenaApart c0 c1 c2 c3 c4a c4l c4c class_ w K) ▸ h)
def D_l05_ArenaPlaces (c0 : Int) (c1 : Int) (c2 : Int) (c3 : Int) (c4a : Option Addr) (c4l : Nat) (c4c : Nat) (at_ : Int) (w : World) (K : Value → World → Prop) : Prop :=
  NEW w [.int .i64 c0, .int .i64 c1, .int .i64 c2, .int .i64 c3, .slice c4a c4l c4c] T_api_Config_api_Config fun b_1 w_1 =>
  CALL Pg F_l05_speaks [] w_1 fun v_1 w_2 =>
  BOOLV v_1 fun t_1 =>
  ITE (!t_1) (
   K (.bool false) w_2) (
   LDi .i64 w_2 ⟨b_1, 0, none⟩ fun n_1 =>
   LDi .i64 w_2 ⟨b_1, 1, none⟩ fun n_2 =>
   LDi .i64 w_2 ⟨b_1, 2, none⟩ fun n_3 =>
   LDi .i64 w_2 ⟨b_1, 3, none⟩ fun n_4 =>
   LDl w_2 ⟨b_1, 4, none⟩ fun a_1 l_1 c_1 =>
   CALL Pg F_r04_May [.agg #[.int .i64 n_1, .int .i64 n_2, .int .i64 n_3, .int .i64 n_4, .slice a_1 l_1 c_1]] w_2 fun v_2 w_3 =>
   BOOLV v_2 fun t_2 =>
   ITE (!t_2) (
    K (.bool true) w_3) (
    LDi .i64 w_3 ⟨b_1, 0, none⟩ fun n_5 =>
    LDi .i64 w_3 ⟨b_1, 1, none⟩ fun n_6 =>
    LDi .i64 w_3 ⟨b_1, 2, none⟩ fun n_7 =>
    LDi .i64 w_3 ⟨b_1, 3, none⟩ fun n_8 =>
    LDl w_3 ⟨b_1, 4, none⟩ fun a_2 l_2 c_2 =>
    CALL Pg F_arena_Place [.agg #[.int .i64 n_5, .int .i64 n_6, .int .i64 n_7, .int .i64 n_8, .slice a_2 l_2 c_2], .int .i64 at_] w_3 fun v_3 w_4 =>
    TUPV v_3 fun cs_1 =>
    GETV cs_1 0 fun v_4 =>
    INTV .i64 v_4 fun n_9 =>
    GETV cs_1 1 fun v_5 =>
    INTV .i64 v_5 fun n_10 =>
    GETV cs_1 2 fun v_6 =>
    BOOLV v_6 fun t_3 =>
    LEN cs_1 3 (
    ITE (decide (at_ < 65536)) (
     ITE (!t_3) (
      ITE (n_9 == 0) (
       K (.bool (n_10 == 0)) w_4) (
       K (.bool false) w_4)) (
      K (.bool false) w_4)) (
     LDi .i64 w_4 ⟨b_1, 1, none⟩ fun n_11 =>
     BIND (IntKind.i64.wrap (1024 * n_11)) fun n_12 =>
     BIND (IntKind.i64.wrap (65536 + n_12)) fun n_13 =>
     ITE (decide (at_ ≥ n_13)) (
      ITE (!t_3) (
       ITE (n_9 == 0) (
        K (.bool (n_10 == 0)) w_4) (
        K (.bool false) w_4)) (
       K (.bool false) w_4)) (
      NZ 16 (
      BIND (at_.tmod 16) fun n_14 =>
      ITE (n_14 != 0) (
       ITE (!t_3) (
        ITE (n_9 == 0) (
         K (.bool (n_10 == 0)) w_4) (
         K (.bool false) w_4)) (
        K (.bool false) w_4)) (
       ITE (t_3) (
        ITE (decide (n_9 ≥ 0)) (
         LDi .i64 w_4 ⟨b_1, 1, none⟩ fun n_15 =>
         ITE (decide (n_9 < n_15)) (
          ITE (decide (n_10 ≥ 0)) (
           ITE (decide (n_10 < 64)) (
            BIND (IntKind.i64.wrap (1024 * n_9)) fun n_16 =>
            BIND (IntKind.i64.wrap (65536 + n_16)) fun n_17 =>
            BIND (IntKind.i64.wrap (16 * n_10)) fun n_18 =>
            BIND (IntKind.i64.wrap (n_17 + n_18)) fun n_19 =>
            K (.bool (n_19 == at_)) w_4) (
            K (.bool false) w_4)) (
           K (.bool false) w_4)) (
          K (.bool false) w_4)) (
         K (.bool false) w_4)) (
        K (.bool false) w_4))))))))
theorem E_l05_ArenaPlaces (c0 : Int) (c1 : Int) (c2 : Int) (c3 : Int) (c4a : Option Addr) (c4l : Nat) (c4c : Nat) (at_ : Int) (w : World) (K : Value → World → Prop) :
    D_l05_ArenaPlaces c0 c1 c2 c3 c4a c4l c4c at_ w K = vcFn Pg Try.f5 [] [.agg #[.int .i64 c0, .int .i64 c1, .int .i64 c2, .int .i64 c3, .slice c4a c4l c4c], .int .i64 at_] w K := by kernel_rfl
theorem C_l05_ArenaPlaces {c0 : Int} {c1 : Int} {c2 : Int} {c3 : Int} {c4a : Option Addr} {c4l : Nat} {c4c : Nat} {at_ : Int} {w : World} {K : Value → World → Prop} (h : D_l05_ArenaPlaces c0 c1 c2 c3 c4a c4l c4c at_ w K) :
    CALL Pg F_l05_ArenaPlaces [.agg #[.int .i64 c0, .int .i64 c1, .int .i64 c2, .int .i64 c3, .slice c4a c4l c4c], .int .i64 at_] w K :=
  call_of_vc [] Try.func5 rfl (Nat.le_of_ble_eq_true (by kernel_rfl)) ((E_l05_ArenaPlaces c0 c1 c2 c3 c4a c4l c4c at_ w K) ▸ h)
def D_l05_ArenaRuns (c0 : Int) (c1 : Int) (c2 : Int) (c3 : Int) (c4a : Option Addr) (c4l : Nat) (c4c : Nat) (size : Int) (w : World) (K : Value → World → Prop) : Prop :=
  NEW w [.int .i64 c0, .int .i64 c1, .int .i64 c2, .int .i64 c3, .slice c4a c4l c4c] T_api_Config_api_Config fun b_1 w_1 =>
  CALL Pg F_l05_speaks [] w_1 fun v_1 w_2 =>
  BOOLV v_1 fun t_1 =>
  ITE (!t_1) (
   K (.bool false) w_2) (
   LDi .i64 w_2 ⟨b_1, 0, none⟩ fun n_1 =>
   LDi .i64 w_2 ⟨b_1, 1, none⟩ fun n_2 =>
   LDi .i64 w_2 ⟨b_1, 2, none⟩ fun n_3 =>
   LDi .i64 w_2 ⟨b_1, 3, none⟩ fun n_4 =>
   LDl w_2 ⟨b_1, 4, none⟩ fun a_1 l_1 c_1 =>
   CALL Pg F_r04_May [.agg #[.int .i64 n_1, .int .i64 n_2, .int .i64 n_3, .int .i64 n_4, .slice a_1 l_1 c_1]] w_2 fun v_2 w_3 =>
   BOOLV v_2 fun t_2 =>
   ITE (!t_2) (
    K (.bool true) w_3) (
    LDi .i64 w_3 ⟨b_1, 0, none⟩ fun n_5 =>
    LDi .i64 w_3 ⟨b_1, 1, none⟩ fun n_6 =>
    LDi .i64 w_3 ⟨b_1, 2, none⟩ fun n_7 =>
    LDi .i64 w_3 ⟨b_1, 3, none⟩ fun n_8 =>
    LDl w_3 ⟨b_1, 4, none⟩ fun a_2 l_2 c_2 =>
    CALL Pg F_arena_Run [.agg #[.int .i64 n_5, .int .i64 n_6, .int .i64 n_7, .int .i64 n_8, .slice a_2 l_2 c_2], .int .i64 size] w_3 fun v_3 w_4 =>
    INTV .i64 v_3 fun n_9 =>
    LDi .i64 w_4 ⟨b_1, 0, none⟩ fun n_10 =>
    LDi .i64 w_4 ⟨b_1, 1, none⟩ fun n_11 =>
    LDi .i64 w_4 ⟨b_1, 2, none⟩ fun n_12 =>
    LDi .i64 w_4 ⟨b_1, 3, none⟩ fun n_13 =>
    LDl w_4 ⟨b_1, 4, none⟩ fun a_3 l_3 c_3 =>
    CALL Pg F_arena_Class [.agg #[.int .i64 n_10, .int .i64 n_11, .int .i64 n_12, .int .i64 n_13, .slice a_3 l_3 c_3], .int .i64 size] w_4 fun v_4 w_5 =>
    TUPV v_4 fun cs_1 =>
    GETV cs_1 0 fun v_5 =>
    INTV .i64 v_5 fun n_14 =>
    GETV cs_1 1 fun v_6 =>
    BOOLV v_6 fun t_3 =>
    LEN cs_1 2 (
    ITE (t_3) (
     ITE (n_9 == 0) (
      ITE (decide (size ≤ 512)) (
       LDl w_5 ⟨b_1, 4, none⟩ fun a_4 l_4 _ =>
       IDX a_4 l_4 n_14 1 fun b_2 o_1 =>
       LDi .i64 w_5 ⟨b_2, o_1, none⟩ fun n_15 =>
       ITE (decide (n_15 ≥ size)) (
        ITE (n_14 == 0) (
         K (.bool true) w_5) (
         LDl w_5 ⟨b_1, 4, none⟩ fun a_5 l_5 _ =>
         BIND (IntKind.i64.wrap (n_14 - 1)) fun n_16 =>
         IDX a_5 l_5 n_16 1 fun b_3 o_2 =>
         LDi .i64 w_5 ⟨b_3, o_2, none⟩ fun n_17 =>
         K (.bool (decide (n_17 < size))) w_5)) (
        K (.bool false) w_5)) (
       K (.bool false) w_5)) (
      K (.bool false) w_5)) (
     ITE (n_9 == 0) (
      ITE (decide (size < 1)) (
       K (.bool true) w_5) (
       LDi .i64 w_5 ⟨b_1, 1, none⟩ fun n_18 =>
       BIND (IntKind.i64.wrap (1024 * n_18)) fun n_19 =>
       K (.bool (decide (size > n_19))) w_5)) (
      BIND (IntKind.i64.wrap (1024 * n_9)) fun n_20 =>
      ITE (decide (n_20 ≥ size)) (
       BIND (IntKind.i64.wrap (n_9 - 1)) fun n_21 =>
       BIND (IntKind.i64.wrap (1024 * n_21)) fun n_22 =>
       ITE (decide (n_22 < size)) (
        LDi .i64 w_5 ⟨b_1, 1, none⟩ fun n_23 =>
        ITE (decide (n_9 ≤ n_23)) (
         LDl w_5 ⟨b_1, 4, none⟩ fun a_6 l_6 _ =>
         LDl w_5 ⟨b_1, 4, none⟩ fun _ l_7 _ =>
         BIND (IntKind.i64.wrap ((↑l_7 : Int) - 1)) fun n_24 =>
         IDX a_6 l_6 n_24 1 fun b_4 o_3 =>
         LDi .i64 w_5 ⟨b_4, o_3, none⟩ fun n_25 =>
         K (.bool (decide (size > n_25))) w_5) (
         K (.bool false) w_5)) (
        K (.bool false) w_5)) (
       K (.bool false) w_5))))))
theorem E_l05_ArenaRuns (c0 : Int) (c1 : Int) (c2 : Int) (c3 : Int) (c4a : Option Addr) (c4l : Nat) (c4c : Nat) (size : Int) (w : World) (K : Value → World → Prop) :
    D_l05_ArenaRuns c0 c1 c2 c3 c4a c4l c4c size w K = vcFn Pg Try.f6 [] [.agg #[.int .i64 c0, .int .i64 c1, .int .i64 c2, .int .i64 c3, .slice c4a c4l c4c], .int .i64 size] w K := by kernel_rfl
theorem C_l05_ArenaRuns {c0 : Int} {c1 : Int} {c2 : Int} {c3 : Int} {c4a : Option Addr} {c4l : Nat} {c4c : Nat} {size : Int} {w : World} {K : Value → World → Prop} (h : D_l05_ArenaRuns c0 c1 c2 c3 c4a c4l c4c size w K) :
    CALL Pg F_l05_ArenaRuns [.agg #[.int .i64 c0, .int .i64 c1, .int .i64 c2, .int .i64 c3, .slice c4a c4l c4c], .int .i64 size] w K :=
  call_of_vc [] Try.func6 rfl (Nat.le_of_ble_eq_true (by kernel_rfl)) ((E_l05_ArenaRuns c0 c1 c2 c3 c4a c4l c4c size w K) ▸ h)
def D_l05_ArenaBlocks (c0 : Int) (c1 : Int) (c2 : Int) (c3 : Int) (c4a : Option Addr) (c4l : Nat) (c4c : Nat) (class_ : Int) (of0 : Int) (of1 : Int) (of2 : Int) (w : World) (K : Value → World → Prop) : Prop :=
  NEW w [.int .i64 c0, .int .i64 c1, .int .i64 c2, .int .i64 c3, .slice c4a c4l c4c] T_api_Config_api_Config fun b_1 w_1 =>
  NEW w_1 [.int .i64 of0, .int .i64 of1, .int .i64 of2] T_3_int fun b_2 w_2 =>
  CALL Pg F_l05_speaks [] w_2 fun v_1 w_3 =>
  BOOLV v_1 fun t_1 =>
  ITE (!t_1) (
   K (.bool false) w_3) (
   LDi .i64 w_3 ⟨b_1, 0, none⟩ fun n_1 =>
   LDi .i64 w_3 ⟨b_1, 1, none⟩ fun n_2 =>
   LDi .i64 w_3 ⟨b_1, 2, none⟩ fun n_3 =>
   LDi .i64 w_3 ⟨b_1, 3, none⟩ fun n_4 =>
   LDl w_3 ⟨b_1, 4, none⟩ fun a_1 l_1 c_1 =>
   CALL Pg F_r04_May [.agg #[.int .i64 n_1, .int .i64 n_2, .int .i64 n_3, .int .i64 n_4, .slice a_1 l_1 c_1]] w_3 fun v_2 w_4 =>
   BOOLV v_2 fun t_2 =>
   ITE (!t_2) (
    K (.bool true) w_4) (
    LDi .i64 w_4 ⟨b_1, 1, none⟩ fun n_5 =>
    ITE (decide (n_5 > 8)) (
     K (.bool true) w_4) (
     IDX (some ⟨b_2, 0, none⟩) 3 0 1 fun b_3 o_1 =>
     LDi .i64 w_4 ⟨b_3, o_1, none⟩ fun n_6 =>
     IDX (some ⟨b_2, 0, none⟩) 3 1 1 fun b_4 o_2 =>
     LDi .i64 w_4 ⟨b_4, o_2, none⟩ fun n_7 =>
     NEW w_4 [.int .i64 0, .int .i64 0] T_api_Block_api_Block fun b_5 w_5 =>
     ST1 w_5 ⟨b_5, 0, none⟩ (.int .i64 n_6) fun w_6 =>
     ST1 w_6 ⟨b_5, 1, none⟩ (.int .i64 n_7) fun w_7 =>
     LDi .i64 w_7 ⟨b_1, 0, none⟩ fun n_8 =>
     LDi .i64 w_7 ⟨b_1, 1, none⟩ fun n_9 =>
     LDi .i64 w_7 ⟨b_1, 2, none⟩ fun n_10 =>
     LDi .i64 w_7 ⟨b_1, 3, none⟩ fun n_11 =>
     LDl w_7 ⟨b_1, 4, none⟩ fun a_2 l_2 c_2 =>
     IDX (some ⟨b_2, 0, none⟩) 3 2 1 fun b_6 o_3 =>
     LDi .i64 w_7 ⟨b_6, o_3, none⟩ fun n_12 =>
     CALL Pg F_arena_Block [.agg #[.int .i64 n_8, .int .i64 n_9, .int .i64 n_10, .int .i64 n_11, .slice a_2 l_2 c_2], .int .i64 class_, .int .i64 n_12] w_7 fun v_3 w_8 =>
     TUPV v_3 fun cs_1 =>
     GETV cs_1 0 fun v_4 =>
     AGGV v_4 fun cs_2 =>
     GETV cs_2 0 fun v_5 =>
     INTV .i64 v_5 fun n_13 =>
     GETV cs_2 1 fun v_6 =>
     INTV .i64 v_6 fun n_14 =>
     LEN cs_2 2 (
     GETV cs_1 1 fun v_7 =>
     BOOLV v_7 fun t_3 =>
     LEN cs_1 2 (
     NEW w_8 [.int .i64 0, .int .i64 0] T_api_Block_api_Block fun b_7 w_9 =>
     ST1 w_9 ⟨b_7, 0, none⟩ (.int .i64 n_13) fun w_10 =>
     ST1 w_10 ⟨b_7, 1, none⟩ (.int .i64 n_14) fun w_11 =>
     LDi .i64 w_11 ⟨b_1, 0, none⟩ fun n_15 =>
     LDi .i64 w_11 ⟨b_1, 1, none⟩ fun n_16 =>
     LDi .i64 w_11 ⟨b_1, 2, none⟩ fun n_17 =>
     LDi .i64 w_11 ⟨b_1, 3, none⟩ fun n_18 =>
     LDl w_11 ⟨b_1, 4, none⟩ fun a_3 l_3 c_3 =>
     IDX (some ⟨b_2, 0, none⟩) 3 2 1 fun b_8 o_4 =>
     LDi .i64 w_11 ⟨b_8, o_4, none⟩ fun n_19 =>
     CALL Pg F_r05_Block [.agg #[.int .i64 n_15, .int .i64 n_16, .int .i64 n_17, .int .i64 n_18, .slice a_3 l_3 c_3], .int .i64 class_, .int .i64 n_19] w_11 fun v_8 w_12 =>
     TUPV v_8 fun cs_3 =>
     GETV cs_3 0 fun v_9 =>
     AGGV v_9 fun cs_4 =>
     GETV cs_4 0 fun v_10 =>
     INTV .i64 v_10 fun n_20 =>
     GETV cs_4 1 fun v_11 =>
     INTV .i64 v_11 fun n_21 =>
     LEN cs_4 2 (
     GETV cs_3 1 fun v_12 =>
     BOOLV v_12 fun t_4 =>
     LEN cs_3 2 (
     NEW w_12 [.int .i64 0, .int .i64 0] T_api_Block_api_Block fun b_9 w_13 =>
     ST1 w_13 ⟨b_9, 0, none⟩ (.int .i64 n_20) fun w_14 =>
     ST1 w_14 ⟨b_9, 1, none⟩ (.int .i64 n_21) fun w_15 =>
     LDi .i64 w_15 ⟨b_1, 0, none⟩ fun n_22 =>
     LDi .i64 w_15 ⟨b_1, 1, none⟩ fun n_23 =>
     LDi .i64 w_15 ⟨b_1, 2, none⟩ fun n_24 =>
     LDi .i64 w_15 ⟨b_1, 3, none⟩ fun n_25 =>
     LDl w_15 ⟨b_1, 4, none⟩ fun a_4 l_4 c_4 =>
     CALL Pg F_r05_Cap [.agg #[.int .i64 n_22, .int .i64 n_23, .int .i64 n_24, .int .i64 n_25, .slice a_4 l_4 c_4], .int .i64 class_] w_15 fun v_13 w_16 =>
     INTV .i64 v_13 fun n_26 =>
     DRAW w_16 fun w_17 =>
     LDi .i64 w_17 ⟨b_1, 0, none⟩ fun n_27 =>
     LDi .i64 w_17 ⟨b_1, 1, none⟩ fun n_28 =>
     LDi .i64 w_17 ⟨b_1, 2, none⟩ fun n_29 =>
     LDi .i64 w_17 ⟨b_1, 3, none⟩ fun n_30 =>
     LDl w_17 ⟨b_1, 4, none⟩ fun a_5 l_5 c_5 =>
     LDi .i64 w_17 ⟨b_5, 0, none⟩ fun n_31 =>
     LDi .i64 w_17 ⟨b_5, 1, none⟩ fun n_32 =>
     LDi .i64 w_17 ⟨b_1, 0, none⟩ fun n_33 =>
     LDi .i64 w_17 ⟨b_1, 1, none⟩ fun n_34 =>
     LDi .i64 w_17 ⟨b_1, 2, none⟩ fun n_35 =>
     LDi .i64 w_17 ⟨b_1, 3, none⟩ fun n_36 =>
     LDl w_17 ⟨b_1, 4, none⟩ fun a_6 l_6 c_6 =>
     LDi .i64 w_17 ⟨b_5, 0, none⟩ fun n_37 =>
     LDi .i64 w_17 ⟨b_5, 1, none⟩ fun n_38 =>
     CALL Pg F_arena_Address [.agg #[.int .i64 n_27, .int .i64 n_28, .int .i64 n_29, .int .i64 n_30, .slice a_5 l_5 c_5], .int .i64 class_, .agg #[.int .i64 n_31, .int .i64 n_32]] w_17 fun v_14 w_18 =>
     INTV .i64 v_14 fun n_39 =>
     ((
      KEEP w_18 [Fact.cell ⟨b_1, 0, none⟩ (.int .i64 n_33), Fact.cell ⟨b_1, 1, none⟩ (.int .i64 n_34), Fact.cell ⟨b_1, 2, none⟩ (.int .i64 n_35), Fact.cell ⟨b_1, 3, none⟩ (.int .i64 n_36), Fact.cell ⟨b_1, 4, none⟩ (.slice a_6 l_6 c_6), Fact.cell ⟨b_5, 0, none⟩ (.int .i64 n_37), Fact.cell ⟨b_5, 1, none⟩ (.int .i64 n_38)]) ∧
      CALL Pg F_r05_Address [.agg #[.int .i64 n_33, .int .i64 n_34, .int .i64 n_35, .int .i64 n_36, .slice a_6 l_6 c_6], .int .i64 class_, .agg #[.int .i64 n_37, .int .i64 n_38]] w_18 fun v_15 w_19 =>
      INTV .i64 v_15 fun n_40 =>
      ((
       KEEP w_19 []) ∧
       ITE (n_39 == n_40) (
        LDi .i64 w_19 ⟨b_7, 0, none⟩ fun n_41 =>
        LDi .i64 w_19 ⟨b_7, 1, none⟩ fun n_42 =>
        LDi .i64 w_19 ⟨b_9, 0, none⟩ fun n_43 =>
        LDi .i64 w_19 ⟨b_9, 1, none⟩ fun n_44 =>
        ITE (n_41 == n_43 && (n_42 == n_44 && true)) (
         ITE (t_3 == t_4) (
          LDi .i64 w_19 ⟨b_1, 0, none⟩ fun n_45 =>
          LDi .i64 w_19 ⟨b_1, 1, none⟩ fun n_46 =>
          LDi .i64 w_19 ⟨b_1, 2, none⟩ fun n_47 =>
          LDi .i64 w_19 ⟨b_1, 3, none⟩ fun n_48 =>
          LDl w_19 ⟨b_1, 4, none⟩ fun a_7 l_7 c_7 =>
          CALL Pg F_arena_Cap [.agg #[.int .i64 n_45, .int .i64 n_46, .int .i64 n_47, .int .i64 n_48, .slice a_7 l_7 c_7], .int .i64 class_] w_19 fun v_16 w_20 =>
          INTV .i64 v_16 fun n_49 =>
          ((
           KEEP w_20 []) ∧
           ITE (n_49 == n_26) (
            LDi .i64 w_20 ⟨b_1, 0, none⟩ fun n_50 =>
            LDi .i64 w_20 ⟨b_1, 1, none⟩ fun n_51 =>
            LDi .i64 w_20 ⟨b_1, 2, none⟩ fun n_52 =>
            LDi .i64 w_20 ⟨b_1, 3, none⟩ fun n_53 =>
            LDl w_20 ⟨b_1, 4, none⟩ fun a_8 l_8 c_8 =>
            CALL Pg F_arena_All [.agg #[.int .i64 n_50, .int .i64 n_51, .int .i64 n_52, .int .i64 n_53, .slice a_8 l_8 c_8], .int .i64 class_] w_20 fun v_17 w_21 =>
            INTV .u64 v_17 fun n_54 =>
            ((
             KEEP w_21 []) ∧
             CALL Pg F_r02_Low [.int .i64 n_26] w_21 fun v_18 w_22 =>
             INTV .u64 v_18 fun n_55 =>
             ((
              KEEP w_22 []) ∧
              K (.bool (n_54 == n_55)) w_22))) (
            K (.bool false) w_20))) (
          K (.bool false) w_19)) (
         K (.bool false) w_19)) (
        K (.bool false) w_19))))))))))
theorem E_l05_ArenaBlocks (c0 : Int) (c1 : Int) (c2 : Int) (c3 : Int) (c4a : Option Addr) (c4l : Nat) (c4c : Nat) (class_ : Int) (of0 : Int) (of1 : Int) (of2 : Int) (w : World) (K : Value → World → Prop) :
    D_l05_ArenaBlocks c0 c1 c2 c3 c4a c4l c4c class_ of0 of1 of2 w K = vcFn Pg Try.f7 [] [.agg #[.int .i64 c0, .int .i64 c1, .int .i64 c2, .int .i64 c3, .slice c4a c4l c4c], .int .i64 class_, .agg #[.int .i64 of0, .int .i64 of1, .int .i64 of2]] w K := by kernel_rfl
theorem C_l05_ArenaBlocks {c0 : Int} {c1 : Int} {c2 : Int} {c3 : Int} {c4a : Option Addr} {c4l : Nat} {c4c : Nat} {class_ : Int} {of0 : Int} {of1 : Int} {of2 : Int} {w : World} {K : Value → World → Prop} (h : D_l05_ArenaBlocks c0 c1 c2 c3 c4a c4l c4c class_ of0 of1 of2 w K) :
    CALL Pg F_l05_ArenaBlocks [.agg #[.int .i64 c0, .int .i64 c1, .int .i64 c2, .int .i64 c3, .slice c4a c4l c4c], .int .i64 class_, .agg #[.int .i64 of0, .int .i64 of1, .int .i64 of2]] w K :=
  call_of_vc [] Try.func7 rfl (Nat.le_of_ble_eq_true (by kernel_rfl)) ((E_l05_ArenaBlocks c0 c1 c2 c3 c4a c4l c4c class_ of0 of1 of2 w K) ▸ h)

end Go.Proofs.Ytapcknlnhpafcaa
