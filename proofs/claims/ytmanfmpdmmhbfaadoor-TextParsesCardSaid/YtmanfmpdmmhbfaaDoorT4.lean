/- What the evaluator asks of each function, in readable form: printed by a program of this claim's own. -/
import Derived.Test.YtmanfmpdmmhbfaaDoorN
import Derived.Test.YtmanfmpdmmhbfaaDoorDen
namespace Go.Proofs.YtmanfmpdmmhbfaaDoor
open Go.Den
set_option linter.unusedVariables false
set_option maxRecDepth 1000000
def D_l25_same (x0 : Int) (x1 : Int) (x2 : Int) (x3 : Int) (x4 : Int) (x5 : Int) (x6 : Int) (x7a : Option Addr) (x7l : Nat) (x7c : Nat) (x8 : Int) (x9 : Int) (x10 : Int) (y0 : Int) (y1 : Int) (y2 : Int) (y3 : Int) (y4 : Int) (y5 : Int) (y6 : Int) (y7a : Option Addr) (y7l : Nat) (y7c : Nat) (y8 : Int) (y9 : Int) (y10 : Int) (w : World) (K : Value → World → Prop) : Prop :=
  NEW w [.int .i64 x0, .int .i64 x1, .int .i64 x2, .int .i64 x3, .int .i64 x4, .int .i64 x5, .int .i64 x6, .slice x7a x7l x7c, .int .i64 x8, .int .i64 x9, .int .i64 x10] T_text_Line_text_Line fun b_1 w_1 =>
  NEW w_1 [.int .i64 y0, .int .i64 y1, .int .i64 y2, .int .i64 y3, .int .i64 y4, .int .i64 y5, .int .i64 y6, .slice y7a y7l y7c, .int .i64 y8, .int .i64 y9, .int .i64 y10] T_text_Line_text_Line fun b_2 w_2 =>
  DRAW w_2 fun w_3 =>
  LDi .i64 w_3 ⟨b_1, 3, none⟩ fun n_1 =>
  LDi .i64 w_3 ⟨b_1, 4, none⟩ fun n_2 =>
  LDi .i64 w_3 ⟨b_1, 5, none⟩ fun n_3 =>
  LDi .i64 w_3 ⟨b_1, 6, none⟩ fun n_4 =>
  LDl w_3 ⟨b_1, 7, none⟩ fun a_1 l_1 c_1 =>
  LDi .i64 w_3 ⟨b_2, 3, none⟩ fun n_5 =>
  LDi .i64 w_3 ⟨b_2, 4, none⟩ fun n_6 =>
  LDi .i64 w_3 ⟨b_2, 5, none⟩ fun n_7 =>
  LDi .i64 w_3 ⟨b_2, 6, none⟩ fun n_8 =>
  LDl w_3 ⟨b_2, 7, none⟩ fun a_2 l_2 c_2 =>
  ((
   NEW w_3 [.int .i64 0, .int .i64 0, .int .i64 0, .int .i64 0, .slice none 0 0] T_api_Config_api_Config fun b_3 w_4 =>
   ((
    KEEP w_4 [Fact.cell ⟨b_1, 3, none⟩ (.int .i64 n_1), Fact.cell ⟨b_1, 4, none⟩ (.int .i64 n_2), Fact.cell ⟨b_1, 5, none⟩ (.int .i64 n_3), Fact.cell ⟨b_1, 6, none⟩ (.int .i64 n_4), Fact.cell ⟨b_1, 7, none⟩ (.slice a_1 l_1 c_1), Fact.cell ⟨b_2, 3, none⟩ (.int .i64 n_5), Fact.cell ⟨b_2, 4, none⟩ (.int .i64 n_6), Fact.cell ⟨b_2, 5, none⟩ (.int .i64 n_7), Fact.cell ⟨b_2, 6, none⟩ (.int .i64 n_8), Fact.cell ⟨b_2, 7, none⟩ (.slice a_2 l_2 c_2)]) ∧
    NEW w_4 [.int .i64 0, .int .i64 0, .int .i64 0, .int .i64 0, .slice none 0 0] T_api_Config_api_Config fun b_4 w_5 =>
    ((
     KEEP w_5 [Fact.cell ⟨b_1, 3, none⟩ (.int .i64 n_1), Fact.cell ⟨b_1, 4, none⟩ (.int .i64 n_2), Fact.cell ⟨b_1, 5, none⟩ (.int .i64 n_3), Fact.cell ⟨b_1, 6, none⟩ (.int .i64 n_4), Fact.cell ⟨b_1, 7, none⟩ (.slice a_1 l_1 c_1), Fact.cell ⟨b_2, 3, none⟩ (.int .i64 n_5), Fact.cell ⟨b_2, 4, none⟩ (.int .i64 n_6), Fact.cell ⟨b_2, 5, none⟩ (.int .i64 n_7), Fact.cell ⟨b_2, 6, none⟩ (.int .i64 n_8), Fact.cell ⟨b_2, 7, none⟩ (.slice a_2 l_2 c_2)]) ∧
     ST1 w_5 ⟨b_3, 0, none⟩ (.int .i64 n_1) fun w_6 =>
     ST1 w_6 ⟨b_3, 1, none⟩ (.int .i64 n_2) fun w_7 =>
     ST1 w_7 ⟨b_3, 2, none⟩ (.int .i64 n_3) fun w_8 =>
     ST1 w_8 ⟨b_3, 3, none⟩ (.int .i64 n_4) fun w_9 =>
     ST1 w_9 ⟨b_3, 4, none⟩ (.slice a_1 l_1 c_1) fun w_10 =>
     ((
      KEEP w_10 [Fact.cell ⟨b_2, 3, none⟩ (.int .i64 n_5), Fact.cell ⟨b_2, 4, none⟩ (.int .i64 n_6), Fact.cell ⟨b_2, 5, none⟩ (.int .i64 n_7), Fact.cell ⟨b_2, 6, none⟩ (.int .i64 n_8), Fact.cell ⟨b_2, 7, none⟩ (.slice a_2 l_2 c_2)]) ∧
      ST1 w_10 ⟨b_4, 0, none⟩ (.int .i64 n_5) fun w_11 =>
      ST1 w_11 ⟨b_4, 1, none⟩ (.int .i64 n_6) fun w_12 =>
      ST1 w_12 ⟨b_4, 2, none⟩ (.int .i64 n_7) fun w_13 =>
      ST1 w_13 ⟨b_4, 3, none⟩ (.int .i64 n_8) fun w_14 =>
      ST1 w_14 ⟨b_4, 4, none⟩ (.slice a_2 l_2 c_2) fun w_15 =>
      ((
       KEEP w_15 []) ∧
       JOIN fun J_1 =>
       ((
        JOIN fun J_2 =>
        ((
         LDi .i64 w_15 ⟨b_1, 0, none⟩ fun n_9 =>
         LDi .i64 w_15 ⟨b_2, 0, none⟩ fun n_10 =>
         ITE (n_9 != n_10) (
          J_2 [.bool true] w_15) (
          LDi .i64 w_15 ⟨b_1, 1, none⟩ fun n_11 =>
          LDi .i64 w_15 ⟨b_2, 1, none⟩ fun n_12 =>
          ITE (n_11 != n_12) (
           J_2 [.bool true] w_15) (
           LDi .i64 w_15 ⟨b_1, 2, none⟩ fun n_13 =>
           LDi .i64 w_15 ⟨b_2, 2, none⟩ fun n_14 =>
           ITE (n_13 != n_14) (
            J_2 [.bool true] w_15) (
            LDi .i64 w_15 ⟨b_1, 8, none⟩ fun n_15 =>
            LDi .i64 w_15 ⟨b_1, 9, none⟩ fun n_16 =>
            LDi .i64 w_15 ⟨b_2, 8, none⟩ fun n_17 =>
            LDi .i64 w_15 ⟨b_2, 9, none⟩ fun n_18 =>
            ITE (!(n_15 == n_17 && (n_16 == n_18 && true))) (
             J_2 [.bool true] w_15) (
             LDi .i64 w_15 ⟨b_1, 10, none⟩ fun n_19 =>
             LDi .i64 w_15 ⟨b_2, 10, none⟩ fun n_20 =>
             ITE (n_19 != n_20) (
              J_2 [.bool true] w_15) (
              LDi .i64 w_15 ⟨b_3, 0, none⟩ fun n_21 =>
              LDi .i64 w_15 ⟨b_4, 0, none⟩ fun n_22 =>
              ITE (n_21 != n_22) (
               J_2 [.bool true] w_15) (
               LDi .i64 w_15 ⟨b_3, 1, none⟩ fun n_23 =>
               LDi .i64 w_15 ⟨b_4, 1, none⟩ fun n_24 =>
               ITE (n_23 != n_24) (
                J_2 [.bool true] w_15) (
                LDi .i64 w_15 ⟨b_3, 2, none⟩ fun n_25 =>
                LDi .i64 w_15 ⟨b_4, 2, none⟩ fun n_26 =>
                ITE (n_25 != n_26) (
                 J_2 [.bool true] w_15) (
                 LDi .i64 w_15 ⟨b_3, 3, none⟩ fun n_27 =>
                 LDi .i64 w_15 ⟨b_4, 3, none⟩ fun n_28 =>
                 ITE (n_27 != n_28) (
                  J_2 [.bool true] w_15) (
                  LDl w_15 ⟨b_3, 4, none⟩ fun _ l_3 _ =>
                  LDl w_15 ⟨b_4, 4, none⟩ fun _ l_4 _ =>
                  J_2 [.bool ((↑l_3 : Int) != (↑l_4 : Int))] w_15)))))))))) ∧
         ∀ w_16 : World,
         ∀ v_1 : Value,
         (J_2 [v_1] w_16 →
         BOOLV v_1 fun t_1 =>
         ITE (t_1) (
          K (.bool false) w_16) (
          J_1 [.bool false] w_16)))) ∧
        ∀ w_17 : World,
        ∀ v_2 : Value,
        (J_1 [v_2] w_17 →
        BOOLV v_2 fun t_2 =>
        LDl w_17 ⟨b_3, 4, none⟩ fun a_5 l_5 _ =>
        LOOP [.bool t_2, .int .i64 0] w_17 fun I_1 N_1 =>
        ∀ w_18 : World,
        ∀ v_3 : Value,
        ∀ v_4 : Value,
        (I_1 [v_3, v_4] w_18 →
        INTV .i64 v_4 fun n_29 =>
        BOOLV v_3 fun t_3 =>
        ITE (decide (n_29 < (↑l_5 : Int))) (
         IDX a_5 l_5 n_29 1 fun b_5 o_1 =>
         LDi .i64 w_18 ⟨b_5, o_1, none⟩ fun n_30 =>
         LDl w_18 ⟨b_4, 4, none⟩ fun a_6 l_6 _ =>
         IDX a_6 l_6 n_29 1 fun b_6 o_2 =>
         LDi .i64 w_18 ⟨b_6, o_2, none⟩ fun n_31 =>
         ITE (n_31 != n_30) (
          K (.bool false) w_18) (
          BIND (IntKind.i64.wrap (n_29 + 1)) fun n_32 =>
          N_1 [v_3, v_4] w_18 [.bool t_3, .int .i64 n_32] w_18)) (
         K (.bool true) w_18))))))))) ∧
   NEW w_3 [.int .i64 0, .int .i64 0, .int .i64 0, .int .i64 0, .slice none 0 0] T_api_Config_api_Config fun b_7 w_19 =>
   ((
    KEEP w_19 [Fact.cell ⟨b_1, 3, none⟩ (.int .i64 n_1), Fact.cell ⟨b_1, 4, none⟩ (.int .i64 n_2), Fact.cell ⟨b_1, 5, none⟩ (.int .i64 n_3), Fact.cell ⟨b_1, 6, none⟩ (.int .i64 n_4), Fact.cell ⟨b_1, 7, none⟩ (.slice a_1 l_1 c_1), Fact.cell ⟨b_2, 3, none⟩ (.int .i64 n_5), Fact.cell ⟨b_2, 4, none⟩ (.int .i64 n_6), Fact.cell ⟨b_2, 5, none⟩ (.int .i64 n_7), Fact.cell ⟨b_2, 6, none⟩ (.int .i64 n_8), Fact.cell ⟨b_2, 7, none⟩ (.slice a_2 l_2 c_2)]) ∧
    NEW w_19 [.int .i64 0, .int .i64 0, .int .i64 0, .int .i64 0, .slice none 0 0] T_api_Config_api_Config fun b_8 w_20 =>
    ((
     KEEP w_20 [Fact.cell ⟨b_1, 3, none⟩ (.int .i64 n_1), Fact.cell ⟨b_1, 4, none⟩ (.int .i64 n_2), Fact.cell ⟨b_1, 5, none⟩ (.int .i64 n_3), Fact.cell ⟨b_1, 6, none⟩ (.int .i64 n_4), Fact.cell ⟨b_1, 7, none⟩ (.slice a_1 l_1 c_1), Fact.cell ⟨b_2, 3, none⟩ (.int .i64 n_5), Fact.cell ⟨b_2, 4, none⟩ (.int .i64 n_6), Fact.cell ⟨b_2, 5, none⟩ (.int .i64 n_7), Fact.cell ⟨b_2, 6, none⟩ (.int .i64 n_8), Fact.cell ⟨b_2, 7, none⟩ (.slice a_2 l_2 c_2)]) ∧
     ST1 w_20 ⟨b_8, 0, none⟩ (.int .i64 n_1) fun w_21 =>
     ST1 w_21 ⟨b_8, 1, none⟩ (.int .i64 n_2) fun w_22 =>
     ST1 w_22 ⟨b_8, 2, none⟩ (.int .i64 n_3) fun w_23 =>
     ST1 w_23 ⟨b_8, 3, none⟩ (.int .i64 n_4) fun w_24 =>
     ST1 w_24 ⟨b_8, 4, none⟩ (.slice a_1 l_1 c_1) fun w_25 =>
     ((
      KEEP w_25 [Fact.cell ⟨b_2, 3, none⟩ (.int .i64 n_5), Fact.cell ⟨b_2, 4, none⟩ (.int .i64 n_6), Fact.cell ⟨b_2, 5, none⟩ (.int .i64 n_7), Fact.cell ⟨b_2, 6, none⟩ (.int .i64 n_8), Fact.cell ⟨b_2, 7, none⟩ (.slice a_2 l_2 c_2)]) ∧
      ST1 w_25 ⟨b_7, 0, none⟩ (.int .i64 n_5) fun w_26 =>
      ST1 w_26 ⟨b_7, 1, none⟩ (.int .i64 n_6) fun w_27 =>
      ST1 w_27 ⟨b_7, 2, none⟩ (.int .i64 n_7) fun w_28 =>
      ST1 w_28 ⟨b_7, 3, none⟩ (.int .i64 n_8) fun w_29 =>
      ST1 w_29 ⟨b_7, 4, none⟩ (.slice a_2 l_2 c_2) fun w_30 =>
      ((
       KEEP w_30 []) ∧
       JOIN fun J_3 =>
       ((
        JOIN fun J_4 =>
        ((
         LDi .i64 w_30 ⟨b_1, 0, none⟩ fun n_33 =>
         LDi .i64 w_30 ⟨b_2, 0, none⟩ fun n_34 =>
         ITE (n_33 != n_34) (
          J_4 [.bool true] w_30) (
          LDi .i64 w_30 ⟨b_1, 1, none⟩ fun n_35 =>
          LDi .i64 w_30 ⟨b_2, 1, none⟩ fun n_36 =>
          ITE (n_35 != n_36) (
           J_4 [.bool true] w_30) (
           LDi .i64 w_30 ⟨b_1, 2, none⟩ fun n_37 =>
           LDi .i64 w_30 ⟨b_2, 2, none⟩ fun n_38 =>
           ITE (n_37 != n_38) (
            J_4 [.bool true] w_30) (
            LDi .i64 w_30 ⟨b_1, 8, none⟩ fun n_39 =>
            LDi .i64 w_30 ⟨b_1, 9, none⟩ fun n_40 =>
            LDi .i64 w_30 ⟨b_2, 8, none⟩ fun n_41 =>
            LDi .i64 w_30 ⟨b_2, 9, none⟩ fun n_42 =>
            ITE (!(n_39 == n_41 && (n_40 == n_42 && true))) (
             J_4 [.bool true] w_30) (
             LDi .i64 w_30 ⟨b_1, 10, none⟩ fun n_43 =>
             LDi .i64 w_30 ⟨b_2, 10, none⟩ fun n_44 =>
             ITE (n_43 != n_44) (
              J_4 [.bool true] w_30) (
              LDi .i64 w_30 ⟨b_8, 0, none⟩ fun n_45 =>
              LDi .i64 w_30 ⟨b_7, 0, none⟩ fun n_46 =>
              ITE (n_45 != n_46) (
               J_4 [.bool true] w_30) (
               LDi .i64 w_30 ⟨b_8, 1, none⟩ fun n_47 =>
               LDi .i64 w_30 ⟨b_7, 1, none⟩ fun n_48 =>
               ITE (n_47 != n_48) (
                J_4 [.bool true] w_30) (
                LDi .i64 w_30 ⟨b_8, 2, none⟩ fun n_49 =>
                LDi .i64 w_30 ⟨b_7, 2, none⟩ fun n_50 =>
                ITE (n_49 != n_50) (
                 J_4 [.bool true] w_30) (
                 LDi .i64 w_30 ⟨b_8, 3, none⟩ fun n_51 =>
                 LDi .i64 w_30 ⟨b_7, 3, none⟩ fun n_52 =>
                 ITE (n_51 != n_52) (
                  J_4 [.bool true] w_30) (
                  LDl w_30 ⟨b_8, 4, none⟩ fun _ l_7 _ =>
                  LDl w_30 ⟨b_7, 4, none⟩ fun _ l_8 _ =>
                  J_4 [.bool ((↑l_7 : Int) != (↑l_8 : Int))] w_30)))))))))) ∧
         ∀ w_31 : World,
         ∀ v_5 : Value,
         (J_4 [v_5] w_31 →
         BOOLV v_5 fun t_4 =>
         ITE (t_4) (
          K (.bool false) w_31) (
          J_3 [.bool false] w_31)))) ∧
        ∀ w_32 : World,
        ∀ v_6 : Value,
        (J_3 [v_6] w_32 →
        BOOLV v_6 fun t_5 =>
        LDl w_32 ⟨b_8, 4, none⟩ fun a_9 l_9 _ =>
        LOOP [.bool t_5, .int .i64 0] w_32 fun I_2 N_2 =>
        ∀ w_33 : World,
        ∀ v_7 : Value,
        ∀ v_8 : Value,
        (I_2 [v_7, v_8] w_33 →
        INTV .i64 v_8 fun n_53 =>
        BOOLV v_7 fun t_6 =>
        ITE (decide (n_53 < (↑l_9 : Int))) (
         IDX a_9 l_9 n_53 1 fun b_9 o_3 =>
         LDi .i64 w_33 ⟨b_9, o_3, none⟩ fun n_54 =>
         LDl w_33 ⟨b_7, 4, none⟩ fun a_10 l_10 _ =>
         IDX a_10 l_10 n_53 1 fun b_10 o_4 =>
         LDi .i64 w_33 ⟨b_10, o_4, none⟩ fun n_55 =>
         ITE (n_55 != n_54) (
          K (.bool false) w_33) (
          BIND (IntKind.i64.wrap (n_53 + 1)) fun n_56 =>
          N_2 [v_7, v_8] w_33 [.bool t_6, .int .i64 n_56] w_33)) (
         K (.bool true) w_33)))))))))
theorem E_l25_same (x0 : Int) (x1 : Int) (x2 : Int) (x3 : Int) (x4 : Int) (x5 : Int) (x6 : Int) (x7a : Option Addr) (x7l : Nat) (x7c : Nat) (x8 : Int) (x9 : Int) (x10 : Int) (y0 : Int) (y1 : Int) (y2 : Int) (y3 : Int) (y4 : Int) (y5 : Int) (y6 : Int) (y7a : Option Addr) (y7l : Nat) (y7c : Nat) (y8 : Int) (y9 : Int) (y10 : Int) (w : World) (K : Value → World → Prop) :
    D_l25_same x0 x1 x2 x3 x4 x5 x6 x7a x7l x7c x8 x9 x10 y0 y1 y2 y3 y4 y5 y6 y7a y7l y7c y8 y9 y10 w K = vcFn Pg Tryd.f11 [2] [.agg #[.int .i64 x0, .int .i64 x1, .int .i64 x2, .int .i64 x3, .int .i64 x4, .int .i64 x5, .int .i64 x6, .slice x7a x7l x7c, .int .i64 x8, .int .i64 x9, .int .i64 x10], .agg #[.int .i64 y0, .int .i64 y1, .int .i64 y2, .int .i64 y3, .int .i64 y4, .int .i64 y5, .int .i64 y6, .slice y7a y7l y7c, .int .i64 y8, .int .i64 y9, .int .i64 y10]] w K := by kernel_rfl
theorem C_l25_same {x0 : Int} {x1 : Int} {x2 : Int} {x3 : Int} {x4 : Int} {x5 : Int} {x6 : Int} {x7a : Option Addr} {x7l : Nat} {x7c : Nat} {x8 : Int} {x9 : Int} {x10 : Int} {y0 : Int} {y1 : Int} {y2 : Int} {y3 : Int} {y4 : Int} {y5 : Int} {y6 : Int} {y7a : Option Addr} {y7l : Nat} {y7c : Nat} {y8 : Int} {y9 : Int} {y10 : Int} {w : World} {K : Value → World → Prop} (h : D_l25_same x0 x1 x2 x3 x4 x5 x6 x7a x7l x7c x8 x9 x10 y0 y1 y2 y3 y4 y5 y6 y7a y7l y7c y8 y9 y10 w K) :
    CALL Pg F_l25_same [.agg #[.int .i64 x0, .int .i64 x1, .int .i64 x2, .int .i64 x3, .int .i64 x4, .int .i64 x5, .int .i64 x6, .slice x7a x7l x7c, .int .i64 x8, .int .i64 x9, .int .i64 x10], .agg #[.int .i64 y0, .int .i64 y1, .int .i64 y2, .int .i64 y3, .int .i64 y4, .int .i64 y5, .int .i64 y6, .slice y7a y7l y7c, .int .i64 y8, .int .i64 y9, .int .i64 y10]] w K :=
  call_of_vc [2] Tryd.func11 rfl (Nat.le_of_ble_eq_true (by kernel_rfl)) ((E_l25_same x0 x1 x2 x3 x4 x5 x6 x7a x7l x7c x8 x9 x10 y0 y1 y2 y3 y4 y5 y6 y7a y7l y7c y8 y9 y10 w K) ▸ h)
def D_l25_may (x0 : Int) (x1 : Int) (x2 : Int) (x3 : Int) (x4 : Int) (x5 : Int) (x6 : Int) (x7a : Option Addr) (x7l : Nat) (x7c : Nat) (x8 : Int) (x9 : Int) (x10 : Int) (w : World) (K : Value → World → Prop) : Prop :=
  NEW w [.int .i64 x0, .int .i64 x1, .int .i64 x2, .int .i64 x3, .int .i64 x4, .int .i64 x5, .int .i64 x6, .slice x7a x7l x7c, .int .i64 x8, .int .i64 x9, .int .i64 x10] T_text_Line_text_Line fun b_1 w_1 =>
  LDi .i64 w_1 ⟨b_1, 0, none⟩ fun n_1 =>
  NEW w_1 [.int .i64 0, .int .i64 0, .int .i64 0, .int .i64 0, .int .i64 0, .int .i64 0, .int .i64 0, .slice none 0 0, .int .i64 0, .int .i64 0, .int .i64 0] T_text_Line_text_Line fun b_2 w_2 =>
  ST1 w_2 ⟨b_2, 0, none⟩ (.int .i64 n_1) fun w_3 =>
  ST1 w_3 ⟨b_2, 1, none⟩ (.int .i64 0) fun w_4 =>
  ST1 w_4 ⟨b_2, 2, none⟩ (.int .i64 0) fun w_5 =>
  ST1 w_5 ⟨b_2, 3, none⟩ (.int .i64 0) fun w_6 =>
  ST1 w_6 ⟨b_2, 4, none⟩ (.int .i64 0) fun w_7 =>
  ST1 w_7 ⟨b_2, 5, none⟩ (.int .i64 0) fun w_8 =>
  ST1 w_8 ⟨b_2, 6, none⟩ (.int .i64 0) fun w_9 =>
  ST1 w_9 ⟨b_2, 7, none⟩ (.slice none 0 0) fun w_10 =>
  ST1 w_10 ⟨b_2, 8, none⟩ (.int .i64 0) fun w_11 =>
  ST1 w_11 ⟨b_2, 9, none⟩ (.int .i64 0) fun w_12 =>
  ST1 w_12 ⟨b_2, 10, none⟩ (.int .i64 0) fun w_13 =>
  JOIN fun J_1 =>
  ((
   JOIN fun J_2 =>
   ((
    LDi .i64 w_13 ⟨b_1, 0, none⟩ fun n_2 =>
    J_2 [.int .i64 n_2] w_13) ∧
    ∀ w_14 : World,
    ∀ v_1 : Value,
    (J_2 [v_1] w_14 →
    INTV .i64 v_1 fun n_3 =>
    ITE (n_3 == 1) (
     LDi .i64 w_14 ⟨b_1, 3, none⟩ fun n_4 =>
     LDi .i64 w_14 ⟨b_1, 4, none⟩ fun n_5 =>
     LDi .i64 w_14 ⟨b_1, 5, none⟩ fun n_6 =>
     LDi .i64 w_14 ⟨b_1, 6, none⟩ fun n_7 =>
     LDl w_14 ⟨b_1, 7, none⟩ fun a_1 l_1 c_1 =>
     ST1 w_14 ⟨b_2, 3, none⟩ (.int .i64 n_4) fun w_15 =>
     ST1 w_15 ⟨b_2, 4, none⟩ (.int .i64 n_5) fun w_16 =>
     ST1 w_16 ⟨b_2, 5, none⟩ (.int .i64 n_6) fun w_17 =>
     ST1 w_17 ⟨b_2, 6, none⟩ (.int .i64 n_7) fun w_18 =>
     ST1 w_18 ⟨b_2, 7, none⟩ (.slice a_1 l_1 c_1) fun w_19 =>
     JOIN fun J_3 =>
     ((
      LDi .i64 w_19 ⟨b_1, 0, none⟩ fun n_8 =>
      LDi .i64 w_19 ⟨b_1, 1, none⟩ fun n_9 =>
      LDi .i64 w_19 ⟨b_1, 2, none⟩ fun n_10 =>
      LDi .i64 w_19 ⟨b_1, 3, none⟩ fun n_11 =>
      LDi .i64 w_19 ⟨b_1, 4, none⟩ fun n_12 =>
      LDi .i64 w_19 ⟨b_1, 5, none⟩ fun n_13 =>
      LDi .i64 w_19 ⟨b_1, 6, none⟩ fun n_14 =>
      LDl w_19 ⟨b_1, 7, none⟩ fun a_2 l_2 c_2 =>
      LDi .i64 w_19 ⟨b_1, 8, none⟩ fun n_15 =>
      LDi .i64 w_19 ⟨b_1, 9, none⟩ fun n_16 =>
      LDi .i64 w_19 ⟨b_1, 10, none⟩ fun n_17 =>
      LDi .i64 w_19 ⟨b_2, 0, none⟩ fun n_18 =>
      LDi .i64 w_19 ⟨b_2, 1, none⟩ fun n_19 =>
      LDi .i64 w_19 ⟨b_2, 2, none⟩ fun n_20 =>
      LDi .i64 w_19 ⟨b_2, 3, none⟩ fun n_21 =>
      LDi .i64 w_19 ⟨b_2, 4, none⟩ fun n_22 =>
      LDi .i64 w_19 ⟨b_2, 5, none⟩ fun n_23 =>
      LDi .i64 w_19 ⟨b_2, 6, none⟩ fun n_24 =>
      LDl w_19 ⟨b_2, 7, none⟩ fun a_3 l_3 c_3 =>
      LDi .i64 w_19 ⟨b_2, 8, none⟩ fun n_25 =>
      LDi .i64 w_19 ⟨b_2, 9, none⟩ fun n_26 =>
      LDi .i64 w_19 ⟨b_2, 10, none⟩ fun n_27 =>
      CALL Pg F_l25_same [.agg #[.int .i64 n_8, .int .i64 n_9, .int .i64 n_10, .int .i64 n_11, .int .i64 n_12, .int .i64 n_13, .int .i64 n_14, .slice a_2 l_2 c_2, .int .i64 n_15, .int .i64 n_16, .int .i64 n_17], .agg #[.int .i64 n_18, .int .i64 n_19, .int .i64 n_20, .int .i64 n_21, .int .i64 n_22, .int .i64 n_23, .int .i64 n_24, .slice a_3 l_3 c_3, .int .i64 n_25, .int .i64 n_26, .int .i64 n_27]] w_19 fun v_2 w_20 =>
      BOOLV v_2 fun t_1 =>
      ITE (t_1) (
       LDl w_20 ⟨b_1, 7, none⟩ fun _ l_4 _ =>
       J_3 [.bool (decide ((↑l_4 : Int) ≤ 28))] w_20) (
       J_3 [.bool false] w_20)) ∧
      ∀ w_21 : World,
      ∀ v_3 : Value,
      (J_3 [v_3] w_21 →
      BOOLV v_3 fun t_2 =>
      K (.bool t_2) w_21))) (
     ITE (n_3 == 2) (
      DRAW w_14 fun w_22 =>
      LDi .i64 w_22 ⟨b_1, 1, none⟩ fun n_28 =>
      LDi .i64 w_22 ⟨b_1, 8, none⟩ fun n_29 =>
      LDi .i64 w_22 ⟨b_1, 9, none⟩ fun n_30 =>
      LDi .i64 w_22 ⟨b_1, 10, none⟩ fun n_31 =>
      ST1 w_22 ⟨b_2, 1, none⟩ (.int .i64 n_28) fun w_23 =>
      ((
       KEEP w_23 [Fact.cell ⟨b_1, 8, none⟩ (.int .i64 n_29), Fact.cell ⟨b_1, 9, none⟩ (.int .i64 n_30), Fact.cell ⟨b_1, 10, none⟩ (.int .i64 n_31)]) ∧
       ST1 w_23 ⟨b_2, 8, none⟩ (.int .i64 n_29) fun w_24 =>
       ST1 w_24 ⟨b_2, 9, none⟩ (.int .i64 n_30) fun w_25 =>
       ((
        KEEP w_25 [Fact.cell ⟨b_1, 10, none⟩ (.int .i64 n_31)]) ∧
        ST1 w_25 ⟨b_2, 10, none⟩ (.int .i64 n_31) fun w_26 =>
        ((
         KEEP w_26 []) ∧
         JOIN fun J_4 =>
         ((
          LDi .i64 w_26 ⟨b_1, 0, none⟩ fun n_32 =>
          LDi .i64 w_26 ⟨b_1, 1, none⟩ fun n_33 =>
          LDi .i64 w_26 ⟨b_1, 2, none⟩ fun n_34 =>
          LDi .i64 w_26 ⟨b_1, 3, none⟩ fun n_35 =>
          LDi .i64 w_26 ⟨b_1, 4, none⟩ fun n_36 =>
          LDi .i64 w_26 ⟨b_1, 5, none⟩ fun n_37 =>
          LDi .i64 w_26 ⟨b_1, 6, none⟩ fun n_38 =>
          LDl w_26 ⟨b_1, 7, none⟩ fun a_5 l_5 c_5 =>
          LDi .i64 w_26 ⟨b_1, 8, none⟩ fun n_39 =>
          LDi .i64 w_26 ⟨b_1, 9, none⟩ fun n_40 =>
          LDi .i64 w_26 ⟨b_1, 10, none⟩ fun n_41 =>
          LDi .i64 w_26 ⟨b_2, 0, none⟩ fun n_42 =>
          LDi .i64 w_26 ⟨b_2, 1, none⟩ fun n_43 =>
          LDi .i64 w_26 ⟨b_2, 2, none⟩ fun n_44 =>
          LDi .i64 w_26 ⟨b_2, 3, none⟩ fun n_45 =>
          LDi .i64 w_26 ⟨b_2, 4, none⟩ fun n_46 =>
          LDi .i64 w_26 ⟨b_2, 5, none⟩ fun n_47 =>
          LDi .i64 w_26 ⟨b_2, 6, none⟩ fun n_48 =>
          LDl w_26 ⟨b_2, 7, none⟩ fun a_6 l_6 c_6 =>
          LDi .i64 w_26 ⟨b_2, 8, none⟩ fun n_49 =>
          LDi .i64 w_26 ⟨b_2, 9, none⟩ fun n_50 =>
          LDi .i64 w_26 ⟨b_2, 10, none⟩ fun n_51 =>
          CALL Pg F_l25_same [.agg #[.int .i64 n_32, .int .i64 n_33, .int .i64 n_34, .int .i64 n_35, .int .i64 n_36, .int .i64 n_37, .int .i64 n_38, .slice a_5 l_5 c_5, .int .i64 n_39, .int .i64 n_40, .int .i64 n_41], .agg #[.int .i64 n_42, .int .i64 n_43, .int .i64 n_44, .int .i64 n_45, .int .i64 n_46, .int .i64 n_47, .int .i64 n_48, .slice a_6 l_6 c_6, .int .i64 n_49, .int .i64 n_50, .int .i64 n_51]] w_26 fun v_4 w_27 =>
          BOOLV v_4 fun t_3 =>
          ITE (t_3) (
           LDi .i64 w_27 ⟨b_1, 8, none⟩ fun n_52 =>
           ITE (decide (n_52 ≥ 1)) (
            LDi .i64 w_27 ⟨b_1, 8, none⟩ fun n_53 =>
            ITE (decide (n_53 ≤ 3)) (
             LDi .i64 w_27 ⟨b_1, 10, none⟩ fun n_54 =>
             ITE (decide (n_54 ≥ 0)) (
              LDi .i64 w_27 ⟨b_1, 10, none⟩ fun n_55 =>
              ITE (n_55 == 0) (
               J_4 [.bool true] w_27) (
               LDi .i64 w_27 ⟨b_1, 9, none⟩ fun n_56 =>
               J_4 [.bool (n_56 == 0)] w_27)) (
              J_4 [.bool false] w_27)) (
             J_4 [.bool false] w_27)) (
            J_4 [.bool false] w_27)) (
           J_4 [.bool false] w_27)) ∧
          ∀ w_28 : World,
          ∀ v_5 : Value,
          (J_4 [v_5] w_28 →
          BOOLV v_5 fun t_4 =>
          K (.bool t_4) w_28)))))) (
      ITE (n_3 == 3) (
       DRAW w_14 fun w_29 =>
       LDi .i64 w_29 ⟨b_1, 1, none⟩ fun n_57 =>
       LDi .i64 w_29 ⟨b_1, 2, none⟩ fun n_58 =>
       ST1 w_29 ⟨b_2, 1, none⟩ (.int .i64 n_57) fun w_30 =>
       ((
        KEEP w_30 [Fact.cell ⟨b_1, 2, none⟩ (.int .i64 n_58)]) ∧
        ST1 w_30 ⟨b_2, 2, none⟩ (.int .i64 n_58) fun w_31 =>
        ((
         KEEP w_31 []) ∧
         J_1 [.bool false] w_31))) (
       ITE (n_3 == 4) (
        LDi .i64 w_14 ⟨b_1, 2, none⟩ fun n_59 =>
        ST1 w_14 ⟨b_2, 2, none⟩ (.int .i64 n_59) fun w_32 =>
        J_1 [.bool false] w_32) (
        ITE (n_3 == 5) (
         LDi .i64 w_14 ⟨b_1, 1, none⟩ fun n_60 =>
         ST1 w_14 ⟨b_2, 1, none⟩ (.int .i64 n_60) fun w_33 =>
         J_1 [.bool false] w_33) (
         J_1 [.bool false] w_14)))))))) ∧
   ∀ w_34 : World,
   ∀ v_6 : Value,
   (J_1 [v_6] w_34 →
   BOOLV v_6 fun _ =>
   JOIN fun J_5 =>
   ((
    LDi .i64 w_34 ⟨b_1, 0, none⟩ fun n_61 =>
    LDi .i64 w_34 ⟨b_1, 1, none⟩ fun n_62 =>
    LDi .i64 w_34 ⟨b_1, 2, none⟩ fun n_63 =>
    LDi .i64 w_34 ⟨b_1, 3, none⟩ fun n_64 =>
    LDi .i64 w_34 ⟨b_1, 4, none⟩ fun n_65 =>
    LDi .i64 w_34 ⟨b_1, 5, none⟩ fun n_66 =>
    LDi .i64 w_34 ⟨b_1, 6, none⟩ fun n_67 =>
    LDl w_34 ⟨b_1, 7, none⟩ fun a_7 l_7 c_7 =>
    LDi .i64 w_34 ⟨b_1, 8, none⟩ fun n_68 =>
    LDi .i64 w_34 ⟨b_1, 9, none⟩ fun n_69 =>
    LDi .i64 w_34 ⟨b_1, 10, none⟩ fun n_70 =>
    LDi .i64 w_34 ⟨b_2, 0, none⟩ fun n_71 =>
    LDi .i64 w_34 ⟨b_2, 1, none⟩ fun n_72 =>
    LDi .i64 w_34 ⟨b_2, 2, none⟩ fun n_73 =>
    LDi .i64 w_34 ⟨b_2, 3, none⟩ fun n_74 =>
    LDi .i64 w_34 ⟨b_2, 4, none⟩ fun n_75 =>
    LDi .i64 w_34 ⟨b_2, 5, none⟩ fun n_76 =>
    LDi .i64 w_34 ⟨b_2, 6, none⟩ fun n_77 =>
    LDl w_34 ⟨b_2, 7, none⟩ fun a_8 l_8 c_8 =>
    LDi .i64 w_34 ⟨b_2, 8, none⟩ fun n_78 =>
    LDi .i64 w_34 ⟨b_2, 9, none⟩ fun n_79 =>
    LDi .i64 w_34 ⟨b_2, 10, none⟩ fun n_80 =>
    CALL Pg F_l25_same [.agg #[.int .i64 n_61, .int .i64 n_62, .int .i64 n_63, .int .i64 n_64, .int .i64 n_65, .int .i64 n_66, .int .i64 n_67, .slice a_7 l_7 c_7, .int .i64 n_68, .int .i64 n_69, .int .i64 n_70], .agg #[.int .i64 n_71, .int .i64 n_72, .int .i64 n_73, .int .i64 n_74, .int .i64 n_75, .int .i64 n_76, .int .i64 n_77, .slice a_8 l_8 c_8, .int .i64 n_78, .int .i64 n_79, .int .i64 n_80]] w_34 fun v_7 w_35 =>
    BOOLV v_7 fun t_6 =>
    ITE (t_6) (
     LDi .i64 w_35 ⟨b_1, 0, none⟩ fun n_81 =>
     ITE (decide (n_81 ≥ 1)) (
      LDi .i64 w_35 ⟨b_1, 0, none⟩ fun n_82 =>
      J_5 [.bool (decide (n_82 ≤ 10))] w_35) (
      J_5 [.bool false] w_35)) (
     J_5 [.bool false] w_35)) ∧
    ∀ w_36 : World,
    ∀ v_8 : Value,
    (J_5 [v_8] w_36 →
    BOOLV v_8 fun t_7 =>
    K (.bool t_7) w_36))))
theorem E_l25_may (x0 : Int) (x1 : Int) (x2 : Int) (x3 : Int) (x4 : Int) (x5 : Int) (x6 : Int) (x7a : Option Addr) (x7l : Nat) (x7c : Nat) (x8 : Int) (x9 : Int) (x10 : Int) (w : World) (K : Value → World → Prop) :
    D_l25_may x0 x1 x2 x3 x4 x5 x6 x7a x7l x7c x8 x9 x10 w K = vcFn Pg Tryd.f14 [2, 5, 8, 15] [.agg #[.int .i64 x0, .int .i64 x1, .int .i64 x2, .int .i64 x3, .int .i64 x4, .int .i64 x5, .int .i64 x6, .slice x7a x7l x7c, .int .i64 x8, .int .i64 x9, .int .i64 x10]] w K := by kernel_rfl
theorem C_l25_may {x0 : Int} {x1 : Int} {x2 : Int} {x3 : Int} {x4 : Int} {x5 : Int} {x6 : Int} {x7a : Option Addr} {x7l : Nat} {x7c : Nat} {x8 : Int} {x9 : Int} {x10 : Int} {w : World} {K : Value → World → Prop} (h : D_l25_may x0 x1 x2 x3 x4 x5 x6 x7a x7l x7c x8 x9 x10 w K) :
    CALL Pg F_l25_may [.agg #[.int .i64 x0, .int .i64 x1, .int .i64 x2, .int .i64 x3, .int .i64 x4, .int .i64 x5, .int .i64 x6, .slice x7a x7l x7c, .int .i64 x8, .int .i64 x9, .int .i64 x10]] w K :=
  call_of_vc [2, 5, 8, 15] Tryd.func14 rfl (Nat.le_of_ble_eq_true (by kernel_rfl)) ((E_l25_may x0 x1 x2 x3 x4 x5 x6 x7a x7l x7c x8 x9 x10 w K) ▸ h)
def D_l25_speaks (w : World) (K : Value → World → Prop) : Prop :=
  CALL Pg F_text_Parse [.string { data := #[97, 115, 107, 32, 49, 32, 102, 114, 101, 101, 32, 35, 51] }] w fun v_1 w_1 =>
  TUPV v_1 fun cs_1 =>
  GETV cs_1 0 fun v_2 =>
  AGGV v_2 fun cs_2 =>
  GETV cs_2 0 fun v_3 =>
  INTV .i64 v_3 fun n_1 =>
  GETV cs_2 1 fun v_4 =>
  INTV .i64 v_4 fun n_2 =>
  GETV cs_2 2 fun v_5 =>
  INTV .i64 v_5 fun n_3 =>
  GETV cs_2 3 fun v_6 =>
  INTV .i64 v_6 fun n_4 =>
  GETV cs_2 4 fun v_7 =>
  INTV .i64 v_7 fun n_5 =>
  GETV cs_2 5 fun v_8 =>
  INTV .i64 v_8 fun n_6 =>
  GETV cs_2 6 fun v_9 =>
  INTV .i64 v_9 fun n_7 =>
  GETV cs_2 7 fun v_10 =>
  SLV v_10 fun a_1 l_1 c_1 =>
  GETV cs_2 8 fun v_11 =>
  INTV .i64 v_11 fun n_8 =>
  GETV cs_2 9 fun v_12 =>
  INTV .i64 v_12 fun n_9 =>
  GETV cs_2 10 fun v_13 =>
  INTV .i64 v_13 fun n_10 =>
  LEN cs_2 11 (
  GETV cs_1 1 fun v_14 =>
  BOOLV v_14 fun t_1 =>
  LEN cs_1 2 (
  NEW w_1 [.int .i64 0, .int .i64 0, .int .i64 0, .int .i64 0, .int .i64 0, .int .i64 0, .int .i64 0, .slice none 0 0, .int .i64 0, .int .i64 0, .int .i64 0] T_text_Line_text_Line fun b_1 w_2 =>
  ST1 w_2 ⟨b_1, 0, none⟩ (.int .i64 n_1) fun w_3 =>
  ST1 w_3 ⟨b_1, 1, none⟩ (.int .i64 n_2) fun w_4 =>
  ST1 w_4 ⟨b_1, 2, none⟩ (.int .i64 n_3) fun w_5 =>
  ST1 w_5 ⟨b_1, 3, none⟩ (.int .i64 n_4) fun w_6 =>
  ST1 w_6 ⟨b_1, 4, none⟩ (.int .i64 n_5) fun w_7 =>
  ST1 w_7 ⟨b_1, 5, none⟩ (.int .i64 n_6) fun w_8 =>
  ST1 w_8 ⟨b_1, 6, none⟩ (.int .i64 n_7) fun w_9 =>
  ST1 w_9 ⟨b_1, 7, none⟩ (.slice a_1 l_1 c_1) fun w_10 =>
  ST1 w_10 ⟨b_1, 8, none⟩ (.int .i64 n_8) fun w_11 =>
  ST1 w_11 ⟨b_1, 9, none⟩ (.int .i64 n_9) fun w_12 =>
  ST1 w_12 ⟨b_1, 10, none⟩ (.int .i64 n_10) fun w_13 =>
  CALL Pg F_text_Parse [.string { data := #[97, 115, 107, 32, 49, 32, 102, 114, 101, 101, 32, 35, 32, 51] }] w_13 fun v_15 w_14 =>
  TUPV v_15 fun cs_3 =>
  GETV cs_3 0 fun v_16 =>
  AGGV v_16 fun cs_4 =>
  GETV cs_4 0 fun v_17 =>
  INTV .i64 v_17 fun n_11 =>
  GETV cs_4 1 fun v_18 =>
  INTV .i64 v_18 fun n_12 =>
  GETV cs_4 2 fun v_19 =>
  INTV .i64 v_19 fun n_13 =>
  GETV cs_4 3 fun v_20 =>
  INTV .i64 v_20 fun n_14 =>
  GETV cs_4 4 fun v_21 =>
  INTV .i64 v_21 fun n_15 =>
  GETV cs_4 5 fun v_22 =>
  INTV .i64 v_22 fun n_16 =>
  GETV cs_4 6 fun v_23 =>
  INTV .i64 v_23 fun n_17 =>
  GETV cs_4 7 fun v_24 =>
  SLV v_24 fun a_2 l_2 c_2 =>
  GETV cs_4 8 fun v_25 =>
  INTV .i64 v_25 fun n_18 =>
  GETV cs_4 9 fun v_26 =>
  INTV .i64 v_26 fun n_19 =>
  GETV cs_4 10 fun v_27 =>
  INTV .i64 v_27 fun n_20 =>
  LEN cs_4 11 (
  GETV cs_3 1 fun v_28 =>
  BOOLV v_28 fun t_2 =>
  LEN cs_3 2 (
  NEW w_14 [.int .i64 0, .int .i64 0, .int .i64 0, .int .i64 0, .int .i64 0, .int .i64 0, .int .i64 0, .slice none 0 0, .int .i64 0, .int .i64 0, .int .i64 0] T_text_Line_text_Line fun b_2 w_15 =>
  ST1 w_15 ⟨b_2, 0, none⟩ (.int .i64 n_11) fun w_16 =>
  ST1 w_16 ⟨b_2, 1, none⟩ (.int .i64 n_12) fun w_17 =>
  ST1 w_17 ⟨b_2, 2, none⟩ (.int .i64 n_13) fun w_18 =>
  ST1 w_18 ⟨b_2, 3, none⟩ (.int .i64 n_14) fun w_19 =>
  ST1 w_19 ⟨b_2, 4, none⟩ (.int .i64 n_15) fun w_20 =>
  ST1 w_20 ⟨b_2, 5, none⟩ (.int .i64 n_16) fun w_21 =>
  ST1 w_21 ⟨b_2, 6, none⟩ (.int .i64 n_17) fun w_22 =>
  ST1 w_22 ⟨b_2, 7, none⟩ (.slice a_2 l_2 c_2) fun w_23 =>
  ST1 w_23 ⟨b_2, 8, none⟩ (.int .i64 n_18) fun w_24 =>
  ST1 w_24 ⟨b_2, 9, none⟩ (.int .i64 n_19) fun w_25 =>
  ST1 w_25 ⟨b_2, 10, none⟩ (.int .i64 n_20) fun w_26 =>
  JOIN fun J_1 =>
  ((
   ITE (t_1) (
    ITE (!t_2) (
     LDi .i64 w_26 ⟨b_1, 0, none⟩ fun n_21 =>
     ITE (n_21 == 2) (
      LDi .i64 w_26 ⟨b_1, 1, none⟩ fun n_22 =>
      ITE (n_22 == 1) (
       LDi .i64 w_26 ⟨b_1, 10, none⟩ fun n_23 =>
       ITE (n_23 == 3) (
        LDi .i64 w_26 ⟨b_1, 8, none⟩ fun n_24 =>
        LDi .i64 w_26 ⟨b_1, 9, none⟩ fun n_25 =>
        ITE (n_24 == 2 && (n_25 == 0 && true)) (
         LDi .i64 w_26 ⟨b_1, 0, none⟩ fun n_26 =>
         LDi .i64 w_26 ⟨b_1, 1, none⟩ fun n_27 =>
         LDi .i64 w_26 ⟨b_1, 2, none⟩ fun n_28 =>
         LDi .i64 w_26 ⟨b_1, 3, none⟩ fun n_29 =>
         LDi .i64 w_26 ⟨b_1, 4, none⟩ fun n_30 =>
         LDi .i64 w_26 ⟨b_1, 5, none⟩ fun n_31 =>
         LDi .i64 w_26 ⟨b_1, 6, none⟩ fun n_32 =>
         LDl w_26 ⟨b_1, 7, none⟩ fun a_3 l_3 c_3 =>
         LDi .i64 w_26 ⟨b_1, 8, none⟩ fun n_33 =>
         LDi .i64 w_26 ⟨b_1, 9, none⟩ fun n_34 =>
         LDi .i64 w_26 ⟨b_1, 10, none⟩ fun n_35 =>
         CALL Pg F_text_Text [.agg #[.int .i64 n_26, .int .i64 n_27, .int .i64 n_28, .int .i64 n_29, .int .i64 n_30, .int .i64 n_31, .int .i64 n_32, .slice a_3 l_3 c_3, .int .i64 n_33, .int .i64 n_34, .int .i64 n_35]] w_26 fun v_29 w_27 =>
         STRV v_29 fun s_1 =>
         ITE (s_1 == { data := #[97, 115, 107, 32, 49, 32, 102, 114, 101, 101, 32, 35, 51] }) (
          LDi .i64 w_27 ⟨b_1, 0, none⟩ fun n_36 =>
          LDi .i64 w_27 ⟨b_1, 1, none⟩ fun n_37 =>
          LDi .i64 w_27 ⟨b_1, 2, none⟩ fun n_38 =>
          LDi .i64 w_27 ⟨b_1, 3, none⟩ fun n_39 =>
          LDi .i64 w_27 ⟨b_1, 4, none⟩ fun n_40 =>
          LDi .i64 w_27 ⟨b_1, 5, none⟩ fun n_41 =>
          LDi .i64 w_27 ⟨b_1, 6, none⟩ fun n_42 =>
          LDl w_27 ⟨b_1, 7, none⟩ fun a_4 l_4 c_4 =>
          LDi .i64 w_27 ⟨b_1, 8, none⟩ fun n_43 =>
          LDi .i64 w_27 ⟨b_1, 9, none⟩ fun n_44 =>
          LDi .i64 w_27 ⟨b_1, 10, none⟩ fun n_45 =>
          LDi .i64 w_27 ⟨b_1, 0, none⟩ fun n_46 =>
          LDi .i64 w_27 ⟨b_1, 1, none⟩ fun n_47 =>
          LDi .i64 w_27 ⟨b_1, 2, none⟩ fun n_48 =>
          LDi .i64 w_27 ⟨b_1, 3, none⟩ fun n_49 =>
          LDi .i64 w_27 ⟨b_1, 4, none⟩ fun n_50 =>
          LDi .i64 w_27 ⟨b_1, 5, none⟩ fun n_51 =>
          LDi .i64 w_27 ⟨b_1, 6, none⟩ fun n_52 =>
          LDl w_27 ⟨b_1, 7, none⟩ fun a_5 l_5 c_5 =>
          LDi .i64 w_27 ⟨b_1, 8, none⟩ fun n_53 =>
          LDi .i64 w_27 ⟨b_1, 9, none⟩ fun n_54 =>
          LDi .i64 w_27 ⟨b_1, 10, none⟩ fun n_55 =>
          CALL Pg F_text_Same [.agg #[.int .i64 n_36, .int .i64 n_37, .int .i64 n_38, .int .i64 n_39, .int .i64 n_40, .int .i64 n_41, .int .i64 n_42, .slice a_4 l_4 c_4, .int .i64 n_43, .int .i64 n_44, .int .i64 n_45], .agg #[.int .i64 n_46, .int .i64 n_47, .int .i64 n_48, .int .i64 n_49, .int .i64 n_50, .int .i64 n_51, .int .i64 n_52, .slice a_5 l_5 c_5, .int .i64 n_53, .int .i64 n_54, .int .i64 n_55]] w_27 fun v_30 w_28 =>
          BOOLV v_30 fun t_3 =>
          J_1 [.bool t_3] w_28) (
          J_1 [.bool false] w_27)) (
         J_1 [.bool false] w_26)) (
        J_1 [.bool false] w_26)) (
       J_1 [.bool false] w_26)) (
      J_1 [.bool false] w_26)) (
     J_1 [.bool false] w_26)) (
    J_1 [.bool false] w_26)) ∧
   ∀ w_29 : World,
   ∀ v_31 : Value,
   (J_1 [v_31] w_29 →
   BOOLV v_31 fun t_4 =>
   K (.bool t_4) w_29))))))
theorem E_l25_speaks (w : World) (K : Value → World → Prop) :
    D_l25_speaks w K = vcFn Pg Tryd.f8 [3] [] w K := by kernel_rfl
theorem C_l25_speaks {w : World} {K : Value → World → Prop} (h : D_l25_speaks w K) :
    CALL Pg F_l25_speaks [] w K :=
  call_of_vc [3] Tryd.func8 rfl (Nat.le_of_ble_eq_true (by kernel_rfl)) ((E_l25_speaks w K) ▸ h)
def D_l25_TextParses (s : ByteArray) (w : World) (K : Value → World → Prop) : Prop :=
  CALL Pg F_l25_speaks [] w fun v_1 w_1 =>
  BOOLV v_1 fun t_1 =>
  ITE (!t_1) (
   K (.bool false) w_1) (
   ITE (decide ((↑s.size : Int) > 600)) (
    K (.bool true) w_1) (
    CALL Pg F_text_Parse [.string s] w_1 fun v_2 w_2 =>
    TUPV v_2 fun cs_1 =>
    GETV cs_1 0 fun v_3 =>
    AGGV v_3 fun cs_2 =>
    GETV cs_2 0 fun v_4 =>
    INTV .i64 v_4 fun n_1 =>
    GETV cs_2 1 fun v_5 =>
    INTV .i64 v_5 fun n_2 =>
    GETV cs_2 2 fun v_6 =>
    INTV .i64 v_6 fun n_3 =>
    GETV cs_2 3 fun v_7 =>
    INTV .i64 v_7 fun n_4 =>
    GETV cs_2 4 fun v_8 =>
    INTV .i64 v_8 fun n_5 =>
    GETV cs_2 5 fun v_9 =>
    INTV .i64 v_9 fun n_6 =>
    GETV cs_2 6 fun v_10 =>
    INTV .i64 v_10 fun n_7 =>
    GETV cs_2 7 fun v_11 =>
    SLV v_11 fun a_1 l_1 c_1 =>
    GETV cs_2 8 fun v_12 =>
    INTV .i64 v_12 fun n_8 =>
    GETV cs_2 9 fun v_13 =>
    INTV .i64 v_13 fun n_9 =>
    GETV cs_2 10 fun v_14 =>
    INTV .i64 v_14 fun n_10 =>
    LEN cs_2 11 (
    GETV cs_1 1 fun v_15 =>
    BOOLV v_15 fun t_2 =>
    LEN cs_1 2 (
    NEW w_2 [.int .i64 0, .int .i64 0, .int .i64 0, .int .i64 0, .int .i64 0, .int .i64 0, .int .i64 0, .slice none 0 0, .int .i64 0, .int .i64 0, .int .i64 0] T_text_Line_text_Line fun b_1 w_3 =>
    ST1 w_3 ⟨b_1, 0, none⟩ (.int .i64 n_1) fun w_4 =>
    ST1 w_4 ⟨b_1, 1, none⟩ (.int .i64 n_2) fun w_5 =>
    ST1 w_5 ⟨b_1, 2, none⟩ (.int .i64 n_3) fun w_6 =>
    ST1 w_6 ⟨b_1, 3, none⟩ (.int .i64 n_4) fun w_7 =>
    ST1 w_7 ⟨b_1, 4, none⟩ (.int .i64 n_5) fun w_8 =>
    ST1 w_8 ⟨b_1, 5, none⟩ (.int .i64 n_6) fun w_9 =>
    ST1 w_9 ⟨b_1, 6, none⟩ (.int .i64 n_7) fun w_10 =>
    ST1 w_10 ⟨b_1, 7, none⟩ (.slice a_1 l_1 c_1) fun w_11 =>
    ST1 w_11 ⟨b_1, 8, none⟩ (.int .i64 n_8) fun w_12 =>
    ST1 w_12 ⟨b_1, 9, none⟩ (.int .i64 n_9) fun w_13 =>
    ST1 w_13 ⟨b_1, 10, none⟩ (.int .i64 n_10) fun w_14 =>
    CALL Pg F_r25_Parse [.string s] w_14 fun v_16 w_15 =>
    TUPV v_16 fun cs_3 =>
    GETV cs_3 0 fun v_17 =>
    AGGV v_17 fun cs_4 =>
    GETV cs_4 0 fun v_18 =>
    INTV .i64 v_18 fun n_11 =>
    GETV cs_4 1 fun v_19 =>
    INTV .i64 v_19 fun n_12 =>
    GETV cs_4 2 fun v_20 =>
    INTV .i64 v_20 fun n_13 =>
    GETV cs_4 3 fun v_21 =>
    SLV v_21 fun a_2 l_2 c_2 =>
    LEN cs_4 4 (
    GETV cs_3 1 fun v_22 =>
    BOOLV v_22 fun t_3 =>
    LEN cs_3 2 (
    NEW w_15 [.int .i64 0, .int .i64 0, .int .i64 0, .slice none 0 0] T_chandleryref25_Line_r25_Line fun b_2 w_16 =>
    ST1 w_16 ⟨b_2, 0, none⟩ (.int .i64 n_11) fun w_17 =>
    ST1 w_17 ⟨b_2, 1, none⟩ (.int .i64 n_12) fun w_18 =>
    ST1 w_18 ⟨b_2, 2, none⟩ (.int .i64 n_13) fun w_19 =>
    ST1 w_19 ⟨b_2, 3, none⟩ (.slice a_2 l_2 c_2) fun w_20 =>
    ITE (!t_2 == t_3) (
     K (.bool false) w_20) (
     ITE (!t_2) (
      LDi .i64 w_20 ⟨b_1, 0, none⟩ fun n_14 =>
      LDi .i64 w_20 ⟨b_1, 1, none⟩ fun n_15 =>
      LDi .i64 w_20 ⟨b_1, 2, none⟩ fun n_16 =>
      LDi .i64 w_20 ⟨b_1, 3, none⟩ fun n_17 =>
      LDi .i64 w_20 ⟨b_1, 4, none⟩ fun n_18 =>
      LDi .i64 w_20 ⟨b_1, 5, none⟩ fun n_19 =>
      LDi .i64 w_20 ⟨b_1, 6, none⟩ fun n_20 =>
      LDl w_20 ⟨b_1, 7, none⟩ fun a_3 l_3 c_3 =>
      LDi .i64 w_20 ⟨b_1, 8, none⟩ fun n_21 =>
      LDi .i64 w_20 ⟨b_1, 9, none⟩ fun n_22 =>
      LDi .i64 w_20 ⟨b_1, 10, none⟩ fun n_23 =>
      CALL Pg F_l25_same [.agg #[.int .i64 n_14, .int .i64 n_15, .int .i64 n_16, .int .i64 n_17, .int .i64 n_18, .int .i64 n_19, .int .i64 n_20, .slice a_3 l_3 c_3, .int .i64 n_21, .int .i64 n_22, .int .i64 n_23], .agg #[.int .i64 0, .int .i64 0, .int .i64 0, .int .i64 0, .int .i64 0, .int .i64 0, .int .i64 0, .slice none 0 0, .int .i64 0, .int .i64 0, .int .i64 0]] w_20 fun v_23 w_21 =>
      BOOLV v_23 fun t_4 =>
      K (.bool t_4) w_21) (
      JOIN fun J_1 =>
      ((
       DRAW w_20 fun w_22 =>
       LDi .i64 w_22 ⟨b_1, 0, none⟩ fun n_24 =>
       LDi .i64 w_22 ⟨b_1, 1, none⟩ fun n_25 =>
       LDi .i64 w_22 ⟨b_1, 2, none⟩ fun n_26 =>
       LDi .i64 w_22 ⟨b_1, 3, none⟩ fun n_27 =>
       LDi .i64 w_22 ⟨b_1, 4, none⟩ fun n_28 =>
       LDi .i64 w_22 ⟨b_1, 5, none⟩ fun n_29 =>
       LDi .i64 w_22 ⟨b_1, 6, none⟩ fun n_30 =>
       LDl w_22 ⟨b_1, 7, none⟩ fun a_4 l_4 c_4 =>
       LDi .i64 w_22 ⟨b_1, 8, none⟩ fun n_31 =>
       LDi .i64 w_22 ⟨b_1, 9, none⟩ fun n_32 =>
       LDi .i64 w_22 ⟨b_1, 10, none⟩ fun n_33 =>
       LDi .i64 w_22 ⟨b_2, 0, none⟩ fun n_34 =>
       LDi .i64 w_22 ⟨b_2, 1, none⟩ fun n_35 =>
       LDi .i64 w_22 ⟨b_2, 2, none⟩ fun n_36 =>
       LDl w_22 ⟨b_2, 3, none⟩ fun a_5 l_5 c_5 =>
       CALL Pg F_l25_of [.agg #[.int .i64 n_34, .int .i64 n_35, .int .i64 n_36, .slice a_5 l_5 c_5]] w_22 fun v_24 w_23 =>
       AGGV v_24 fun cs_5 =>
       GETV cs_5 0 fun v_25 =>
       INTV .i64 v_25 fun n_37 =>
       GETV cs_5 1 fun v_26 =>
       INTV .i64 v_26 fun n_38 =>
       GETV cs_5 2 fun v_27 =>
       INTV .i64 v_27 fun n_39 =>
       GETV cs_5 3 fun v_28 =>
       INTV .i64 v_28 fun n_40 =>
       GETV cs_5 4 fun v_29 =>
       INTV .i64 v_29 fun n_41 =>
       GETV cs_5 5 fun v_30 =>
       INTV .i64 v_30 fun n_42 =>
       GETV cs_5 6 fun v_31 =>
       INTV .i64 v_31 fun n_43 =>
       GETV cs_5 7 fun v_32 =>
       SLV v_32 fun a_6 l_6 c_6 =>
       GETV cs_5 8 fun v_33 =>
       INTV .i64 v_33 fun n_44 =>
       GETV cs_5 9 fun v_34 =>
       INTV .i64 v_34 fun n_45 =>
       GETV cs_5 10 fun v_35 =>
       INTV .i64 v_35 fun n_46 =>
       LEN cs_5 11 (
       ((
        KEEP w_23 [Fact.cell ⟨b_1, 0, none⟩ (.int .i64 n_24), Fact.cell ⟨b_1, 1, none⟩ (.int .i64 n_25), Fact.cell ⟨b_1, 2, none⟩ (.int .i64 n_26), Fact.cell ⟨b_1, 3, none⟩ (.int .i64 n_27), Fact.cell ⟨b_1, 4, none⟩ (.int .i64 n_28), Fact.cell ⟨b_1, 5, none⟩ (.int .i64 n_29), Fact.cell ⟨b_1, 6, none⟩ (.int .i64 n_30), Fact.cell ⟨b_1, 7, none⟩ (.slice a_4 l_4 c_4), Fact.cell ⟨b_1, 8, none⟩ (.int .i64 n_31), Fact.cell ⟨b_1, 9, none⟩ (.int .i64 n_32), Fact.cell ⟨b_1, 10, none⟩ (.int .i64 n_33)]) ∧
        CALL Pg F_l25_same [.agg #[.int .i64 n_24, .int .i64 n_25, .int .i64 n_26, .int .i64 n_27, .int .i64 n_28, .int .i64 n_29, .int .i64 n_30, .slice a_4 l_4 c_4, .int .i64 n_31, .int .i64 n_32, .int .i64 n_33], .agg #[.int .i64 n_37, .int .i64 n_38, .int .i64 n_39, .int .i64 n_40, .int .i64 n_41, .int .i64 n_42, .int .i64 n_43, .slice a_6 l_6 c_6, .int .i64 n_44, .int .i64 n_45, .int .i64 n_46]] w_23 fun v_36 w_24 =>
        BOOLV v_36 fun t_5 =>
        ((
         KEEP w_24 []) ∧
         ITE (t_5) (
          LDi .i64 w_24 ⟨b_1, 0, none⟩ fun n_47 =>
          LDi .i64 w_24 ⟨b_1, 1, none⟩ fun n_48 =>
          LDi .i64 w_24 ⟨b_1, 2, none⟩ fun n_49 =>
          LDi .i64 w_24 ⟨b_1, 3, none⟩ fun n_50 =>
          LDi .i64 w_24 ⟨b_1, 4, none⟩ fun n_51 =>
          LDi .i64 w_24 ⟨b_1, 5, none⟩ fun n_52 =>
          LDi .i64 w_24 ⟨b_1, 6, none⟩ fun n_53 =>
          LDl w_24 ⟨b_1, 7, none⟩ fun a_7 l_7 c_7 =>
          LDi .i64 w_24 ⟨b_1, 8, none⟩ fun n_54 =>
          LDi .i64 w_24 ⟨b_1, 9, none⟩ fun n_55 =>
          LDi .i64 w_24 ⟨b_1, 10, none⟩ fun n_56 =>
          CALL Pg F_text_Text [.agg #[.int .i64 n_47, .int .i64 n_48, .int .i64 n_49, .int .i64 n_50, .int .i64 n_51, .int .i64 n_52, .int .i64 n_53, .slice a_7 l_7 c_7, .int .i64 n_54, .int .i64 n_55, .int .i64 n_56]] w_24 fun v_37 w_25 =>
          STRV v_37 fun s_1 =>
          ((
           KEEP w_25 []) ∧
           J_1 [.bool (s_1 == s)] w_25)) (
          J_1 [.bool false] w_24))))) ∧
       ∀ w_26 : World,
       ∀ v_38 : Value,
       (J_1 [v_38] w_26 →
       BOOLV v_38 fun t_6 =>
       K (.bool t_6) w_26))))))))))
theorem E_l25_TextParses (s : ByteArray) (w : World) (K : Value → World → Prop) :
    D_l25_TextParses s w K = vcFn Pg Tryd.f3 [11] [.string s] w K := by kernel_rfl
theorem C_l25_TextParses {s : ByteArray} {w : World} {K : Value → World → Prop} (h : D_l25_TextParses s w K) :
    CALL Pg F_l25_TextParses [.string s] w K :=
  call_of_vc [11] Tryd.func3 rfl (Nat.le_of_ble_eq_true (by kernel_rfl)) ((E_l25_TextParses s w K) ▸ h)
def D_l25_TextBack (x0 : Int) (x1 : Int) (x2 : Int) (x3 : Int) (x4 : Int) (x5 : Int) (x6 : Int) (x7a : Option Addr) (x7l : Nat) (x7c : Nat) (x8 : Int) (x9 : Int) (x10 : Int) (w : World) (K : Value → World → Prop) : Prop :=
  NEW w [.int .i64 x0, .int .i64 x1, .int .i64 x2, .int .i64 x3, .int .i64 x4, .int .i64 x5, .int .i64 x6, .slice x7a x7l x7c, .int .i64 x8, .int .i64 x9, .int .i64 x10] T_text_Line_text_Line fun b_1 w_1 =>
  CALL Pg F_l25_speaks [] w_1 fun v_1 w_2 =>
  BOOLV v_1 fun t_1 =>
  ITE (!t_1) (
   K (.bool false) w_2) (
   LDl w_2 ⟨b_1, 7, none⟩ fun _ l_1 _ =>
   ITE (decide ((↑l_1 : Int) > 60)) (
    K (.bool true) w_2) (
    LDi .i64 w_2 ⟨b_1, 0, none⟩ fun n_1 =>
    LDi .i64 w_2 ⟨b_1, 1, none⟩ fun n_2 =>
    LDi .i64 w_2 ⟨b_1, 2, none⟩ fun n_3 =>
    LDi .i64 w_2 ⟨b_1, 3, none⟩ fun n_4 =>
    LDi .i64 w_2 ⟨b_1, 4, none⟩ fun n_5 =>
    LDi .i64 w_2 ⟨b_1, 5, none⟩ fun n_6 =>
    LDi .i64 w_2 ⟨b_1, 6, none⟩ fun n_7 =>
    LDl w_2 ⟨b_1, 7, none⟩ fun a_2 l_2 c_2 =>
    LDi .i64 w_2 ⟨b_1, 8, none⟩ fun n_8 =>
    LDi .i64 w_2 ⟨b_1, 9, none⟩ fun n_9 =>
    LDi .i64 w_2 ⟨b_1, 10, none⟩ fun n_10 =>
    CALL Pg F_text_Text [.agg #[.int .i64 n_1, .int .i64 n_2, .int .i64 n_3, .int .i64 n_4, .int .i64 n_5, .int .i64 n_6, .int .i64 n_7, .slice a_2 l_2 c_2, .int .i64 n_8, .int .i64 n_9, .int .i64 n_10]] w_2 fun v_2 w_3 =>
    STRV v_2 fun s_1 =>
    ITE (s_1 == { data := #[] }) (
     LDi .i64 w_3 ⟨b_1, 0, none⟩ fun n_11 =>
     LDi .i64 w_3 ⟨b_1, 1, none⟩ fun n_12 =>
     LDi .i64 w_3 ⟨b_1, 2, none⟩ fun n_13 =>
     LDi .i64 w_3 ⟨b_1, 3, none⟩ fun n_14 =>
     LDi .i64 w_3 ⟨b_1, 4, none⟩ fun n_15 =>
     LDi .i64 w_3 ⟨b_1, 5, none⟩ fun n_16 =>
     LDi .i64 w_3 ⟨b_1, 6, none⟩ fun n_17 =>
     LDl w_3 ⟨b_1, 7, none⟩ fun a_3 l_3 c_3 =>
     LDi .i64 w_3 ⟨b_1, 8, none⟩ fun n_18 =>
     LDi .i64 w_3 ⟨b_1, 9, none⟩ fun n_19 =>
     LDi .i64 w_3 ⟨b_1, 10, none⟩ fun n_20 =>
     CALL Pg F_l25_may [.agg #[.int .i64 n_11, .int .i64 n_12, .int .i64 n_13, .int .i64 n_14, .int .i64 n_15, .int .i64 n_16, .int .i64 n_17, .slice a_3 l_3 c_3, .int .i64 n_18, .int .i64 n_19, .int .i64 n_20]] w_3 fun v_3 w_4 =>
     BOOLV v_3 fun t_2 =>
     K (.bool !t_2) w_4) (
     CALL Pg F_text_Parse [.string s_1] w_3 fun v_4 w_5 =>
     TUPV v_4 fun cs_1 =>
     GETV cs_1 0 fun v_5 =>
     AGGV v_5 fun cs_2 =>
     GETV cs_2 0 fun v_6 =>
     INTV .i64 v_6 fun n_21 =>
     GETV cs_2 1 fun v_7 =>
     INTV .i64 v_7 fun n_22 =>
     GETV cs_2 2 fun v_8 =>
     INTV .i64 v_8 fun n_23 =>
     GETV cs_2 3 fun v_9 =>
     INTV .i64 v_9 fun n_24 =>
     GETV cs_2 4 fun v_10 =>
     INTV .i64 v_10 fun n_25 =>
     GETV cs_2 5 fun v_11 =>
     INTV .i64 v_11 fun n_26 =>
     GETV cs_2 6 fun v_12 =>
     INTV .i64 v_12 fun n_27 =>
     GETV cs_2 7 fun v_13 =>
     SLV v_13 fun a_4 l_4 c_4 =>
     GETV cs_2 8 fun v_14 =>
     INTV .i64 v_14 fun n_28 =>
     GETV cs_2 9 fun v_15 =>
     INTV .i64 v_15 fun n_29 =>
     GETV cs_2 10 fun v_16 =>
     INTV .i64 v_16 fun n_30 =>
     LEN cs_2 11 (
     GETV cs_1 1 fun v_17 =>
     BOOLV v_17 fun t_3 =>
     LEN cs_1 2 (
     NEW w_5 [.int .i64 0, .int .i64 0, .int .i64 0, .int .i64 0, .int .i64 0, .int .i64 0, .int .i64 0, .slice none 0 0, .int .i64 0, .int .i64 0, .int .i64 0] T_text_Line_text_Line fun b_2 w_6 =>
     ST1 w_6 ⟨b_2, 0, none⟩ (.int .i64 n_21) fun w_7 =>
     ST1 w_7 ⟨b_2, 1, none⟩ (.int .i64 n_22) fun w_8 =>
     ST1 w_8 ⟨b_2, 2, none⟩ (.int .i64 n_23) fun w_9 =>
     ST1 w_9 ⟨b_2, 3, none⟩ (.int .i64 n_24) fun w_10 =>
     ST1 w_10 ⟨b_2, 4, none⟩ (.int .i64 n_25) fun w_11 =>
     ST1 w_11 ⟨b_2, 5, none⟩ (.int .i64 n_26) fun w_12 =>
     ST1 w_12 ⟨b_2, 6, none⟩ (.int .i64 n_27) fun w_13 =>
     ST1 w_13 ⟨b_2, 7, none⟩ (.slice a_4 l_4 c_4) fun w_14 =>
     ST1 w_14 ⟨b_2, 8, none⟩ (.int .i64 n_28) fun w_15 =>
     ST1 w_15 ⟨b_2, 9, none⟩ (.int .i64 n_29) fun w_16 =>
     ST1 w_16 ⟨b_2, 10, none⟩ (.int .i64 n_30) fun w_17 =>
     JOIN fun J_1 =>
     ((
      ITE (t_3) (
       LDi .i64 w_17 ⟨b_1, 0, none⟩ fun n_31 =>
       LDi .i64 w_17 ⟨b_1, 1, none⟩ fun n_32 =>
       LDi .i64 w_17 ⟨b_1, 2, none⟩ fun n_33 =>
       LDi .i64 w_17 ⟨b_1, 3, none⟩ fun n_34 =>
       LDi .i64 w_17 ⟨b_1, 4, none⟩ fun n_35 =>
       LDi .i64 w_17 ⟨b_1, 5, none⟩ fun n_36 =>
       LDi .i64 w_17 ⟨b_1, 6, none⟩ fun n_37 =>
       LDl w_17 ⟨b_1, 7, none⟩ fun a_5 l_5 c_5 =>
       LDi .i64 w_17 ⟨b_1, 8, none⟩ fun n_38 =>
       LDi .i64 w_17 ⟨b_1, 9, none⟩ fun n_39 =>
       LDi .i64 w_17 ⟨b_1, 10, none⟩ fun n_40 =>
       LDi .i64 w_17 ⟨b_2, 0, none⟩ fun n_41 =>
       LDi .i64 w_17 ⟨b_2, 1, none⟩ fun n_42 =>
       LDi .i64 w_17 ⟨b_2, 2, none⟩ fun n_43 =>
       LDi .i64 w_17 ⟨b_2, 3, none⟩ fun n_44 =>
       LDi .i64 w_17 ⟨b_2, 4, none⟩ fun n_45 =>
       LDi .i64 w_17 ⟨b_2, 5, none⟩ fun n_46 =>
       LDi .i64 w_17 ⟨b_2, 6, none⟩ fun n_47 =>
       LDl w_17 ⟨b_2, 7, none⟩ fun a_6 l_6 c_6 =>
       LDi .i64 w_17 ⟨b_2, 8, none⟩ fun n_48 =>
       LDi .i64 w_17 ⟨b_2, 9, none⟩ fun n_49 =>
       LDi .i64 w_17 ⟨b_2, 10, none⟩ fun n_50 =>
       CALL Pg F_l25_same [.agg #[.int .i64 n_31, .int .i64 n_32, .int .i64 n_33, .int .i64 n_34, .int .i64 n_35, .int .i64 n_36, .int .i64 n_37, .slice a_5 l_5 c_5, .int .i64 n_38, .int .i64 n_39, .int .i64 n_40], .agg #[.int .i64 n_41, .int .i64 n_42, .int .i64 n_43, .int .i64 n_44, .int .i64 n_45, .int .i64 n_46, .int .i64 n_47, .slice a_6 l_6 c_6, .int .i64 n_48, .int .i64 n_49, .int .i64 n_50]] w_17 fun v_18 w_18 =>
       BOOLV v_18 fun t_4 =>
       ITE (t_4) (
        LDi .i64 w_18 ⟨b_1, 0, none⟩ fun n_51 =>
        LDi .i64 w_18 ⟨b_1, 1, none⟩ fun n_52 =>
        LDi .i64 w_18 ⟨b_1, 2, none⟩ fun n_53 =>
        LDi .i64 w_18 ⟨b_1, 3, none⟩ fun n_54 =>
        LDi .i64 w_18 ⟨b_1, 4, none⟩ fun n_55 =>
        LDi .i64 w_18 ⟨b_1, 5, none⟩ fun n_56 =>
        LDi .i64 w_18 ⟨b_1, 6, none⟩ fun n_57 =>
        LDl w_18 ⟨b_1, 7, none⟩ fun a_7 l_7 c_7 =>
        LDi .i64 w_18 ⟨b_1, 8, none⟩ fun n_58 =>
        LDi .i64 w_18 ⟨b_1, 9, none⟩ fun n_59 =>
        LDi .i64 w_18 ⟨b_1, 10, none⟩ fun n_60 =>
        CALL Pg F_l25_may [.agg #[.int .i64 n_51, .int .i64 n_52, .int .i64 n_53, .int .i64 n_54, .int .i64 n_55, .int .i64 n_56, .int .i64 n_57, .slice a_7 l_7 c_7, .int .i64 n_58, .int .i64 n_59, .int .i64 n_60]] w_18 fun v_19 w_19 =>
        BOOLV v_19 fun t_5 =>
        J_1 [.bool t_5] w_19) (
        J_1 [.bool false] w_18)) (
       J_1 [.bool false] w_17)) ∧
      ∀ w_20 : World,
      ∀ v_20 : Value,
      (J_1 [v_20] w_20 →
      BOOLV v_20 fun t_6 =>
      K (.bool t_6) w_20)))))))
theorem E_l25_TextBack (x0 : Int) (x1 : Int) (x2 : Int) (x3 : Int) (x4 : Int) (x5 : Int) (x6 : Int) (x7a : Option Addr) (x7l : Nat) (x7c : Nat) (x8 : Int) (x9 : Int) (x10 : Int) (w : World) (K : Value → World → Prop) :
    D_l25_TextBack x0 x1 x2 x3 x4 x5 x6 x7a x7l x7c x8 x9 x10 w K = vcFn Pg Tryd.f4 [9] [.agg #[.int .i64 x0, .int .i64 x1, .int .i64 x2, .int .i64 x3, .int .i64 x4, .int .i64 x5, .int .i64 x6, .slice x7a x7l x7c, .int .i64 x8, .int .i64 x9, .int .i64 x10]] w K := by kernel_rfl
theorem C_l25_TextBack {x0 : Int} {x1 : Int} {x2 : Int} {x3 : Int} {x4 : Int} {x5 : Int} {x6 : Int} {x7a : Option Addr} {x7l : Nat} {x7c : Nat} {x8 : Int} {x9 : Int} {x10 : Int} {w : World} {K : Value → World → Prop} (h : D_l25_TextBack x0 x1 x2 x3 x4 x5 x6 x7a x7l x7c x8 x9 x10 w K) :
    CALL Pg F_l25_TextBack [.agg #[.int .i64 x0, .int .i64 x1, .int .i64 x2, .int .i64 x3, .int .i64 x4, .int .i64 x5, .int .i64 x6, .slice x7a x7l x7c, .int .i64 x8, .int .i64 x9, .int .i64 x10]] w K :=
  call_of_vc [9] Tryd.func4 rfl (Nat.le_of_ble_eq_true (by kernel_rfl)) ((E_l25_TextBack x0 x1 x2 x3 x4 x5 x6 x7a x7l x7c x8 x9 x10 w K) ▸ h)
def D_l25_TextSame (x0 : Int) (x1 : Int) (x2 : Int) (x3 : Int) (x4 : Int) (x5 : Int) (x6 : Int) (x7a : Option Addr) (x7l : Nat) (x7c : Nat) (x8 : Int) (x9 : Int) (x10 : Int) (y0 : Int) (y1 : Int) (y2 : Int) (y3 : Int) (y4 : Int) (y5 : Int) (y6 : Int) (y7a : Option Addr) (y7l : Nat) (y7c : Nat) (y8 : Int) (y9 : Int) (y10 : Int) (w : World) (K : Value → World → Prop) : Prop :=
  NEW w [.int .i64 x0, .int .i64 x1, .int .i64 x2, .int .i64 x3, .int .i64 x4, .int .i64 x5, .int .i64 x6, .slice x7a x7l x7c, .int .i64 x8, .int .i64 x9, .int .i64 x10] T_text_Line_text_Line fun b_1 w_1 =>
  NEW w_1 [.int .i64 y0, .int .i64 y1, .int .i64 y2, .int .i64 y3, .int .i64 y4, .int .i64 y5, .int .i64 y6, .slice y7a y7l y7c, .int .i64 y8, .int .i64 y9, .int .i64 y10] T_text_Line_text_Line fun b_2 w_2 =>
  CALL Pg F_l25_speaks [] w_2 fun v_1 w_3 =>
  BOOLV v_1 fun t_1 =>
  ITE (!t_1) (
   K (.bool false) w_3) (
   JOIN fun J_1 =>
   ((
    JOIN fun J_2 =>
    ((
     LDl w_3 ⟨b_1, 7, none⟩ fun _ l_1 _ =>
     ITE (decide ((↑l_1 : Int) > 60)) (
      J_2 [.bool true] w_3) (
      LDl w_3 ⟨b_2, 7, none⟩ fun _ l_2 _ =>
      J_2 [.bool (decide ((↑l_2 : Int) > 60))] w_3)) ∧
     ∀ w_4 : World,
     ∀ v_2 : Value,
     (J_2 [v_2] w_4 →
     BOOLV v_2 fun t_2 =>
     ITE (t_2) (
      K (.bool true) w_4) (
      J_1 [.bool false] w_4)))) ∧
    ∀ w_5 : World,
    ∀ v_3 : Value,
    (J_1 [v_3] w_5 →
    BOOLV v_3 fun _ =>
    JOIN fun J_3 =>
    ((
     DRAW w_5 fun w_6 =>
     LDi .i64 w_6 ⟨b_1, 0, none⟩ fun n_1 =>
     LDi .i64 w_6 ⟨b_1, 1, none⟩ fun n_2 =>
     LDi .i64 w_6 ⟨b_1, 2, none⟩ fun n_3 =>
     LDi .i64 w_6 ⟨b_1, 3, none⟩ fun n_4 =>
     LDi .i64 w_6 ⟨b_1, 4, none⟩ fun n_5 =>
     LDi .i64 w_6 ⟨b_1, 5, none⟩ fun n_6 =>
     LDi .i64 w_6 ⟨b_1, 6, none⟩ fun n_7 =>
     LDl w_6 ⟨b_1, 7, none⟩ fun a_3 l_3 c_3 =>
     LDi .i64 w_6 ⟨b_1, 8, none⟩ fun n_8 =>
     LDi .i64 w_6 ⟨b_1, 9, none⟩ fun n_9 =>
     LDi .i64 w_6 ⟨b_1, 10, none⟩ fun n_10 =>
     LDi .i64 w_6 ⟨b_2, 0, none⟩ fun n_11 =>
     LDi .i64 w_6 ⟨b_2, 1, none⟩ fun n_12 =>
     LDi .i64 w_6 ⟨b_2, 2, none⟩ fun n_13 =>
     LDi .i64 w_6 ⟨b_2, 3, none⟩ fun n_14 =>
     LDi .i64 w_6 ⟨b_2, 4, none⟩ fun n_15 =>
     LDi .i64 w_6 ⟨b_2, 5, none⟩ fun n_16 =>
     LDi .i64 w_6 ⟨b_2, 6, none⟩ fun n_17 =>
     LDl w_6 ⟨b_2, 7, none⟩ fun a_4 l_4 c_4 =>
     LDi .i64 w_6 ⟨b_2, 8, none⟩ fun n_18 =>
     LDi .i64 w_6 ⟨b_2, 9, none⟩ fun n_19 =>
     LDi .i64 w_6 ⟨b_2, 10, none⟩ fun n_20 =>
     LDi .i64 w_6 ⟨b_1, 0, none⟩ fun n_21 =>
     LDi .i64 w_6 ⟨b_1, 1, none⟩ fun n_22 =>
     LDi .i64 w_6 ⟨b_1, 2, none⟩ fun n_23 =>
     LDi .i64 w_6 ⟨b_1, 3, none⟩ fun n_24 =>
     LDi .i64 w_6 ⟨b_1, 4, none⟩ fun n_25 =>
     LDi .i64 w_6 ⟨b_1, 5, none⟩ fun n_26 =>
     LDi .i64 w_6 ⟨b_1, 6, none⟩ fun n_27 =>
     LDl w_6 ⟨b_1, 7, none⟩ fun a_5 l_5 c_5 =>
     LDi .i64 w_6 ⟨b_1, 8, none⟩ fun n_28 =>
     LDi .i64 w_6 ⟨b_1, 9, none⟩ fun n_29 =>
     LDi .i64 w_6 ⟨b_1, 10, none⟩ fun n_30 =>
     LDi .i64 w_6 ⟨b_2, 0, none⟩ fun n_31 =>
     LDi .i64 w_6 ⟨b_2, 1, none⟩ fun n_32 =>
     LDi .i64 w_6 ⟨b_2, 2, none⟩ fun n_33 =>
     LDi .i64 w_6 ⟨b_2, 3, none⟩ fun n_34 =>
     LDi .i64 w_6 ⟨b_2, 4, none⟩ fun n_35 =>
     LDi .i64 w_6 ⟨b_2, 5, none⟩ fun n_36 =>
     LDi .i64 w_6 ⟨b_2, 6, none⟩ fun n_37 =>
     LDl w_6 ⟨b_2, 7, none⟩ fun a_6 l_6 c_6 =>
     LDi .i64 w_6 ⟨b_2, 8, none⟩ fun n_38 =>
     LDi .i64 w_6 ⟨b_2, 9, none⟩ fun n_39 =>
     LDi .i64 w_6 ⟨b_2, 10, none⟩ fun n_40 =>
     CALL Pg F_text_Same [.agg #[.int .i64 n_1, .int .i64 n_2, .int .i64 n_3, .int .i64 n_4, .int .i64 n_5, .int .i64 n_6, .int .i64 n_7, .slice a_3 l_3 c_3, .int .i64 n_8, .int .i64 n_9, .int .i64 n_10], .agg #[.int .i64 n_11, .int .i64 n_12, .int .i64 n_13, .int .i64 n_14, .int .i64 n_15, .int .i64 n_16, .int .i64 n_17, .slice a_4 l_4 c_4, .int .i64 n_18, .int .i64 n_19, .int .i64 n_20]] w_6 fun v_4 w_7 =>
     BOOLV v_4 fun t_4 =>
     ((
      KEEP w_7 [Fact.cell ⟨b_1, 0, none⟩ (.int .i64 n_21), Fact.cell ⟨b_1, 1, none⟩ (.int .i64 n_22), Fact.cell ⟨b_1, 2, none⟩ (.int .i64 n_23), Fact.cell ⟨b_1, 3, none⟩ (.int .i64 n_24), Fact.cell ⟨b_1, 4, none⟩ (.int .i64 n_25), Fact.cell ⟨b_1, 5, none⟩ (.int .i64 n_26), Fact.cell ⟨b_1, 6, none⟩ (.int .i64 n_27), Fact.cell ⟨b_1, 7, none⟩ (.slice a_5 l_5 c_5), Fact.cell ⟨b_1, 8, none⟩ (.int .i64 n_28), Fact.cell ⟨b_1, 9, none⟩ (.int .i64 n_29), Fact.cell ⟨b_1, 10, none⟩ (.int .i64 n_30), Fact.cell ⟨b_2, 0, none⟩ (.int .i64 n_31), Fact.cell ⟨b_2, 1, none⟩ (.int .i64 n_32), Fact.cell ⟨b_2, 2, none⟩ (.int .i64 n_33), Fact.cell ⟨b_2, 3, none⟩ (.int .i64 n_34), Fact.cell ⟨b_2, 4, none⟩ (.int .i64 n_35), Fact.cell ⟨b_2, 5, none⟩ (.int .i64 n_36), Fact.cell ⟨b_2, 6, none⟩ (.int .i64 n_37), Fact.cell ⟨b_2, 7, none⟩ (.slice a_6 l_6 c_6), Fact.cell ⟨b_2, 8, none⟩ (.int .i64 n_38), Fact.cell ⟨b_2, 9, none⟩ (.int .i64 n_39), Fact.cell ⟨b_2, 10, none⟩ (.int .i64 n_40)]) ∧
      CALL Pg F_l25_same [.agg #[.int .i64 n_21, .int .i64 n_22, .int .i64 n_23, .int .i64 n_24, .int .i64 n_25, .int .i64 n_26, .int .i64 n_27, .slice a_5 l_5 c_5, .int .i64 n_28, .int .i64 n_29, .int .i64 n_30], .agg #[.int .i64 n_31, .int .i64 n_32, .int .i64 n_33, .int .i64 n_34, .int .i64 n_35, .int .i64 n_36, .int .i64 n_37, .slice a_6 l_6 c_6, .int .i64 n_38, .int .i64 n_39, .int .i64 n_40]] w_7 fun v_5 w_8 =>
      BOOLV v_5 fun t_5 =>
      ((
       KEEP w_8 []) ∧
       ITE (t_4 == t_5) (
        LDi .i64 w_8 ⟨b_2, 0, none⟩ fun n_41 =>
        LDi .i64 w_8 ⟨b_2, 1, none⟩ fun n_42 =>
        LDi .i64 w_8 ⟨b_2, 2, none⟩ fun n_43 =>
        LDi .i64 w_8 ⟨b_2, 3, none⟩ fun n_44 =>
        LDi .i64 w_8 ⟨b_2, 4, none⟩ fun n_45 =>
        LDi .i64 w_8 ⟨b_2, 5, none⟩ fun n_46 =>
        LDi .i64 w_8 ⟨b_2, 6, none⟩ fun n_47 =>
        LDl w_8 ⟨b_2, 7, none⟩ fun a_7 l_7 c_7 =>
        LDi .i64 w_8 ⟨b_2, 8, none⟩ fun n_48 =>
        LDi .i64 w_8 ⟨b_2, 9, none⟩ fun n_49 =>
        LDi .i64 w_8 ⟨b_2, 10, none⟩ fun n_50 =>
        LDi .i64 w_8 ⟨b_1, 0, none⟩ fun n_51 =>
        LDi .i64 w_8 ⟨b_1, 1, none⟩ fun n_52 =>
        LDi .i64 w_8 ⟨b_1, 2, none⟩ fun n_53 =>
        LDi .i64 w_8 ⟨b_1, 3, none⟩ fun n_54 =>
        LDi .i64 w_8 ⟨b_1, 4, none⟩ fun n_55 =>
        LDi .i64 w_8 ⟨b_1, 5, none⟩ fun n_56 =>
        LDi .i64 w_8 ⟨b_1, 6, none⟩ fun n_57 =>
        LDl w_8 ⟨b_1, 7, none⟩ fun a_8 l_8 c_8 =>
        LDi .i64 w_8 ⟨b_1, 8, none⟩ fun n_58 =>
        LDi .i64 w_8 ⟨b_1, 9, none⟩ fun n_59 =>
        LDi .i64 w_8 ⟨b_1, 10, none⟩ fun n_60 =>
        LDi .i64 w_8 ⟨b_1, 0, none⟩ fun n_61 =>
        LDi .i64 w_8 ⟨b_1, 1, none⟩ fun n_62 =>
        LDi .i64 w_8 ⟨b_1, 2, none⟩ fun n_63 =>
        LDi .i64 w_8 ⟨b_1, 3, none⟩ fun n_64 =>
        LDi .i64 w_8 ⟨b_1, 4, none⟩ fun n_65 =>
        LDi .i64 w_8 ⟨b_1, 5, none⟩ fun n_66 =>
        LDi .i64 w_8 ⟨b_1, 6, none⟩ fun n_67 =>
        LDl w_8 ⟨b_1, 7, none⟩ fun a_9 l_9 c_9 =>
        LDi .i64 w_8 ⟨b_1, 8, none⟩ fun n_68 =>
        LDi .i64 w_8 ⟨b_1, 9, none⟩ fun n_69 =>
        LDi .i64 w_8 ⟨b_1, 10, none⟩ fun n_70 =>
        LDi .i64 w_8 ⟨b_2, 0, none⟩ fun n_71 =>
        LDi .i64 w_8 ⟨b_2, 1, none⟩ fun n_72 =>
        LDi .i64 w_8 ⟨b_2, 2, none⟩ fun n_73 =>
        LDi .i64 w_8 ⟨b_2, 3, none⟩ fun n_74 =>
        LDi .i64 w_8 ⟨b_2, 4, none⟩ fun n_75 =>
        LDi .i64 w_8 ⟨b_2, 5, none⟩ fun n_76 =>
        LDi .i64 w_8 ⟨b_2, 6, none⟩ fun n_77 =>
        LDl w_8 ⟨b_2, 7, none⟩ fun a_10 l_10 c_10 =>
        LDi .i64 w_8 ⟨b_2, 8, none⟩ fun n_78 =>
        LDi .i64 w_8 ⟨b_2, 9, none⟩ fun n_79 =>
        LDi .i64 w_8 ⟨b_2, 10, none⟩ fun n_80 =>
        CALL Pg F_text_Same [.agg #[.int .i64 n_41, .int .i64 n_42, .int .i64 n_43, .int .i64 n_44, .int .i64 n_45, .int .i64 n_46, .int .i64 n_47, .slice a_7 l_7 c_7, .int .i64 n_48, .int .i64 n_49, .int .i64 n_50], .agg #[.int .i64 n_51, .int .i64 n_52, .int .i64 n_53, .int .i64 n_54, .int .i64 n_55, .int .i64 n_56, .int .i64 n_57, .slice a_8 l_8 c_8, .int .i64 n_58, .int .i64 n_59, .int .i64 n_60]] w_8 fun v_6 w_9 =>
        BOOLV v_6 fun t_6 =>
        ((
         KEEP w_9 [Fact.cell ⟨b_1, 0, none⟩ (.int .i64 n_61), Fact.cell ⟨b_1, 1, none⟩ (.int .i64 n_62), Fact.cell ⟨b_1, 2, none⟩ (.int .i64 n_63), Fact.cell ⟨b_1, 3, none⟩ (.int .i64 n_64), Fact.cell ⟨b_1, 4, none⟩ (.int .i64 n_65), Fact.cell ⟨b_1, 5, none⟩ (.int .i64 n_66), Fact.cell ⟨b_1, 6, none⟩ (.int .i64 n_67), Fact.cell ⟨b_1, 7, none⟩ (.slice a_9 l_9 c_9), Fact.cell ⟨b_1, 8, none⟩ (.int .i64 n_68), Fact.cell ⟨b_1, 9, none⟩ (.int .i64 n_69), Fact.cell ⟨b_1, 10, none⟩ (.int .i64 n_70), Fact.cell ⟨b_2, 0, none⟩ (.int .i64 n_71), Fact.cell ⟨b_2, 1, none⟩ (.int .i64 n_72), Fact.cell ⟨b_2, 2, none⟩ (.int .i64 n_73), Fact.cell ⟨b_2, 3, none⟩ (.int .i64 n_74), Fact.cell ⟨b_2, 4, none⟩ (.int .i64 n_75), Fact.cell ⟨b_2, 5, none⟩ (.int .i64 n_76), Fact.cell ⟨b_2, 6, none⟩ (.int .i64 n_77), Fact.cell ⟨b_2, 7, none⟩ (.slice a_10 l_10 c_10), Fact.cell ⟨b_2, 8, none⟩ (.int .i64 n_78), Fact.cell ⟨b_2, 9, none⟩ (.int .i64 n_79), Fact.cell ⟨b_2, 10, none⟩ (.int .i64 n_80)]) ∧
         CALL Pg F_l25_same [.agg #[.int .i64 n_61, .int .i64 n_62, .int .i64 n_63, .int .i64 n_64, .int .i64 n_65, .int .i64 n_66, .int .i64 n_67, .slice a_9 l_9 c_9, .int .i64 n_68, .int .i64 n_69, .int .i64 n_70], .agg #[.int .i64 n_71, .int .i64 n_72, .int .i64 n_73, .int .i64 n_74, .int .i64 n_75, .int .i64 n_76, .int .i64 n_77, .slice a_10 l_10 c_10, .int .i64 n_78, .int .i64 n_79, .int .i64 n_80]] w_9 fun v_7 w_10 =>
         BOOLV v_7 fun t_7 =>
         ((
          KEEP w_10 []) ∧
          ITE (t_6 == t_7) (
           LDi .i64 w_10 ⟨b_1, 0, none⟩ fun n_81 =>
           LDi .i64 w_10 ⟨b_1, 1, none⟩ fun n_82 =>
           LDi .i64 w_10 ⟨b_1, 2, none⟩ fun n_83 =>
           LDi .i64 w_10 ⟨b_1, 3, none⟩ fun n_84 =>
           LDi .i64 w_10 ⟨b_1, 4, none⟩ fun n_85 =>
           LDi .i64 w_10 ⟨b_1, 5, none⟩ fun n_86 =>
           LDi .i64 w_10 ⟨b_1, 6, none⟩ fun n_87 =>
           LDl w_10 ⟨b_1, 7, none⟩ fun a_11 l_11 c_11 =>
           LDi .i64 w_10 ⟨b_1, 8, none⟩ fun n_88 =>
           LDi .i64 w_10 ⟨b_1, 9, none⟩ fun n_89 =>
           LDi .i64 w_10 ⟨b_1, 10, none⟩ fun n_90 =>
           LDi .i64 w_10 ⟨b_1, 0, none⟩ fun n_91 =>
           LDi .i64 w_10 ⟨b_1, 1, none⟩ fun n_92 =>
           LDi .i64 w_10 ⟨b_1, 2, none⟩ fun n_93 =>
           LDi .i64 w_10 ⟨b_1, 3, none⟩ fun n_94 =>
           LDi .i64 w_10 ⟨b_1, 4, none⟩ fun n_95 =>
           LDi .i64 w_10 ⟨b_1, 5, none⟩ fun n_96 =>
           LDi .i64 w_10 ⟨b_1, 6, none⟩ fun n_97 =>
           LDl w_10 ⟨b_1, 7, none⟩ fun a_12 l_12 c_12 =>
           LDi .i64 w_10 ⟨b_1, 8, none⟩ fun n_98 =>
           LDi .i64 w_10 ⟨b_1, 9, none⟩ fun n_99 =>
           LDi .i64 w_10 ⟨b_1, 10, none⟩ fun n_100 =>
           CALL Pg F_text_Same [.agg #[.int .i64 n_81, .int .i64 n_82, .int .i64 n_83, .int .i64 n_84, .int .i64 n_85, .int .i64 n_86, .int .i64 n_87, .slice a_11 l_11 c_11, .int .i64 n_88, .int .i64 n_89, .int .i64 n_90], .agg #[.int .i64 n_91, .int .i64 n_92, .int .i64 n_93, .int .i64 n_94, .int .i64 n_95, .int .i64 n_96, .int .i64 n_97, .slice a_12 l_12 c_12, .int .i64 n_98, .int .i64 n_99, .int .i64 n_100]] w_10 fun v_8 w_11 =>
           BOOLV v_8 fun t_8 =>
           ((
            KEEP w_11 []) ∧
            J_3 [.bool t_8] w_11)) (
           J_3 [.bool false] w_10)))) (
        J_3 [.bool false] w_8)))) ∧
     ∀ w_12 : World,
     ∀ v_9 : Value,
     (J_3 [v_9] w_12 →
     BOOLV v_9 fun t_9 =>
     K (.bool t_9) w_12)))))
theorem E_l25_TextSame (x0 : Int) (x1 : Int) (x2 : Int) (x3 : Int) (x4 : Int) (x5 : Int) (x6 : Int) (x7a : Option Addr) (x7l : Nat) (x7c : Nat) (x8 : Int) (x9 : Int) (x10 : Int) (y0 : Int) (y1 : Int) (y2 : Int) (y3 : Int) (y4 : Int) (y5 : Int) (y6 : Int) (y7a : Option Addr) (y7l : Nat) (y7c : Nat) (y8 : Int) (y9 : Int) (y10 : Int) (w : World) (K : Value → World → Prop) :
    D_l25_TextSame x0 x1 x2 x3 x4 x5 x6 x7a x7l x7c x8 x9 x10 y0 y1 y2 y3 y4 y5 y6 y7a y7l y7c y8 y9 y10 w K = vcFn Pg Tryd.f5 [3, 5] [.agg #[.int .i64 x0, .int .i64 x1, .int .i64 x2, .int .i64 x3, .int .i64 x4, .int .i64 x5, .int .i64 x6, .slice x7a x7l x7c, .int .i64 x8, .int .i64 x9, .int .i64 x10], .agg #[.int .i64 y0, .int .i64 y1, .int .i64 y2, .int .i64 y3, .int .i64 y4, .int .i64 y5, .int .i64 y6, .slice y7a y7l y7c, .int .i64 y8, .int .i64 y9, .int .i64 y10]] w K := by kernel_rfl
theorem C_l25_TextSame {x0 : Int} {x1 : Int} {x2 : Int} {x3 : Int} {x4 : Int} {x5 : Int} {x6 : Int} {x7a : Option Addr} {x7l : Nat} {x7c : Nat} {x8 : Int} {x9 : Int} {x10 : Int} {y0 : Int} {y1 : Int} {y2 : Int} {y3 : Int} {y4 : Int} {y5 : Int} {y6 : Int} {y7a : Option Addr} {y7l : Nat} {y7c : Nat} {y8 : Int} {y9 : Int} {y10 : Int} {w : World} {K : Value → World → Prop} (h : D_l25_TextSame x0 x1 x2 x3 x4 x5 x6 x7a x7l x7c x8 x9 x10 y0 y1 y2 y3 y4 y5 y6 y7a y7l y7c y8 y9 y10 w K) :
    CALL Pg F_l25_TextSame [.agg #[.int .i64 x0, .int .i64 x1, .int .i64 x2, .int .i64 x3, .int .i64 x4, .int .i64 x5, .int .i64 x6, .slice x7a x7l x7c, .int .i64 x8, .int .i64 x9, .int .i64 x10], .agg #[.int .i64 y0, .int .i64 y1, .int .i64 y2, .int .i64 y3, .int .i64 y4, .int .i64 y5, .int .i64 y6, .slice y7a y7l y7c, .int .i64 y8, .int .i64 y9, .int .i64 y10]] w K :=
  call_of_vc [3, 5] Tryd.func5 rfl (Nat.le_of_ble_eq_true (by kernel_rfl)) ((E_l25_TextSame x0 x1 x2 x3 x4 x5 x6 x7a x7l x7c x8 x9 x10 y0 y1 y2 y3 y4 y5 y6 y7a y7l y7c y8 y9 y10 w K) ▸ h)
def D_l25_TextBlanks (x0 : Int) (x1 : Int) (x2 : Int) (x3 : Int) (x4 : Int) (x5 : Int) (x6 : Int) (x7a : Option Addr) (x7l : Nat) (x7c : Nat) (x8 : Int) (x9 : Int) (x10 : Int) (at_ : Int) (w : World) (K : Value → World → Prop) : Prop :=
  NEW w [.int .i64 x0, .int .i64 x1, .int .i64 x2, .int .i64 x3, .int .i64 x4, .int .i64 x5, .int .i64 x6, .slice x7a x7l x7c, .int .i64 x8, .int .i64 x9, .int .i64 x10] T_text_Line_text_Line fun b_1 w_1 =>
  CALL Pg F_l25_speaks [] w_1 fun v_1 w_2 =>
  BOOLV v_1 fun t_1 =>
  ITE (!t_1) (
   K (.bool false) w_2) (
   LDl w_2 ⟨b_1, 7, none⟩ fun _ l_1 _ =>
   ITE (decide ((↑l_1 : Int) > 60)) (
    K (.bool true) w_2) (
    LDi .i64 w_2 ⟨b_1, 0, none⟩ fun n_1 =>
    LDi .i64 w_2 ⟨b_1, 1, none⟩ fun n_2 =>
    LDi .i64 w_2 ⟨b_1, 2, none⟩ fun n_3 =>
    LDi .i64 w_2 ⟨b_1, 3, none⟩ fun n_4 =>
    LDi .i64 w_2 ⟨b_1, 4, none⟩ fun n_5 =>
    LDi .i64 w_2 ⟨b_1, 5, none⟩ fun n_6 =>
    LDi .i64 w_2 ⟨b_1, 6, none⟩ fun n_7 =>
    LDl w_2 ⟨b_1, 7, none⟩ fun a_2 l_2 c_2 =>
    LDi .i64 w_2 ⟨b_1, 8, none⟩ fun n_8 =>
    LDi .i64 w_2 ⟨b_1, 9, none⟩ fun n_9 =>
    LDi .i64 w_2 ⟨b_1, 10, none⟩ fun n_10 =>
    CALL Pg F_text_Text [.agg #[.int .i64 n_1, .int .i64 n_2, .int .i64 n_3, .int .i64 n_4, .int .i64 n_5, .int .i64 n_6, .int .i64 n_7, .slice a_2 l_2 c_2, .int .i64 n_8, .int .i64 n_9, .int .i64 n_10]] w_2 fun v_2 w_3 =>
    STRV v_2 fun s_1 =>
    ITE (s_1 == { data := #[] }) (
     K (.bool true) w_3) (
     BIND (IntKind.i64.wrap at_) fun n_11 =>
     BIND (IntKind.i64.wrap ((↑s_1.size : Int) + 1)) fun n_12 =>
     NZ n_12 (
     BIND (n_11.tmod n_12) fun n_13 =>
     DRAW w_3 fun w_4 =>
     SILN Pg (Instr.sliceAt T_string (.string s_1) none (some (.int .i64 n_13)) none) fun v_3 =>
     STRV v_3 fun s_2 =>
     SILN Pg (binE BinOp.add T_string (Operand.tmp 36) (Operand.const (.string { data := #[32] })) (.string s_2) (.string { data := #[32] })) fun v_4 =>
     STRV v_4 fun s_3 =>
     SILN Pg (Instr.sliceAt T_string (.string s_1) (some (.int .i64 n_13)) none none) fun v_5 =>
     STRV v_5 fun s_4 =>
     SILN Pg (binE BinOp.add T_string (Operand.tmp 37) (Operand.tmp 40) (.string s_3) (.string s_4)) fun v_6 =>
     STRV v_6 fun s_5 =>
     ((
      CALL Pg F_text_Parse [.string s_5] w_4 fun v_7 w_5 =>
      TUPV v_7 fun cs_1 =>
      GETV cs_1 0 fun v_8 =>
      AGGV v_8 fun cs_2 =>
      GETV cs_2 0 fun v_9 =>
      INTV .i64 v_9 fun n_14 =>
      GETV cs_2 1 fun v_10 =>
      INTV .i64 v_10 fun n_15 =>
      GETV cs_2 2 fun v_11 =>
      INTV .i64 v_11 fun n_16 =>
      GETV cs_2 3 fun v_12 =>
      INTV .i64 v_12 fun n_17 =>
      GETV cs_2 4 fun v_13 =>
      INTV .i64 v_13 fun n_18 =>
      GETV cs_2 5 fun v_14 =>
      INTV .i64 v_14 fun n_19 =>
      GETV cs_2 6 fun v_15 =>
      INTV .i64 v_15 fun n_20 =>
      GETV cs_2 7 fun v_16 =>
      SLV v_16 fun a_3 l_3 c_3 =>
      GETV cs_2 8 fun v_17 =>
      INTV .i64 v_17 fun n_21 =>
      GETV cs_2 9 fun v_18 =>
      INTV .i64 v_18 fun n_22 =>
      GETV cs_2 10 fun v_19 =>
      INTV .i64 v_19 fun n_23 =>
      LEN cs_2 11 (
      GETV cs_1 1 fun v_20 =>
      BOOLV v_20 fun t_2 =>
      LEN cs_1 2 (
      ((
       KEEP w_5 []) ∧
       NEW w_5 [.int .i64 0, .int .i64 0, .int .i64 0, .int .i64 0, .int .i64 0, .int .i64 0, .int .i64 0, .slice none 0 0, .int .i64 0, .int .i64 0, .int .i64 0] T_text_Line_text_Line fun b_2 w_6 =>
       ((
        KEEP w_6 []) ∧
        ST1 w_6 ⟨b_2, 0, none⟩ (.int .i64 n_14) fun w_7 =>
        ST1 w_7 ⟨b_2, 1, none⟩ (.int .i64 n_15) fun w_8 =>
        ST1 w_8 ⟨b_2, 2, none⟩ (.int .i64 n_16) fun w_9 =>
        ST1 w_9 ⟨b_2, 3, none⟩ (.int .i64 n_17) fun w_10 =>
        ST1 w_10 ⟨b_2, 4, none⟩ (.int .i64 n_18) fun w_11 =>
        ST1 w_11 ⟨b_2, 5, none⟩ (.int .i64 n_19) fun w_12 =>
        ST1 w_12 ⟨b_2, 6, none⟩ (.int .i64 n_20) fun w_13 =>
        ST1 w_13 ⟨b_2, 7, none⟩ (.slice a_3 l_3 c_3) fun w_14 =>
        ST1 w_14 ⟨b_2, 8, none⟩ (.int .i64 n_21) fun w_15 =>
        ST1 w_15 ⟨b_2, 9, none⟩ (.int .i64 n_22) fun w_16 =>
        ST1 w_16 ⟨b_2, 10, none⟩ (.int .i64 n_23) fun w_17 =>
        ((
         KEEP w_17 []) ∧
         JOIN fun J_1 =>
         ((
          ITE (t_2) (
           ITE (decide (n_13 > 0)) (
            ITE (decide (n_13 < (↑s_1.size : Int))) (
             SILN Pg (Instr.index T_string (.string s_1) (.int .i64 n_13)) fun v_21 =>
             INTV .u8 v_21 fun n_24 =>
             ITE (n_24 != 32) (
              BIND (IntKind.i64.wrap (n_13 - 1)) fun n_25 =>
              SILN Pg (Instr.index T_string (.string s_1) (.int .i64 n_25)) fun v_22 =>
              INTV .u8 v_22 fun n_26 =>
              ITE (n_26 != 32) (
               LDi .i64 w_17 ⟨b_1, 0, none⟩ fun n_27 =>
               ITE (n_27 != 1) (
                J_1 [.bool true] w_17) (
                LDi .i64 w_17 ⟨b_2, 0, none⟩ fun n_28 =>
                LDi .i64 w_17 ⟨b_2, 1, none⟩ fun n_29 =>
                LDi .i64 w_17 ⟨b_2, 2, none⟩ fun n_30 =>
                LDi .i64 w_17 ⟨b_2, 3, none⟩ fun n_31 =>
                LDi .i64 w_17 ⟨b_2, 4, none⟩ fun n_32 =>
                LDi .i64 w_17 ⟨b_2, 5, none⟩ fun n_33 =>
                LDi .i64 w_17 ⟨b_2, 6, none⟩ fun n_34 =>
                LDl w_17 ⟨b_2, 7, none⟩ fun a_4 l_4 c_4 =>
                LDi .i64 w_17 ⟨b_2, 8, none⟩ fun n_35 =>
                LDi .i64 w_17 ⟨b_2, 9, none⟩ fun n_36 =>
                LDi .i64 w_17 ⟨b_2, 10, none⟩ fun n_37 =>
                LDi .i64 w_17 ⟨b_1, 0, none⟩ fun n_38 =>
                LDi .i64 w_17 ⟨b_1, 1, none⟩ fun n_39 =>
                LDi .i64 w_17 ⟨b_1, 2, none⟩ fun n_40 =>
                LDi .i64 w_17 ⟨b_1, 3, none⟩ fun n_41 =>
                LDi .i64 w_17 ⟨b_1, 4, none⟩ fun n_42 =>
                LDi .i64 w_17 ⟨b_1, 5, none⟩ fun n_43 =>
                LDi .i64 w_17 ⟨b_1, 6, none⟩ fun n_44 =>
                LDl w_17 ⟨b_1, 7, none⟩ fun a_5 l_5 c_5 =>
                LDi .i64 w_17 ⟨b_1, 8, none⟩ fun n_45 =>
                LDi .i64 w_17 ⟨b_1, 9, none⟩ fun n_46 =>
                LDi .i64 w_17 ⟨b_1, 10, none⟩ fun n_47 =>
                CALL Pg F_l25_same [.agg #[.int .i64 n_28, .int .i64 n_29, .int .i64 n_30, .int .i64 n_31, .int .i64 n_32, .int .i64 n_33, .int .i64 n_34, .slice a_4 l_4 c_4, .int .i64 n_35, .int .i64 n_36, .int .i64 n_37], .agg #[.int .i64 n_38, .int .i64 n_39, .int .i64 n_40, .int .i64 n_41, .int .i64 n_42, .int .i64 n_43, .int .i64 n_44, .slice a_5 l_5 c_5, .int .i64 n_45, .int .i64 n_46, .int .i64 n_47]] w_17 fun v_23 w_18 =>
                BOOLV v_23 fun t_3 =>
                J_1 [.bool t_3] w_18)) (
               J_1 [.bool false] w_17)) (
              J_1 [.bool false] w_17)) (
             J_1 [.bool false] w_17)) (
            J_1 [.bool false] w_17)) (
           J_1 [.bool false] w_17)) ∧
          ∀ w_19 : World,
          ∀ v_24 : Value,
          (J_1 [v_24] w_19 →
          BOOLV v_24 fun t_4 =>
          ITE (t_4) (
           K (.bool false) w_19) (
           SILN Pg (binE BinOp.add T_string (Operand.const (.string { data := #[32] })) (Operand.tmp 80) (.string { data := #[32] }) (.string s_1)) fun v_25 =>
           STRV v_25 fun s_6 =>
           CALL Pg F_text_Parse [.string s_6] w_19 fun v_26 w_20 =>
           TUPV v_26 fun cs_3 =>
           GETV cs_3 0 fun v_27 =>
           AGGV v_27 fun cs_4 =>
           GETV cs_4 0 fun v_28 =>
           INTV .i64 v_28 fun n_48 =>
           GETV cs_4 1 fun v_29 =>
           INTV .i64 v_29 fun n_49 =>
           GETV cs_4 2 fun v_30 =>
           INTV .i64 v_30 fun n_50 =>
           GETV cs_4 3 fun v_31 =>
           INTV .i64 v_31 fun n_51 =>
           GETV cs_4 4 fun v_32 =>
           INTV .i64 v_32 fun n_52 =>
           GETV cs_4 5 fun v_33 =>
           INTV .i64 v_33 fun n_53 =>
           GETV cs_4 6 fun v_34 =>
           INTV .i64 v_34 fun n_54 =>
           GETV cs_4 7 fun v_35 =>
           SLV v_35 fun a_6 l_6 c_6 =>
           GETV cs_4 8 fun v_36 =>
           INTV .i64 v_36 fun n_55 =>
           GETV cs_4 9 fun v_37 =>
           INTV .i64 v_37 fun n_56 =>
           GETV cs_4 10 fun v_38 =>
           INTV .i64 v_38 fun n_57 =>
           LEN cs_4 11 (
           GETV cs_3 1 fun v_39 =>
           BOOLV v_39 fun t_5 =>
           LEN cs_3 2 (
           NEW w_20 [.int .i64 0, .int .i64 0, .int .i64 0, .int .i64 0, .int .i64 0, .int .i64 0, .int .i64 0, .slice none 0 0, .int .i64 0, .int .i64 0, .int .i64 0] T_text_Line_text_Line fun b_3 w_21 =>
           ST1 w_21 ⟨b_3, 0, none⟩ (.int .i64 n_48) fun w_22 =>
           ST1 w_22 ⟨b_3, 1, none⟩ (.int .i64 n_49) fun w_23 =>
           ST1 w_23 ⟨b_3, 2, none⟩ (.int .i64 n_50) fun w_24 =>
           ST1 w_24 ⟨b_3, 3, none⟩ (.int .i64 n_51) fun w_25 =>
           ST1 w_25 ⟨b_3, 4, none⟩ (.int .i64 n_52) fun w_26 =>
           ST1 w_26 ⟨b_3, 5, none⟩ (.int .i64 n_53) fun w_27 =>
           ST1 w_27 ⟨b_3, 6, none⟩ (.int .i64 n_54) fun w_28 =>
           ST1 w_28 ⟨b_3, 7, none⟩ (.slice a_6 l_6 c_6) fun w_29 =>
           ST1 w_29 ⟨b_3, 8, none⟩ (.int .i64 n_55) fun w_30 =>
           ST1 w_30 ⟨b_3, 9, none⟩ (.int .i64 n_56) fun w_31 =>
           ST1 w_31 ⟨b_3, 10, none⟩ (.int .i64 n_57) fun w_32 =>
           SILN Pg (binE BinOp.add T_string (Operand.tmp 86) (Operand.const (.string { data := #[32] })) (.string s_1) (.string { data := #[32] })) fun v_40 =>
           STRV v_40 fun s_7 =>
           CALL Pg F_text_Parse [.string s_7] w_32 fun v_41 w_33 =>
           TUPV v_41 fun cs_5 =>
           GETV cs_5 0 fun v_42 =>
           AGGV v_42 fun cs_6 =>
           GETV cs_6 0 fun v_43 =>
           INTV .i64 v_43 fun n_58 =>
           GETV cs_6 1 fun v_44 =>
           INTV .i64 v_44 fun n_59 =>
           GETV cs_6 2 fun v_45 =>
           INTV .i64 v_45 fun n_60 =>
           GETV cs_6 3 fun v_46 =>
           INTV .i64 v_46 fun n_61 =>
           GETV cs_6 4 fun v_47 =>
           INTV .i64 v_47 fun n_62 =>
           GETV cs_6 5 fun v_48 =>
           INTV .i64 v_48 fun n_63 =>
           GETV cs_6 6 fun v_49 =>
           INTV .i64 v_49 fun n_64 =>
           GETV cs_6 7 fun v_50 =>
           SLV v_50 fun a_7 l_7 c_7 =>
           GETV cs_6 8 fun v_51 =>
           INTV .i64 v_51 fun n_65 =>
           GETV cs_6 9 fun v_52 =>
           INTV .i64 v_52 fun n_66 =>
           GETV cs_6 10 fun v_53 =>
           INTV .i64 v_53 fun n_67 =>
           LEN cs_6 11 (
           GETV cs_5 1 fun v_54 =>
           BOOLV v_54 fun t_6 =>
           LEN cs_5 2 (
           NEW w_33 [.int .i64 0, .int .i64 0, .int .i64 0, .int .i64 0, .int .i64 0, .int .i64 0, .int .i64 0, .slice none 0 0, .int .i64 0, .int .i64 0, .int .i64 0] T_text_Line_text_Line fun b_4 w_34 =>
           ST1 w_34 ⟨b_4, 0, none⟩ (.int .i64 n_58) fun w_35 =>
           ST1 w_35 ⟨b_4, 1, none⟩ (.int .i64 n_59) fun w_36 =>
           ST1 w_36 ⟨b_4, 2, none⟩ (.int .i64 n_60) fun w_37 =>
           ST1 w_37 ⟨b_4, 3, none⟩ (.int .i64 n_61) fun w_38 =>
           ST1 w_38 ⟨b_4, 4, none⟩ (.int .i64 n_62) fun w_39 =>
           ST1 w_39 ⟨b_4, 5, none⟩ (.int .i64 n_63) fun w_40 =>
           ST1 w_40 ⟨b_4, 6, none⟩ (.int .i64 n_64) fun w_41 =>
           ST1 w_41 ⟨b_4, 7, none⟩ (.slice a_7 l_7 c_7) fun w_42 =>
           ST1 w_42 ⟨b_4, 8, none⟩ (.int .i64 n_65) fun w_43 =>
           ST1 w_43 ⟨b_4, 9, none⟩ (.int .i64 n_66) fun w_44 =>
           ST1 w_44 ⟨b_4, 10, none⟩ (.int .i64 n_67) fun w_45 =>
           JOIN fun J_2 =>
           ((
            JOIN fun J_3 =>
            ((
             ITE (t_5) (
              J_3 [.bool true] w_45) (
              J_3 [.bool t_6] w_45)) ∧
             ∀ w_46 : World,
             ∀ v_55 : Value,
             (J_3 [v_55] w_46 →
             BOOLV v_55 fun t_7 =>
             ITE (t_7) (
              K (.bool false) w_46) (
              J_2 [.bool false] w_46)))) ∧
            ∀ w_47 : World,
            ∀ v_56 : Value,
            (J_2 [v_56] w_47 →
            BOOLV v_56 fun t_8 =>
            LOOP [.bool t_8, .int .i64 1] w_47 fun I_1 N_1 =>
            ∀ w_48 : World,
            ∀ v_57 : Value,
            ∀ v_58 : Value,
            (I_1 [v_57, v_58] w_48 →
            INTV .i64 v_58 fun n_68 =>
            BOOLV v_57 fun t_9 =>
            ITE (decide (n_68 < (↑s_1.size : Int))) (
             JOIN fun J_4 =>
             ((
              BIND (IntKind.i64.wrap (n_68 - 1)) fun n_69 =>
              SILN Pg (Instr.index T_string (.string s_1) (.int .i64 n_69)) fun v_59 =>
              INTV .u8 v_59 fun n_70 =>
              ITE (n_70 == 32) (
               SILN Pg (Instr.index T_string (.string s_1) (.int .i64 n_68)) fun v_60 =>
               INTV .u8 v_60 fun n_71 =>
               ITE (decide (n_71 ≥ 48)) (
                SILN Pg (Instr.index T_string (.string s_1) (.int .i64 n_68)) fun v_61 =>
                INTV .u8 v_61 fun n_72 =>
                J_4 [.bool (decide (n_72 ≤ 57))] w_48) (
                J_4 [.bool false] w_48)) (
               J_4 [.bool false] w_48)) ∧
              ∀ w_49 : World,
              ∀ v_62 : Value,
              (J_4 [v_62] w_49 →
              BOOLV v_62 fun t_10 =>
              ITE (t_10) (
               DRAW w_49 fun w_50 =>
               SILN Pg (Instr.sliceAt T_string (.string s_1) none (some (.int .i64 n_68)) none) fun v_63 =>
               STRV v_63 fun s_8 =>
               SILN Pg (binE BinOp.add T_string (Operand.tmp 121) (Operand.const (.string { data := #[48] })) (.string s_8) (.string { data := #[48] })) fun v_64 =>
               STRV v_64 fun s_9 =>
               SILN Pg (Instr.sliceAt T_string (.string s_1) (some (.int .i64 n_68)) none none) fun v_65 =>
               STRV v_65 fun s_10 =>
               SILN Pg (binE BinOp.add T_string (Operand.tmp 122) (Operand.tmp 125) (.string s_9) (.string s_10)) fun v_66 =>
               STRV v_66 fun s_11 =>
               ((
                CALL Pg F_text_Parse [.string s_11] w_50 fun v_67 w_51 =>
                TUPV v_67 fun cs_7 =>
                GETV cs_7 0 fun v_68 =>
                AGGV v_68 fun cs_8 =>
                GETV cs_8 0 fun v_69 =>
                INTV .i64 v_69 fun n_73 =>
                GETV cs_8 1 fun v_70 =>
                INTV .i64 v_70 fun n_74 =>
                GETV cs_8 2 fun v_71 =>
                INTV .i64 v_71 fun n_75 =>
                GETV cs_8 3 fun v_72 =>
                INTV .i64 v_72 fun n_76 =>
                GETV cs_8 4 fun v_73 =>
                INTV .i64 v_73 fun n_77 =>
                GETV cs_8 5 fun v_74 =>
                INTV .i64 v_74 fun n_78 =>
                GETV cs_8 6 fun v_75 =>
                INTV .i64 v_75 fun n_79 =>
                GETV cs_8 7 fun v_76 =>
                SLV v_76 fun a_8 l_8 c_8 =>
                GETV cs_8 8 fun v_77 =>
                INTV .i64 v_77 fun n_80 =>
                GETV cs_8 9 fun v_78 =>
                INTV .i64 v_78 fun n_81 =>
                GETV cs_8 10 fun v_79 =>
                INTV .i64 v_79 fun n_82 =>
                LEN cs_8 11 (
                GETV cs_7 1 fun v_80 =>
                BOOLV v_80 fun t_11 =>
                LEN cs_7 2 (
                ((
                 KEEP w_51 []) ∧
                 NEW w_51 [.int .i64 0, .int .i64 0, .int .i64 0, .int .i64 0, .int .i64 0, .int .i64 0, .int .i64 0, .slice none 0 0, .int .i64 0, .int .i64 0, .int .i64 0] T_text_Line_text_Line fun b_5 w_52 =>
                 ((
                  KEEP w_52 []) ∧
                  ST1 w_52 ⟨b_5, 0, none⟩ (.int .i64 n_73) fun w_53 =>
                  ST1 w_53 ⟨b_5, 1, none⟩ (.int .i64 n_74) fun w_54 =>
                  ST1 w_54 ⟨b_5, 2, none⟩ (.int .i64 n_75) fun w_55 =>
                  ST1 w_55 ⟨b_5, 3, none⟩ (.int .i64 n_76) fun w_56 =>
                  ST1 w_56 ⟨b_5, 4, none⟩ (.int .i64 n_77) fun w_57 =>
                  ST1 w_57 ⟨b_5, 5, none⟩ (.int .i64 n_78) fun w_58 =>
                  ST1 w_58 ⟨b_5, 6, none⟩ (.int .i64 n_79) fun w_59 =>
                  ST1 w_59 ⟨b_5, 7, none⟩ (.slice a_8 l_8 c_8) fun w_60 =>
                  ST1 w_60 ⟨b_5, 8, none⟩ (.int .i64 n_80) fun w_61 =>
                  ST1 w_61 ⟨b_5, 9, none⟩ (.int .i64 n_81) fun w_62 =>
                  ST1 w_62 ⟨b_5, 10, none⟩ (.int .i64 n_82) fun w_63 =>
                  ((
                   KEEP w_63 []) ∧
                   ITE (t_11) (
                    K (.bool false) w_63) (
                    BIND (IntKind.i64.wrap (n_68 + 1)) fun n_83 =>
                    N_1 [v_57, v_58] w_48 [.bool t_9, .int .i64 n_83] w_63))))))) ∧
                NEW w_50 [.int .i64 0, .int .i64 0, .int .i64 0, .int .i64 0, .int .i64 0, .int .i64 0, .int .i64 0, .slice none 0 0, .int .i64 0, .int .i64 0, .int .i64 0] T_text_Line_text_Line fun b_6 w_64 =>
                ((
                 KEEP w_64 []) ∧
                 CALL Pg F_text_Parse [.string s_11] w_64 fun v_81 w_65 =>
                 TUPV v_81 fun cs_9 =>
                 GETV cs_9 0 fun v_82 =>
                 AGGV v_82 fun cs_10 =>
                 GETV cs_10 0 fun v_83 =>
                 INTV .i64 v_83 fun n_84 =>
                 GETV cs_10 1 fun v_84 =>
                 INTV .i64 v_84 fun n_85 =>
                 GETV cs_10 2 fun v_85 =>
                 INTV .i64 v_85 fun n_86 =>
                 GETV cs_10 3 fun v_86 =>
                 INTV .i64 v_86 fun n_87 =>
                 GETV cs_10 4 fun v_87 =>
                 INTV .i64 v_87 fun n_88 =>
                 GETV cs_10 5 fun v_88 =>
                 INTV .i64 v_88 fun n_89 =>
                 GETV cs_10 6 fun v_89 =>
                 INTV .i64 v_89 fun n_90 =>
                 GETV cs_10 7 fun v_90 =>
                 SLV v_90 fun a_9 l_9 c_9 =>
                 GETV cs_10 8 fun v_91 =>
                 INTV .i64 v_91 fun n_91 =>
                 GETV cs_10 9 fun v_92 =>
                 INTV .i64 v_92 fun n_92 =>
                 GETV cs_10 10 fun v_93 =>
                 INTV .i64 v_93 fun n_93 =>
                 LEN cs_10 11 (
                 GETV cs_9 1 fun v_94 =>
                 BOOLV v_94 fun t_12 =>
                 LEN cs_9 2 (
                 ((
                  KEEP w_65 []) ∧
                  ST1 w_65 ⟨b_6, 0, none⟩ (.int .i64 n_84) fun w_66 =>
                  ST1 w_66 ⟨b_6, 1, none⟩ (.int .i64 n_85) fun w_67 =>
                  ST1 w_67 ⟨b_6, 2, none⟩ (.int .i64 n_86) fun w_68 =>
                  ST1 w_68 ⟨b_6, 3, none⟩ (.int .i64 n_87) fun w_69 =>
                  ST1 w_69 ⟨b_6, 4, none⟩ (.int .i64 n_88) fun w_70 =>
                  ST1 w_70 ⟨b_6, 5, none⟩ (.int .i64 n_89) fun w_71 =>
                  ST1 w_71 ⟨b_6, 6, none⟩ (.int .i64 n_90) fun w_72 =>
                  ST1 w_72 ⟨b_6, 7, none⟩ (.slice a_9 l_9 c_9) fun w_73 =>
                  ST1 w_73 ⟨b_6, 8, none⟩ (.int .i64 n_91) fun w_74 =>
                  ST1 w_74 ⟨b_6, 9, none⟩ (.int .i64 n_92) fun w_75 =>
                  ST1 w_75 ⟨b_6, 10, none⟩ (.int .i64 n_93) fun w_76 =>
                  ((
                   KEEP w_76 []) ∧
                   ITE (t_12) (
                    K (.bool false) w_76) (
                    BIND (IntKind.i64.wrap (n_68 + 1)) fun n_94 =>
                    N_1 [v_57, v_58] w_48 [.bool t_9, .int .i64 n_94] w_76)))))))) (
               BIND (IntKind.i64.wrap (n_68 + 1)) fun n_95 =>
               N_1 [v_57, v_58] w_48 [.bool t_9, .int .i64 n_95] w_49)))) (
             K (.bool true) w_48))))))))))))))))) ∧
      NEW w_4 [.int .i64 0, .int .i64 0, .int .i64 0, .int .i64 0, .int .i64 0, .int .i64 0, .int .i64 0, .slice none 0 0, .int .i64 0, .int .i64 0, .int .i64 0] T_text_Line_text_Line fun b_7 w_77 =>
      ((
       KEEP w_77 []) ∧
       CALL Pg F_text_Parse [.string s_5] w_77 fun v_95 w_78 =>
       TUPV v_95 fun cs_11 =>
       GETV cs_11 0 fun v_96 =>
       AGGV v_96 fun cs_12 =>
       GETV cs_12 0 fun v_97 =>
       INTV .i64 v_97 fun n_96 =>
       GETV cs_12 1 fun v_98 =>
       INTV .i64 v_98 fun n_97 =>
       GETV cs_12 2 fun v_99 =>
       INTV .i64 v_99 fun n_98 =>
       GETV cs_12 3 fun v_100 =>
       INTV .i64 v_100 fun n_99 =>
       GETV cs_12 4 fun v_101 =>
       INTV .i64 v_101 fun n_100 =>
       GETV cs_12 5 fun v_102 =>
       INTV .i64 v_102 fun n_101 =>
       GETV cs_12 6 fun v_103 =>
       INTV .i64 v_103 fun n_102 =>
       GETV cs_12 7 fun v_104 =>
       SLV v_104 fun a_10 l_10 c_10 =>
       GETV cs_12 8 fun v_105 =>
       INTV .i64 v_105 fun n_103 =>
       GETV cs_12 9 fun v_106 =>
       INTV .i64 v_106 fun n_104 =>
       GETV cs_12 10 fun v_107 =>
       INTV .i64 v_107 fun n_105 =>
       LEN cs_12 11 (
       GETV cs_11 1 fun v_108 =>
       BOOLV v_108 fun t_13 =>
       LEN cs_11 2 (
       ((
        KEEP w_78 []) ∧
        ST1 w_78 ⟨b_7, 0, none⟩ (.int .i64 n_96) fun w_79 =>
        ST1 w_79 ⟨b_7, 1, none⟩ (.int .i64 n_97) fun w_80 =>
        ST1 w_80 ⟨b_7, 2, none⟩ (.int .i64 n_98) fun w_81 =>
        ST1 w_81 ⟨b_7, 3, none⟩ (.int .i64 n_99) fun w_82 =>
        ST1 w_82 ⟨b_7, 4, none⟩ (.int .i64 n_100) fun w_83 =>
        ST1 w_83 ⟨b_7, 5, none⟩ (.int .i64 n_101) fun w_84 =>
        ST1 w_84 ⟨b_7, 6, none⟩ (.int .i64 n_102) fun w_85 =>
        ST1 w_85 ⟨b_7, 7, none⟩ (.slice a_10 l_10 c_10) fun w_86 =>
        ST1 w_86 ⟨b_7, 8, none⟩ (.int .i64 n_103) fun w_87 =>
        ST1 w_87 ⟨b_7, 9, none⟩ (.int .i64 n_104) fun w_88 =>
        ST1 w_88 ⟨b_7, 10, none⟩ (.int .i64 n_105) fun w_89 =>
        ((
         KEEP w_89 []) ∧
         JOIN fun J_5 =>
         ((
          ITE (t_13) (
           ITE (decide (n_13 > 0)) (
            ITE (decide (n_13 < (↑s_1.size : Int))) (
             SILN Pg (Instr.index T_string (.string s_1) (.int .i64 n_13)) fun v_109 =>
             INTV .u8 v_109 fun n_106 =>
             ITE (n_106 != 32) (
              BIND (IntKind.i64.wrap (n_13 - 1)) fun n_107 =>
              SILN Pg (Instr.index T_string (.string s_1) (.int .i64 n_107)) fun v_110 =>
              INTV .u8 v_110 fun n_108 =>
              ITE (n_108 != 32) (
               LDi .i64 w_89 ⟨b_1, 0, none⟩ fun n_109 =>
               ITE (n_109 != 1) (
                J_5 [.bool true] w_89) (
                LDi .i64 w_89 ⟨b_7, 0, none⟩ fun n_110 =>
                LDi .i64 w_89 ⟨b_7, 1, none⟩ fun n_111 =>
                LDi .i64 w_89 ⟨b_7, 2, none⟩ fun n_112 =>
                LDi .i64 w_89 ⟨b_7, 3, none⟩ fun n_113 =>
                LDi .i64 w_89 ⟨b_7, 4, none⟩ fun n_114 =>
                LDi .i64 w_89 ⟨b_7, 5, none⟩ fun n_115 =>
                LDi .i64 w_89 ⟨b_7, 6, none⟩ fun n_116 =>
                LDl w_89 ⟨b_7, 7, none⟩ fun a_11 l_11 c_11 =>
                LDi .i64 w_89 ⟨b_7, 8, none⟩ fun n_117 =>
                LDi .i64 w_89 ⟨b_7, 9, none⟩ fun n_118 =>
                LDi .i64 w_89 ⟨b_7, 10, none⟩ fun n_119 =>
                LDi .i64 w_89 ⟨b_1, 0, none⟩ fun n_120 =>
                LDi .i64 w_89 ⟨b_1, 1, none⟩ fun n_121 =>
                LDi .i64 w_89 ⟨b_1, 2, none⟩ fun n_122 =>
                LDi .i64 w_89 ⟨b_1, 3, none⟩ fun n_123 =>
                LDi .i64 w_89 ⟨b_1, 4, none⟩ fun n_124 =>
                LDi .i64 w_89 ⟨b_1, 5, none⟩ fun n_125 =>
                LDi .i64 w_89 ⟨b_1, 6, none⟩ fun n_126 =>
                LDl w_89 ⟨b_1, 7, none⟩ fun a_12 l_12 c_12 =>
                LDi .i64 w_89 ⟨b_1, 8, none⟩ fun n_127 =>
                LDi .i64 w_89 ⟨b_1, 9, none⟩ fun n_128 =>
                LDi .i64 w_89 ⟨b_1, 10, none⟩ fun n_129 =>
                CALL Pg F_l25_same [.agg #[.int .i64 n_110, .int .i64 n_111, .int .i64 n_112, .int .i64 n_113, .int .i64 n_114, .int .i64 n_115, .int .i64 n_116, .slice a_11 l_11 c_11, .int .i64 n_117, .int .i64 n_118, .int .i64 n_119], .agg #[.int .i64 n_120, .int .i64 n_121, .int .i64 n_122, .int .i64 n_123, .int .i64 n_124, .int .i64 n_125, .int .i64 n_126, .slice a_12 l_12 c_12, .int .i64 n_127, .int .i64 n_128, .int .i64 n_129]] w_89 fun v_111 w_90 =>
                BOOLV v_111 fun t_14 =>
                J_5 [.bool t_14] w_90)) (
               J_5 [.bool false] w_89)) (
              J_5 [.bool false] w_89)) (
             J_5 [.bool false] w_89)) (
            J_5 [.bool false] w_89)) (
           J_5 [.bool false] w_89)) ∧
          ∀ w_91 : World,
          ∀ v_112 : Value,
          (J_5 [v_112] w_91 →
          BOOLV v_112 fun t_15 =>
          ITE (t_15) (
           K (.bool false) w_91) (
           SILN Pg (binE BinOp.add T_string (Operand.const (.string { data := #[32] })) (Operand.tmp 80) (.string { data := #[32] }) (.string s_1)) fun v_113 =>
           STRV v_113 fun s_12 =>
           CALL Pg F_text_Parse [.string s_12] w_91 fun v_114 w_92 =>
           TUPV v_114 fun cs_13 =>
           GETV cs_13 0 fun v_115 =>
           AGGV v_115 fun cs_14 =>
           GETV cs_14 0 fun v_116 =>
           INTV .i64 v_116 fun n_130 =>
           GETV cs_14 1 fun v_117 =>
           INTV .i64 v_117 fun n_131 =>
           GETV cs_14 2 fun v_118 =>
           INTV .i64 v_118 fun n_132 =>
           GETV cs_14 3 fun v_119 =>
           INTV .i64 v_119 fun n_133 =>
           GETV cs_14 4 fun v_120 =>
           INTV .i64 v_120 fun n_134 =>
           GETV cs_14 5 fun v_121 =>
           INTV .i64 v_121 fun n_135 =>
           GETV cs_14 6 fun v_122 =>
           INTV .i64 v_122 fun n_136 =>
           GETV cs_14 7 fun v_123 =>
           SLV v_123 fun a_13 l_13 c_13 =>
           GETV cs_14 8 fun v_124 =>
           INTV .i64 v_124 fun n_137 =>
           GETV cs_14 9 fun v_125 =>
           INTV .i64 v_125 fun n_138 =>
           GETV cs_14 10 fun v_126 =>
           INTV .i64 v_126 fun n_139 =>
           LEN cs_14 11 (
           GETV cs_13 1 fun v_127 =>
           BOOLV v_127 fun t_16 =>
           LEN cs_13 2 (
           NEW w_92 [.int .i64 0, .int .i64 0, .int .i64 0, .int .i64 0, .int .i64 0, .int .i64 0, .int .i64 0, .slice none 0 0, .int .i64 0, .int .i64 0, .int .i64 0] T_text_Line_text_Line fun b_8 w_93 =>
           ST1 w_93 ⟨b_8, 0, none⟩ (.int .i64 n_130) fun w_94 =>
           ST1 w_94 ⟨b_8, 1, none⟩ (.int .i64 n_131) fun w_95 =>
           ST1 w_95 ⟨b_8, 2, none⟩ (.int .i64 n_132) fun w_96 =>
           ST1 w_96 ⟨b_8, 3, none⟩ (.int .i64 n_133) fun w_97 =>
           ST1 w_97 ⟨b_8, 4, none⟩ (.int .i64 n_134) fun w_98 =>
           ST1 w_98 ⟨b_8, 5, none⟩ (.int .i64 n_135) fun w_99 =>
           ST1 w_99 ⟨b_8, 6, none⟩ (.int .i64 n_136) fun w_100 =>
           ST1 w_100 ⟨b_8, 7, none⟩ (.slice a_13 l_13 c_13) fun w_101 =>
           ST1 w_101 ⟨b_8, 8, none⟩ (.int .i64 n_137) fun w_102 =>
           ST1 w_102 ⟨b_8, 9, none⟩ (.int .i64 n_138) fun w_103 =>
           ST1 w_103 ⟨b_8, 10, none⟩ (.int .i64 n_139) fun w_104 =>
           SILN Pg (binE BinOp.add T_string (Operand.tmp 86) (Operand.const (.string { data := #[32] })) (.string s_1) (.string { data := #[32] })) fun v_128 =>
           STRV v_128 fun s_13 =>
           CALL Pg F_text_Parse [.string s_13] w_104 fun v_129 w_105 =>
           TUPV v_129 fun cs_15 =>
           GETV cs_15 0 fun v_130 =>
           AGGV v_130 fun cs_16 =>
           GETV cs_16 0 fun v_131 =>
           INTV .i64 v_131 fun n_140 =>
           GETV cs_16 1 fun v_132 =>
           INTV .i64 v_132 fun n_141 =>
           GETV cs_16 2 fun v_133 =>
           INTV .i64 v_133 fun n_142 =>
           GETV cs_16 3 fun v_134 =>
           INTV .i64 v_134 fun n_143 =>
           GETV cs_16 4 fun v_135 =>
           INTV .i64 v_135 fun n_144 =>
           GETV cs_16 5 fun v_136 =>
           INTV .i64 v_136 fun n_145 =>
           GETV cs_16 6 fun v_137 =>
           INTV .i64 v_137 fun n_146 =>
           GETV cs_16 7 fun v_138 =>
           SLV v_138 fun a_14 l_14 c_14 =>
           GETV cs_16 8 fun v_139 =>
           INTV .i64 v_139 fun n_147 =>
           GETV cs_16 9 fun v_140 =>
           INTV .i64 v_140 fun n_148 =>
           GETV cs_16 10 fun v_141 =>
           INTV .i64 v_141 fun n_149 =>
           LEN cs_16 11 (
           GETV cs_15 1 fun v_142 =>
           BOOLV v_142 fun t_17 =>
           LEN cs_15 2 (
           NEW w_105 [.int .i64 0, .int .i64 0, .int .i64 0, .int .i64 0, .int .i64 0, .int .i64 0, .int .i64 0, .slice none 0 0, .int .i64 0, .int .i64 0, .int .i64 0] T_text_Line_text_Line fun b_9 w_106 =>
           ST1 w_106 ⟨b_9, 0, none⟩ (.int .i64 n_140) fun w_107 =>
           ST1 w_107 ⟨b_9, 1, none⟩ (.int .i64 n_141) fun w_108 =>
           ST1 w_108 ⟨b_9, 2, none⟩ (.int .i64 n_142) fun w_109 =>
           ST1 w_109 ⟨b_9, 3, none⟩ (.int .i64 n_143) fun w_110 =>
           ST1 w_110 ⟨b_9, 4, none⟩ (.int .i64 n_144) fun w_111 =>
           ST1 w_111 ⟨b_9, 5, none⟩ (.int .i64 n_145) fun w_112 =>
           ST1 w_112 ⟨b_9, 6, none⟩ (.int .i64 n_146) fun w_113 =>
           ST1 w_113 ⟨b_9, 7, none⟩ (.slice a_14 l_14 c_14) fun w_114 =>
           ST1 w_114 ⟨b_9, 8, none⟩ (.int .i64 n_147) fun w_115 =>
           ST1 w_115 ⟨b_9, 9, none⟩ (.int .i64 n_148) fun w_116 =>
           ST1 w_116 ⟨b_9, 10, none⟩ (.int .i64 n_149) fun w_117 =>
           JOIN fun J_6 =>
           ((
            JOIN fun J_7 =>
            ((
             ITE (t_16) (
              J_7 [.bool true] w_117) (
              J_7 [.bool t_17] w_117)) ∧
             ∀ w_118 : World,
             ∀ v_143 : Value,
             (J_7 [v_143] w_118 →
             BOOLV v_143 fun t_18 =>
             ITE (t_18) (
              K (.bool false) w_118) (
              J_6 [.bool false] w_118)))) ∧
            ∀ w_119 : World,
            ∀ v_144 : Value,
            (J_6 [v_144] w_119 →
            BOOLV v_144 fun t_19 =>
            LOOP [.bool t_19, .int .i64 1] w_119 fun I_2 N_2 =>
            ∀ w_120 : World,
            ∀ v_145 : Value,
            ∀ v_146 : Value,
            (I_2 [v_145, v_146] w_120 →
            INTV .i64 v_146 fun n_150 =>
            BOOLV v_145 fun t_20 =>
            ITE (decide (n_150 < (↑s_1.size : Int))) (
             JOIN fun J_8 =>
             ((
              BIND (IntKind.i64.wrap (n_150 - 1)) fun n_151 =>
              SILN Pg (Instr.index T_string (.string s_1) (.int .i64 n_151)) fun v_147 =>
              INTV .u8 v_147 fun n_152 =>
              ITE (n_152 == 32) (
               SILN Pg (Instr.index T_string (.string s_1) (.int .i64 n_150)) fun v_148 =>
               INTV .u8 v_148 fun n_153 =>
               ITE (decide (n_153 ≥ 48)) (
                SILN Pg (Instr.index T_string (.string s_1) (.int .i64 n_150)) fun v_149 =>
                INTV .u8 v_149 fun n_154 =>
                J_8 [.bool (decide (n_154 ≤ 57))] w_120) (
                J_8 [.bool false] w_120)) (
               J_8 [.bool false] w_120)) ∧
              ∀ w_121 : World,
              ∀ v_150 : Value,
              (J_8 [v_150] w_121 →
              BOOLV v_150 fun t_21 =>
              ITE (t_21) (
               DRAW w_121 fun w_122 =>
               SILN Pg (Instr.sliceAt T_string (.string s_1) none (some (.int .i64 n_150)) none) fun v_151 =>
               STRV v_151 fun s_14 =>
               SILN Pg (binE BinOp.add T_string (Operand.tmp 121) (Operand.const (.string { data := #[48] })) (.string s_14) (.string { data := #[48] })) fun v_152 =>
               STRV v_152 fun s_15 =>
               SILN Pg (Instr.sliceAt T_string (.string s_1) (some (.int .i64 n_150)) none none) fun v_153 =>
               STRV v_153 fun s_16 =>
               SILN Pg (binE BinOp.add T_string (Operand.tmp 122) (Operand.tmp 125) (.string s_15) (.string s_16)) fun v_154 =>
               STRV v_154 fun s_17 =>
               ((
                CALL Pg F_text_Parse [.string s_17] w_122 fun v_155 w_123 =>
                TUPV v_155 fun cs_17 =>
                GETV cs_17 0 fun v_156 =>
                AGGV v_156 fun cs_18 =>
                GETV cs_18 0 fun v_157 =>
                INTV .i64 v_157 fun n_155 =>
                GETV cs_18 1 fun v_158 =>
                INTV .i64 v_158 fun n_156 =>
                GETV cs_18 2 fun v_159 =>
                INTV .i64 v_159 fun n_157 =>
                GETV cs_18 3 fun v_160 =>
                INTV .i64 v_160 fun n_158 =>
                GETV cs_18 4 fun v_161 =>
                INTV .i64 v_161 fun n_159 =>
                GETV cs_18 5 fun v_162 =>
                INTV .i64 v_162 fun n_160 =>
                GETV cs_18 6 fun v_163 =>
                INTV .i64 v_163 fun n_161 =>
                GETV cs_18 7 fun v_164 =>
                SLV v_164 fun a_15 l_15 c_15 =>
                GETV cs_18 8 fun v_165 =>
                INTV .i64 v_165 fun n_162 =>
                GETV cs_18 9 fun v_166 =>
                INTV .i64 v_166 fun n_163 =>
                GETV cs_18 10 fun v_167 =>
                INTV .i64 v_167 fun n_164 =>
                LEN cs_18 11 (
                GETV cs_17 1 fun v_168 =>
                BOOLV v_168 fun t_22 =>
                LEN cs_17 2 (
                ((
                 KEEP w_123 []) ∧
                 NEW w_123 [.int .i64 0, .int .i64 0, .int .i64 0, .int .i64 0, .int .i64 0, .int .i64 0, .int .i64 0, .slice none 0 0, .int .i64 0, .int .i64 0, .int .i64 0] T_text_Line_text_Line fun b_10 w_124 =>
                 ((
                  KEEP w_124 []) ∧
                  ST1 w_124 ⟨b_10, 0, none⟩ (.int .i64 n_155) fun w_125 =>
                  ST1 w_125 ⟨b_10, 1, none⟩ (.int .i64 n_156) fun w_126 =>
                  ST1 w_126 ⟨b_10, 2, none⟩ (.int .i64 n_157) fun w_127 =>
                  ST1 w_127 ⟨b_10, 3, none⟩ (.int .i64 n_158) fun w_128 =>
                  ST1 w_128 ⟨b_10, 4, none⟩ (.int .i64 n_159) fun w_129 =>
                  ST1 w_129 ⟨b_10, 5, none⟩ (.int .i64 n_160) fun w_130 =>
                  ST1 w_130 ⟨b_10, 6, none⟩ (.int .i64 n_161) fun w_131 =>
                  ST1 w_131 ⟨b_10, 7, none⟩ (.slice a_15 l_15 c_15) fun w_132 =>
                  ST1 w_132 ⟨b_10, 8, none⟩ (.int .i64 n_162) fun w_133 =>
                  ST1 w_133 ⟨b_10, 9, none⟩ (.int .i64 n_163) fun w_134 =>
                  ST1 w_134 ⟨b_10, 10, none⟩ (.int .i64 n_164) fun w_135 =>
                  ((
                   KEEP w_135 []) ∧
                   ITE (t_22) (
                    K (.bool false) w_135) (
                    BIND (IntKind.i64.wrap (n_150 + 1)) fun n_165 =>
                    N_2 [v_145, v_146] w_120 [.bool t_20, .int .i64 n_165] w_135))))))) ∧
                NEW w_122 [.int .i64 0, .int .i64 0, .int .i64 0, .int .i64 0, .int .i64 0, .int .i64 0, .int .i64 0, .slice none 0 0, .int .i64 0, .int .i64 0, .int .i64 0] T_text_Line_text_Line fun b_11 w_136 =>
                ((
                 KEEP w_136 []) ∧
                 CALL Pg F_text_Parse [.string s_17] w_136 fun v_169 w_137 =>
                 TUPV v_169 fun cs_19 =>
                 GETV cs_19 0 fun v_170 =>
                 AGGV v_170 fun cs_20 =>
                 GETV cs_20 0 fun v_171 =>
                 INTV .i64 v_171 fun n_166 =>
                 GETV cs_20 1 fun v_172 =>
                 INTV .i64 v_172 fun n_167 =>
                 GETV cs_20 2 fun v_173 =>
                 INTV .i64 v_173 fun n_168 =>
                 GETV cs_20 3 fun v_174 =>
                 INTV .i64 v_174 fun n_169 =>
                 GETV cs_20 4 fun v_175 =>
                 INTV .i64 v_175 fun n_170 =>
                 GETV cs_20 5 fun v_176 =>
                 INTV .i64 v_176 fun n_171 =>
                 GETV cs_20 6 fun v_177 =>
                 INTV .i64 v_177 fun n_172 =>
                 GETV cs_20 7 fun v_178 =>
                 SLV v_178 fun a_16 l_16 c_16 =>
                 GETV cs_20 8 fun v_179 =>
                 INTV .i64 v_179 fun n_173 =>
                 GETV cs_20 9 fun v_180 =>
                 INTV .i64 v_180 fun n_174 =>
                 GETV cs_20 10 fun v_181 =>
                 INTV .i64 v_181 fun n_175 =>
                 LEN cs_20 11 (
                 GETV cs_19 1 fun v_182 =>
                 BOOLV v_182 fun t_23 =>
                 LEN cs_19 2 (
                 ((
                  KEEP w_137 []) ∧
                  ST1 w_137 ⟨b_11, 0, none⟩ (.int .i64 n_166) fun w_138 =>
                  ST1 w_138 ⟨b_11, 1, none⟩ (.int .i64 n_167) fun w_139 =>
                  ST1 w_139 ⟨b_11, 2, none⟩ (.int .i64 n_168) fun w_140 =>
                  ST1 w_140 ⟨b_11, 3, none⟩ (.int .i64 n_169) fun w_141 =>
                  ST1 w_141 ⟨b_11, 4, none⟩ (.int .i64 n_170) fun w_142 =>
                  ST1 w_142 ⟨b_11, 5, none⟩ (.int .i64 n_171) fun w_143 =>
                  ST1 w_143 ⟨b_11, 6, none⟩ (.int .i64 n_172) fun w_144 =>
                  ST1 w_144 ⟨b_11, 7, none⟩ (.slice a_16 l_16 c_16) fun w_145 =>
                  ST1 w_145 ⟨b_11, 8, none⟩ (.int .i64 n_173) fun w_146 =>
                  ST1 w_146 ⟨b_11, 9, none⟩ (.int .i64 n_174) fun w_147 =>
                  ST1 w_147 ⟨b_11, 10, none⟩ (.int .i64 n_175) fun w_148 =>
                  ((
                   KEEP w_148 []) ∧
                   ITE (t_23) (
                    K (.bool false) w_148) (
                    BIND (IntKind.i64.wrap (n_150 + 1)) fun n_176 =>
                    N_2 [v_145, v_146] w_120 [.bool t_20, .int .i64 n_176] w_148)))))))) (
               BIND (IntKind.i64.wrap (n_150 + 1)) fun n_177 =>
               N_2 [v_145, v_146] w_120 [.bool t_20, .int .i64 n_177] w_121)))) (
             K (.bool true) w_120)))))))))))))))))))))
theorem E_l25_TextBlanks (x0 : Int) (x1 : Int) (x2 : Int) (x3 : Int) (x4 : Int) (x5 : Int) (x6 : Int) (x7a : Option Addr) (x7l : Nat) (x7c : Nat) (x8 : Int) (x9 : Int) (x10 : Int) (at_ : Int) (w : World) (K : Value → World → Prop) :
    D_l25_TextBlanks x0 x1 x2 x3 x4 x5 x6 x7a x7l x7c x8 x9 x10 at_ w K = vcFn Pg Tryd.f6 [10, 14, 19] [.agg #[.int .i64 x0, .int .i64 x1, .int .i64 x2, .int .i64 x3, .int .i64 x4, .int .i64 x5, .int .i64 x6, .slice x7a x7l x7c, .int .i64 x8, .int .i64 x9, .int .i64 x10], .int .u16 at_] w K := by kernel_rfl
theorem C_l25_TextBlanks {x0 : Int} {x1 : Int} {x2 : Int} {x3 : Int} {x4 : Int} {x5 : Int} {x6 : Int} {x7a : Option Addr} {x7l : Nat} {x7c : Nat} {x8 : Int} {x9 : Int} {x10 : Int} {at_ : Int} {w : World} {K : Value → World → Prop} (h : D_l25_TextBlanks x0 x1 x2 x3 x4 x5 x6 x7a x7l x7c x8 x9 x10 at_ w K) :
    CALL Pg F_l25_TextBlanks [.agg #[.int .i64 x0, .int .i64 x1, .int .i64 x2, .int .i64 x3, .int .i64 x4, .int .i64 x5, .int .i64 x6, .slice x7a x7l x7c, .int .i64 x8, .int .i64 x9, .int .i64 x10], .int .u16 at_] w K :=
  call_of_vc [10, 14, 19] Tryd.func6 rfl (Nat.le_of_ble_eq_true (by kernel_rfl)) ((E_l25_TextBlanks x0 x1 x2 x3 x4 x5 x6 x7a x7l x7c x8 x9 x10 at_ w K) ▸ h)
def D_l25_TextEnds (x0 : Int) (x1 : Int) (x2 : Int) (x3 : Int) (x4 : Int) (x5 : Int) (x6 : Int) (x7a : Option Addr) (x7l : Nat) (x7c : Nat) (x8 : Int) (x9 : Int) (x10 : Int) (more : ByteArray) (w : World) (K : Value → World → Prop) : Prop :=
  NEW w [.int .i64 x0, .int .i64 x1, .int .i64 x2, .int .i64 x3, .int .i64 x4, .int .i64 x5, .int .i64 x6, .slice x7a x7l x7c, .int .i64 x8, .int .i64 x9, .int .i64 x10] T_text_Line_text_Line fun b_1 w_1 =>
  CALL Pg F_l25_speaks [] w_1 fun v_1 w_2 =>
  BOOLV v_1 fun t_1 =>
  ITE (!t_1) (
   K (.bool false) w_2) (
   JOIN fun J_1 =>
   ((
    JOIN fun J_2 =>
    ((
     LDl w_2 ⟨b_1, 7, none⟩ fun _ l_1 _ =>
     ITE (decide ((↑l_1 : Int) > 60)) (
      J_2 [.bool true] w_2) (
      J_2 [.bool (decide ((↑more.size : Int) > 100))] w_2)) ∧
     ∀ w_3 : World,
     ∀ v_2 : Value,
     (J_2 [v_2] w_3 →
     BOOLV v_2 fun t_2 =>
     ITE (t_2) (
      K (.bool true) w_3) (
      J_1 [.bool false] w_3)))) ∧
    ∀ w_4 : World,
    ∀ v_3 : Value,
    (J_1 [v_3] w_4 →
    BOOLV v_3 fun t_3 =>
    LDi .i64 w_4 ⟨b_1, 0, none⟩ fun n_1 =>
    LDi .i64 w_4 ⟨b_1, 1, none⟩ fun n_2 =>
    LDi .i64 w_4 ⟨b_1, 2, none⟩ fun n_3 =>
    LDi .i64 w_4 ⟨b_1, 3, none⟩ fun n_4 =>
    LDi .i64 w_4 ⟨b_1, 4, none⟩ fun n_5 =>
    LDi .i64 w_4 ⟨b_1, 5, none⟩ fun n_6 =>
    LDi .i64 w_4 ⟨b_1, 6, none⟩ fun n_7 =>
    LDl w_4 ⟨b_1, 7, none⟩ fun a_2 l_2 c_2 =>
    LDi .i64 w_4 ⟨b_1, 8, none⟩ fun n_8 =>
    LDi .i64 w_4 ⟨b_1, 9, none⟩ fun n_9 =>
    LDi .i64 w_4 ⟨b_1, 10, none⟩ fun n_10 =>
    CALL Pg F_text_Text [.agg #[.int .i64 n_1, .int .i64 n_2, .int .i64 n_3, .int .i64 n_4, .int .i64 n_5, .int .i64 n_6, .int .i64 n_7, .slice a_2 l_2 c_2, .int .i64 n_8, .int .i64 n_9, .int .i64 n_10]] w_4 fun v_4 w_5 =>
    STRV v_4 fun s_1 =>
    JOIN fun J_3 =>
    ((
     JOIN fun J_4 =>
     ((
      ITE (s_1 == { data := #[] }) (
       J_4 [.bool true] w_5) (
       J_4 [.bool (more == { data := #[] })] w_5)) ∧
      ∀ w_6 : World,
      ∀ v_5 : Value,
      (J_4 [v_5] w_6 →
      BOOLV v_5 fun t_4 =>
      ITE (t_4) (
       JOIN fun J_5 =>
       ((
        ITE (s_1 == { data := #[] }) (
         J_5 [.bool true] w_6) (
         LDi .i64 w_6 ⟨b_1, 0, none⟩ fun n_11 =>
         LDi .i64 w_6 ⟨b_1, 1, none⟩ fun n_12 =>
         LDi .i64 w_6 ⟨b_1, 2, none⟩ fun n_13 =>
         LDi .i64 w_6 ⟨b_1, 3, none⟩ fun n_14 =>
         LDi .i64 w_6 ⟨b_1, 4, none⟩ fun n_15 =>
         LDi .i64 w_6 ⟨b_1, 5, none⟩ fun n_16 =>
         LDi .i64 w_6 ⟨b_1, 6, none⟩ fun n_17 =>
         LDl w_6 ⟨b_1, 7, none⟩ fun a_3 l_3 c_3 =>
         LDi .i64 w_6 ⟨b_1, 8, none⟩ fun n_18 =>
         LDi .i64 w_6 ⟨b_1, 9, none⟩ fun n_19 =>
         LDi .i64 w_6 ⟨b_1, 10, none⟩ fun n_20 =>
         LDi .i64 w_6 ⟨b_1, 0, none⟩ fun n_21 =>
         LDi .i64 w_6 ⟨b_1, 1, none⟩ fun n_22 =>
         LDi .i64 w_6 ⟨b_1, 2, none⟩ fun n_23 =>
         LDi .i64 w_6 ⟨b_1, 3, none⟩ fun n_24 =>
         LDi .i64 w_6 ⟨b_1, 4, none⟩ fun n_25 =>
         LDi .i64 w_6 ⟨b_1, 5, none⟩ fun n_26 =>
         LDi .i64 w_6 ⟨b_1, 6, none⟩ fun n_27 =>
         LDl w_6 ⟨b_1, 7, none⟩ fun a_4 l_4 c_4 =>
         LDi .i64 w_6 ⟨b_1, 8, none⟩ fun n_28 =>
         LDi .i64 w_6 ⟨b_1, 9, none⟩ fun n_29 =>
         LDi .i64 w_6 ⟨b_1, 10, none⟩ fun n_30 =>
         CALL Pg F_l25_same [.agg #[.int .i64 n_11, .int .i64 n_12, .int .i64 n_13, .int .i64 n_14, .int .i64 n_15, .int .i64 n_16, .int .i64 n_17, .slice a_3 l_3 c_3, .int .i64 n_18, .int .i64 n_19, .int .i64 n_20], .agg #[.int .i64 n_21, .int .i64 n_22, .int .i64 n_23, .int .i64 n_24, .int .i64 n_25, .int .i64 n_26, .int .i64 n_27, .slice a_4 l_4 c_4, .int .i64 n_28, .int .i64 n_29, .int .i64 n_30]] w_6 fun v_6 w_7 =>
         BOOLV v_6 fun t_5 =>
         J_5 [.bool t_5] w_7)) ∧
        ∀ w_8 : World,
        ∀ v_7 : Value,
        (J_5 [v_7] w_8 →
        BOOLV v_7 fun t_6 =>
        K (.bool t_6) w_8))) (
       J_3 [.bool t_3] w_6)))) ∧
     ∀ w_9 : World,
     ∀ v_8 : Value,
     (J_3 [v_8] w_9 →
     BOOLV v_8 fun _ =>
     SILN Pg (binE BinOp.add T_string (Operand.tmp 36) (Operand.const (.string { data := #[32] })) (.string s_1) (.string { data := #[32] })) fun v_9 =>
     STRV v_9 fun s_2 =>
     SILN Pg (binE BinOp.add T_string (Operand.tmp 37) (Operand.tmp 38) (.string s_2) (.string more)) fun v_10 =>
     STRV v_10 fun s_3 =>
     CALL Pg F_text_Parse [.string s_3] w_9 fun v_11 w_10 =>
     TUPV v_11 fun cs_1 =>
     GETV cs_1 0 fun v_12 =>
     AGGV v_12 fun cs_2 =>
     GETV cs_2 0 fun v_13 =>
     INTV .i64 v_13 fun n_31 =>
     GETV cs_2 1 fun v_14 =>
     INTV .i64 v_14 fun n_32 =>
     GETV cs_2 2 fun v_15 =>
     INTV .i64 v_15 fun n_33 =>
     GETV cs_2 3 fun v_16 =>
     INTV .i64 v_16 fun n_34 =>
     GETV cs_2 4 fun v_17 =>
     INTV .i64 v_17 fun n_35 =>
     GETV cs_2 5 fun v_18 =>
     INTV .i64 v_18 fun n_36 =>
     GETV cs_2 6 fun v_19 =>
     INTV .i64 v_19 fun n_37 =>
     GETV cs_2 7 fun v_20 =>
     SLV v_20 fun a_5 l_5 c_5 =>
     GETV cs_2 8 fun v_21 =>
     INTV .i64 v_21 fun n_38 =>
     GETV cs_2 9 fun v_22 =>
     INTV .i64 v_22 fun n_39 =>
     GETV cs_2 10 fun v_23 =>
     INTV .i64 v_23 fun n_40 =>
     LEN cs_2 11 (
     GETV cs_1 1 fun v_24 =>
     BOOLV v_24 fun t_8 =>
     LEN cs_1 2 (
     NEW w_10 [.int .i64 0, .int .i64 0, .int .i64 0, .int .i64 0, .int .i64 0, .int .i64 0, .int .i64 0, .slice none 0 0, .int .i64 0, .int .i64 0, .int .i64 0] T_text_Line_text_Line fun b_2 w_11 =>
     ST1 w_11 ⟨b_2, 0, none⟩ (.int .i64 n_31) fun w_12 =>
     ST1 w_12 ⟨b_2, 1, none⟩ (.int .i64 n_32) fun w_13 =>
     ST1 w_13 ⟨b_2, 2, none⟩ (.int .i64 n_33) fun w_14 =>
     ST1 w_14 ⟨b_2, 3, none⟩ (.int .i64 n_34) fun w_15 =>
     ST1 w_15 ⟨b_2, 4, none⟩ (.int .i64 n_35) fun w_16 =>
     ST1 w_16 ⟨b_2, 5, none⟩ (.int .i64 n_36) fun w_17 =>
     ST1 w_17 ⟨b_2, 6, none⟩ (.int .i64 n_37) fun w_18 =>
     ST1 w_18 ⟨b_2, 7, none⟩ (.slice a_5 l_5 c_5) fun w_19 =>
     ST1 w_19 ⟨b_2, 8, none⟩ (.int .i64 n_38) fun w_20 =>
     ST1 w_20 ⟨b_2, 9, none⟩ (.int .i64 n_39) fun w_21 =>
     ST1 w_21 ⟨b_2, 10, none⟩ (.int .i64 n_40) fun w_22 =>
     JOIN fun J_6 =>
     ((
      ITE (!t_8) (
       J_6 [.bool true] w_22) (
       LDi .i64 w_22 ⟨b_1, 0, none⟩ fun n_41 =>
       ITE (n_41 == 1) (
        LDi .i64 w_22 ⟨b_1, 0, none⟩ fun n_42 =>
        LDi .i64 w_22 ⟨b_1, 1, none⟩ fun n_43 =>
        LDi .i64 w_22 ⟨b_1, 2, none⟩ fun n_44 =>
        LDi .i64 w_22 ⟨b_1, 3, none⟩ fun n_45 =>
        LDi .i64 w_22 ⟨b_1, 4, none⟩ fun n_46 =>
        LDi .i64 w_22 ⟨b_1, 5, none⟩ fun n_47 =>
        LDi .i64 w_22 ⟨b_1, 6, none⟩ fun n_48 =>
        LDl w_22 ⟨b_1, 7, none⟩ fun a_6 l_6 c_6 =>
        LDi .i64 w_22 ⟨b_1, 8, none⟩ fun n_49 =>
        LDi .i64 w_22 ⟨b_1, 9, none⟩ fun n_50 =>
        LDi .i64 w_22 ⟨b_1, 10, none⟩ fun n_51 =>
        LDi .i64 w_22 ⟨b_2, 0, none⟩ fun n_52 =>
        LDi .i64 w_22 ⟨b_2, 1, none⟩ fun n_53 =>
        LDi .i64 w_22 ⟨b_2, 2, none⟩ fun n_54 =>
        LDi .i64 w_22 ⟨b_2, 3, none⟩ fun n_55 =>
        LDi .i64 w_22 ⟨b_2, 4, none⟩ fun n_56 =>
        LDi .i64 w_22 ⟨b_2, 5, none⟩ fun n_57 =>
        LDi .i64 w_22 ⟨b_2, 6, none⟩ fun n_58 =>
        LDl w_22 ⟨b_2, 7, none⟩ fun a_7 l_7 c_7 =>
        LDi .i64 w_22 ⟨b_2, 8, none⟩ fun n_59 =>
        LDi .i64 w_22 ⟨b_2, 9, none⟩ fun n_60 =>
        LDi .i64 w_22 ⟨b_2, 10, none⟩ fun n_61 =>
        CALL Pg F_l25_same [.agg #[.int .i64 n_42, .int .i64 n_43, .int .i64 n_44, .int .i64 n_45, .int .i64 n_46, .int .i64 n_47, .int .i64 n_48, .slice a_6 l_6 c_6, .int .i64 n_49, .int .i64 n_50, .int .i64 n_51], .agg #[.int .i64 n_52, .int .i64 n_53, .int .i64 n_54, .int .i64 n_55, .int .i64 n_56, .int .i64 n_57, .int .i64 n_58, .slice a_7 l_7 c_7, .int .i64 n_59, .int .i64 n_60, .int .i64 n_61]] w_22 fun v_25 w_23 =>
        BOOLV v_25 fun t_9 =>
        J_6 [.bool !t_9] w_23) (
        J_6 [.bool false] w_22))) ∧
      ∀ w_24 : World,
      ∀ v_26 : Value,
      (J_6 [v_26] w_24 →
      BOOLV v_26 fun t_10 =>
      K (.bool t_10) w_24)))))))))
theorem E_l25_TextEnds (x0 : Int) (x1 : Int) (x2 : Int) (x3 : Int) (x4 : Int) (x5 : Int) (x6 : Int) (x7a : Option Addr) (x7l : Nat) (x7c : Nat) (x8 : Int) (x9 : Int) (x10 : Int) (more : ByteArray) (w : World) (K : Value → World → Prop) :
    D_l25_TextEnds x0 x1 x2 x3 x4 x5 x6 x7a x7l x7c x8 x9 x10 more w K = vcFn Pg Tryd.f7 [3, 6, 7, 9] [.agg #[.int .i64 x0, .int .i64 x1, .int .i64 x2, .int .i64 x3, .int .i64 x4, .int .i64 x5, .int .i64 x6, .slice x7a x7l x7c, .int .i64 x8, .int .i64 x9, .int .i64 x10], .string more] w K := by kernel_rfl
theorem C_l25_TextEnds {x0 : Int} {x1 : Int} {x2 : Int} {x3 : Int} {x4 : Int} {x5 : Int} {x6 : Int} {x7a : Option Addr} {x7l : Nat} {x7c : Nat} {x8 : Int} {x9 : Int} {x10 : Int} {more : ByteArray} {w : World} {K : Value → World → Prop} (h : D_l25_TextEnds x0 x1 x2 x3 x4 x5 x6 x7a x7l x7c x8 x9 x10 more w K) :
    CALL Pg F_l25_TextEnds [.agg #[.int .i64 x0, .int .i64 x1, .int .i64 x2, .int .i64 x3, .int .i64 x4, .int .i64 x5, .int .i64 x6, .slice x7a x7l x7c, .int .i64 x8, .int .i64 x9, .int .i64 x10], .string more] w K :=
  call_of_vc [3, 6, 7, 9] Tryd.func7 rfl (Nat.le_of_ble_eq_true (by kernel_rfl)) ((E_l25_TextEnds x0 x1 x2 x3 x4 x5 x6 x7a x7l x7c x8 x9 x10 more w K) ▸ h)

end Go.Proofs.YtmanfmpdmmhbfaaDoor
