/- What the evaluator asks of each function, in readable form: printed by a program of this claim's own. -/
import Derived.Test.YtmanfmpdmmhbfaaDoorN
import Derived.Test.YtmanfmpdmmhbfaaDoorDen
namespace Go.Proofs.YtmanfmpdmmhbfaaDoor
open Go.Den
set_option linter.unusedVariables false
set_option maxRecDepth 1000000
def D_text_Text (x0 : Int) (x1 : Int) (x2 : Int) (x3 : Int) (x4 : Int) (x5 : Int) (x6 : Int) (x7a : Option Addr) (x7l : Nat) (x7c : Nat) (x8 : Int) (x9 : Int) (x10 : Int) (w : World) (K : Value → World → Prop) : Prop :=
  NEW w [.int .i64 x0, .int .i64 x1, .int .i64 x2, .int .i64 x3, .int .i64 x4, .int .i64 x5, .int .i64 x6, .slice x7a x7l x7c, .int .i64 x8, .int .i64 x9, .int .i64 x10] T_text_Line_text_Line fun b_1 w_1 =>
  DRAW w_1 fun w_2 =>
  LDi .i64 w_2 ⟨b_1, 0, none⟩ fun n_1 =>
  ITE (decide (n_1 < 1)) (
   K (.string { data := #[] }) w_2) (
   LDi .i64 w_2 ⟨b_1, 0, none⟩ fun n_2 =>
   CALL Pg F_text_names [] w_2 fun v_1 w_3 =>
   AGGV v_1 fun cs_1 =>
   GETV cs_1 0 fun v_2 =>
   STRV v_2 fun _ =>
   GETV cs_1 1 fun v_3 =>
   STRV v_3 fun _ =>
   GETV cs_1 2 fun v_4 =>
   STRV v_4 fun _ =>
   GETV cs_1 3 fun v_5 =>
   STRV v_5 fun _ =>
   GETV cs_1 4 fun v_6 =>
   STRV v_6 fun _ =>
   GETV cs_1 5 fun v_7 =>
   STRV v_7 fun _ =>
   GETV cs_1 6 fun v_8 =>
   STRV v_8 fun _ =>
   GETV cs_1 7 fun v_9 =>
   STRV v_9 fun _ =>
   GETV cs_1 8 fun v_10 =>
   STRV v_10 fun _ =>
   GETV cs_1 9 fun v_11 =>
   STRV v_11 fun _ =>
   GETV cs_1 10 fun v_12 =>
   STRV v_12 fun _ =>
   LEN cs_1 11 (
   ((
    KEEP w_3 [Fact.cell ⟨b_1, 0, none⟩ (.int .i64 n_2)]) ∧
    ITE (decide (n_2 ≥ 11)) (
     K (.string { data := #[] }) w_3) (
     DRAW w_3 fun w_4 =>
     LDi .i64 w_4 ⟨b_1, 0, none⟩ fun n_3 =>
     CALL Pg F_text_names [] w_4 fun v_13 w_5 =>
     AGGV v_13 fun cs_2 =>
     GETV cs_2 0 fun v_14 =>
     STRV v_14 fun s_12 =>
     GETV cs_2 1 fun v_15 =>
     STRV v_15 fun s_13 =>
     GETV cs_2 2 fun v_16 =>
     STRV v_16 fun s_14 =>
     GETV cs_2 3 fun v_17 =>
     STRV v_17 fun s_15 =>
     GETV cs_2 4 fun v_18 =>
     STRV v_18 fun s_16 =>
     GETV cs_2 5 fun v_19 =>
     STRV v_19 fun s_17 =>
     GETV cs_2 6 fun v_20 =>
     STRV v_20 fun s_18 =>
     GETV cs_2 7 fun v_21 =>
     STRV v_21 fun s_19 =>
     GETV cs_2 8 fun v_22 =>
     STRV v_22 fun s_20 =>
     GETV cs_2 9 fun v_23 =>
     STRV v_23 fun s_21 =>
     GETV cs_2 10 fun v_24 =>
     STRV v_24 fun s_22 =>
     LEN cs_2 11 (
     ((
      KEEP w_5 [Fact.cell ⟨b_1, 0, none⟩ (.int .i64 n_3)]) ∧
      SILN Pg (Instr.index T_11_string (.agg #[.string s_12, .string s_13, .string s_14, .string s_15, .string s_16, .string s_17, .string s_18, .string s_19, .string s_20, .string s_21, .string s_22]) (.int .i64 n_3)) fun v_25 =>
      STRV v_25 fun s_23 =>
      JOIN fun J_1 =>
      ((
       JOIN fun J_2 =>
       ((
        LDi .i64 w_5 ⟨b_1, 0, none⟩ fun n_4 =>
        J_2 [.int .i64 n_4] w_5) ∧
        ∀ w_6 : World,
        ∀ v_26 : Value,
        (J_2 [v_26] w_6 →
        INTV .i64 v_26 fun n_5 =>
        ITE (n_5 == 1) (
         DRAW w_6 fun w_7 =>
         LDi .i64 w_7 ⟨b_1, 3, none⟩ fun n_6 =>
         LDi .i64 w_7 ⟨b_1, 4, none⟩ fun n_7 =>
         LDi .i64 w_7 ⟨b_1, 5, none⟩ fun n_8 =>
         LDi .i64 w_7 ⟨b_1, 6, none⟩ fun n_9 =>
         LDl w_7 ⟨b_1, 7, none⟩ fun a_1 l_1 c_1 =>
         NEW w_7 [.int .i64 n_6, .int .i64 n_7, .int .i64 n_8, .int .i64 n_9] T_int fun b_2 w_8 =>
         ((
          KEEP w_8 [Fact.cell ⟨b_1, 7, none⟩ (.slice a_1 l_1 c_1)]) ∧
          CALL Pg F_text_row [.slice (some ⟨b_2, 0, none⟩) 4 4] w_8 fun v_27 w_9 =>
          STRV v_27 fun s_24 =>
          ((
           KEEP w_9 [Fact.cell ⟨b_1, 7, none⟩ (.slice a_1 l_1 c_1)]) ∧
           CALL Pg F_text_row [.slice a_1 l_1 c_1] w_9 fun v_28 w_10 =>
           STRV v_28 fun s_25 =>
           ((
            KEEP w_10 []) ∧
            SILN Pg (binE BinOp.add T_string (Operand.tmp 38) (Operand.tmp 42) (.string s_24) (.string s_25)) fun v_29 =>
            STRV v_29 fun s_26 =>
            SILN Pg (binE BinOp.add T_string (Operand.tmp 24) (Operand.tmp 43) (.string s_23) (.string s_26)) fun v_30 =>
            STRV v_30 fun s_27 =>
            J_1 [.string s_27, .string { data := #[] }] w_10)))) (
         ITE (n_5 == 2) (
          LDi .i64 w_6 ⟨b_1, 8, none⟩ fun n_10 =>
          ITE (decide (n_10 < 1)) (
           K (.string { data := #[] }) w_6) (
           LDi .i64 w_6 ⟨b_1, 8, none⟩ fun n_11 =>
           ITE (decide (n_11 > 3)) (
            K (.string { data := #[] }) w_6) (
            DRAW w_6 fun w_11 =>
            LDi .i64 w_11 ⟨b_1, 1, none⟩ fun n_12 =>
            LDi .i64 w_11 ⟨b_1, 8, none⟩ fun n_13 =>
            NEW w_11 [.int .i64 n_12] T_int fun b_3 w_12 =>
            ((
             KEEP w_12 [Fact.cell ⟨b_1, 8, none⟩ (.int .i64 n_13)]) ∧
             CALL Pg F_text_row [.slice (some ⟨b_3, 0, none⟩) 1 1] w_12 fun v_31 w_13 =>
             STRV v_31 fun s_28 =>
             ((
              KEEP w_13 [Fact.cell ⟨b_1, 8, none⟩ (.int .i64 n_13)]) ∧
              SILN Pg (binE BinOp.add T_string (Operand.tmp 61) (Operand.const (.string { data := #[32] })) (.string s_28) (.string { data := #[32] })) fun v_32 =>
              STRV v_32 fun s_29 =>
              CALL Pg F_text_kinds [] w_13 fun v_33 w_14 =>
              AGGV v_33 fun cs_3 =>
              GETV cs_3 0 fun v_34 =>
              STRV v_34 fun s_30 =>
              GETV cs_3 1 fun v_35 =>
              STRV v_35 fun s_31 =>
              GETV cs_3 2 fun v_36 =>
              STRV v_36 fun s_32 =>
              GETV cs_3 3 fun v_37 =>
              STRV v_37 fun s_33 =>
              LEN cs_3 4 (
              ((
               KEEP w_14 [Fact.cell ⟨b_1, 8, none⟩ (.int .i64 n_13)]) ∧
               SILN Pg (Instr.index T_4_string (.agg #[.string s_30, .string s_31, .string s_32, .string s_33]) (.int .i64 n_13)) fun v_38 =>
               STRV v_38 fun s_34 =>
               SILN Pg (binE BinOp.add T_string (Operand.tmp 62) (Operand.tmp 67) (.string s_29) (.string s_34)) fun v_39 =>
               STRV v_39 fun s_35 =>
               SILN Pg (binE BinOp.add T_string (Operand.tmp 68) (Operand.const (.string { data := #[32] })) (.string s_35) (.string { data := #[32] })) fun v_40 =>
               STRV v_40 fun s_36 =>
               SILN Pg (binE BinOp.add T_string (Operand.tmp 57) (Operand.tmp 69) (.string s_23) (.string s_36)) fun v_41 =>
               STRV v_41 fun s_37 =>
               LDi .i64 w_14 ⟨b_1, 10, none⟩ fun n_14 =>
               ITE (decide (n_14 > 0)) (
                LDi .i64 w_14 ⟨b_1, 10, none⟩ fun n_15 =>
                CALL Pg F_strconv_Itoa [.int .i64 n_15] w_14 fun v_42 w_15 =>
                STRV v_42 fun s_38 =>
                SILN Pg (binE BinOp.add T_string (Operand.const (.string { data := #[35] })) (Operand.tmp 77) (.string { data := #[35] }) (.string s_38)) fun v_43 =>
                STRV v_43 fun s_39 =>
                SILN Pg (binE BinOp.add T_string (Operand.tmp 74) (Operand.tmp 78) (.string s_37) (.string s_39)) fun v_44 =>
                STRV v_44 fun s_40 =>
                J_1 [.string s_40, .string { data := #[] }] w_15) (
                LDi .i64 w_14 ⟨b_1, 9, none⟩ fun n_16 =>
                CALL Pg F_strconv_Itoa [.int .i64 n_16] w_14 fun v_45 w_16 =>
                STRV v_45 fun s_41 =>
                SILN Pg (binE BinOp.add T_string (Operand.tmp 80) (Operand.tmp 84) (.string s_37) (.string s_41)) fun v_46 =>
                STRV v_46 fun s_42 =>
                J_1 [.string s_42, .string { data := #[] }] w_16)))))))) (
          ITE (n_5 == 3) (
           LDi .i64 w_6 ⟨b_1, 1, none⟩ fun n_17 =>
           LDi .i64 w_6 ⟨b_1, 2, none⟩ fun n_18 =>
           NEW w_6 [.int .i64 n_17, .int .i64 n_18] T_int fun b_4 w_17 =>
           CALL Pg F_text_row [.slice (some ⟨b_4, 0, none⟩) 2 2] w_17 fun v_47 w_18 =>
           STRV v_47 fun s_43 =>
           SILN Pg (binE BinOp.add T_string (Operand.tmp 88) (Operand.tmp 94) (.string s_23) (.string s_43)) fun v_48 =>
           STRV v_48 fun s_44 =>
           J_1 [.string s_44, .string { data := #[] }] w_18) (
           ITE (n_5 == 4) (
            LDi .i64 w_6 ⟨b_1, 2, none⟩ fun n_19 =>
            NEW w_6 [.int .i64 n_19] T_int fun b_5 w_19 =>
            CALL Pg F_text_row [.slice (some ⟨b_5, 0, none⟩) 1 1] w_19 fun v_49 w_20 =>
            STRV v_49 fun s_45 =>
            SILN Pg (binE BinOp.add T_string (Operand.tmp 98) (Operand.tmp 102) (.string s_23) (.string s_45)) fun v_50 =>
            STRV v_50 fun s_46 =>
            J_1 [.string s_46, .string { data := #[] }] w_20) (
            ITE (n_5 == 5) (
             LDi .i64 w_6 ⟨b_1, 1, none⟩ fun n_20 =>
             NEW w_6 [.int .i64 n_20] T_int fun b_6 w_21 =>
             CALL Pg F_text_row [.slice (some ⟨b_6, 0, none⟩) 1 1] w_21 fun v_51 w_22 =>
             STRV v_51 fun s_47 =>
             SILN Pg (binE BinOp.add T_string (Operand.tmp 106) (Operand.tmp 110) (.string s_23) (.string s_47)) fun v_52 =>
             STRV v_52 fun s_48 =>
             J_1 [.string s_48, .string { data := #[] }] w_22) (
             J_1 [.string s_23, .string { data := #[] }] w_6)))))))) ∧
       ∀ w_23 : World,
       ∀ v_53 : Value,
       ∀ v_54 : Value,
       (J_1 [v_53, v_54] w_23 →
       STRV v_54 fun _ =>
       STRV v_53 fun s_50 =>
       CALL Pg F_text_Parse [.string s_50] w_23 fun v_55 w_24 =>
       TUPV v_55 fun cs_4 =>
       GETV cs_4 0 fun v_56 =>
       AGGV v_56 fun cs_5 =>
       GETV cs_5 0 fun v_57 =>
       INTV .i64 v_57 fun n_21 =>
       GETV cs_5 1 fun v_58 =>
       INTV .i64 v_58 fun n_22 =>
       GETV cs_5 2 fun v_59 =>
       INTV .i64 v_59 fun n_23 =>
       GETV cs_5 3 fun v_60 =>
       INTV .i64 v_60 fun n_24 =>
       GETV cs_5 4 fun v_61 =>
       INTV .i64 v_61 fun n_25 =>
       GETV cs_5 5 fun v_62 =>
       INTV .i64 v_62 fun n_26 =>
       GETV cs_5 6 fun v_63 =>
       INTV .i64 v_63 fun n_27 =>
       GETV cs_5 7 fun v_64 =>
       SLV v_64 fun a_2 l_2 c_2 =>
       GETV cs_5 8 fun v_65 =>
       INTV .i64 v_65 fun n_28 =>
       GETV cs_5 9 fun v_66 =>
       INTV .i64 v_66 fun n_29 =>
       GETV cs_5 10 fun v_67 =>
       INTV .i64 v_67 fun n_30 =>
       LEN cs_5 11 (
       GETV cs_4 1 fun v_68 =>
       BOOLV v_68 fun t_1 =>
       LEN cs_4 2 (
       NEW w_24 [.int .i64 0, .int .i64 0, .int .i64 0, .int .i64 0, .int .i64 0, .int .i64 0, .int .i64 0, .slice none 0 0, .int .i64 0, .int .i64 0, .int .i64 0] T_text_Line_text_Line fun b_7 w_25 =>
       ST1 w_25 ⟨b_7, 0, none⟩ (.int .i64 n_21) fun w_26 =>
       ST1 w_26 ⟨b_7, 1, none⟩ (.int .i64 n_22) fun w_27 =>
       ST1 w_27 ⟨b_7, 2, none⟩ (.int .i64 n_23) fun w_28 =>
       ST1 w_28 ⟨b_7, 3, none⟩ (.int .i64 n_24) fun w_29 =>
       ST1 w_29 ⟨b_7, 4, none⟩ (.int .i64 n_25) fun w_30 =>
       ST1 w_30 ⟨b_7, 5, none⟩ (.int .i64 n_26) fun w_31 =>
       ST1 w_31 ⟨b_7, 6, none⟩ (.int .i64 n_27) fun w_32 =>
       ST1 w_32 ⟨b_7, 7, none⟩ (.slice a_2 l_2 c_2) fun w_33 =>
       ST1 w_33 ⟨b_7, 8, none⟩ (.int .i64 n_28) fun w_34 =>
       ST1 w_34 ⟨b_7, 9, none⟩ (.int .i64 n_29) fun w_35 =>
       ST1 w_35 ⟨b_7, 10, none⟩ (.int .i64 n_30) fun w_36 =>
       ITE (!t_1) (
        K (.string { data := #[] }) w_36) (
        LDi .i64 w_36 ⟨b_1, 0, none⟩ fun n_31 =>
        LDi .i64 w_36 ⟨b_1, 1, none⟩ fun n_32 =>
        LDi .i64 w_36 ⟨b_1, 2, none⟩ fun n_33 =>
        LDi .i64 w_36 ⟨b_1, 3, none⟩ fun n_34 =>
        LDi .i64 w_36 ⟨b_1, 4, none⟩ fun n_35 =>
        LDi .i64 w_36 ⟨b_1, 5, none⟩ fun n_36 =>
        LDi .i64 w_36 ⟨b_1, 6, none⟩ fun n_37 =>
        LDl w_36 ⟨b_1, 7, none⟩ fun a_3 l_3 c_3 =>
        LDi .i64 w_36 ⟨b_1, 8, none⟩ fun n_38 =>
        LDi .i64 w_36 ⟨b_1, 9, none⟩ fun n_39 =>
        LDi .i64 w_36 ⟨b_1, 10, none⟩ fun n_40 =>
        LDi .i64 w_36 ⟨b_7, 0, none⟩ fun n_41 =>
        LDi .i64 w_36 ⟨b_7, 1, none⟩ fun n_42 =>
        LDi .i64 w_36 ⟨b_7, 2, none⟩ fun n_43 =>
        LDi .i64 w_36 ⟨b_7, 3, none⟩ fun n_44 =>
        LDi .i64 w_36 ⟨b_7, 4, none⟩ fun n_45 =>
        LDi .i64 w_36 ⟨b_7, 5, none⟩ fun n_46 =>
        LDi .i64 w_36 ⟨b_7, 6, none⟩ fun n_47 =>
        LDl w_36 ⟨b_7, 7, none⟩ fun a_4 l_4 c_4 =>
        LDi .i64 w_36 ⟨b_7, 8, none⟩ fun n_48 =>
        LDi .i64 w_36 ⟨b_7, 9, none⟩ fun n_49 =>
        LDi .i64 w_36 ⟨b_7, 10, none⟩ fun n_50 =>
        CALL Pg F_text_Same [.agg #[.int .i64 n_31, .int .i64 n_32, .int .i64 n_33, .int .i64 n_34, .int .i64 n_35, .int .i64 n_36, .int .i64 n_37, .slice a_3 l_3 c_3, .int .i64 n_38, .int .i64 n_39, .int .i64 n_40], .agg #[.int .i64 n_41, .int .i64 n_42, .int .i64 n_43, .int .i64 n_44, .int .i64 n_45, .int .i64 n_46, .int .i64 n_47, .slice a_4 l_4 c_4, .int .i64 n_48, .int .i64 n_49, .int .i64 n_50]] w_36 fun v_69 w_37 =>
        BOOLV v_69 fun t_2 =>
        ITE (!t_2) (
         K (.string { data := #[] }) w_37) (
         K (.string s_50) w_37))))))))))))
theorem E_text_Text (x0 : Int) (x1 : Int) (x2 : Int) (x3 : Int) (x4 : Int) (x5 : Int) (x6 : Int) (x7a : Option Addr) (x7l : Nat) (x7c : Nat) (x8 : Int) (x9 : Int) (x10 : Int) (w : World) (K : Value → World → Prop) :
    D_text_Text x0 x1 x2 x3 x4 x5 x6 x7a x7l x7c x8 x9 x10 w K = vcFn Pg Tryd.f13 [4] [.agg #[.int .i64 x0, .int .i64 x1, .int .i64 x2, .int .i64 x3, .int .i64 x4, .int .i64 x5, .int .i64 x6, .slice x7a x7l x7c, .int .i64 x8, .int .i64 x9, .int .i64 x10]] w K := by kernel_rfl
theorem C_text_Text {x0 : Int} {x1 : Int} {x2 : Int} {x3 : Int} {x4 : Int} {x5 : Int} {x6 : Int} {x7a : Option Addr} {x7l : Nat} {x7c : Nat} {x8 : Int} {x9 : Int} {x10 : Int} {w : World} {K : Value → World → Prop} (h : D_text_Text x0 x1 x2 x3 x4 x5 x6 x7a x7l x7c x8 x9 x10 w K) :
    CALL Pg F_text_Text [.agg #[.int .i64 x0, .int .i64 x1, .int .i64 x2, .int .i64 x3, .int .i64 x4, .int .i64 x5, .int .i64 x6, .slice x7a x7l x7c, .int .i64 x8, .int .i64 x9, .int .i64 x10]] w K :=
  call_of_vc [4] Tryd.func13 rfl (Nat.le_of_ble_eq_true (by kernel_rfl)) ((E_text_Text x0 x1 x2 x3 x4 x5 x6 x7a x7l x7c x8 x9 x10 w K) ▸ h)

end Go.Proofs.YtmanfmpdmmhbfaaDoor
