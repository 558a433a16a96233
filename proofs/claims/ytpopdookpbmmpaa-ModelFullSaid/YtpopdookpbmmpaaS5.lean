/- What the evaluator asks of each function, in readable form: printed by a program of this claim's own. -/
import Derived.Test.YtpopdookpbmmpaaN
import Derived.Test.YtpopdookpbmmpaaDen
namespace Go.Proofs.Ytpopdookpbmmpaa
open Go.Den
set_option linter.unusedVariables false
set_option maxRecDepth 1000000
def D_l06_SpanDoes (la : Option Addr) (ll : Nat) (lc : Nat) (w : World) (K : Value → World → Prop) : Prop :=
  CALL Pg F_l06_speaks [] w fun v_1 w_1 =>
  BOOLV v_1 fun t_1 =>
  ITE (!t_1) (
   K (.bool false) w_1) (
   ITE (decide ((↑ll : Int) > 100)) (
    K (.bool true) w_1) (
    NEW w_1 [.slice none 0 0] T_span_Map_span_Map fun b_1 w_2 =>
    LOOP [.slice none 0 0, .bool false, .int .i64 0] w_2 fun I_1 N_1 =>
    ∀ w_3 : World,
    ∀ v_2 : Value,
    ∀ v_3 : Value,
    ∀ v_4 : Value,
    (I_1 [v_2, v_3, v_4] w_3 →
    INTV .i64 v_4 fun n_1 =>
    BOOLV v_3 fun t_2 =>
    SLV v_2 fun a_1 l_1 c_1 =>
    ITE (decide (n_1 < (↑ll : Int))) (
     IDX la ll n_1 3 fun b_2 o_1 =>
     LDi .i64 w_3 ⟨b_2, o_1, none⟩ fun n_2 =>
     LDi .i64 w_3 ⟨b_2, o_1 + 1, none⟩ fun n_3 =>
     LDi .i64 w_3 ⟨b_2, o_1 + 2, none⟩ fun n_4 =>
     NEW w_3 [.int .i64 0, .int .i64 0, .int .i64 0] T_chandlerylaw06_Op_l06_Op fun b_3 w_4 =>
     ST1 w_4 ⟨b_3, 0, none⟩ (.int .i64 n_2) fun w_5 =>
     ST1 w_5 ⟨b_3, 1, none⟩ (.int .i64 n_3) fun w_6 =>
     ST1 w_6 ⟨b_3, 2, none⟩ (.int .i64 n_4) fun w_7 =>
     LDi .i64 w_7 ⟨b_3, 1, none⟩ fun n_5 =>
     LDi .i64 w_7 ⟨b_3, 2, none⟩ fun n_6 =>
     CALL Pg F_l06_far [.agg #[.int .i64 n_5, .int .i64 n_6]] w_7 fun v_5 w_8 =>
     BOOLV v_5 fun t_3 =>
     ITE (t_3) (
      BIND (IntKind.i64.wrap (n_1 + 1)) fun n_7 =>
      N_1 [v_2, v_3, v_4] w_3 [.slice a_1 l_1 c_1, .bool t_2, .int .i64 n_7] w_8) (
      LDi .i64 w_8 ⟨b_3, 1, none⟩ fun n_8 =>
      CALL Pg F_r06_Find [.slice a_1 l_1 c_1, .int .i64 n_8] w_8 fun v_6 w_9 =>
      INTV .i64 v_6 fun n_9 =>
      NEW w_9 [.int .i64 0, .int .i64 0] T_api_Interval_api_Interval fun b_4 w_10 =>
      NEW w_10 [.int .i64 0, .int .i64 0] T_api_Interval_api_Interval fun b_5 w_11 =>
      JOIN fun J_1 =>
      ((
       JOIN fun J_2 =>
       ((
        ITE (decide (n_9 ≥ 0)) (
         LDi .i64 w_11 ⟨b_3, 0, none⟩ fun n_10 =>
         ITE (n_10 == 1) (
          J_2 [.bool true] w_11) (
          LDi .i64 w_11 ⟨b_3, 0, none⟩ fun n_11 =>
          J_2 [.bool (n_11 == 2)] w_11)) (
         J_2 [.bool false] w_11)) ∧
        ∀ w_12 : World,
        ∀ v_7 : Value,
        (J_2 [v_7] w_12 →
        BOOLV v_7 fun t_4 =>
        ITE (t_4) (
         IDX a_1 l_1 n_9 2 fun b_6 o_2 =>
         LDi .i64 w_12 ⟨b_6, o_2, none⟩ fun n_12 =>
         LDi .i64 w_12 ⟨b_6, o_2 + 1, none⟩ fun n_13 =>
         ST1 w_12 ⟨b_5, 0, none⟩ (.int .i64 n_12) fun w_13 =>
         ST1 w_13 ⟨b_5, 1, none⟩ (.int .i64 n_13) fun w_14 =>
         J_1 [] w_14) (
         J_1 [] w_12)))) ∧
       ∀ w_15 : World,
       (J_1 [] w_15 →
       JOIN fun J_3 =>
       ((
        JOIN fun J_4 =>
        ((
         LDi .i64 w_15 ⟨b_3, 0, none⟩ fun n_14 =>
         J_4 [.int .i64 n_14] w_15) ∧
         ∀ w_16 : World,
         ∀ v_8 : Value,
         (J_4 [v_8] w_16 →
         INTV .i64 v_8 fun n_15 =>
         ITE (n_15 == 0) (
          LDi .i64 w_16 ⟨b_3, 1, none⟩ fun n_16 =>
          LDi .i64 w_16 ⟨b_3, 2, none⟩ fun n_17 =>
          CALL Pg F_pspan_Map_Put [.pointer (some ⟨b_1, 0, none⟩), .agg #[.int .i64 n_16, .int .i64 n_17]] w_16 fun v_9 w_17 =>
          BOOLV v_9 fun t_5 =>
          LDi .i64 w_17 ⟨b_3, 1, none⟩ fun n_18 =>
          LDi .i64 w_17 ⟨b_3, 2, none⟩ fun n_19 =>
          CALL Pg F_r06_Put [.slice a_1 l_1 c_1, .agg #[.int .i64 n_18, .int .i64 n_19]] w_17 fun v_10 w_18 =>
          TUPV v_10 fun cs_1 =>
          GETV cs_1 0 fun v_11 =>
          SLV v_11 fun a_2 l_2 c_2 =>
          GETV cs_1 1 fun v_12 =>
          BOOLV v_12 fun t_6 =>
          LEN cs_1 2 (
          J_3 [.bool t_5, .slice a_2 l_2 c_2, .bool t_6] w_18)) (
          ITE (n_15 == 1) (
           LDi .i64 w_16 ⟨b_3, 1, none⟩ fun n_20 =>
           CALL Pg F_pspan_Map_Drop [.pointer (some ⟨b_1, 0, none⟩), .int .i64 n_20] w_16 fun v_13 w_19 =>
           TUPV v_13 fun cs_2 =>
           GETV cs_2 0 fun v_14 =>
           AGGV v_14 fun cs_3 =>
           GETV cs_3 0 fun v_15 =>
           INTV .i64 v_15 fun n_21 =>
           GETV cs_3 1 fun v_16 =>
           INTV .i64 v_16 fun n_22 =>
           LEN cs_3 2 (
           GETV cs_2 1 fun v_17 =>
           BOOLV v_17 fun t_7 =>
           LEN cs_2 2 (
           ST1 w_19 ⟨b_4, 0, none⟩ (.int .i64 n_21) fun w_20 =>
           ST1 w_20 ⟨b_4, 1, none⟩ (.int .i64 n_22) fun w_21 =>
           LDi .i64 w_21 ⟨b_3, 1, none⟩ fun n_23 =>
           CALL Pg F_r06_Drop [.slice a_1 l_1 c_1, .int .i64 n_23] w_21 fun v_18 w_22 =>
           SLV v_18 fun a_3 l_3 c_3 =>
           J_3 [.bool t_7, .slice a_3 l_3 c_3, .bool (decide (n_9 ≥ 0))] w_22))) (
           ITE (n_15 == 2) (
            LDi .i64 w_16 ⟨b_3, 1, none⟩ fun n_24 =>
            CALL Pg F_pspan_Map_Get [.pointer (some ⟨b_1, 0, none⟩), .int .i64 n_24] w_16 fun v_19 w_23 =>
            TUPV v_19 fun cs_4 =>
            GETV cs_4 0 fun v_20 =>
            AGGV v_20 fun cs_5 =>
            GETV cs_5 0 fun v_21 =>
            INTV .i64 v_21 fun n_25 =>
            GETV cs_5 1 fun v_22 =>
            INTV .i64 v_22 fun n_26 =>
            LEN cs_5 2 (
            GETV cs_4 1 fun v_23 =>
            BOOLV v_23 fun t_8 =>
            LEN cs_4 2 (
            ST1 w_23 ⟨b_4, 0, none⟩ (.int .i64 n_25) fun w_24 =>
            ST1 w_24 ⟨b_4, 1, none⟩ (.int .i64 n_26) fun w_25 =>
            J_3 [.bool t_8, .slice a_1 l_1 c_1, .bool (decide (n_9 ≥ 0))] w_25))) (
            ITE (n_15 == 3) (
             DRAW w_16 fun w_26 =>
             LDi .i64 w_26 ⟨b_3, 1, none⟩ fun n_27 =>
             LDi .i64 w_26 ⟨b_3, 2, none⟩ fun n_28 =>
             LDi .i64 w_26 ⟨b_3, 1, none⟩ fun n_29 =>
             LDi .i64 w_26 ⟨b_3, 2, none⟩ fun n_30 =>
             CALL Pg F_pspan_Map_Over [.pointer (some ⟨b_1, 0, none⟩), .agg #[.int .i64 n_27, .int .i64 n_28]] w_26 fun v_24 w_27 =>
             BOOLV v_24 fun t_9 =>
             ((
              KEEP w_27 [Fact.cell ⟨b_3, 1, none⟩ (.int .i64 n_29), Fact.cell ⟨b_3, 2, none⟩ (.int .i64 n_30)]) ∧
              CALL Pg F_r06_Any [.slice a_1 l_1 c_1, .agg #[.int .i64 n_29, .int .i64 n_30]] w_27 fun v_25 w_28 =>
              BOOLV v_25 fun t_10 =>
              ((
               KEEP w_28 []) ∧
               J_3 [.bool t_9, .slice a_1 l_1 c_1, .bool t_10] w_28))) (
             J_3 [.bool true, .slice a_1 l_1 c_1, .bool true] w_16))))))) ∧
        ∀ w_29 : World,
        ∀ v_26 : Value,
        ∀ v_27 : Value,
        ∀ v_28 : Value,
        (J_3 [v_26, v_27, v_28] w_29 →
        BOOLV v_28 fun t_11 =>
        SLV v_27 fun a_4 l_4 c_4 =>
        BOOLV v_26 fun t_12 =>
        ITE (!t_12 == t_11) (
         K (.bool false) w_29) (
         LDi .i64 w_29 ⟨b_4, 0, none⟩ fun n_31 =>
         LDi .i64 w_29 ⟨b_4, 1, none⟩ fun n_32 =>
         LDi .i64 w_29 ⟨b_5, 0, none⟩ fun n_33 =>
         LDi .i64 w_29 ⟨b_5, 1, none⟩ fun n_34 =>
         ITE (!(n_31 == n_33 && (n_32 == n_34 && true))) (
          K (.bool false) w_29) (
          BIND (IntKind.i64.wrap (n_1 + 1)) fun n_35 =>
          N_1 [v_2, v_3, v_4] w_3 [.slice a_4 l_4 c_4, .bool t_2, .int .i64 n_35] w_29)))))))) (
     CALL Pg F_pspan_Map_All [.pointer (some ⟨b_1, 0, none⟩)] w_3 fun v_29 w_30 =>
     SLV v_29 fun a_5 l_5 _ =>
     LOOP [.bool t_2, .int .i64 0, .int .i64 0] w_30 fun I_2 N_2 =>
     ∀ w_31 : World,
     ∀ v_30 : Value,
     ∀ v_31 : Value,
     ∀ v_32 : Value,
     (I_2 [v_30, v_31, v_32] w_31 →
     INTV .i64 v_32 fun n_36 =>
     INTV .i64 v_31 fun n_37 =>
     BOOLV v_30 fun t_13 =>
     ITE (decide (n_36 < (↑l_5 : Int))) (
      IDX a_5 l_5 n_36 2 fun b_7 o_3 =>
      LDi .i64 w_31 ⟨b_7, o_3, none⟩ fun n_38 =>
      LDi .i64 w_31 ⟨b_7, o_3 + 1, none⟩ fun n_39 =>
      NEW w_31 [.int .i64 0, .int .i64 0] T_api_Interval_api_Interval fun b_8 w_32 =>
      ST1 w_32 ⟨b_8, 0, none⟩ (.int .i64 n_38) fun w_33 =>
      ST1 w_33 ⟨b_8, 1, none⟩ (.int .i64 n_39) fun w_34 =>
      LDi .i64 w_34 ⟨b_8, 0, none⟩ fun n_40 =>
      CALL Pg F_r06_Find [.slice a_1 l_1 c_1, .int .i64 n_40] w_34 fun v_33 w_35 =>
      INTV .i64 v_33 fun n_41 =>
      DRAW w_35 fun w_36 =>
      ITE (decide (n_41 < 0)) (
       K (.bool false) w_36) (
       IDX a_1 l_1 n_41 2 fun b_9 o_4 =>
       LDi .i64 w_36 ⟨b_9, o_4, none⟩ fun n_42 =>
       LDi .i64 w_36 ⟨b_9, o_4 + 1, none⟩ fun n_43 =>
       LDi .i64 w_36 ⟨b_8, 0, none⟩ fun n_44 =>
       LDi .i64 w_36 ⟨b_8, 1, none⟩ fun n_45 =>
       ITE (!(n_42 == n_44 && (n_43 == n_45 && true))) (
        K (.bool false) w_36) (
        ITE (decide (n_36 > 0)) (
         BIND (IntKind.i64.wrap (n_36 - 1)) fun n_46 =>
         IDX a_5 l_5 n_46 2 fun b_10 o_5 =>
         LDi .i64 w_36 ⟨b_10, o_5, none⟩ fun n_47 =>
         LDi .i64 w_36 ⟨b_8, 0, none⟩ fun n_48 =>
         ITE (decide (n_47 ≥ n_48)) (
          K (.bool false) w_36) (
          LDi .i64 w_36 ⟨b_8, 1, none⟩ fun n_49 =>
          BIND (IntKind.i64.wrap (n_37 + n_49)) fun n_50 =>
          BIND (IntKind.i64.wrap (n_36 + 1)) fun n_51 =>
          N_2 [v_30, v_31, v_32] w_31 [.bool t_13, .int .i64 n_50, .int .i64 n_51] w_36)) (
         LDi .i64 w_36 ⟨b_8, 1, none⟩ fun n_52 =>
         BIND (IntKind.i64.wrap (n_37 + n_52)) fun n_53 =>
         BIND (IntKind.i64.wrap (n_36 + 1)) fun n_54 =>
         N_2 [v_30, v_31, v_32] w_31 [.bool t_13, .int .i64 n_53, .int .i64 n_54] w_36)))) (
      ITE ((↑l_5 : Int) == (↑l_1 : Int)) (
       CALL Pg F_pspan_Map_Bytes [.pointer (some ⟨b_1, 0, none⟩)] w_31 fun v_34 w_37 =>
       INTV .i64 v_34 fun n_55 =>
       K (.bool (n_55 == n_37)) w_37) (
       K (.bool false) w_31)))))))
theorem E_l06_SpanDoes (la : Option Addr) (ll : Nat) (lc : Nat) (w : World) (K : Value → World → Prop) :
    D_l06_SpanDoes la ll lc w K = vcFn Pg Try.f8 [13, 15] [.slice la ll lc] w K := by kernel_rfl
theorem C_l06_SpanDoes {la : Option Addr} {ll : Nat} {lc : Nat} {w : World} {K : Value → World → Prop} (h : D_l06_SpanDoes la ll lc w K) :
    CALL Pg F_l06_SpanDoes [.slice la ll lc] w K :=
  call_of_vc [13, 15] Try.func8 rfl (Nat.le_of_ble_eq_true (by kernel_rfl)) ((E_l06_SpanDoes la ll lc w K) ▸ h)

end Go.Proofs.Ytpopdookpbmmpaa
