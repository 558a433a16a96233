/- What the evaluator asks of each function, in readable form: printed by a program of this claim's own. -/
import Derived.Test.YtpopdookpbmmpaaN
import Derived.Test.YtpopdookpbmmpaaDen
namespace Go.Proofs.Ytpopdookpbmmpaa
open Go.Den
set_option linter.unusedVariables false
set_option maxRecDepth 1000000
def D_l06_SpanDoes (la : Option Addr) (ll : Nat) (lc : Nat) (w : World) (K : Value → World → Prop) : Prop :=
  CALL Pg F_l06_speaks [] w fun v_1 w_1 =>
  BOOLV v_1 fun t_1 =>
  ITE (!t_1) (
   K (.bool false) w_1) (
   ITE (decide ((↑ll : Int) > 100)) (
    K (.bool true) w_1) (
    NEW w_1 [.slice none 0 0] T_span_Map_span_Map fun b_1 w_2 =>
    LOOP [.slice none 0 0, .bool false, .int .i64 0] w_2 fun I_1 N_1 =>
    ∀ w_3 : World,
    ∀ v_2 : Value,
    ∀ v_3 : Value,
    ∀ v_4 : Value,
    (I_1 [v_2, v_3, v_4] w_3 →
    INTV .i64 v_4 fun n_1 =>
    BOOLV v_3 fun t_2 =>
    SLV v_2 fun a_1 l_1 c_1 =>
    ITE (decide (n_1 < (↑ll : Int))) (
     IDX la ll n_1 3 fun b_2 o_1 =>
     LDi .i64 w_3 ⟨b_2, o_1, none⟩ fun n_2 =>
     LDi .i64 w_3 ⟨b_2, o_1 + 1, none⟩ fun n_3 =>
     LDi .i64 w_3 ⟨b_2, o_1 + 2, none⟩ fun n_4 =>
     NEW w_3 [.int .i64 0, .int .i64 0, .int .i64 0] T_chandlerylaw06_Op_l06_Op fun b_3 w_4 =>
     ST1 w_4 ⟨b_3, 0, none⟩ (.int .i64 n_2) fun w_5 =>
     ST1 w_5 ⟨b_3, 1, none⟩ (.int .i64 n_3) fun w_6 =>
     ST1 w_6 ⟨b_3, 2, none⟩ (.int .i64 n_4) fun w_7 =>
     LDi .i64 w_7 ⟨b_3, 1, none⟩ fun n_5 =>
     LDi .i64 w_7 ⟨b_3, 2, none⟩ fun n_6 =>
     CALL Pg F_l06_far [.agg #[.int .i64 n_5, .int .i64 n_6]] w_7 fun v_5 w_8 =>
     BOOLV v_5 fun t_3 =>
     ITE (t_3) (
      BIND (IntKind.i64.wrap (n_1 + 1)) fun n_7 =>
      N_1 [v_2, v_3, v_4] w_3 [.slice a_1 l_1 c_1, .bool t_2, .int .i64 n_7] w_8) (
      LDi .i64 w_8 ⟨b_3, 1, none⟩ fun n_8 =>
      CALL Pg F_r06_Find [.slice a_1 l_1 c_1, .int .i64 n_8] w_8 fun v_6 w_9 =>
      INTV .i64 v_6 fun n_9 =>
      NEW w_9 [.int .i64 0, .int .i64 0] T_api_Interval_api_Interval fun b_4 w_10 =>
      NEW w_10 [.int .i64 0, .int .i64 0] T_api_Interval_api_Interval fun b_5 w_11 =>
      JOIN fun J_1 =>
      ((
       JOIN fun J_2 =>
       ((
        ITE (decide (n_9 ≥ 0)) (
         LDi .i64 w_11 ⟨b_3, 0, none⟩ fun n_10 =>
         ITE (n_10 == 1) (
          J_2 [.bool true] w_11) (
          LDi .i64 w_11 ⟨b_3, 0, none⟩ fun n_11 =>
          J_2 [.bool (n_11 == 2)] w_11)) (
         J_2 [.bool false] w_11)) ∧
        ∀ w_12 : World,
        ∀ v_7 : Value,
        (J_2 [v_7] w_12 →
        BOOLV v_7 fun t_4 =>
        ITE (t_4) (
         IDX a_1 l_1 n_9 2 fun b_6 o_2 =>
         LDi .i64 w_12 ⟨b_6, o_2, none⟩ fun n_12 =>
         LDi .i64 w_12 ⟨b_6, o_2 + 1, none⟩ fun n_13 =>
         ST1 w_12 ⟨b_5, 0, none⟩ (.int .i64 n_12) fun w_13 =>
         ST1 w_13 ⟨b_5, 1, none⟩ (.int .i64 n_13) fun w_14 =>
         J_1 [] w_14) (
         J_1 [] w_12)))) ∧
       ∀ w_15 : World,
       (J_1 [] w_15 →
       JOIN fun J_3 =>
       ((
        JOIN fun J_4 =>
        ((
         LDi .i64 w_15 ⟨b_3, 0, none⟩ fun n_14 =>
         J_4 [.int .i64 n_14] w_15) ∧
         ∀ w_16 : World,
         ∀ v_8 : Value,
         (J_4 [v_8] w_16 →
         INTV .i64 v_8 fun n_15 =>
         ITE (n_15 == 0) (
          LDi .i64 w_16 ⟨b_3, 1, none⟩ fun n_16 =>
          LDi .i64 w_16 ⟨b_3, 2, none⟩ fun n_17 =>
          CALL Pg F_pspan_Map_Put [.pointer (some ⟨b_1, 0, none⟩), .agg #[.int .i64 n_16, .int .i64 n_17]] w_16 fun v_9 w_17 =>
          BOOLV v_9 fun t_5 =>
          LDi .i64 w_17 ⟨b_3, 1, none⟩ fun n_18 =>
          LDi .i64 w_17 ⟨b_3, 2, none⟩ fun n_19 =>
          CALL Pg F_r06_Put [.slice a_1 l_1 c_1, .agg #[.int .i64 n_18, .int .i64 n_19]] w_17 fun v_10 w_18 =>
          TUPV v_10 fun cs_1 =>
          GETV cs_1 0 fun v_11 =>
          SLV v_11 fun a_2 l_2 c_2 =>
          GETV cs_1 1 fun v_12 =>
          BOOLV v_12 fun t_6 =>
          LEN cs_1 2 (
          J_3 [.bool t_5, .slice a_2 l_2 c_2, .bool t_6] w_18)) (
          ITE (n_15 == 1) (
           LDi .i64 w_16 ⟨b_3, 1, none⟩ fun n_20 =>
           CALL Pg F_pspan_Map_Drop [.pointer (some ⟨b_1, 0, none⟩), .int .i64 n_20] w_16 fun v_13 w_19 =>
           TUPV v_13 fun cs_2 =>
           GETV cs_2 0 fun v_14 =>
           AGGV v_14 fun cs_3 =>
           GETV cs_3 0 fun v_15 =>
           INTV .i64 v_15 fun n_21 =>
           GETV cs_3 1 fun v_16 =>
           INTV .i64 v_16 fun n_22 =>
           LEN cs_3 2 (
           GETV cs_2 1 fun v_17 =>
           BOOLV v_17 fun t_7 =>
           LEN cs_2 2 (
           ST1 w_19 ⟨b_4, 0, none⟩ (.int .i64 n_21) fun w_20 =>
           ST1 w_20 ⟨b_4, 1, none⟩ (.int .i64 n_22) fun w_21 =>
           LDi .i64 w_21 ⟨b_3, 1, none⟩ fun n_23 =>
           CALL Pg F_r06_Drop [.slice a_1 l_1 c_1, .int .i64 n_23] w_21 fun v_18 w_22 =>
           SLV v_18 fun a_3 l_3 c_3 =>
           J_3 [.bool t_7, .slice a_3 l_3 c_3, .bool (decide (n_9 ≥ 0))] w_22))) (
           ITE (n_15 == 2) (
            LDi .i64 w_16 ⟨b_3, 1, none⟩ fun n_24 =>
            CALL Pg F_pspan_Map_Get [.pointer (some ⟨b_1, 0, none⟩), .int .i64 n_24] w_16 fun v_19 w_23 =>
            TUPV v_19 fun cs_4 =>
            GETV cs_4 0 fun v_20 =>
            AGGV v_20 fun cs_5 =>
            GETV cs_5 0 fun v_21 =>
            INTV .i64 v_21 fun n_25 =>
            GETV cs_5 1 fun v_22 =>
            INTV .i64 v_22 fun n_26 =>
            LEN cs_5 2 (
            GETV cs_4 1 fun v_23 =>
            BOOLV v_23 fun t_8 =>
            LEN cs_4 2 (
            ST1 w_23 ⟨b_4, 0, none⟩ (.int .i64 n_25) fun w_24 =>
            ST1 w_24 ⟨b_4, 1, none⟩ (.int .i64 n_26) fun w_25 =>
            J_3 [.bool t_8, .slice a_1 l_1 c_1, .bool (decide (n_9 ≥ 0))] w_25))) (
            ITE (n_15 == 3) (
             DRAW w_16 fun w_26 =>
             LDi .i64 w_26 ⟨b_3, 1, none⟩ fun n_27 =>
             LDi .i64 w_26 ⟨b_3, 2, none⟩ fun n_28 =>
             LDi .i64 w_26 ⟨b_3, 1, none⟩ fun n_29 =>
             LDi .i64 w_26 ⟨b_3, 2, none⟩ fun n_30 =>
             CALL Pg F_pspan_Map_Over [.pointer (some ⟨b_1, 0, none⟩), .agg #[.int .i64 n_27, .int .i64 n_28]] w_26 fun v_24 w_27 =>
             BOOLV v_24 fun t_9 =>
             ((
              KEEP w_27 [Fact.cell ⟨b_3, 1, none⟩ (.int .i64 n_29), Fact.cell ⟨b_3, 2, none⟩ (.int .i64 n_30)]) ∧
              CALL Pg F_r06_Any [.slice a_1 l_1 c_1, .agg #[.int .i64 n_29, .int .i64 n_30]] w_27 fun v_25 w_28 =>
              BOOLV v_25 fun t_10 =>
              ((
               KEEP w_28 []) ∧
               J_3 [.bool t_9, .slice a_1 l_1 c_1, .bool t_10] w_28))) (
             J_3 [.bool true, .slice a_1 l_1 c_1, .bool true] w_16))))))) ∧
        ∀ w_29 : World,
        ∀ v_26 : Value,
        ∀ v_27 : Value,
        ∀ v_28 : Value,
        (J_3 [v_26, v_27, v_28] w_29 →
        BOOLV v_28 fun t_11 =>
        SLV v_27 fun a_4 l_4 c_4 =>
        BOOLV v_26 fun t_12 =>
        ITE (!t_12 == t_11) (
         K (.bool false) w_29) (
         LDi .i64 w_29 ⟨b_4, 0, none⟩ fun n_31 =>
         LDi .i64 w_29 ⟨b_4, 1, none⟩ fun n_32 =>
         LDi .i64 w_29 ⟨b_5, 0, none⟩ fun n_33 =>
         LDi .i64 w_29 ⟨b_5, 1, none⟩ fun n_34 =>
         ITE (!(n_31 == n_33 && (n_32 == n_34 && true))) (
          K (.bool false) w_29) (
          BIND (IntKind.i64.wrap (n_1 + 1)) fun n_35 =>
          N_1 [v_2, v_3, v_4] w_3 [.slice a_4 l_4 c_4, .bool t_2, .int .i64 n_35] w_29)))))))) (
     CALL Pg F_pspan_Map_All [.pointer (some ⟨b_1, 0, none⟩)] w_3 fun v_29 w_30 =>
     SLV v_29 fun a_5 l_5 _ =>
     LOOP [.bool t_2, .int .i64 0, .int .i64 0] w_30 fun I_2 N_2 =>
     ∀ w_31 : World,
     ∀ v_30 : Value,
     ∀ v_31 : Value,
     ∀ v_32 : Value,
     (I_2 [v_30, v_31, v_32] w_31 →
     INTV .i64 v_32 fun n_36 =>
     INTV .i64 v_31 fun n_37 =>
     BOOLV v_30 fun t_13 =>
     ITE (decide (n_36 < (↑l_5 : Int))) (
      IDX a_5 l_5 n_36 2 fun b_7 o_3 =>
      LDi .i64 w_31 ⟨b_7, o_3, none⟩ fun n_38 =>
      LDi .i64 w_31 ⟨b_7, o_3 + 1, none⟩ fun n_39 =>
      NEW w_31 [.int .i64 0, .int .i64 0] T_api_Interval_api_Interval fun b_8 w_32 =>
      ST1 w_32 ⟨b_8, 0, none⟩ (.int .i64 n_38) fun w_33 =>
      ST1 w_33 ⟨b_8, 1, none⟩ (.int .i64 n_39) fun w_34 =>
      LDi .i64 w_34 ⟨b_8, 0, none⟩ fun n_40 =>
      CALL Pg F_r06_Find [.slice a_1 l_1 c_1, .int .i64 n_40] w_34 fun v_33 w_35 =>
      INTV .i64 v_33 fun n_41 =>
      DRAW w_35 fun w_36 =>
      ITE (decide (n_41 < 0)) (
       K (.bool false) w_36) (
       IDX a_1 l_1 n_41 2 fun b_9 o_4 =>
       LDi .i64 w_36 ⟨b_9, o_4, none⟩ fun n_42 =>
       LDi .i64 w_36 ⟨b_9, o_4 + 1, none⟩ fun n_43 =>
       LDi .i64 w_36 ⟨b_8, 0, none⟩ fun n_44 =>
       LDi .i64 w_36 ⟨b_8, 1, none⟩ fun n_45 =>
       ITE (!(n_42 == n_44 && (n_43 == n_45 && true))) (
        K (.bool false) w_36) (
        ITE (decide (n_36 > 0)) (
         BIND (IntKind.i64.wrap (n_36 - 1)) fun n_46 =>
         IDX a_5 l_5 n_46 2 fun b_10 o_5 =>
         LDi .i64 w_36 ⟨b_10, o_5, none⟩ fun n_47 =>
         LDi .i64 w_36 ⟨b_8, 0, none⟩ fun n_48 =>
         ITE (decide (n_47 ≥ n_48)) (
          K (.bool false) w_36) (
          LDi .i64 w_36 ⟨b_8, 1, none⟩ fun n_49 =>
          BIND (IntKind.i64.wrap (n_37 + n_49)) fun n_50 =>
          BIND (IntKind.i64.wrap (n_36 + 1)) fun n_51 =>
          N_2 [v_30, v_31, v_32] w_31 [.bool t_13, .int .i64 n_50, .int .i64 n_51] w_36)) (
         LDi .i64 w_36 ⟨b_8, 1, none⟩ fun n_52 =>
         BIND (IntKind.i64.wrap (n_37 + n_52)) fun n_53 =>
         BIND (IntKind.i64.wrap (n_36 + 1)) fun n_54 =>
         N_2 [v_30, v_31, v_32] w_31 [.bool t_13, .int .i64 n_53, .int .i64 n_54] w_36)))) (
      ITE ((↑l_5 : Int) == (↑l_1 : Int)) (
       CALL Pg F_pspan_Map_Bytes [.pointer (some ⟨b_1, 0, none⟩)] w_31 fun v_34 w_37 =>
       INTV .i64 v_34 fun n_55 =>
       K (.bool (n_55 == n_37)) w_37) (
       K (.bool false) w_31)))))))
theorem E_l06_SpanDoes (la : Option Addr) (ll : Nat) (lc : Nat) (w : World) (K : Value → World → Prop) :
    D_l06_SpanDoes la ll lc w K = vcFn Pg Try.f8 [13, 15] [.slice la ll lc] w K := by kernel_rfl
theorem C_l06_SpanDoes {la : Option Addr} {ll : Nat} {lc : Nat} {w : World} {K : Value → World → Prop} (h : D_l06_SpanDoes la ll lc w K) :
    CALL Pg F_l06_SpanDoes [.slice la ll lc] w K :=
  call_of_vc [13, 15] Try.func8 rfl (Nat.le_of_ble_eq_true (by kernel_rfl)) ((E_l06_SpanDoes la ll lc w K) ▸ h)
def D_l06_SpanFills (ordera : Option Addr) (orderl : Nat) (orderc : Nat) (i0 : Int) (i1 : Int) (w : World) (K : Value → World → Prop) : Prop :=
  NEW w [.int .i64 i0, .int .i64 i1] T_api_Interval_api_Interval fun b_1 w_1 =>
  CALL Pg F_l06_speaks [] w_1 fun v_1 w_2 =>
  BOOLV v_1 fun t_1 =>
  ITE (!t_1) (
   K (.bool false) w_2) (
   ITE (decide ((↑orderl : Int) > 100)) (
    K (.bool true) w_2) (
    LDi .i64 w_2 ⟨b_1, 0, none⟩ fun n_1 =>
    LDi .i64 w_2 ⟨b_1, 1, none⟩ fun n_2 =>
    CALL Pg F_l06_far [.agg #[.int .i64 n_1, .int .i64 n_2]] w_2 fun v_2 w_3 =>
    BOOLV v_2 fun t_2 =>
    ITE (t_2) (
     K (.bool true) w_3) (
     NEW w_3 [.slice none 0 0] T_span_Map_span_Map fun b_2 w_4 =>
     LOOP [.int .i64 0, .int .i64 0] w_4 fun I_1 N_1 =>
     ∀ w_5 : World,
     ∀ v_3 : Value,
     ∀ v_4 : Value,
     (I_1 [v_3, v_4] w_5 →
     INTV .i64 v_4 fun n_3 =>
     INTV .i64 v_3 fun n_4 =>
     ITE (decide (n_3 < (↑orderl : Int))) (
      IDX ordera orderl n_3 1 fun b_3 o_1 =>
      LDi .u8 w_5 ⟨b_3, o_1, none⟩ fun n_5 =>
      BIND (IntKind.i64.wrap n_5) fun n_6 =>
      CALL Pg F_pspan_Map_Put [.pointer (some ⟨b_2, 0, none⟩), .agg #[.int .i64 n_6, .int .i64 1]] w_5 fun v_5 w_6 =>
      BOOLV v_5 fun t_3 =>
      ITE (t_3) (
       BIND (IntKind.i64.wrap (n_4 + 1)) fun n_7 =>
       BIND (IntKind.i64.wrap (n_3 + 1)) fun n_8 =>
       N_1 [v_3, v_4] w_5 [.int .i64 n_7, .int .i64 n_8] w_6) (
       BIND (IntKind.i64.wrap (n_3 + 1)) fun n_9 =>
       N_1 [v_3, v_4] w_5 [.int .i64 n_4, .int .i64 n_9] w_6)) (
      LOOP [.int .i64 n_4, .int .i64 0] w_5 fun I_2 N_2 =>
      ∀ w_7 : World,
      ∀ v_6 : Value,
      ∀ v_7 : Value,
      (I_2 [v_6, v_7] w_7 →
      INTV .i64 v_7 fun n_10 =>
      INTV .i64 v_6 fun n_11 =>
      ITE (decide (n_10 < 256)) (
       CALL Pg F_pspan_Map_Put [.pointer (some ⟨b_2, 0, none⟩), .agg #[.int .i64 n_10, .int .i64 1]] w_7 fun v_8 w_8 =>
       BOOLV v_8 fun t_4 =>
       ITE (t_4) (
        BIND (IntKind.i64.wrap (n_11 + 1)) fun n_12 =>
        BIND (IntKind.i64.wrap (n_10 + 1)) fun n_13 =>
        N_2 [v_6, v_7] w_7 [.int .i64 n_12, .int .i64 n_13] w_8) (
        BIND (IntKind.i64.wrap (n_10 + 1)) fun n_14 =>
        N_2 [v_6, v_7] w_7 [.int .i64 n_11, .int .i64 n_14] w_8)) (
       DRAW w_7 fun w_9 =>
       ITE (n_11 != 256) (
        K (.bool false) w_9) (
        CALL Pg F_pspan_Map_Bytes [.pointer (some ⟨b_2, 0, none⟩)] w_9 fun v_9 w_10 =>
        INTV .i64 v_9 fun n_15 =>
        ((
         KEEP w_10 []) ∧
         ITE (n_15 != 256) (
          K (.bool false) w_10) (
          LDi .i64 w_10 ⟨b_1, 0, none⟩ fun n_16 =>
          LDi .i64 w_10 ⟨b_1, 1, none⟩ fun n_17 =>
          LDi .i64 w_10 ⟨b_1, 1, none⟩ fun n_18 =>
          CALL Pg F_pspan_Map_Over [.pointer (some ⟨b_2, 0, none⟩), .agg #[.int .i64 n_16, .int .i64 n_17]] w_10 fun v_10 w_11 =>
          BOOLV v_10 fun t_5 =>
          ((
           KEEP w_11 [Fact.cell ⟨b_1, 1, none⟩ (.int .i64 n_18)]) ∧
           ITE (decide (n_18 ≥ 1)) (
            LDi .i64 w_11 ⟨b_1, 0, none⟩ fun n_19 =>
            ITE (decide (n_19 < 256)) (
             LDi .i64 w_11 ⟨b_1, 0, none⟩ fun n_20 =>
             ITE (decide (n_20 ≥ 0)) (
              ITE (!t_5 == true) (
               K (.bool false) w_11) (
               LOOP [.int .i64 0] w_11 fun I_3 N_3 =>
               ∀ w_12 : World,
               ∀ v_11 : Value,
               (I_3 [v_11] w_12 →
               INTV .i64 v_11 fun n_21 =>
               ITE (decide (n_21 < (↑orderl : Int))) (
                IDX ordera orderl n_21 1 fun b_4 o_2 =>
                LDi .u8 w_12 ⟨b_4, o_2, none⟩ fun n_22 =>
                BIND (IntKind.i64.wrap n_22) fun n_23 =>
                CALL Pg F_pspan_Map_Drop [.pointer (some ⟨b_2, 0, none⟩), .int .i64 n_23] w_12 fun v_12 w_13 =>
                TUPV v_12 fun cs_1 =>
                GETV cs_1 0 fun v_13 =>
                AGGV v_13 fun cs_2 =>
                GETV cs_2 0 fun v_14 =>
                INTV .i64 v_14 fun _ =>
                GETV cs_2 1 fun v_15 =>
                INTV .i64 v_15 fun _ =>
                LEN cs_2 2 (
                GETV cs_1 1 fun v_16 =>
                BOOLV v_16 fun _ =>
                LEN cs_1 2 (
                BIND (IntKind.i64.wrap (n_21 + 1)) fun n_26 =>
                N_3 [v_11] w_12 [.int .i64 n_26] w_13))) (
                LOOP [.bool false, .int .i64 0] w_12 fun I_4 N_4 =>
                ∀ w_14 : World,
                ∀ v_17 : Value,
                ∀ v_18 : Value,
                (I_4 [v_17, v_18] w_14 →
                INTV .i64 v_18 fun n_27 =>
                BOOLV v_17 fun t_7 =>
                ITE (decide (n_27 < (↑orderl : Int))) (
                 IDX ordera orderl n_27 1 fun b_5 o_3 =>
                 LDi .u8 w_14 ⟨b_5, o_3, none⟩ fun n_28 =>
                 BIND (IntKind.i64.wrap n_28) fun n_29 =>
                 CALL Pg F_pspan_Map_Put [.pointer (some ⟨b_2, 0, none⟩), .agg #[.int .i64 n_29, .int .i64 1]] w_14 fun v_19 w_15 =>
                 BOOLV v_19 fun t_8 =>
                 ITE (!t_8) (
                  BIND (IntKind.i64.wrap n_28) fun n_30 =>
                  CALL Pg F_pspan_Map_Get [.pointer (some ⟨b_2, 0, none⟩), .int .i64 n_30] w_15 fun v_20 w_16 =>
                  TUPV v_20 fun cs_3 =>
                  GETV cs_3 0 fun v_21 =>
                  AGGV v_21 fun cs_4 =>
                  GETV cs_4 0 fun v_22 =>
                  INTV .i64 v_22 fun n_31 =>
                  GETV cs_4 1 fun v_23 =>
                  INTV .i64 v_23 fun n_32 =>
                  LEN cs_4 2 (
                  GETV cs_3 1 fun v_24 =>
                  BOOLV v_24 fun t_9 =>
                  LEN cs_3 2 (
                  NEW w_16 [.int .i64 0, .int .i64 0] T_api_Interval_api_Interval fun b_6 w_17 =>
                  ST1 w_17 ⟨b_6, 0, none⟩ (.int .i64 n_31) fun w_18 =>
                  ST1 w_18 ⟨b_6, 1, none⟩ (.int .i64 n_32) fun w_19 =>
                  ITE (!t_9) (
                   K (.bool false) w_19) (
                   BIND (IntKind.i64.wrap (n_27 + 1)) fun n_33 =>
                   N_4 [v_17, v_18] w_14 [.bool t_7, .int .i64 n_33] w_19)))) (
                  BIND (IntKind.i64.wrap (n_27 + 1)) fun n_34 =>
                  N_4 [v_17, v_18] w_14 [.bool t_7, .int .i64 n_34] w_15)) (
                 CALL Pg F_pspan_Map_Bytes [.pointer (some ⟨b_2, 0, none⟩)] w_14 fun v_25 w_20 =>
                 INTV .i64 v_25 fun n_35 =>
                 K (.bool (n_35 == 256)) w_20)))))) (
              LDi .i64 w_11 ⟨b_1, 1, none⟩ fun n_36 =>
              LDi .i64 w_11 ⟨b_1, 0, none⟩ fun n_37 =>
              BIND (IntKind.i64.wrap (0 - n_37)) fun n_38 =>
              ITE (!t_5 == decide (n_36 > n_38)) (
               K (.bool false) w_11) (
               LOOP [.int .i64 0] w_11 fun I_5 N_5 =>
               ∀ w_21 : World,
               ∀ v_26 : Value,
               (I_5 [v_26] w_21 →
               INTV .i64 v_26 fun n_39 =>
               ITE (decide (n_39 < (↑orderl : Int))) (
                IDX ordera orderl n_39 1 fun b_7 o_4 =>
                LDi .u8 w_21 ⟨b_7, o_4, none⟩ fun n_40 =>
                BIND (IntKind.i64.wrap n_40) fun n_41 =>
                CALL Pg F_pspan_Map_Drop [.pointer (some ⟨b_2, 0, none⟩), .int .i64 n_41] w_21 fun v_27 w_22 =>
                TUPV v_27 fun cs_5 =>
                GETV cs_5 0 fun v_28 =>
                AGGV v_28 fun cs_6 =>
                GETV cs_6 0 fun v_29 =>
                INTV .i64 v_29 fun _ =>
                GETV cs_6 1 fun v_30 =>
                INTV .i64 v_30 fun _ =>
                LEN cs_6 2 (
                GETV cs_5 1 fun v_31 =>
                BOOLV v_31 fun _ =>
                LEN cs_5 2 (
                BIND (IntKind.i64.wrap (n_39 + 1)) fun n_44 =>
                N_5 [v_26] w_21 [.int .i64 n_44] w_22))) (
                LOOP [.bool false, .int .i64 0] w_21 fun I_6 N_6 =>
                ∀ w_23 : World,
                ∀ v_32 : Value,
                ∀ v_33 : Value,
                (I_6 [v_32, v_33] w_23 →
                INTV .i64 v_33 fun n_45 =>
                BOOLV v_32 fun t_11 =>
                ITE (decide (n_45 < (↑orderl : Int))) (
                 IDX ordera orderl n_45 1 fun b_8 o_5 =>
                 LDi .u8 w_23 ⟨b_8, o_5, none⟩ fun n_46 =>
                 BIND (IntKind.i64.wrap n_46) fun n_47 =>
                 CALL Pg F_pspan_Map_Put [.pointer (some ⟨b_2, 0, none⟩), .agg #[.int .i64 n_47, .int .i64 1]] w_23 fun v_34 w_24 =>
                 BOOLV v_34 fun t_12 =>
                 ITE (!t_12) (
                  BIND (IntKind.i64.wrap n_46) fun n_48 =>
                  CALL Pg F_pspan_Map_Get [.pointer (some ⟨b_2, 0, none⟩), .int .i64 n_48] w_24 fun v_35 w_25 =>
                  TUPV v_35 fun cs_7 =>
                  GETV cs_7 0 fun v_36 =>
                  AGGV v_36 fun cs_8 =>
                  GETV cs_8 0 fun v_37 =>
                  INTV .i64 v_37 fun n_49 =>
                  GETV cs_8 1 fun v_38 =>
                  INTV .i64 v_38 fun n_50 =>
                  LEN cs_8 2 (
                  GETV cs_7 1 fun v_39 =>
                  BOOLV v_39 fun t_13 =>
                  LEN cs_7 2 (
                  NEW w_25 [.int .i64 0, .int .i64 0] T_api_Interval_api_Interval fun b_9 w_26 =>
                  ST1 w_26 ⟨b_9, 0, none⟩ (.int .i64 n_49) fun w_27 =>
                  ST1 w_27 ⟨b_9, 1, none⟩ (.int .i64 n_50) fun w_28 =>
                  ITE (!t_13) (
                   K (.bool false) w_28) (
                   BIND (IntKind.i64.wrap (n_45 + 1)) fun n_51 =>
                   N_6 [v_32, v_33] w_23 [.bool t_11, .int .i64 n_51] w_28)))) (
                  BIND (IntKind.i64.wrap (n_45 + 1)) fun n_52 =>
                  N_6 [v_32, v_33] w_23 [.bool t_11, .int .i64 n_52] w_24)) (
                 CALL Pg F_pspan_Map_Bytes [.pointer (some ⟨b_2, 0, none⟩)] w_23 fun v_40 w_29 =>
                 INTV .i64 v_40 fun n_53 =>
                 K (.bool (n_53 == 256)) w_29))))))) (
             ITE (!t_5 == false) (
              K (.bool false) w_11) (
              LOOP [.int .i64 0] w_11 fun I_7 N_7 =>
              ∀ w_30 : World,
              ∀ v_41 : Value,
              (I_7 [v_41] w_30 →
              INTV .i64 v_41 fun n_54 =>
              ITE (decide (n_54 < (↑orderl : Int))) (
               IDX ordera orderl n_54 1 fun b_10 o_6 =>
               LDi .u8 w_30 ⟨b_10, o_6, none⟩ fun n_55 =>
               BIND (IntKind.i64.wrap n_55) fun n_56 =>
               CALL Pg F_pspan_Map_Drop [.pointer (some ⟨b_2, 0, none⟩), .int .i64 n_56] w_30 fun v_42 w_31 =>
               TUPV v_42 fun cs_9 =>
               GETV cs_9 0 fun v_43 =>
               AGGV v_43 fun cs_10 =>
               GETV cs_10 0 fun v_44 =>
               INTV .i64 v_44 fun _ =>
               GETV cs_10 1 fun v_45 =>
               INTV .i64 v_45 fun _ =>
               LEN cs_10 2 (
               GETV cs_9 1 fun v_46 =>
               BOOLV v_46 fun _ =>
               LEN cs_9 2 (
               BIND (IntKind.i64.wrap (n_54 + 1)) fun n_59 =>
               N_7 [v_41] w_30 [.int .i64 n_59] w_31))) (
               LOOP [.bool false, .int .i64 0] w_30 fun I_8 N_8 =>
               ∀ w_32 : World,
               ∀ v_47 : Value,
               ∀ v_48 : Value,
               (I_8 [v_47, v_48] w_32 →
               INTV .i64 v_48 fun n_60 =>
               BOOLV v_47 fun t_15 =>
               ITE (decide (n_60 < (↑orderl : Int))) (
                IDX ordera orderl n_60 1 fun b_11 o_7 =>
                LDi .u8 w_32 ⟨b_11, o_7, none⟩ fun n_61 =>
                BIND (IntKind.i64.wrap n_61) fun n_62 =>
                CALL Pg F_pspan_Map_Put [.pointer (some ⟨b_2, 0, none⟩), .agg #[.int .i64 n_62, .int .i64 1]] w_32 fun v_49 w_33 =>
                BOOLV v_49 fun t_16 =>
                ITE (!t_16) (
                 BIND (IntKind.i64.wrap n_61) fun n_63 =>
                 CALL Pg F_pspan_Map_Get [.pointer (some ⟨b_2, 0, none⟩), .int .i64 n_63] w_33 fun v_50 w_34 =>
                 TUPV v_50 fun cs_11 =>
                 GETV cs_11 0 fun v_51 =>
                 AGGV v_51 fun cs_12 =>
                 GETV cs_12 0 fun v_52 =>
                 INTV .i64 v_52 fun n_64 =>
                 GETV cs_12 1 fun v_53 =>
                 INTV .i64 v_53 fun n_65 =>
                 LEN cs_12 2 (
                 GETV cs_11 1 fun v_54 =>
                 BOOLV v_54 fun t_17 =>
                 LEN cs_11 2 (
                 NEW w_34 [.int .i64 0, .int .i64 0] T_api_Interval_api_Interval fun b_12 w_35 =>
                 ST1 w_35 ⟨b_12, 0, none⟩ (.int .i64 n_64) fun w_36 =>
                 ST1 w_36 ⟨b_12, 1, none⟩ (.int .i64 n_65) fun w_37 =>
                 ITE (!t_17) (
                  K (.bool false) w_37) (
                  BIND (IntKind.i64.wrap (n_60 + 1)) fun n_66 =>
                  N_8 [v_47, v_48] w_32 [.bool t_15, .int .i64 n_66] w_37)))) (
                 BIND (IntKind.i64.wrap (n_60 + 1)) fun n_67 =>
                 N_8 [v_47, v_48] w_32 [.bool t_15, .int .i64 n_67] w_33)) (
                CALL Pg F_pspan_Map_Bytes [.pointer (some ⟨b_2, 0, none⟩)] w_32 fun v_55 w_38 =>
                INTV .i64 v_55 fun n_68 =>
                K (.bool (n_68 == 256)) w_38))))))) (
            ITE (!t_5 == false) (
             K (.bool false) w_11) (
             LOOP [.int .i64 0] w_11 fun I_9 N_9 =>
             ∀ w_39 : World,
             ∀ v_56 : Value,
             (I_9 [v_56] w_39 →
             INTV .i64 v_56 fun n_69 =>
             ITE (decide (n_69 < (↑orderl : Int))) (
              IDX ordera orderl n_69 1 fun b_13 o_8 =>
              LDi .u8 w_39 ⟨b_13, o_8, none⟩ fun n_70 =>
              BIND (IntKind.i64.wrap n_70) fun n_71 =>
              CALL Pg F_pspan_Map_Drop [.pointer (some ⟨b_2, 0, none⟩), .int .i64 n_71] w_39 fun v_57 w_40 =>
              TUPV v_57 fun cs_13 =>
              GETV cs_13 0 fun v_58 =>
              AGGV v_58 fun cs_14 =>
              GETV cs_14 0 fun v_59 =>
              INTV .i64 v_59 fun _ =>
              GETV cs_14 1 fun v_60 =>
              INTV .i64 v_60 fun _ =>
              LEN cs_14 2 (
              GETV cs_13 1 fun v_61 =>
              BOOLV v_61 fun _ =>
              LEN cs_13 2 (
              BIND (IntKind.i64.wrap (n_69 + 1)) fun n_74 =>
              N_9 [v_56] w_39 [.int .i64 n_74] w_40))) (
              LOOP [.bool false, .int .i64 0] w_39 fun I_10 N_10 =>
              ∀ w_41 : World,
              ∀ v_62 : Value,
              ∀ v_63 : Value,
              (I_10 [v_62, v_63] w_41 →
              INTV .i64 v_63 fun n_75 =>
              BOOLV v_62 fun t_19 =>
              ITE (decide (n_75 < (↑orderl : Int))) (
               IDX ordera orderl n_75 1 fun b_14 o_9 =>
               LDi .u8 w_41 ⟨b_14, o_9, none⟩ fun n_76 =>
               BIND (IntKind.i64.wrap n_76) fun n_77 =>
               CALL Pg F_pspan_Map_Put [.pointer (some ⟨b_2, 0, none⟩), .agg #[.int .i64 n_77, .int .i64 1]] w_41 fun v_64 w_42 =>
               BOOLV v_64 fun t_20 =>
               ITE (!t_20) (
                BIND (IntKind.i64.wrap n_76) fun n_78 =>
                CALL Pg F_pspan_Map_Get [.pointer (some ⟨b_2, 0, none⟩), .int .i64 n_78] w_42 fun v_65 w_43 =>
                TUPV v_65 fun cs_15 =>
                GETV cs_15 0 fun v_66 =>
                AGGV v_66 fun cs_16 =>
                GETV cs_16 0 fun v_67 =>
                INTV .i64 v_67 fun n_79 =>
                GETV cs_16 1 fun v_68 =>
                INTV .i64 v_68 fun n_80 =>
                LEN cs_16 2 (
                GETV cs_15 1 fun v_69 =>
                BOOLV v_69 fun t_21 =>
                LEN cs_15 2 (
                NEW w_43 [.int .i64 0, .int .i64 0] T_api_Interval_api_Interval fun b_15 w_44 =>
                ST1 w_44 ⟨b_15, 0, none⟩ (.int .i64 n_79) fun w_45 =>
                ST1 w_45 ⟨b_15, 1, none⟩ (.int .i64 n_80) fun w_46 =>
                ITE (!t_21) (
                 K (.bool false) w_46) (
                 BIND (IntKind.i64.wrap (n_75 + 1)) fun n_81 =>
                 N_10 [v_62, v_63] w_41 [.bool t_19, .int .i64 n_81] w_46)))) (
                BIND (IntKind.i64.wrap (n_75 + 1)) fun n_82 =>
                N_10 [v_62, v_63] w_41 [.bool t_19, .int .i64 n_82] w_42)) (
               CALL Pg F_pspan_Map_Bytes [.pointer (some ⟨b_2, 0, none⟩)] w_41 fun v_70 w_47 =>
               INTV .i64 v_70 fun n_83 =>
               K (.bool (n_83 == 256)) w_47)))))))))))))))))
theorem E_l06_SpanFills (ordera : Option Addr) (orderl : Nat) (orderc : Nat) (i0 : Int) (i1 : Int) (w : World) (K : Value → World → Prop) :
    D_l06_SpanFills ordera orderl orderc i0 i1 w K = vcFn Pg Try.f11 [] [.slice ordera orderl orderc, .agg #[.int .i64 i0, .int .i64 i1]] w K := by kernel_rfl
theorem C_l06_SpanFills {ordera : Option Addr} {orderl : Nat} {orderc : Nat} {i0 : Int} {i1 : Int} {w : World} {K : Value → World → Prop} (h : D_l06_SpanFills ordera orderl orderc i0 i1 w K) :
    CALL Pg F_l06_SpanFills [.slice ordera orderl orderc, .agg #[.int .i64 i0, .int .i64 i1]] w K :=
  call_of_vc [] Try.func11 rfl (Nat.le_of_ble_eq_true (by kernel_rfl)) ((E_l06_SpanFills ordera orderl orderc i0 i1 w K) ▸ h)

end Go.Proofs.Ytpopdookpbmmpaa
