/- What the evaluator asks of each function, in readable form: printed by a program of this claim's own. -/
import Derived.Test.YtpopdookpbmmpaaN
import Derived.Test.YtpopdookpbmmpaaDen
namespace Go.Proofs.Ytpopdookpbmmpaa
open Go.Den
set_option linter.unusedVariables false
set_option maxRecDepth 1000000
def D_l06_SpanBack (la : Option Addr) (ll : Nat) (lc : Nat) (x0 : Int) (x1 : Int) (w : World) (K : Value → World → Prop) : Prop :=
  NEW w [.int .i64 x0, .int .i64 x1] T_api_Interval_api_Interval fun b_1 w_1 =>
  CALL Pg F_l06_speaks [] w_1 fun v_1 w_2 =>
  BOOLV v_1 fun t_1 =>
  ITE (!t_1) (
   K (.bool false) w_2) (
   ITE (decide ((↑ll : Int) > 60)) (
    K (.bool true) w_2) (
    LDi .i64 w_2 ⟨b_1, 0, none⟩ fun n_1 =>
    LDi .i64 w_2 ⟨b_1, 1, none⟩ fun n_2 =>
    CALL Pg F_l06_far [.agg #[.int .i64 n_1, .int .i64 n_2]] w_2 fun v_2 w_3 =>
    BOOLV v_2 fun t_2 =>
    ITE (t_2) (
     K (.bool true) w_3) (
     NEW w_3 [.slice none 0 0] T_span_Map_span_Map fun b_2 w_4 =>
     LOOP [.int .i64 0] w_4 fun I_1 N_1 =>
     ∀ w_5 : World,
     ∀ v_3 : Value,
     (I_1 [v_3] w_5 →
     INTV .i64 v_3 fun n_3 =>
     ITE (decide (n_3 < (↑ll : Int))) (
      IDX la ll n_3 2 fun b_3 o_1 =>
      LDi .i64 w_5 ⟨b_3, o_1, none⟩ fun n_4 =>
      LDi .i64 w_5 ⟨b_3, o_1 + 1, none⟩ fun n_5 =>
      NEW w_5 [.int .i64 0, .int .i64 0] T_api_Interval_api_Interval fun b_4 w_6 =>
      ST1 w_6 ⟨b_4, 0, none⟩ (.int .i64 n_4) fun w_7 =>
      ST1 w_7 ⟨b_4, 1, none⟩ (.int .i64 n_5) fun w_8 =>
      LDi .i64 w_8 ⟨b_4, 0, none⟩ fun n_6 =>
      LDi .i64 w_8 ⟨b_4, 1, none⟩ fun n_7 =>
      CALL Pg F_l06_far [.agg #[.int .i64 n_6, .int .i64 n_7]] w_8 fun v_4 w_9 =>
      BOOLV v_4 fun t_3 =>
      ITE (!t_3) (
       LDi .i64 w_9 ⟨b_4, 0, none⟩ fun n_8 =>
       LDi .i64 w_9 ⟨b_4, 1, none⟩ fun n_9 =>
       CALL Pg F_pspan_Map_Put [.pointer (some ⟨b_2, 0, none⟩), .agg #[.int .i64 n_8, .int .i64 n_9]] w_9 fun v_5 w_10 =>
       BOOLV v_5 fun _ =>
       BIND (IntKind.i64.wrap (n_3 + 1)) fun n_10 =>
       N_1 [v_3] w_5 [.int .i64 n_10] w_10) (
       BIND (IntKind.i64.wrap (n_3 + 1)) fun n_11 =>
       N_1 [v_3] w_5 [.int .i64 n_11] w_9)) (
      CALL Pg F_pspan_Map_All [.pointer (some ⟨b_2, 0, none⟩)] w_5 fun v_6 w_11 =>
      SLV v_6 fun a_1 l_1 _ =>
      JOIN fun J_1 =>
      ((
       JOIN fun J_2 =>
       ((
        LDi .i64 w_11 ⟨b_1, 0, none⟩ fun n_12 =>
        LDi .i64 w_11 ⟨b_1, 1, none⟩ fun n_13 =>
        CALL Pg F_pspan_Map_Put [.pointer (some ⟨b_2, 0, none⟩), .agg #[.int .i64 n_12, .int .i64 n_13]] w_11 fun v_7 w_12 =>
        BOOLV v_7 fun t_5 =>
        J_2 [.bool t_5] w_12) ∧
        ∀ w_13 : World,
        ∀ v_8 : Value,
        (J_2 [v_8] w_13 →
        BOOLV v_8 fun t_6 =>
        ITE (t_6) (
         LDi .i64 w_13 ⟨b_1, 0, none⟩ fun n_14 =>
         CALL Pg F_pspan_Map_Drop [.pointer (some ⟨b_2, 0, none⟩), .int .i64 n_14] w_13 fun v_9 w_14 =>
         TUPV v_9 fun cs_1 =>
         GETV cs_1 0 fun v_10 =>
         AGGV v_10 fun cs_2 =>
         GETV cs_2 0 fun v_11 =>
         INTV .i64 v_11 fun n_15 =>
         GETV cs_2 1 fun v_12 =>
         INTV .i64 v_12 fun n_16 =>
         LEN cs_2 2 (
         GETV cs_1 1 fun v_13 =>
         BOOLV v_13 fun t_7 =>
         LEN cs_1 2 (
         NEW w_14 [.int .i64 0, .int .i64 0] T_api_Interval_api_Interval fun b_5 w_15 =>
         ST1 w_15 ⟨b_5, 0, none⟩ (.int .i64 n_15) fun w_16 =>
         ST1 w_16 ⟨b_5, 1, none⟩ (.int .i64 n_16) fun w_17 =>
         ITE (!t_7) (
          K (.bool false) w_17) (
          LDi .i64 w_17 ⟨b_5, 0, none⟩ fun n_17 =>
          LDi .i64 w_17 ⟨b_5, 1, none⟩ fun n_18 =>
          LDi .i64 w_17 ⟨b_1, 0, none⟩ fun n_19 =>
          LDi .i64 w_17 ⟨b_1, 1, none⟩ fun n_20 =>
          ITE (!(n_17 == n_19 && (n_18 == n_20 && true))) (
           K (.bool false) w_17) (
           J_1 [.bool false] w_17))))) (
         J_1 [.bool false] w_13)))) ∧
       ∀ w_18 : World,
       ∀ v_14 : Value,
       (J_1 [v_14] w_18 →
       BOOLV v_14 fun t_8 =>
       CALL Pg F_pspan_Map_All [.pointer (some ⟨b_2, 0, none⟩)] w_18 fun v_15 w_19 =>
       SLV v_15 fun a_2 l_2 _ =>
       ITE ((↑l_2 : Int) != (↑l_1 : Int)) (
        K (.bool false) w_19) (
        LOOP [.bool t_8, .int .i64 0] w_19 fun I_2 N_2 =>
        ∀ w_20 : World,
        ∀ v_16 : Value,
        ∀ v_17 : Value,
        (I_2 [v_16, v_17] w_20 →
        INTV .i64 v_17 fun n_21 =>
        BOOLV v_16 fun t_9 =>
        ITE (decide (n_21 < (↑l_2 : Int))) (
         DRAW w_20 fun w_21 =>
         IDX a_2 l_2 n_21 2 fun b_6 o_2 =>
         LDi .i64 w_21 ⟨b_6, o_2, none⟩ fun n_22 =>
         LDi .i64 w_21 ⟨b_6, o_2 + 1, none⟩ fun n_23 =>
         IDX a_1 l_1 n_21 2 fun b_7 o_3 =>
         LDi .i64 w_21 ⟨b_7, o_3, none⟩ fun n_24 =>
         LDi .i64 w_21 ⟨b_7, o_3 + 1, none⟩ fun n_25 =>
         ITE (!(n_22 == n_24 && (n_23 == n_25 && true))) (
          K (.bool false) w_21) (
          IDX a_2 l_2 n_21 2 fun b_8 o_4 =>
          LDi .i64 w_21 ⟨b_8, o_4, none⟩ fun n_26 =>
          BIND (IntKind.i64.wrap (n_26 + 1)) fun n_27 =>
          IDX a_2 l_2 n_21 2 fun b_9 o_5 =>
          ST1 w_21 ⟨b_9, o_5, none⟩ (.int .i64 n_27) fun w_22 =>
          BIND (IntKind.i64.wrap (n_21 + 1)) fun n_28 =>
          N_2 [v_16, v_17] w_20 [.bool t_9, .int .i64 n_28] w_22)) (
         CALL Pg F_pspan_Map_All [.pointer (some ⟨b_2, 0, none⟩)] w_20 fun v_18 w_23 =>
         SLV v_18 fun a_3 l_3 _ =>
         LOOP [.bool t_9, .int .i64 0] w_23 fun I_3 N_3 =>
         ∀ w_24 : World,
         ∀ v_19 : Value,
         ∀ v_20 : Value,
         (I_3 [v_19, v_20] w_24 →
         INTV .i64 v_20 fun n_29 =>
         BOOLV v_19 fun t_10 =>
         ITE (decide (n_29 < (↑l_3 : Int))) (
          IDX a_3 l_3 n_29 2 fun b_10 o_6 =>
          LDi .i64 w_24 ⟨b_10, o_6, none⟩ fun n_30 =>
          LDi .i64 w_24 ⟨b_10, o_6 + 1, none⟩ fun n_31 =>
          NEW w_24 [.int .i64 0, .int .i64 0] T_api_Interval_api_Interval fun b_11 w_25 =>
          ST1 w_25 ⟨b_11, 0, none⟩ (.int .i64 n_30) fun w_26 =>
          ST1 w_26 ⟨b_11, 1, none⟩ (.int .i64 n_31) fun w_27 =>
          DRAW w_27 fun w_28 =>
          LDi .i64 w_28 ⟨b_11, 0, none⟩ fun n_32 =>
          LDi .i64 w_28 ⟨b_11, 1, none⟩ fun n_33 =>
          IDX a_1 l_1 n_29 2 fun b_12 o_7 =>
          LDi .i64 w_28 ⟨b_12, o_7, none⟩ fun n_34 =>
          LDi .i64 w_28 ⟨b_12, o_7 + 1, none⟩ fun n_35 =>
          ITE (!(n_32 == n_34 && (n_33 == n_35 && true))) (
           K (.bool false) w_28) (
           BIND (IntKind.i64.wrap (n_29 + 1)) fun n_36 =>
           N_3 [v_19, v_20] w_24 [.bool t_10, .int .i64 n_36] w_28)) (
          K (.bool true) w_24))))))))))))
theorem E_l06_SpanBack (la : Option Addr) (ll : Nat) (lc : Nat) (x0 : Int) (x1 : Int) (w : World) (K : Value → World → Prop) :
    D_l06_SpanBack la ll lc x0 x1 w K = vcFn Pg Try.f10 [13] [.slice la ll lc, .agg #[.int .i64 x0, .int .i64 x1]] w K := by kernel_rfl
theorem C_l06_SpanBack {la : Option Addr} {ll : Nat} {lc : Nat} {x0 : Int} {x1 : Int} {w : World} {K : Value → World → Prop} (h : D_l06_SpanBack la ll lc x0 x1 w K) :
    CALL Pg F_l06_SpanBack [.slice la ll lc, .agg #[.int .i64 x0, .int .i64 x1]] w K :=
  call_of_vc [13] Try.func10 rfl (Nat.le_of_ble_eq_true (by kernel_rfl)) ((E_l06_SpanBack la ll lc x0 x1 w K) ▸ h)

end Go.Proofs.Ytpopdookpbmmpaa
