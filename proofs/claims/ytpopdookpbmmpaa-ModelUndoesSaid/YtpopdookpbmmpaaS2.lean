/- What the evaluator asks of each function, in readable form: printed by a program of this claim's own. -/
import Derived.Test.YtpopdookpbmmpaaN
import Derived.Test.YtpopdookpbmmpaaDen
namespace Go.Proofs.Ytpopdookpbmmpaa
open Go.Den
set_option linter.unusedVariables false
set_option maxRecDepth 1000000
def D_l06_SpanAsks (la : Option Addr) (ll : Nat) (lc : Nat) (x0 : Int) (x1 : Int) (w : World) (K : Value → World → Prop) : Prop :=
  NEW w [.int .i64 x0, .int .i64 x1] T_api_Interval_api_Interval fun b_1 w_1 =>
  CALL Pg F_l06_speaks [] w_1 fun v_1 w_2 =>
  BOOLV v_1 fun t_1 =>
  ITE (!t_1) (
   K (.bool false) w_2) (
   ITE (decide ((↑ll : Int) > 60)) (
    K (.bool true) w_2) (
    LDi .i64 w_2 ⟨b_1, 0, none⟩ fun n_1 =>
    LDi .i64 w_2 ⟨b_1, 1, none⟩ fun n_2 =>
    CALL Pg F_l06_far [.agg #[.int .i64 n_1, .int .i64 n_2]] w_2 fun v_2 w_3 =>
    BOOLV v_2 fun t_2 =>
    ITE (t_2) (
     K (.bool true) w_3) (
     NEW w_3 [.slice none 0 0] T_span_Map_span_Map fun b_2 w_4 =>
     LOOP [.int .i64 0, .int .i64 0] w_4 fun I_1 N_1 =>
     ∀ w_5 : World,
     ∀ v_3 : Value,
     ∀ v_4 : Value,
     (I_1 [v_3, v_4] w_5 →
     INTV .i64 v_4 fun n_3 =>
     INTV .i64 v_3 fun n_4 =>
     ITE (decide (n_3 < (↑ll : Int))) (
      IDX la ll n_3 2 fun b_3 o_1 =>
      LDi .i64 w_5 ⟨b_3, o_1, none⟩ fun n_5 =>
      LDi .i64 w_5 ⟨b_3, o_1 + 1, none⟩ fun n_6 =>
      NEW w_5 [.int .i64 0, .int .i64 0] T_api_Interval_api_Interval fun b_4 w_6 =>
      ST1 w_6 ⟨b_4, 0, none⟩ (.int .i64 n_5) fun w_7 =>
      ST1 w_7 ⟨b_4, 1, none⟩ (.int .i64 n_6) fun w_8 =>
      LDi .i64 w_8 ⟨b_4, 0, none⟩ fun n_7 =>
      LDi .i64 w_8 ⟨b_4, 1, none⟩ fun n_8 =>
      CALL Pg F_l06_far [.agg #[.int .i64 n_7, .int .i64 n_8]] w_8 fun v_5 w_9 =>
      BOOLV v_5 fun t_3 =>
      ITE (!t_3) (
       LDi .i64 w_9 ⟨b_4, 0, none⟩ fun n_9 =>
       LDi .i64 w_9 ⟨b_4, 1, none⟩ fun n_10 =>
       CALL Pg F_pspan_Map_Put [.pointer (some ⟨b_2, 0, none⟩), .agg #[.int .i64 n_9, .int .i64 n_10]] w_9 fun v_6 w_10 =>
       BOOLV v_6 fun t_4 =>
       ITE (t_4) (
        LDi .i64 w_10 ⟨b_4, 1, none⟩ fun n_11 =>
        BIND (IntKind.i64.wrap (n_4 + n_11)) fun n_12 =>
        BIND (IntKind.i64.wrap (n_3 + 1)) fun n_13 =>
        N_1 [v_3, v_4] w_5 [.int .i64 n_12, .int .i64 n_13] w_10) (
        BIND (IntKind.i64.wrap (n_3 + 1)) fun n_14 =>
        N_1 [v_3, v_4] w_5 [.int .i64 n_4, .int .i64 n_14] w_10)) (
       BIND (IntKind.i64.wrap (n_3 + 1)) fun n_15 =>
       N_1 [v_3, v_4] w_5 [.int .i64 n_4, .int .i64 n_15] w_9)) (
      CALL Pg F_pspan_Map_All [.pointer (some ⟨b_2, 0, none⟩)] w_5 fun v_7 w_11 =>
      SLV v_7 fun _ l_1 _ =>
      LDi .i64 w_11 ⟨b_1, 0, none⟩ fun n_16 =>
      LDi .i64 w_11 ⟨b_1, 1, none⟩ fun n_17 =>
      CALL Pg F_pspan_Map_Over [.pointer (some ⟨b_2, 0, none⟩), .agg #[.int .i64 n_16, .int .i64 n_17]] w_11 fun v_8 w_12 =>
      BOOLV v_8 fun t_5 =>
      LDi .i64 w_12 ⟨b_1, 0, none⟩ fun n_18 =>
      CALL Pg F_pspan_Map_Get [.pointer (some ⟨b_2, 0, none⟩), .int .i64 n_18] w_12 fun v_9 w_13 =>
      TUPV v_9 fun cs_1 =>
      GETV cs_1 0 fun v_10 =>
      AGGV v_10 fun cs_2 =>
      GETV cs_2 0 fun v_11 =>
      INTV .i64 v_11 fun n_19 =>
      GETV cs_2 1 fun v_12 =>
      INTV .i64 v_12 fun n_20 =>
      LEN cs_2 2 (
      GETV cs_1 1 fun v_13 =>
      BOOLV v_13 fun t_6 =>
      LEN cs_1 2 (
      NEW w_13 [.int .i64 0, .int .i64 0] T_api_Interval_api_Interval fun b_5 w_14 =>
      ST1 w_14 ⟨b_5, 0, none⟩ (.int .i64 n_19) fun w_15 =>
      ST1 w_15 ⟨b_5, 1, none⟩ (.int .i64 n_20) fun w_16 =>
      LDi .i64 w_16 ⟨b_1, 0, none⟩ fun n_21 =>
      LDi .i64 w_16 ⟨b_1, 1, none⟩ fun n_22 =>
      CALL Pg F_pspan_Map_Over [.pointer (some ⟨b_2, 0, none⟩), .agg #[.int .i64 n_21, .int .i64 n_22]] w_16 fun v_14 w_17 =>
      BOOLV v_14 fun t_7 =>
      LDi .i64 w_17 ⟨b_1, 0, none⟩ fun n_23 =>
      CALL Pg F_pspan_Map_Get [.pointer (some ⟨b_2, 0, none⟩), .int .i64 n_23] w_17 fun v_15 w_18 =>
      TUPV v_15 fun cs_3 =>
      GETV cs_3 0 fun v_16 =>
      AGGV v_16 fun cs_4 =>
      GETV cs_4 0 fun v_17 =>
      INTV .i64 v_17 fun n_24 =>
      GETV cs_4 1 fun v_18 =>
      INTV .i64 v_18 fun n_25 =>
      LEN cs_4 2 (
      GETV cs_3 1 fun v_19 =>
      BOOLV v_19 fun t_8 =>
      LEN cs_3 2 (
      NEW w_18 [.int .i64 0, .int .i64 0] T_api_Interval_api_Interval fun b_6 w_19 =>
      ST1 w_19 ⟨b_6, 0, none⟩ (.int .i64 n_24) fun w_20 =>
      ST1 w_20 ⟨b_6, 1, none⟩ (.int .i64 n_25) fun w_21 =>
      ITE (t_5 == t_7) (
       ITE (t_6 == t_8) (
        CALL Pg F_pspan_Map_All [.pointer (some ⟨b_2, 0, none⟩)] w_21 fun v_20 w_22 =>
        SLV v_20 fun _ l_2 _ =>
        ITE ((↑l_2 : Int) == (↑l_1 : Int)) (
         CALL Pg F_pspan_Map_Bytes [.pointer (some ⟨b_2, 0, none⟩)] w_22 fun v_21 w_23 =>
         INTV .i64 v_21 fun n_26 =>
         ITE (n_26 == n_4) (
          ITE (!t_6) (
           K (.bool true) w_23) (
           LDi .i64 w_23 ⟨b_1, 1, none⟩ fun n_27 =>
           ITE (decide (n_27 < 1)) (
            K (.bool true) w_23) (
            K (.bool t_5) w_23))) (
          K (.bool false) w_23)) (
         K (.bool false) w_22)) (
        K (.bool false) w_21)) (
       K (.bool false) w_21))))))))))
theorem E_l06_SpanAsks (la : Option Addr) (ll : Nat) (lc : Nat) (x0 : Int) (x1 : Int) (w : World) (K : Value → World → Prop) :
    D_l06_SpanAsks la ll lc x0 x1 w K = vcFn Pg Try.f3 [] [.slice la ll lc, .agg #[.int .i64 x0, .int .i64 x1]] w K := by kernel_rfl
theorem C_l06_SpanAsks {la : Option Addr} {ll : Nat} {lc : Nat} {x0 : Int} {x1 : Int} {w : World} {K : Value → World → Prop} (h : D_l06_SpanAsks la ll lc x0 x1 w K) :
    CALL Pg F_l06_SpanAsks [.slice la ll lc, .agg #[.int .i64 x0, .int .i64 x1]] w K :=
  call_of_vc [] Try.func3 rfl (Nat.le_of_ble_eq_true (by kernel_rfl)) ((E_l06_SpanAsks la ll lc x0 x1 w K) ▸ h)

end Go.Proofs.Ytpopdookpbmmpaa
