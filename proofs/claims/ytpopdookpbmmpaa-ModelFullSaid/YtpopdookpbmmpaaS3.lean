/- What the evaluator asks of each function, in readable form: printed by a program of this claim's own. -/
import Derived.Test.YtpopdookpbmmpaaN
import Derived.Test.YtpopdookpbmmpaaDen
namespace Go.Proofs.Ytpopdookpbmmpaa
open Go.Den
set_option linter.unusedVariables false
set_option maxRecDepth 1000000
def D_l06_SpanApart (la : Option Addr) (ll : Nat) (lc : Nat) (dropa : Option Addr) (dropl : Nat) (dropc : Nat) (w : World) (K : Value → World → Prop) : Prop :=
  CALL Pg F_l06_speaks [] w fun v_1 w_1 =>
  BOOLV v_1 fun t_1 =>
  ITE (!t_1) (
   K (.bool false) w_1) (
   ITE (decide ((↑ll : Int) > 60)) (
    K (.bool true) w_1) (
    ITE (decide ((↑dropl : Int) > 60)) (
     K (.bool true) w_1) (
     NEW w_1 [.slice none 0 0] T_span_Map_span_Map fun b_1 w_2 =>
     LOOP [.int .i64 0] w_2 fun I_1 N_1 =>
     ∀ w_3 : World,
     ∀ v_2 : Value,
     (I_1 [v_2] w_3 →
     INTV .i64 v_2 fun n_1 =>
     ITE (decide (n_1 < (↑ll : Int))) (
      IDX la ll n_1 2 fun b_2 o_1 =>
      LDi .i64 w_3 ⟨b_2, o_1, none⟩ fun n_2 =>
      LDi .i64 w_3 ⟨b_2, o_1 + 1, none⟩ fun n_3 =>
      NEW w_3 [.int .i64 0, .int .i64 0] T_api_Interval_api_Interval fun b_3 w_4 =>
      ST1 w_4 ⟨b_3, 0, none⟩ (.int .i64 n_2) fun w_5 =>
      ST1 w_5 ⟨b_3, 1, none⟩ (.int .i64 n_3) fun w_6 =>
      LDi .i64 w_6 ⟨b_3, 0, none⟩ fun n_4 =>
      LDi .i64 w_6 ⟨b_3, 1, none⟩ fun n_5 =>
      CALL Pg F_l06_far [.agg #[.int .i64 n_4, .int .i64 n_5]] w_6 fun v_3 w_7 =>
      BOOLV v_3 fun t_2 =>
      ITE (t_2) (
       BIND (IntKind.i64.wrap (n_1 + 1)) fun n_6 =>
       N_1 [v_2] w_3 [.int .i64 n_6] w_7) (
       LDi .i64 w_7 ⟨b_3, 0, none⟩ fun n_7 =>
       LDi .i64 w_7 ⟨b_3, 1, none⟩ fun n_8 =>
       CALL Pg F_pspan_Map_Put [.pointer (some ⟨b_1, 0, none⟩), .agg #[.int .i64 n_7, .int .i64 n_8]] w_7 fun v_4 w_8 =>
       BOOLV v_4 fun _ =>
       ITE (decide (n_1 < (↑dropl : Int))) (
        IDX dropa dropl n_1 1 fun b_4 o_2 =>
        LDi .i64 w_8 ⟨b_4, o_2, none⟩ fun n_9 =>
        CALL Pg F_pspan_Map_Drop [.pointer (some ⟨b_1, 0, none⟩), .int .i64 n_9] w_8 fun v_5 w_9 =>
        TUPV v_5 fun cs_1 =>
        GETV cs_1 0 fun v_6 =>
        AGGV v_6 fun cs_2 =>
        GETV cs_2 0 fun v_7 =>
        INTV .i64 v_7 fun _ =>
        GETV cs_2 1 fun v_8 =>
        INTV .i64 v_8 fun _ =>
        LEN cs_2 2 (
        GETV cs_1 1 fun v_9 =>
        BOOLV v_9 fun _ =>
        LEN cs_1 2 (
        BIND (IntKind.i64.wrap (n_1 + 1)) fun n_12 =>
        N_1 [v_2] w_3 [.int .i64 n_12] w_9))) (
        BIND (IntKind.i64.wrap (n_1 + 1)) fun n_13 =>
        N_1 [v_2] w_3 [.int .i64 n_13] w_8))) (
      CALL Pg F_pspan_Map_All [.pointer (some ⟨b_1, 0, none⟩)] w_3 fun v_10 w_10 =>
      SLV v_10 fun a_1 l_1 c_1 =>
      LOOP [.bool false, .int .i64 0] w_10 fun I_2 N_2 =>
      ∀ w_11 : World,
      ∀ v_11 : Value,
      ∀ v_12 : Value,
      (I_2 [v_11, v_12] w_11 →
      INTV .i64 v_12 fun n_14 =>
      BOOLV v_11 fun t_5 =>
      ITE (decide (n_14 < (↑l_1 : Int))) (
       IDX a_1 l_1 n_14 2 fun b_5 o_3 =>
       LDi .i64 w_11 ⟨b_5, o_3, none⟩ fun n_15 =>
       LDi .i64 w_11 ⟨b_5, o_3 + 1, none⟩ fun n_16 =>
       NEW w_11 [.int .i64 0, .int .i64 0] T_api_Interval_api_Interval fun b_6 w_12 =>
       ST1 w_12 ⟨b_6, 0, none⟩ (.int .i64 n_15) fun w_13 =>
       ST1 w_13 ⟨b_6, 1, none⟩ (.int .i64 n_16) fun w_14 =>
       LDi .i64 w_14 ⟨b_6, 1, none⟩ fun n_17 =>
       ITE (decide (n_17 < 1)) (
        K (.bool false) w_14) (
        LDi .i64 w_14 ⟨b_6, 0, none⟩ fun n_18 =>
        ITE (decide (n_18 < 0)) (
         K (.bool false) w_14) (
         SILN Pg (Instr.sliceAt T_Lapi_Interval (.slice a_1 l_1 c_1) none (some (.int .i64 n_14)) none) fun v_13 =>
         SLV v_13 fun a_2 l_2 _ =>
         LOOP [.bool t_5, .int .i64 0] w_14 fun I_3 N_3 =>
         ∀ w_15 : World,
         ∀ v_14 : Value,
         ∀ v_15 : Value,
         (I_3 [v_14, v_15] w_15 →
         INTV .i64 v_15 fun n_19 =>
         BOOLV v_14 fun t_6 =>
         ITE (decide (n_19 < (↑l_2 : Int))) (
          IDX a_2 l_2 n_19 2 fun b_7 o_4 =>
          LDi .i64 w_15 ⟨b_7, o_4, none⟩ fun n_20 =>
          LDi .i64 w_15 ⟨b_7, o_4 + 1, none⟩ fun n_21 =>
          NEW w_15 [.int .i64 0, .int .i64 0] T_api_Interval_api_Interval fun b_8 w_16 =>
          ST1 w_16 ⟨b_8, 0, none⟩ (.int .i64 n_20) fun w_17 =>
          ST1 w_17 ⟨b_8, 1, none⟩ (.int .i64 n_21) fun w_18 =>
          LDi .i64 w_18 ⟨b_6, 0, none⟩ fun n_22 =>
          LDi .i64 w_18 ⟨b_6, 1, none⟩ fun n_23 =>
          LDi .i64 w_18 ⟨b_8, 0, none⟩ fun n_24 =>
          LDi .i64 w_18 ⟨b_8, 1, none⟩ fun n_25 =>
          CALL Pg F_r06_Over [.agg #[.int .i64 n_22, .int .i64 n_23], .agg #[.int .i64 n_24, .int .i64 n_25]] w_18 fun v_16 w_19 =>
          BOOLV v_16 fun t_7 =>
          ITE (t_7) (
           K (.bool false) w_19) (
           BIND (IntKind.i64.wrap (n_19 + 1)) fun n_26 =>
           N_3 [v_14, v_15] w_15 [.bool t_6, .int .i64 n_26] w_19)) (
          BIND (IntKind.i64.wrap (n_14 + 1)) fun n_27 =>
          N_2 [v_11, v_12] w_11 [.bool t_6, .int .i64 n_27] w_15))))) (
       K (.bool true) w_11)))))))
theorem E_l06_SpanApart (la : Option Addr) (ll : Nat) (lc : Nat) (dropa : Option Addr) (dropl : Nat) (dropc : Nat) (w : World) (K : Value → World → Prop) :
    D_l06_SpanApart la ll lc dropa dropl dropc w K = vcFn Pg Try.f9 [] [.slice la ll lc, .slice dropa dropl dropc] w K := by kernel_rfl
theorem C_l06_SpanApart {la : Option Addr} {ll : Nat} {lc : Nat} {dropa : Option Addr} {dropl : Nat} {dropc : Nat} {w : World} {K : Value → World → Prop} (h : D_l06_SpanApart la ll lc dropa dropl dropc w K) :
    CALL Pg F_l06_SpanApart [.slice la ll lc, .slice dropa dropl dropc] w K :=
  call_of_vc [] Try.func9 rfl (Nat.le_of_ble_eq_true (by kernel_rfl)) ((E_l06_SpanApart la ll lc dropa dropl dropc w K) ▸ h)

end Go.Proofs.Ytpopdookpbmmpaa
