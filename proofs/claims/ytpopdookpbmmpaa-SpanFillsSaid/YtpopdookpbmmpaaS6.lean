/- What the evaluator asks of each function, in readable form: printed by a program of this claim's own. -/
import Derived.Test.YtpopdookpbmmpaaN
import Derived.Test.YtpopdookpbmmpaaDen
namespace Go.Proofs.Ytpopdookpbmmpaa
open Go.Den
set_option linter.unusedVariables false
set_option maxRecDepth 1000000
def D_l06_SpanFills (ordera : Option Addr) (orderl : Nat) (orderc : Nat) (i0 : Int) (i1 : Int) (w : World) (K : Value → World → Prop) : Prop :=
  NEW w [.int .i64 i0, .int .i64 i1] T_api_Interval_api_Interval fun b_1 w_1 =>
  CALL Pg F_l06_speaks [] w_1 fun v_1 w_2 =>
  BOOLV v_1 fun t_1 =>
  ITE (!t_1) (
   K (.bool false) w_2) (
   ITE (decide ((↑orderl : Int) > 100)) (
    K (.bool true) w_2) (
    LDi .i64 w_2 ⟨b_1, 0, none⟩ fun n_1 =>
    LDi .i64 w_2 ⟨b_1, 1, none⟩ fun n_2 =>
    CALL Pg F_l06_far [.agg #[.int .i64 n_1, .int .i64 n_2]] w_2 fun v_2 w_3 =>
    BOOLV v_2 fun t_2 =>
    ITE (t_2) (
     K (.bool true) w_3) (
     NEW w_3 [.slice none 0 0] T_span_Map_span_Map fun b_2 w_4 =>
     LOOP [.int .i64 0, .int .i64 0] w_4 fun I_1 N_1 =>
     ∀ w_5 : World,
     ∀ v_3 : Value,
     ∀ v_4 : Value,
     (I_1 [v_3, v_4] w_5 →
     INTV .i64 v_4 fun n_3 =>
     INTV .i64 v_3 fun n_4 =>
     ITE (decide (n_3 < (↑orderl : Int))) (
      IDX ordera orderl n_3 1 fun b_3 o_1 =>
      LDi .u8 w_5 ⟨b_3, o_1, none⟩ fun n_5 =>
      BIND (IntKind.i64.wrap n_5) fun n_6 =>
      CALL Pg F_pspan_Map_Put [.pointer (some ⟨b_2, 0, none⟩), .agg #[.int .i64 n_6, .int .i64 1]] w_5 fun v_5 w_6 =>
      BOOLV v_5 fun t_3 =>
      ITE (t_3) (
       BIND (IntKind.i64.wrap (n_4 + 1)) fun n_7 =>
       BIND (IntKind.i64.wrap (n_3 + 1)) fun n_8 =>
       N_1 [v_3, v_4] w_5 [.int .i64 n_7, .int .i64 n_8] w_6) (
       BIND (IntKind.i64.wrap (n_3 + 1)) fun n_9 =>
       N_1 [v_3, v_4] w_5 [.int .i64 n_4, .int .i64 n_9] w_6)) (
      LOOP [.int .i64 n_4, .int .i64 0] w_5 fun I_2 N_2 =>
      ∀ w_7 : World,
      ∀ v_6 : Value,
      ∀ v_7 : Value,
      (I_2 [v_6, v_7] w_7 →
      INTV .i64 v_7 fun n_10 =>
      INTV .i64 v_6 fun n_11 =>
      ITE (decide (n_10 < 256)) (
       CALL Pg F_pspan_Map_Put [.pointer (some ⟨b_2, 0, none⟩), .agg #[.int .i64 n_10, .int .i64 1]] w_7 fun v_8 w_8 =>
       BOOLV v_8 fun t_4 =>
       ITE (t_4) (
        BIND (IntKind.i64.wrap (n_11 + 1)) fun n_12 =>
        BIND (IntKind.i64.wrap (n_10 + 1)) fun n_13 =>
        N_2 [v_6, v_7] w_7 [.int .i64 n_12, .int .i64 n_13] w_8) (
        BIND (IntKind.i64.wrap (n_10 + 1)) fun n_14 =>
        N_2 [v_6, v_7] w_7 [.int .i64 n_11, .int .i64 n_14] w_8)) (
       JOIN fun J_1 =>
       ((
        JOIN fun J_2 =>
        ((
         DRAW w_7 fun w_9 =>
         ITE (n_11 != 256) (
          J_2 [.bool true] w_9) (
          CALL Pg F_pspan_Map_Bytes [.pointer (some ⟨b_2, 0, none⟩)] w_9 fun v_9 w_10 =>
          INTV .i64 v_9 fun n_15 =>
          ((
           KEEP w_10 []) ∧
           ITE (n_15 != 256) (
            J_2 [.bool true] w_10) (
            LDi .i64 w_10 ⟨b_1, 0, none⟩ fun n_16 =>
            LDi .i64 w_10 ⟨b_1, 1, none⟩ fun n_17 =>
            LDi .i64 w_10 ⟨b_1, 1, none⟩ fun n_18 =>
            CALL Pg F_pspan_Map_Over [.pointer (some ⟨b_2, 0, none⟩), .agg #[.int .i64 n_16, .int .i64 n_17]] w_10 fun v_10 w_11 =>
            BOOLV v_10 fun t_5 =>
            ((
             KEEP w_11 [Fact.cell ⟨b_1, 1, none⟩ (.int .i64 n_18)]) ∧
             ITE (decide (n_18 ≥ 1)) (
              LDi .i64 w_11 ⟨b_1, 0, none⟩ fun n_19 =>
              ITE (decide (n_19 < 256)) (
               LDi .i64 w_11 ⟨b_1, 0, none⟩ fun n_20 =>
               ITE (decide (n_20 ≥ 0)) (
                J_2 [.bool !t_5 == true] w_11) (
                LDi .i64 w_11 ⟨b_1, 1, none⟩ fun n_21 =>
                LDi .i64 w_11 ⟨b_1, 0, none⟩ fun n_22 =>
                BIND (IntKind.i64.wrap (0 - n_22)) fun n_23 =>
                J_2 [.bool !t_5 == decide (n_21 > n_23)] w_11)) (
               J_2 [.bool !t_5 == false] w_11)) (
              J_2 [.bool !t_5 == false] w_11)))))) ∧
         ∀ w_12 : World,
         ∀ v_11 : Value,
         (J_2 [v_11] w_12 →
         BOOLV v_11 fun t_6 =>
         ITE (t_6) (
          K (.bool false) w_12) (
          J_1 [.bool false] w_12)))) ∧
        ∀ w_13 : World,
        ∀ v_12 : Value,
        (J_1 [v_12] w_13 →
        BOOLV v_12 fun t_7 =>
        LOOP [.int .i64 0] w_13 fun I_3 N_3 =>
        ∀ w_14 : World,
        ∀ v_13 : Value,
        (I_3 [v_13] w_14 →
        INTV .i64 v_13 fun n_24 =>
        ITE (decide (n_24 < (↑orderl : Int))) (
         IDX ordera orderl n_24 1 fun b_4 o_2 =>
         LDi .u8 w_14 ⟨b_4, o_2, none⟩ fun n_25 =>
         BIND (IntKind.i64.wrap n_25) fun n_26 =>
         CALL Pg F_pspan_Map_Drop [.pointer (some ⟨b_2, 0, none⟩), .int .i64 n_26] w_14 fun v_14 w_15 =>
         TUPV v_14 fun cs_1 =>
         GETV cs_1 0 fun v_15 =>
         AGGV v_15 fun cs_2 =>
         GETV cs_2 0 fun v_16 =>
         INTV .i64 v_16 fun _ =>
         GETV cs_2 1 fun v_17 =>
         INTV .i64 v_17 fun _ =>
         LEN cs_2 2 (
         GETV cs_1 1 fun v_18 =>
         BOOLV v_18 fun _ =>
         LEN cs_1 2 (
         BIND (IntKind.i64.wrap (n_24 + 1)) fun n_29 =>
         N_3 [v_13] w_14 [.int .i64 n_29] w_15))) (
         LOOP [.bool t_7, .int .i64 0] w_14 fun I_4 N_4 =>
         ∀ w_16 : World,
         ∀ v_19 : Value,
         ∀ v_20 : Value,
         (I_4 [v_19, v_20] w_16 →
         INTV .i64 v_20 fun n_30 =>
         BOOLV v_19 fun t_9 =>
         ITE (decide (n_30 < (↑orderl : Int))) (
          IDX ordera orderl n_30 1 fun b_5 o_3 =>
          LDi .u8 w_16 ⟨b_5, o_3, none⟩ fun n_31 =>
          BIND (IntKind.i64.wrap n_31) fun n_32 =>
          CALL Pg F_pspan_Map_Put [.pointer (some ⟨b_2, 0, none⟩), .agg #[.int .i64 n_32, .int .i64 1]] w_16 fun v_21 w_17 =>
          BOOLV v_21 fun t_10 =>
          ITE (!t_10) (
           BIND (IntKind.i64.wrap n_31) fun n_33 =>
           CALL Pg F_pspan_Map_Get [.pointer (some ⟨b_2, 0, none⟩), .int .i64 n_33] w_17 fun v_22 w_18 =>
           TUPV v_22 fun cs_3 =>
           GETV cs_3 0 fun v_23 =>
           AGGV v_23 fun cs_4 =>
           GETV cs_4 0 fun v_24 =>
           INTV .i64 v_24 fun n_34 =>
           GETV cs_4 1 fun v_25 =>
           INTV .i64 v_25 fun n_35 =>
           LEN cs_4 2 (
           GETV cs_3 1 fun v_26 =>
           BOOLV v_26 fun t_11 =>
           LEN cs_3 2 (
           NEW w_18 [.int .i64 0, .int .i64 0] T_api_Interval_api_Interval fun b_6 w_19 =>
           ST1 w_19 ⟨b_6, 0, none⟩ (.int .i64 n_34) fun w_20 =>
           ST1 w_20 ⟨b_6, 1, none⟩ (.int .i64 n_35) fun w_21 =>
           ITE (!t_11) (
            K (.bool false) w_21) (
            BIND (IntKind.i64.wrap (n_30 + 1)) fun n_36 =>
            N_4 [v_19, v_20] w_16 [.bool t_9, .int .i64 n_36] w_21)))) (
           BIND (IntKind.i64.wrap (n_30 + 1)) fun n_37 =>
           N_4 [v_19, v_20] w_16 [.bool t_9, .int .i64 n_37] w_17)) (
          CALL Pg F_pspan_Map_Bytes [.pointer (some ⟨b_2, 0, none⟩)] w_16 fun v_27 w_22 =>
          INTV .i64 v_27 fun n_38 =>
          K (.bool (n_38 == 256)) w_22)))))))))))))
theorem E_l06_SpanFills (ordera : Option Addr) (orderl : Nat) (orderc : Nat) (i0 : Int) (i1 : Int) (w : World) (K : Value → World → Prop) :
    D_l06_SpanFills ordera orderl orderc i0 i1 w K = vcFn Pg Try.f11 [19] [.slice ordera orderl orderc, .agg #[.int .i64 i0, .int .i64 i1]] w K := by kernel_rfl
theorem C_l06_SpanFills {ordera : Option Addr} {orderl : Nat} {orderc : Nat} {i0 : Int} {i1 : Int} {w : World} {K : Value → World → Prop} (h : D_l06_SpanFills ordera orderl orderc i0 i1 w K) :
    CALL Pg F_l06_SpanFills [.slice ordera orderl orderc, .agg #[.int .i64 i0, .int .i64 i1]] w K :=
  call_of_vc [19] Try.func11 rfl (Nat.le_of_ble_eq_true (by kernel_rfl)) ((E_l06_SpanFills ordera orderl orderc i0 i1 w K) ▸ h)

end Go.Proofs.Ytpopdookpbmmpaa
