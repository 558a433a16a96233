/- What the evaluator asks of each function, in readable form: printed by a program of this claim's own. -/
import Derived.Test.YtpopdookpbmmpaaN
import Derived.Test.YtpopdookpbmmpaaDen
namespace Go.Proofs.Ytpopdookpbmmpaa
open Go.Den
set_option linter.unusedVariables false
set_option maxRecDepth 1000000
def D_line_Order (la : Option Addr) (ll : Nat) (lc : Nat) (w : World) (K : Value → World → Prop) : Prop :=
  NEW w [.slice la ll lc] T_Lapi_Event fun b_1 w_1 =>
  LDl w_1 ⟨b_1, 0, none⟩ fun a_1 l_1 _ =>
  LOOP [.slice none 0 0, .int .i64 0] w_1 fun I_1 N_1 =>
  ∀ w_2 : World,
  ∀ v_1 : Value,
  ∀ v_2 : Value,
  (I_1 [v_1, v_2] w_2 →
  INTV .i64 v_2 fun n_1 =>
  SLV v_1 fun a_2 l_2 c_2 =>
  ITE (decide (n_1 < (↑l_1 : Int))) (
   IDX a_1 l_1 n_1 9 fun b_2 o_1 =>
   LDi .i64 w_2 ⟨b_2, o_1, none⟩ fun n_2 =>
   LDi .i64 w_2 ⟨b_2, o_1 + 1, none⟩ fun n_3 =>
   LDi .i64 w_2 ⟨b_2, o_1 + 2, none⟩ fun n_4 =>
   LDi .i64 w_2 ⟨b_2, o_1 + 3, none⟩ fun n_5 =>
   LDi .i64 w_2 ⟨b_2, o_1 + 4, none⟩ fun n_6 =>
   LDi .i64 w_2 ⟨b_2, o_1 + 5, none⟩ fun n_7 =>
   LDi .i64 w_2 ⟨b_2, o_1 + 6, none⟩ fun n_8 =>
   LDi .i64 w_2 ⟨b_2, o_1 + 7, none⟩ fun n_9 =>
   LDi .i64 w_2 ⟨b_2, o_1 + 8, none⟩ fun n_10 =>
   NEW w_2 [.int .i64 0, .int .i64 0, .int .i64 0, .int .i64 0, .int .i64 0, .int .i64 0, .int .i64 0, .int .i64 0, .int .i64 0] T_api_Event_api_Event fun b_3 w_3 =>
   ST1 w_3 ⟨b_3, 0, none⟩ (.int .i64 n_2) fun w_4 =>
   ST1 w_4 ⟨b_3, 1, none⟩ (.int .i64 n_3) fun w_5 =>
   ST1 w_5 ⟨b_3, 2, none⟩ (.int .i64 n_4) fun w_6 =>
   ST1 w_6 ⟨b_3, 3, none⟩ (.int .i64 n_5) fun w_7 =>
   ST1 w_7 ⟨b_3, 4, none⟩ (.int .i64 n_6) fun w_8 =>
   ST1 w_8 ⟨b_3, 5, none⟩ (.int .i64 n_7) fun w_9 =>
   ST1 w_9 ⟨b_3, 6, none⟩ (.int .i64 n_8) fun w_10 =>
   ST1 w_10 ⟨b_3, 7, none⟩ (.int .i64 n_9) fun w_11 =>
   ST1 w_11 ⟨b_3, 8, none⟩ (.int .i64 n_10) fun w_12 =>
   LDi .i64 w_12 ⟨b_3, 7, none⟩ fun n_11 =>
   ITE (decide (n_11 > 0)) (
    NEW w_12 [.int .i64 n_1] T_int fun b_4 w_13 =>
    SEML Pg w_13 (Builtin.append_ #[T_Lint, T_Lint] T_Lint #[.slice a_2 l_2 c_2, .slice (some ⟨b_4, 0, none⟩) 1 1]) fun v_3 w_14 =>
    SLV v_3 fun a_3 l_3 c_3 =>
    BIND (IntKind.i64.wrap (n_1 + 1)) fun n_12 =>
    N_1 [v_1, v_2] w_2 [.slice a_3 l_3 c_3, .int .i64 n_12] w_14) (
    BIND (IntKind.i64.wrap (n_1 + 1)) fun n_13 =>
    N_1 [v_1, v_2] w_2 [.slice a_2 l_2 c_2, .int .i64 n_13] w_12)) (
   CALL Pg F_slices_SortStableFunc_Lint_int [.slice a_2 l_2 c_2, .func (Fn.func F_line_Order_1) #[] #[.pointer (some ⟨b_1, 0, none⟩)]] w_2 fun v_4 w_15 =>
   TUPV v_4 fun cs_1 =>
   LEN cs_1 0 (
   K (.slice a_2 l_2 c_2) w_15)))
theorem E_line_Order (la : Option Addr) (ll : Nat) (lc : Nat) (w : World) (K : Value → World → Prop) :
    D_line_Order la ll lc w K = vcFn Pg Try.f24 [] [.slice la ll lc] w K := by kernel_rfl
theorem C_line_Order {la : Option Addr} {ll : Nat} {lc : Nat} {w : World} {K : Value → World → Prop} (h : D_line_Order la ll lc w K) :
    CALL Pg F_line_Order [.slice la ll lc] w K :=
  call_of_vc [] Try.func24 rfl (Nat.le_of_ble_eq_true (by kernel_rfl)) ((E_line_Order la ll lc w K) ▸ h)
def D_line_Order_1 (a : Int) (b : Int) (cap0 : Option Addr) (w : World) (K : Value → World → Prop) : Prop :=
  DRAW w fun w_1 =>
  NN cap0 fun b_1 o_1 =>
  LDl w_1 ⟨b_1, o_1, none⟩ fun a_1 l_1 _ =>
  IDX a_1 l_1 a 9 fun b_2 o_2 =>
  LDi .i64 w_1 ⟨b_2, o_2 + 7, none⟩ fun n_1 =>
  NN cap0 fun b_3 o_3 =>
  LDl w_1 ⟨b_3, o_3, none⟩ fun a_2 l_2 _ =>
  IDX a_2 l_2 b 9 fun b_4 o_4 =>
  LDi .i64 w_1 ⟨b_4, o_4 + 7, none⟩ fun n_2 =>
  CALL Pg F_cmp_Compare_int [.int .i64 n_1, .int .i64 n_2] w_1 fun v_1 w_2 =>
  INTV .i64 v_1 fun n_3 =>
  ((
   KEEP w_2 []) ∧
   K (.int .i64 n_3) w_2)
theorem E_line_Order_1 (a : Int) (b : Int) (cap0 : Option Addr) (w : World) (K : Value → World → Prop) :
    D_line_Order_1 a b cap0 w K = vcFn Pg Try.f53 [] [.int .i64 a, .int .i64 b, .pointer cap0] w K := by kernel_rfl
theorem C_line_Order_1 {a : Int} {b : Int} {cap0 : Option Addr} {w : World} {K : Value → World → Prop} (h : D_line_Order_1 a b cap0 w K) :
    CALL Pg F_line_Order_1 [.int .i64 a, .int .i64 b, .pointer cap0] w K :=
  call_of_vc [] Try.func53 rfl (Nat.le_of_ble_eq_true (by kernel_rfl)) ((E_line_Order_1 a b cap0 w K) ▸ h)
def D_line_Ahead (a0 : Int) (a1 : Int) (a2 : Int) (a3 : Int) (a4 : Int) (a5 : Int) (a6 : Int) (a7 : Int) (a8 : Int) (b0 : Int) (b1 : Int) (b2 : Int) (b3 : Int) (b4 : Int) (b5 : Int) (b6 : Int) (b7 : Int) (b8 : Int) (w : World) (K : Value → World → Prop) : Prop :=
  NEW w [.int .i64 a0, .int .i64 a1, .int .i64 a2, .int .i64 a3, .int .i64 a4, .int .i64 a5, .int .i64 a6, .int .i64 a7, .int .i64 a8] T_api_Event_api_Event fun b_1 w_1 =>
  NEW w_1 [.int .i64 b0, .int .i64 b1, .int .i64 b2, .int .i64 b3, .int .i64 b4, .int .i64 b5, .int .i64 b6, .int .i64 b7, .int .i64 b8] T_api_Event_api_Event fun b_2 w_2 =>
  LDi .i64 w_2 ⟨b_1, 8, none⟩ fun n_1 =>
  ITE (decide (n_1 > 0)) (
   LDi .i64 w_2 ⟨b_1, 8, none⟩ fun n_2 =>
   LDi .i64 w_2 ⟨b_2, 6, none⟩ fun n_3 =>
   K (.bool (decide (n_2 < n_3))) w_2) (
   K (.bool false) w_2)
theorem E_line_Ahead (a0 : Int) (a1 : Int) (a2 : Int) (a3 : Int) (a4 : Int) (a5 : Int) (a6 : Int) (a7 : Int) (a8 : Int) (b0 : Int) (b1 : Int) (b2 : Int) (b3 : Int) (b4 : Int) (b5 : Int) (b6 : Int) (b7 : Int) (b8 : Int) (w : World) (K : Value → World → Prop) :
    D_line_Ahead a0 a1 a2 a3 a4 a5 a6 a7 a8 b0 b1 b2 b3 b4 b5 b6 b7 b8 w K = vcFn Pg Try.f26 [] [.agg #[.int .i64 a0, .int .i64 a1, .int .i64 a2, .int .i64 a3, .int .i64 a4, .int .i64 a5, .int .i64 a6, .int .i64 a7, .int .i64 a8], .agg #[.int .i64 b0, .int .i64 b1, .int .i64 b2, .int .i64 b3, .int .i64 b4, .int .i64 b5, .int .i64 b6, .int .i64 b7, .int .i64 b8]] w K := by kernel_rfl
theorem C_line_Ahead {a0 : Int} {a1 : Int} {a2 : Int} {a3 : Int} {a4 : Int} {a5 : Int} {a6 : Int} {a7 : Int} {a8 : Int} {b0 : Int} {b1 : Int} {b2 : Int} {b3 : Int} {b4 : Int} {b5 : Int} {b6 : Int} {b7 : Int} {b8 : Int} {w : World} {K : Value → World → Prop} (h : D_line_Ahead a0 a1 a2 a3 a4 a5 a6 a7 a8 b0 b1 b2 b3 b4 b5 b6 b7 b8 w K) :
    CALL Pg F_line_Ahead [.agg #[.int .i64 a0, .int .i64 a1, .int .i64 a2, .int .i64 a3, .int .i64 a4, .int .i64 a5, .int .i64 a6, .int .i64 a7, .int .i64 a8], .agg #[.int .i64 b0, .int .i64 b1, .int .i64 b2, .int .i64 b3, .int .i64 b4, .int .i64 b5, .int .i64 b6, .int .i64 b7, .int .i64 b8]] w K :=
  call_of_vc [] Try.func26 rfl (Nat.le_of_ble_eq_true (by kernel_rfl)) ((E_line_Ahead a0 a1 a2 a3 a4 a5 a6 a7 a8 b0 b1 b2 b3 b4 b5 b6 b7 b8 w K) ▸ h)
def D_line_Right (la : Option Addr) (ll : Nat) (lc : Nat) (w : World) (K : Value → World → Prop) : Prop :=
  NEWMAP w fun b_1 w_1 =>
  LOOP [.bool false, .int .i64 0] w_1 fun I_1 N_1 =>
  ∀ w_2 : World,
  ∀ v_1 : Value,
  ∀ v_2 : Value,
  (I_1 [v_1, v_2] w_2 →
  INTV .i64 v_2 fun n_1 =>
  BOOLV v_1 fun t_1 =>
  ITE (decide (n_1 < (↑ll : Int))) (
   IDX la ll n_1 9 fun b_2 o_1 =>
   LDi .i64 w_2 ⟨b_2, o_1, none⟩ fun n_2 =>
   LDi .i64 w_2 ⟨b_2, o_1 + 1, none⟩ fun n_3 =>
   LDi .i64 w_2 ⟨b_2, o_1 + 2, none⟩ fun n_4 =>
   LDi .i64 w_2 ⟨b_2, o_1 + 3, none⟩ fun n_5 =>
   LDi .i64 w_2 ⟨b_2, o_1 + 4, none⟩ fun n_6 =>
   LDi .i64 w_2 ⟨b_2, o_1 + 5, none⟩ fun n_7 =>
   LDi .i64 w_2 ⟨b_2, o_1 + 6, none⟩ fun n_8 =>
   LDi .i64 w_2 ⟨b_2, o_1 + 7, none⟩ fun n_9 =>
   LDi .i64 w_2 ⟨b_2, o_1 + 8, none⟩ fun n_10 =>
   NEW w_2 [.int .i64 0, .int .i64 0, .int .i64 0, .int .i64 0, .int .i64 0, .int .i64 0, .int .i64 0, .int .i64 0, .int .i64 0] T_api_Event_api_Event fun b_3 w_3 =>
   ST1 w_3 ⟨b_3, 0, none⟩ (.int .i64 n_2) fun w_4 =>
   ST1 w_4 ⟨b_3, 1, none⟩ (.int .i64 n_3) fun w_5 =>
   ST1 w_5 ⟨b_3, 2, none⟩ (.int .i64 n_4) fun w_6 =>
   ST1 w_6 ⟨b_3, 3, none⟩ (.int .i64 n_5) fun w_7 =>
   ST1 w_7 ⟨b_3, 4, none⟩ (.int .i64 n_6) fun w_8 =>
   ST1 w_8 ⟨b_3, 5, none⟩ (.int .i64 n_7) fun w_9 =>
   ST1 w_9 ⟨b_3, 6, none⟩ (.int .i64 n_8) fun w_10 =>
   ST1 w_10 ⟨b_3, 7, none⟩ (.int .i64 n_9) fun w_11 =>
   ST1 w_11 ⟨b_3, 8, none⟩ (.int .i64 n_10) fun w_12 =>
   JOIN fun J_1 =>
   ((
    JOIN fun J_2 =>
    ((
     LDi .i64 w_12 ⟨b_3, 6, none⟩ fun n_11 =>
     ITE (decide (n_11 < 1)) (
      J_2 [.bool true] w_12) (
      LDi .i64 w_12 ⟨b_3, 7, none⟩ fun n_12 =>
      ITE (decide (n_12 < 0)) (
       J_2 [.bool true] w_12) (
       LDi .i64 w_12 ⟨b_3, 8, none⟩ fun n_13 =>
       ITE (decide (n_13 < 0)) (
        J_2 [.bool true] w_12) (
        LDi .i64 w_12 ⟨b_3, 7, none⟩ fun n_14 =>
        ITE (decide (n_14 > 0)) (
         LDi .i64 w_12 ⟨b_3, 7, none⟩ fun n_15 =>
         LDi .i64 w_12 ⟨b_3, 6, none⟩ fun n_16 =>
         ITE (decide (n_15 < n_16)) (
          J_2 [.bool true] w_12) (
          LDi .i64 w_12 ⟨b_3, 8, none⟩ fun n_17 =>
          ITE (decide (n_17 > 0)) (
           LDi .i64 w_12 ⟨b_3, 7, none⟩ fun n_18 =>
           ITE (decide (n_18 < 1)) (
            J_2 [.bool true] w_12) (
            LDi .i64 w_12 ⟨b_3, 7, none⟩ fun n_19 =>
            LDi .i64 w_12 ⟨b_3, 8, none⟩ fun n_20 =>
            J_2 [.bool (decide (n_19 > n_20))] w_12)) (
           J_2 [.bool false] w_12))) (
         LDi .i64 w_12 ⟨b_3, 8, none⟩ fun n_21 =>
         ITE (decide (n_21 > 0)) (
          LDi .i64 w_12 ⟨b_3, 7, none⟩ fun n_22 =>
          ITE (decide (n_22 < 1)) (
           J_2 [.bool true] w_12) (
           LDi .i64 w_12 ⟨b_3, 7, none⟩ fun n_23 =>
           LDi .i64 w_12 ⟨b_3, 8, none⟩ fun n_24 =>
           J_2 [.bool (decide (n_23 > n_24))] w_12)) (
          J_2 [.bool false] w_12)))))) ∧
     ∀ w_13 : World,
     ∀ v_3 : Value,
     (J_2 [v_3] w_13 →
     BOOLV v_3 fun t_2 =>
     ITE (t_2) (
      K (.bool false) w_13) (
      J_1 [.bool t_1] w_13)))) ∧
    ∀ w_14 : World,
    ∀ v_4 : Value,
    (J_1 [v_4] w_14 →
    BOOLV v_4 fun t_3 =>
    LDi .i64 w_14 ⟨b_3, 0, none⟩ fun n_25 =>
    SILX Pg w_14 (Instr.lookup T_map_int_api_Event (.map (some b_1)) (.int .i64 n_25) true) fun v_5 _ =>
    TUPV v_5 fun cs_1 =>
    GETV cs_1 0 fun v_6 =>
    AGGV v_6 fun cs_2 =>
    GETV cs_2 0 fun v_7 =>
    INTV .i64 v_7 fun n_26 =>
    GETV cs_2 1 fun v_8 =>
    INTV .i64 v_8 fun n_27 =>
    GETV cs_2 2 fun v_9 =>
    INTV .i64 v_9 fun n_28 =>
    GETV cs_2 3 fun v_10 =>
    INTV .i64 v_10 fun n_29 =>
    GETV cs_2 4 fun v_11 =>
    INTV .i64 v_11 fun n_30 =>
    GETV cs_2 5 fun v_12 =>
    INTV .i64 v_12 fun n_31 =>
    GETV cs_2 6 fun v_13 =>
    INTV .i64 v_13 fun n_32 =>
    GETV cs_2 7 fun v_14 =>
    INTV .i64 v_14 fun n_33 =>
    GETV cs_2 8 fun v_15 =>
    INTV .i64 v_15 fun n_34 =>
    LEN cs_2 9 (
    GETV cs_1 1 fun v_16 =>
    BOOLV v_16 fun t_4 =>
    LEN cs_1 2 (
    NEW w_14 [.int .i64 0, .int .i64 0, .int .i64 0, .int .i64 0, .int .i64 0, .int .i64 0, .int .i64 0, .int .i64 0, .int .i64 0] T_api_Event_api_Event fun b_4 w_15 =>
    ST1 w_15 ⟨b_4, 0, none⟩ (.int .i64 n_26) fun w_16 =>
    ST1 w_16 ⟨b_4, 1, none⟩ (.int .i64 n_27) fun w_17 =>
    ST1 w_17 ⟨b_4, 2, none⟩ (.int .i64 n_28) fun w_18 =>
    ST1 w_18 ⟨b_4, 3, none⟩ (.int .i64 n_29) fun w_19 =>
    ST1 w_19 ⟨b_4, 4, none⟩ (.int .i64 n_30) fun w_20 =>
    ST1 w_20 ⟨b_4, 5, none⟩ (.int .i64 n_31) fun w_21 =>
    ST1 w_21 ⟨b_4, 6, none⟩ (.int .i64 n_32) fun w_22 =>
    ST1 w_22 ⟨b_4, 7, none⟩ (.int .i64 n_33) fun w_23 =>
    ST1 w_23 ⟨b_4, 8, none⟩ (.int .i64 n_34) fun w_24 =>
    JOIN fun J_3 =>
    ((
     ITE (t_4) (
      LDi .i64 w_24 ⟨b_4, 0, none⟩ fun n_35 =>
      LDi .i64 w_24 ⟨b_4, 1, none⟩ fun n_36 =>
      LDi .i64 w_24 ⟨b_4, 2, none⟩ fun n_37 =>
      LDi .i64 w_24 ⟨b_4, 3, none⟩ fun n_38 =>
      LDi .i64 w_24 ⟨b_4, 4, none⟩ fun n_39 =>
      LDi .i64 w_24 ⟨b_4, 5, none⟩ fun n_40 =>
      LDi .i64 w_24 ⟨b_4, 6, none⟩ fun n_41 =>
      LDi .i64 w_24 ⟨b_4, 7, none⟩ fun n_42 =>
      LDi .i64 w_24 ⟨b_4, 8, none⟩ fun n_43 =>
      LDi .i64 w_24 ⟨b_3, 0, none⟩ fun n_44 =>
      LDi .i64 w_24 ⟨b_3, 1, none⟩ fun n_45 =>
      LDi .i64 w_24 ⟨b_3, 2, none⟩ fun n_46 =>
      LDi .i64 w_24 ⟨b_3, 3, none⟩ fun n_47 =>
      LDi .i64 w_24 ⟨b_3, 4, none⟩ fun n_48 =>
      LDi .i64 w_24 ⟨b_3, 5, none⟩ fun n_49 =>
      LDi .i64 w_24 ⟨b_3, 6, none⟩ fun n_50 =>
      LDi .i64 w_24 ⟨b_3, 7, none⟩ fun n_51 =>
      LDi .i64 w_24 ⟨b_3, 8, none⟩ fun n_52 =>
      CALL Pg F_line_Ahead [.agg #[.int .i64 n_35, .int .i64 n_36, .int .i64 n_37, .int .i64 n_38, .int .i64 n_39, .int .i64 n_40, .int .i64 n_41, .int .i64 n_42, .int .i64 n_43], .agg #[.int .i64 n_44, .int .i64 n_45, .int .i64 n_46, .int .i64 n_47, .int .i64 n_48, .int .i64 n_49, .int .i64 n_50, .int .i64 n_51, .int .i64 n_52]] w_24 fun v_17 w_25 =>
      BOOLV v_17 fun t_5 =>
      J_3 [.bool !t_5] w_25) (
      J_3 [.bool false] w_24)) ∧
     ∀ w_26 : World,
     ∀ v_18 : Value,
     (J_3 [v_18] w_26 →
     BOOLV v_18 fun t_6 =>
     ITE (t_6) (
      K (.bool false) w_26) (
      LDi .i64 w_26 ⟨b_3, 0, none⟩ fun n_53 =>
      LDi .i64 w_26 ⟨b_3, 0, none⟩ fun n_54 =>
      LDi .i64 w_26 ⟨b_3, 1, none⟩ fun n_55 =>
      LDi .i64 w_26 ⟨b_3, 2, none⟩ fun n_56 =>
      LDi .i64 w_26 ⟨b_3, 3, none⟩ fun n_57 =>
      LDi .i64 w_26 ⟨b_3, 4, none⟩ fun n_58 =>
      LDi .i64 w_26 ⟨b_3, 5, none⟩ fun n_59 =>
      LDi .i64 w_26 ⟨b_3, 6, none⟩ fun n_60 =>
      LDi .i64 w_26 ⟨b_3, 7, none⟩ fun n_61 =>
      LDi .i64 w_26 ⟨b_3, 8, none⟩ fun n_62 =>
      SEMU Pg w_26 (Instr.mapUpdate T_map_int_api_Event (.map (some b_1)) (.int .i64 n_53) (.agg #[.int .i64 n_54, .int .i64 n_55, .int .i64 n_56, .int .i64 n_57, .int .i64 n_58, .int .i64 n_59, .int .i64 n_60, .int .i64 n_61, .int .i64 n_62])) fun w_27 =>
      BIND (IntKind.i64.wrap (n_1 + 1)) fun n_63 =>
      N_1 [v_1, v_2] w_2 [.bool t_3, .int .i64 n_63] w_27)))))))) (
   K (.bool true) w_2))
theorem E_line_Right (la : Option Addr) (ll : Nat) (lc : Nat) (w : World) (K : Value → World → Prop) :
    D_line_Right la ll lc w K = vcFn Pg Try.f28 [5, 8] [.slice la ll lc] w K := by kernel_rfl
theorem C_line_Right {la : Option Addr} {ll : Nat} {lc : Nat} {w : World} {K : Value → World → Prop} (h : D_line_Right la ll lc w K) :
    CALL Pg F_line_Right [.slice la ll lc] w K :=
  call_of_vc [5, 8] Try.func28 rfl (Nat.le_of_ble_eq_true (by kernel_rfl)) ((E_line_Right la ll lc w K) ▸ h)
def D_line_Fits (la : Option Addr) (ll : Nat) (lc : Nat) (ordera : Option Addr) (orderl : Nat) (orderc : Nat) (w : World) (K : Value → World → Prop) : Prop :=
  NEWMAP w fun b_1 w_1 =>
  LOOP [.bool false, .int .i64 0] w_1 fun I_1 N_1 =>
  ∀ w_2 : World,
  ∀ v_1 : Value,
  ∀ v_2 : Value,
  (I_1 [v_1, v_2] w_2 →
  INTV .i64 v_2 fun n_1 =>
  BOOLV v_1 fun t_1 =>
  ITE (decide (n_1 < (↑orderl : Int))) (
   IDX ordera orderl n_1 1 fun b_2 o_1 =>
   LDi .i64 w_2 ⟨b_2, o_1, none⟩ fun n_2 =>
   SILX Pg w_2 (Instr.lookup T_map_int_int (.map (some b_1)) (.int .i64 n_2) true) fun v_3 _ =>
   TUPV v_3 fun cs_1 =>
   GETV cs_1 0 fun v_4 =>
   INTV .i64 v_4 fun _ =>
   GETV cs_1 1 fun v_5 =>
   BOOLV v_5 fun t_2 =>
   LEN cs_1 2 (
   ITE (t_2) (
    K (.bool false) w_2) (
    ITE (decide (n_2 < 0)) (
     K (.bool false) w_2) (
     ITE (decide (n_2 ≥ (↑ll : Int))) (
      K (.bool false) w_2) (
      SEMU Pg w_2 (Instr.mapUpdate T_map_int_int (.map (some b_1)) (.int .i64 n_2) (.int .i64 n_1)) fun w_3 =>
      BIND (IntKind.i64.wrap (n_1 + 1)) fun n_4 =>
      N_1 [v_1, v_2] w_2 [.bool t_1, .int .i64 n_4] w_3))))) (
   LOOP [.bool t_1, .int .i64 0] w_2 fun I_2 N_2 =>
   ∀ w_4 : World,
   ∀ v_6 : Value,
   ∀ v_7 : Value,
   (I_2 [v_6, v_7] w_4 →
   INTV .i64 v_7 fun n_5 =>
   BOOLV v_6 fun t_3 =>
   ITE (decide (n_5 < (↑ll : Int))) (
    IDX la ll n_5 9 fun b_3 o_2 =>
    LDi .i64 w_4 ⟨b_3, o_2, none⟩ fun n_6 =>
    LDi .i64 w_4 ⟨b_3, o_2 + 1, none⟩ fun n_7 =>
    LDi .i64 w_4 ⟨b_3, o_2 + 2, none⟩ fun n_8 =>
    LDi .i64 w_4 ⟨b_3, o_2 + 3, none⟩ fun n_9 =>
    LDi .i64 w_4 ⟨b_3, o_2 + 4, none⟩ fun n_10 =>
    LDi .i64 w_4 ⟨b_3, o_2 + 5, none⟩ fun n_11 =>
    LDi .i64 w_4 ⟨b_3, o_2 + 6, none⟩ fun n_12 =>
    LDi .i64 w_4 ⟨b_3, o_2 + 7, none⟩ fun n_13 =>
    LDi .i64 w_4 ⟨b_3, o_2 + 8, none⟩ fun n_14 =>
    NEW w_4 [.int .i64 0, .int .i64 0, .int .i64 0, .int .i64 0, .int .i64 0, .int .i64 0, .int .i64 0, .int .i64 0, .int .i64 0] T_api_Event_api_Event fun b_4 w_5 =>
    ST1 w_5 ⟨b_4, 0, none⟩ (.int .i64 n_6) fun w_6 =>
    ST1 w_6 ⟨b_4, 1, none⟩ (.int .i64 n_7) fun w_7 =>
    ST1 w_7 ⟨b_4, 2, none⟩ (.int .i64 n_8) fun w_8 =>
    ST1 w_8 ⟨b_4, 3, none⟩ (.int .i64 n_9) fun w_9 =>
    ST1 w_9 ⟨b_4, 4, none⟩ (.int .i64 n_10) fun w_10 =>
    ST1 w_10 ⟨b_4, 5, none⟩ (.int .i64 n_11) fun w_11 =>
    ST1 w_11 ⟨b_4, 6, none⟩ (.int .i64 n_12) fun w_12 =>
    ST1 w_12 ⟨b_4, 7, none⟩ (.int .i64 n_13) fun w_13 =>
    ST1 w_13 ⟨b_4, 8, none⟩ (.int .i64 n_14) fun w_14 =>
    SILX Pg w_14 (Instr.lookup T_map_int_int (.map (some b_1)) (.int .i64 n_5) true) fun v_8 _ =>
    TUPV v_8 fun cs_2 =>
    GETV cs_2 0 fun v_9 =>
    INTV .i64 v_9 fun _ =>
    GETV cs_2 1 fun v_10 =>
    BOOLV v_10 fun t_4 =>
    LEN cs_2 2 (
    ITE (!t_4) (
     LDi .i64 w_14 ⟨b_4, 8, none⟩ fun n_16 =>
     ITE (decide (n_16 > 0)) (
      K (.bool false) w_14) (
      BIND (IntKind.i64.wrap (n_5 + 1)) fun n_17 =>
      N_2 [v_6, v_7] w_4 [.bool t_3, .int .i64 n_17] w_14)) (
     BIND (IntKind.i64.wrap (n_5 + 1)) fun n_18 =>
     N_2 [v_6, v_7] w_4 [.bool t_3, .int .i64 n_18] w_14))) (
    LOOP [.bool t_3, .int .i64 0, .int .i64 0] w_4 fun I_3 N_3 =>
    ∀ w_15 : World,
    ∀ v_11 : Value,
    ∀ v_12 : Value,
    ∀ v_13 : Value,
    (I_3 [v_11, v_12, v_13] w_15 →
    INTV .i64 v_13 fun n_19 =>
    INTV .i64 v_12 fun n_20 =>
    BOOLV v_11 fun t_5 =>
    ITE (decide (n_19 < (↑orderl : Int))) (
     IDX ordera orderl n_19 1 fun b_5 o_3 =>
     LDi .i64 w_15 ⟨b_5, o_3, none⟩ fun n_21 =>
     IDX la ll n_21 9 fun b_6 o_4 =>
     LDi .i64 w_15 ⟨b_6, o_4 + 8, none⟩ fun n_22 =>
     ITE (decide (n_22 > 0)) (
      IDX la ll n_21 9 fun b_7 o_5 =>
      LDi .i64 w_15 ⟨b_7, o_5 + 8, none⟩ fun n_23 =>
      ITE (decide (n_23 < n_20)) (
       K (.bool false) w_15) (
       IDX la ll n_21 9 fun b_8 o_6 =>
       LDi .i64 w_15 ⟨b_8, o_6 + 6, none⟩ fun n_24 =>
       SILN Pg (Builtin.max_ #[T_int, T_int] T_int #[.int .i64 n_20, .int .i64 n_24]) fun v_14 =>
       INTV .i64 v_14 fun n_25 =>
       BIND (IntKind.i64.wrap (n_19 + 1)) fun n_26 =>
       N_3 [v_11, v_12, v_13] w_15 [.bool t_5, .int .i64 n_25, .int .i64 n_26] w_15)) (
      IDX la ll n_21 9 fun b_9 o_7 =>
      LDi .i64 w_15 ⟨b_9, o_7 + 6, none⟩ fun n_27 =>
      SILN Pg (Builtin.max_ #[T_int, T_int] T_int #[.int .i64 n_20, .int .i64 n_27]) fun v_15 =>
      INTV .i64 v_15 fun n_28 =>
      BIND (IntKind.i64.wrap (n_19 + 1)) fun n_29 =>
      N_3 [v_11, v_12, v_13] w_15 [.bool t_5, .int .i64 n_28, .int .i64 n_29] w_15)) (
     K (.bool true) w_15))))))
theorem E_line_Fits (la : Option Addr) (ll : Nat) (lc : Nat) (ordera : Option Addr) (orderl : Nat) (orderc : Nat) (w : World) (K : Value → World → Prop) :
    D_line_Fits la ll lc ordera orderl orderc w K = vcFn Pg Try.f30 [] [.slice la ll lc, .slice ordera orderl orderc] w K := by kernel_rfl
theorem C_line_Fits {la : Option Addr} {ll : Nat} {lc : Nat} {ordera : Option Addr} {orderl : Nat} {orderc : Nat} {w : World} {K : Value → World → Prop} (h : D_line_Fits la ll lc ordera orderl orderc w K) :
    CALL Pg F_line_Fits [.slice la ll lc, .slice ordera orderl orderc] w K :=
  call_of_vc [] Try.func30 rfl (Nat.le_of_ble_eq_true (by kernel_rfl)) ((E_line_Fits la ll lc ordera orderl orderc w K) ▸ h)
def D_r21_Order (la : Option Addr) (ll : Nat) (lc : Nat) (w : World) (K : Value → World → Prop) : Prop :=
  NEW w [] T_int fun b_1 w_1 =>
  SEML Pg w_1 (Instr.makeSlice T_Lint (.int .i64 (↑ll : Int)) (.int .i64 (↑ll : Int))) fun v_1 w_2 =>
  SLV v_1 fun a_1 l_1 _ =>
  LOOP [.slice none 0 0, .slice (some ⟨b_1, 0, none⟩) 0 0] w_2 fun I_1 N_1 =>
  ∀ w_3 : World,
  ∀ v_2 : Value,
  ∀ v_3 : Value,
  (I_1 [v_2, v_3] w_3 →
  SLV v_3 fun a_2 l_2 c_2 =>
  SLV v_2 fun a_3 l_3 c_3 =>
  LOOP [.int .i64 (-1), .int .i64 0] w_3 fun I_2 N_2 =>
  ∀ w_4 : World,
  ∀ v_4 : Value,
  ∀ v_5 : Value,
  (I_2 [v_4, v_5] w_4 →
  INTV .i64 v_5 fun n_1 =>
  INTV .i64 v_4 fun n_2 =>
  ITE (decide (n_1 < (↑ll : Int))) (
   DRAW w_4 fun w_5 =>
   IDX a_1 l_1 n_1 1 fun b_2 o_1 =>
   LDi .i64 w_5 ⟨b_2, o_1, none⟩ fun n_3 =>
   ITE (n_3 == 0) (
    IDX la ll n_1 9 fun b_3 o_2 =>
    LDi .i64 w_5 ⟨b_3, o_2 + 7, none⟩ fun n_4 =>
    ITE (decide (n_4 > 0)) (
     ITE (decide (n_2 < 0)) (
      BIND (IntKind.i64.wrap (n_1 + 1)) fun n_5 =>
      N_2 [v_4, v_5] w_4 [.int .i64 n_1, .int .i64 n_5] w_5) (
      IDX la ll n_1 9 fun b_4 o_3 =>
      LDi .i64 w_5 ⟨b_4, o_3 + 7, none⟩ fun n_6 =>
      IDX la ll n_2 9 fun b_5 o_4 =>
      LDi .i64 w_5 ⟨b_5, o_4 + 7, none⟩ fun n_7 =>
      ITE (decide (n_6 < n_7)) (
       BIND (IntKind.i64.wrap (n_1 + 1)) fun n_8 =>
       N_2 [v_4, v_5] w_4 [.int .i64 n_1, .int .i64 n_8] w_5) (
       BIND (IntKind.i64.wrap (n_1 + 1)) fun n_9 =>
       N_2 [v_4, v_5] w_4 [.int .i64 n_2, .int .i64 n_9] w_5))) (
     BIND (IntKind.i64.wrap (n_1 + 1)) fun n_10 =>
     N_2 [v_4, v_5] w_4 [.int .i64 n_2, .int .i64 n_10] w_5)) (
    BIND (IntKind.i64.wrap (n_1 + 1)) fun n_11 =>
    N_2 [v_4, v_5] w_4 [.int .i64 n_2, .int .i64 n_11] w_5)) (
   ITE (decide (n_2 < 0)) (
    K (.slice a_2 l_2 c_2) w_4) (
    IDX a_1 l_1 n_2 1 fun b_6 o_5 =>
    ST1 w_4 ⟨b_6, o_5, none⟩ (.int .i64 1) fun w_6 =>
    NEW w_6 [.int .i64 n_2] T_int fun b_7 w_7 =>
    SEML Pg w_7 (Builtin.append_ #[T_Lint, T_Lint] T_Lint #[.slice a_2 l_2 c_2, .slice (some ⟨b_7, 0, none⟩) 1 1]) fun v_6 w_8 =>
    SLV v_6 fun a_4 l_4 c_4 =>
    N_1 [v_2, v_3] w_3 [.slice a_3 l_3 c_3, .slice a_4 l_4 c_4] w_8))))
theorem E_r21_Order (la : Option Addr) (ll : Nat) (lc : Nat) (w : World) (K : Value → World → Prop) :
    D_r21_Order la ll lc w K = vcFn Pg Try.f25 [] [.slice la ll lc] w K := by kernel_rfl
theorem C_r21_Order {la : Option Addr} {ll : Nat} {lc : Nat} {w : World} {K : Value → World → Prop} (h : D_r21_Order la ll lc w K) :
    CALL Pg F_r21_Order [.slice la ll lc] w K :=
  call_of_vc [] Try.func25 rfl (Nat.le_of_ble_eq_true (by kernel_rfl)) ((E_r21_Order la ll lc w K) ▸ h)
def D_r21_Ahead (a0 : Int) (a1 : Int) (a2 : Int) (a3 : Int) (a4 : Int) (a5 : Int) (a6 : Int) (a7 : Int) (a8 : Int) (b0 : Int) (b1 : Int) (b2 : Int) (b3 : Int) (b4 : Int) (b5 : Int) (b6 : Int) (b7 : Int) (b8 : Int) (w : World) (K : Value → World → Prop) : Prop :=
  NEW w [.int .i64 a0, .int .i64 a1, .int .i64 a2, .int .i64 a3, .int .i64 a4, .int .i64 a5, .int .i64 a6, .int .i64 a7, .int .i64 a8] T_api_Event_api_Event fun b_1 w_1 =>
  NEW w_1 [.int .i64 b0, .int .i64 b1, .int .i64 b2, .int .i64 b3, .int .i64 b4, .int .i64 b5, .int .i64 b6, .int .i64 b7, .int .i64 b8] T_api_Event_api_Event fun b_2 w_2 =>
  LDi .i64 w_2 ⟨b_1, 8, none⟩ fun n_1 =>
  ITE (decide (n_1 > 0)) (
   LDi .i64 w_2 ⟨b_1, 8, none⟩ fun n_2 =>
   LDi .i64 w_2 ⟨b_2, 6, none⟩ fun n_3 =>
   K (.bool (decide (n_2 < n_3))) w_2) (
   K (.bool false) w_2)
theorem E_r21_Ahead (a0 : Int) (a1 : Int) (a2 : Int) (a3 : Int) (a4 : Int) (a5 : Int) (a6 : Int) (a7 : Int) (a8 : Int) (b0 : Int) (b1 : Int) (b2 : Int) (b3 : Int) (b4 : Int) (b5 : Int) (b6 : Int) (b7 : Int) (b8 : Int) (w : World) (K : Value → World → Prop) :
    D_r21_Ahead a0 a1 a2 a3 a4 a5 a6 a7 a8 b0 b1 b2 b3 b4 b5 b6 b7 b8 w K = vcFn Pg Try.f27 [] [.agg #[.int .i64 a0, .int .i64 a1, .int .i64 a2, .int .i64 a3, .int .i64 a4, .int .i64 a5, .int .i64 a6, .int .i64 a7, .int .i64 a8], .agg #[.int .i64 b0, .int .i64 b1, .int .i64 b2, .int .i64 b3, .int .i64 b4, .int .i64 b5, .int .i64 b6, .int .i64 b7, .int .i64 b8]] w K := by kernel_rfl
theorem C_r21_Ahead {a0 : Int} {a1 : Int} {a2 : Int} {a3 : Int} {a4 : Int} {a5 : Int} {a6 : Int} {a7 : Int} {a8 : Int} {b0 : Int} {b1 : Int} {b2 : Int} {b3 : Int} {b4 : Int} {b5 : Int} {b6 : Int} {b7 : Int} {b8 : Int} {w : World} {K : Value → World → Prop} (h : D_r21_Ahead a0 a1 a2 a3 a4 a5 a6 a7 a8 b0 b1 b2 b3 b4 b5 b6 b7 b8 w K) :
    CALL Pg F_r21_Ahead [.agg #[.int .i64 a0, .int .i64 a1, .int .i64 a2, .int .i64 a3, .int .i64 a4, .int .i64 a5, .int .i64 a6, .int .i64 a7, .int .i64 a8], .agg #[.int .i64 b0, .int .i64 b1, .int .i64 b2, .int .i64 b3, .int .i64 b4, .int .i64 b5, .int .i64 b6, .int .i64 b7, .int .i64 b8]] w K :=
  call_of_vc [] Try.func27 rfl (Nat.le_of_ble_eq_true (by kernel_rfl)) ((E_r21_Ahead a0 a1 a2 a3 a4 a5 a6 a7 a8 b0 b1 b2 b3 b4 b5 b6 b7 b8 w K) ▸ h)
def D_r21_Right (la : Option Addr) (ll : Nat) (lc : Nat) (w : World) (K : Value → World → Prop) : Prop :=
  LOOP [.bool false, .int .i64 0] w fun I_1 N_1 =>
  ∀ w_1 : World,
  ∀ v_1 : Value,
  ∀ v_2 : Value,
  (I_1 [v_1, v_2] w_1 →
  INTV .i64 v_2 fun n_1 =>
  BOOLV v_1 fun t_1 =>
  ITE (decide (n_1 < (↑ll : Int))) (
   IDX la ll n_1 9 fun b_1 o_1 =>
   LDi .i64 w_1 ⟨b_1, o_1, none⟩ fun n_2 =>
   LDi .i64 w_1 ⟨b_1, o_1 + 1, none⟩ fun n_3 =>
   LDi .i64 w_1 ⟨b_1, o_1 + 2, none⟩ fun n_4 =>
   LDi .i64 w_1 ⟨b_1, o_1 + 3, none⟩ fun n_5 =>
   LDi .i64 w_1 ⟨b_1, o_1 + 4, none⟩ fun n_6 =>
   LDi .i64 w_1 ⟨b_1, o_1 + 5, none⟩ fun n_7 =>
   LDi .i64 w_1 ⟨b_1, o_1 + 6, none⟩ fun n_8 =>
   LDi .i64 w_1 ⟨b_1, o_1 + 7, none⟩ fun n_9 =>
   LDi .i64 w_1 ⟨b_1, o_1 + 8, none⟩ fun n_10 =>
   NEW w_1 [.int .i64 0, .int .i64 0, .int .i64 0, .int .i64 0, .int .i64 0, .int .i64 0, .int .i64 0, .int .i64 0, .int .i64 0] T_api_Event_api_Event fun b_2 w_2 =>
   ST1 w_2 ⟨b_2, 0, none⟩ (.int .i64 n_2) fun w_3 =>
   ST1 w_3 ⟨b_2, 1, none⟩ (.int .i64 n_3) fun w_4 =>
   ST1 w_4 ⟨b_2, 2, none⟩ (.int .i64 n_4) fun w_5 =>
   ST1 w_5 ⟨b_2, 3, none⟩ (.int .i64 n_5) fun w_6 =>
   ST1 w_6 ⟨b_2, 4, none⟩ (.int .i64 n_6) fun w_7 =>
   ST1 w_7 ⟨b_2, 5, none⟩ (.int .i64 n_7) fun w_8 =>
   ST1 w_8 ⟨b_2, 6, none⟩ (.int .i64 n_8) fun w_9 =>
   ST1 w_9 ⟨b_2, 7, none⟩ (.int .i64 n_9) fun w_10 =>
   ST1 w_10 ⟨b_2, 8, none⟩ (.int .i64 n_10) fun w_11 =>
   LDi .i64 w_11 ⟨b_2, 6, none⟩ fun n_11 =>
   ITE (decide (n_11 < 1)) (
    K (.bool false) w_11) (
    LDi .i64 w_11 ⟨b_2, 7, none⟩ fun n_12 =>
    ITE (decide (n_12 < 0)) (
     K (.bool false) w_11) (
     LDi .i64 w_11 ⟨b_2, 8, none⟩ fun n_13 =>
     ITE (decide (n_13 < 0)) (
      K (.bool false) w_11) (
      JOIN fun J_1 =>
      ((
       JOIN fun J_2 =>
       ((
        LDi .i64 w_11 ⟨b_2, 7, none⟩ fun n_14 =>
        ITE (decide (n_14 > 0)) (
         LDi .i64 w_11 ⟨b_2, 7, none⟩ fun n_15 =>
         LDi .i64 w_11 ⟨b_2, 6, none⟩ fun n_16 =>
         J_2 [.bool (decide (n_15 < n_16))] w_11) (
         J_2 [.bool false] w_11)) ∧
        ∀ w_12 : World,
        ∀ v_3 : Value,
        (J_2 [v_3] w_12 →
        BOOLV v_3 fun t_2 =>
        ITE (t_2) (
         K (.bool false) w_12) (
         J_1 [.bool t_1] w_12)))) ∧
       ∀ w_13 : World,
       ∀ v_4 : Value,
       (J_1 [v_4] w_13 →
       BOOLV v_4 fun t_3 =>
       JOIN fun J_3 =>
       ((
        JOIN fun J_4 =>
        ((
         LDi .i64 w_13 ⟨b_2, 8, none⟩ fun n_17 =>
         ITE (decide (n_17 > 0)) (
          LDi .i64 w_13 ⟨b_2, 7, none⟩ fun n_18 =>
          ITE (decide (n_18 < 1)) (
           J_4 [.bool true] w_13) (
           LDi .i64 w_13 ⟨b_2, 7, none⟩ fun n_19 =>
           LDi .i64 w_13 ⟨b_2, 8, none⟩ fun n_20 =>
           J_4 [.bool (decide (n_19 > n_20))] w_13)) (
          J_4 [.bool false] w_13)) ∧
         ∀ w_14 : World,
         ∀ v_5 : Value,
         (J_4 [v_5] w_14 →
         BOOLV v_5 fun t_4 =>
         ITE (t_4) (
          K (.bool false) w_14) (
          J_3 [.bool t_3] w_14)))) ∧
        ∀ w_15 : World,
        ∀ v_6 : Value,
        (J_3 [v_6] w_15 →
        BOOLV v_6 fun t_5 =>
        LOOP [.int .i64 (-1), .int .i64 0] w_15 fun I_2 N_2 =>
        ∀ w_16 : World,
        ∀ v_7 : Value,
        ∀ v_8 : Value,
        (I_2 [v_7, v_8] w_16 →
        INTV .i64 v_8 fun n_21 =>
        INTV .i64 v_7 fun n_22 =>
        ITE (decide (n_21 < n_1)) (
         DRAW w_16 fun w_17 =>
         IDX la ll n_21 9 fun b_3 o_2 =>
         LDi .i64 w_17 ⟨b_3, o_2, none⟩ fun n_23 =>
         LDi .i64 w_17 ⟨b_2, 0, none⟩ fun n_24 =>
         ITE (n_23 == n_24) (
          BIND (IntKind.i64.wrap (n_21 + 1)) fun n_25 =>
          N_2 [v_7, v_8] w_16 [.int .i64 n_21, .int .i64 n_25] w_17) (
          BIND (IntKind.i64.wrap (n_21 + 1)) fun n_26 =>
          N_2 [v_7, v_8] w_16 [.int .i64 n_22, .int .i64 n_26] w_17)) (
         JOIN fun J_5 =>
         ((
          DRAW w_16 fun w_18 =>
          ITE (decide (n_22 ≥ 0)) (
           IDX la ll n_22 9 fun b_4 o_3 =>
           LDi .i64 w_18 ⟨b_4, o_3, none⟩ fun n_27 =>
           LDi .i64 w_18 ⟨b_4, o_3 + 1, none⟩ fun n_28 =>
           LDi .i64 w_18 ⟨b_4, o_3 + 2, none⟩ fun n_29 =>
           LDi .i64 w_18 ⟨b_4, o_3 + 3, none⟩ fun n_30 =>
           LDi .i64 w_18 ⟨b_4, o_3 + 4, none⟩ fun n_31 =>
           LDi .i64 w_18 ⟨b_4, o_3 + 5, none⟩ fun n_32 =>
           LDi .i64 w_18 ⟨b_4, o_3 + 6, none⟩ fun n_33 =>
           LDi .i64 w_18 ⟨b_4, o_3 + 7, none⟩ fun n_34 =>
           LDi .i64 w_18 ⟨b_4, o_3 + 8, none⟩ fun n_35 =>
           LDi .i64 w_18 ⟨b_2, 0, none⟩ fun n_36 =>
           LDi .i64 w_18 ⟨b_2, 1, none⟩ fun n_37 =>
           LDi .i64 w_18 ⟨b_2, 2, none⟩ fun n_38 =>
           LDi .i64 w_18 ⟨b_2, 3, none⟩ fun n_39 =>
           LDi .i64 w_18 ⟨b_2, 4, none⟩ fun n_40 =>
           LDi .i64 w_18 ⟨b_2, 5, none⟩ fun n_41 =>
           LDi .i64 w_18 ⟨b_2, 6, none⟩ fun n_42 =>
           LDi .i64 w_18 ⟨b_2, 7, none⟩ fun n_43 =>
           LDi .i64 w_18 ⟨b_2, 8, none⟩ fun n_44 =>
           CALL Pg F_r21_Ahead [.agg #[.int .i64 n_27, .int .i64 n_28, .int .i64 n_29, .int .i64 n_30, .int .i64 n_31, .int .i64 n_32, .int .i64 n_33, .int .i64 n_34, .int .i64 n_35], .agg #[.int .i64 n_36, .int .i64 n_37, .int .i64 n_38, .int .i64 n_39, .int .i64 n_40, .int .i64 n_41, .int .i64 n_42, .int .i64 n_43, .int .i64 n_44]] w_18 fun v_9 w_19 =>
           BOOLV v_9 fun t_6 =>
           ((
            KEEP w_19 []) ∧
            J_5 [.bool !t_6] w_19)) (
           J_5 [.bool false] w_18)) ∧
          ∀ w_20 : World,
          ∀ v_10 : Value,
          (J_5 [v_10] w_20 →
          BOOLV v_10 fun t_7 =>
          ITE (t_7) (
           K (.bool false) w_20) (
           BIND (IntKind.i64.wrap (n_1 + 1)) fun n_45 =>
           N_1 [v_1, v_2] w_1 [.bool t_5, .int .i64 n_45] w_20))))))))))))) (
   K (.bool true) w_1))
theorem E_r21_Right (la : Option Addr) (ll : Nat) (lc : Nat) (w : World) (K : Value → World → Prop) :
    D_r21_Right la ll lc w K = vcFn Pg Try.f29 [7, 9, 17] [.slice la ll lc] w K := by kernel_rfl
theorem C_r21_Right {la : Option Addr} {ll : Nat} {lc : Nat} {w : World} {K : Value → World → Prop} (h : D_r21_Right la ll lc w K) :
    CALL Pg F_r21_Right [.slice la ll lc] w K :=
  call_of_vc [7, 9, 17] Try.func29 rfl (Nat.le_of_ble_eq_true (by kernel_rfl)) ((E_r21_Right la ll lc w K) ▸ h)
def D_r21_Fits (la : Option Addr) (ll : Nat) (lc : Nat) (ordera : Option Addr) (orderl : Nat) (orderc : Nat) (w : World) (K : Value → World → Prop) : Prop :=
  SEML Pg w (Instr.makeSlice T_Lint (.int .i64 (↑ll : Int)) (.int .i64 (↑ll : Int))) fun v_1 w_1 =>
  SLV v_1 fun a_1 l_1 _ =>
  LOOP [.bool false, .int .i64 0] w_1 fun I_1 N_1 =>
  ∀ w_2 : World,
  ∀ v_2 : Value,
  ∀ v_3 : Value,
  (I_1 [v_2, v_3] w_2 →
  INTV .i64 v_3 fun n_1 =>
  BOOLV v_2 fun t_1 =>
  ITE (decide (n_1 < (↑orderl : Int))) (
   IDX ordera orderl n_1 1 fun b_1 o_1 =>
   LDi .i64 w_2 ⟨b_1, o_1, none⟩ fun n_2 =>
   ITE (decide (n_2 < 0)) (
    K (.bool false) w_2) (
    IDX ordera orderl n_1 1 fun b_2 o_2 =>
    LDi .i64 w_2 ⟨b_2, o_2, none⟩ fun n_3 =>
    ITE (decide (n_3 ≥ (↑ll : Int))) (
     K (.bool false) w_2) (
     IDX ordera orderl n_1 1 fun b_3 o_3 =>
     LDi .i64 w_2 ⟨b_3, o_3, none⟩ fun n_4 =>
     IDX a_1 l_1 n_4 1 fun b_4 o_4 =>
     LDi .i64 w_2 ⟨b_4, o_4, none⟩ fun n_5 =>
     BIND (IntKind.i64.wrap (n_5 + 1)) fun n_6 =>
     IDX a_1 l_1 n_4 1 fun b_5 o_5 =>
     ST1 w_2 ⟨b_5, o_5, none⟩ (.int .i64 n_6) fun w_3 =>
     IDX ordera orderl n_1 1 fun b_6 o_6 =>
     LDi .i64 w_3 ⟨b_6, o_6, none⟩ fun n_7 =>
     IDX a_1 l_1 n_7 1 fun b_7 o_7 =>
     LDi .i64 w_3 ⟨b_7, o_7, none⟩ fun n_8 =>
     ITE (decide (n_8 > 1)) (
      K (.bool false) w_3) (
      BIND (IntKind.i64.wrap (n_1 + 1)) fun n_9 =>
      N_1 [v_2, v_3] w_2 [.bool t_1, .int .i64 n_9] w_3)))) (
   LOOP [.bool t_1, .int .i64 0] w_2 fun I_2 N_2 =>
   ∀ w_4 : World,
   ∀ v_4 : Value,
   ∀ v_5 : Value,
   (I_2 [v_4, v_5] w_4 →
   INTV .i64 v_5 fun n_10 =>
   BOOLV v_4 fun t_2 =>
   ITE (decide (n_10 < (↑ll : Int))) (
    IDX la ll n_10 9 fun b_8 o_8 =>
    LDi .i64 w_4 ⟨b_8, o_8 + 8, none⟩ fun n_11 =>
    ITE (decide (n_11 > 0)) (
     IDX a_1 l_1 n_10 1 fun b_9 o_9 =>
     LDi .i64 w_4 ⟨b_9, o_9, none⟩ fun n_12 =>
     ITE (n_12 == 0) (
      K (.bool false) w_4) (
      BIND (IntKind.i64.wrap (n_10 + 1)) fun n_13 =>
      N_2 [v_4, v_5] w_4 [.bool t_2, .int .i64 n_13] w_4)) (
     BIND (IntKind.i64.wrap (n_10 + 1)) fun n_14 =>
     N_2 [v_4, v_5] w_4 [.bool t_2, .int .i64 n_14] w_4)) (
    LOOP [.bool t_2, .int .i64 0] w_4 fun I_3 N_3 =>
    ∀ w_5 : World,
    ∀ v_6 : Value,
    ∀ v_7 : Value,
    (I_3 [v_6, v_7] w_5 →
    INTV .i64 v_7 fun n_15 =>
    BOOLV v_6 fun t_3 =>
    ITE (decide (n_15 < (↑orderl : Int))) (
     LOOP [.bool t_3, .int .i64 0] w_5 fun I_4 N_4 =>
     ∀ w_6 : World,
     ∀ v_8 : Value,
     ∀ v_9 : Value,
     (I_4 [v_8, v_9] w_6 →
     INTV .i64 v_9 fun n_16 =>
     BOOLV v_8 fun t_4 =>
     ITE (decide (n_16 < n_15)) (
      DRAW w_6 fun w_7 =>
      IDX ordera orderl n_15 1 fun b_10 o_10 =>
      LDi .i64 w_7 ⟨b_10, o_10, none⟩ fun n_17 =>
      IDX la ll n_17 9 fun b_11 o_11 =>
      LDi .i64 w_7 ⟨b_11, o_11, none⟩ fun n_18 =>
      LDi .i64 w_7 ⟨b_11, o_11 + 1, none⟩ fun n_19 =>
      LDi .i64 w_7 ⟨b_11, o_11 + 2, none⟩ fun n_20 =>
      LDi .i64 w_7 ⟨b_11, o_11 + 3, none⟩ fun n_21 =>
      LDi .i64 w_7 ⟨b_11, o_11 + 4, none⟩ fun n_22 =>
      LDi .i64 w_7 ⟨b_11, o_11 + 5, none⟩ fun n_23 =>
      LDi .i64 w_7 ⟨b_11, o_11 + 6, none⟩ fun n_24 =>
      LDi .i64 w_7 ⟨b_11, o_11 + 7, none⟩ fun n_25 =>
      LDi .i64 w_7 ⟨b_11, o_11 + 8, none⟩ fun n_26 =>
      IDX ordera orderl n_16 1 fun b_12 o_12 =>
      LDi .i64 w_7 ⟨b_12, o_12, none⟩ fun n_27 =>
      IDX la ll n_27 9 fun b_13 o_13 =>
      LDi .i64 w_7 ⟨b_13, o_13, none⟩ fun n_28 =>
      LDi .i64 w_7 ⟨b_13, o_13 + 1, none⟩ fun n_29 =>
      LDi .i64 w_7 ⟨b_13, o_13 + 2, none⟩ fun n_30 =>
      LDi .i64 w_7 ⟨b_13, o_13 + 3, none⟩ fun n_31 =>
      LDi .i64 w_7 ⟨b_13, o_13 + 4, none⟩ fun n_32 =>
      LDi .i64 w_7 ⟨b_13, o_13 + 5, none⟩ fun n_33 =>
      LDi .i64 w_7 ⟨b_13, o_13 + 6, none⟩ fun n_34 =>
      LDi .i64 w_7 ⟨b_13, o_13 + 7, none⟩ fun n_35 =>
      LDi .i64 w_7 ⟨b_13, o_13 + 8, none⟩ fun n_36 =>
      CALL Pg F_r21_Ahead [.agg #[.int .i64 n_18, .int .i64 n_19, .int .i64 n_20, .int .i64 n_21, .int .i64 n_22, .int .i64 n_23, .int .i64 n_24, .int .i64 n_25, .int .i64 n_26], .agg #[.int .i64 n_28, .int .i64 n_29, .int .i64 n_30, .int .i64 n_31, .int .i64 n_32, .int .i64 n_33, .int .i64 n_34, .int .i64 n_35, .int .i64 n_36]] w_7 fun v_10 w_8 =>
      BOOLV v_10 fun t_5 =>
      ((
       KEEP w_8 []) ∧
       ITE (t_5) (
        K (.bool false) w_8) (
        BIND (IntKind.i64.wrap (n_16 + 1)) fun n_37 =>
        N_4 [v_8, v_9] w_6 [.bool t_4, .int .i64 n_37] w_8))) (
      BIND (IntKind.i64.wrap (n_15 + 1)) fun n_38 =>
      N_3 [v_6, v_7] w_5 [.bool t_4, .int .i64 n_38] w_6))) (
     K (.bool true) w_5))))))
theorem E_r21_Fits (la : Option Addr) (ll : Nat) (lc : Nat) (ordera : Option Addr) (orderl : Nat) (orderc : Nat) (w : World) (K : Value → World → Prop) :
    D_r21_Fits la ll lc ordera orderl orderc w K = vcFn Pg Try.f31 [] [.slice la ll lc, .slice ordera orderl orderc] w K := by kernel_rfl
theorem C_r21_Fits {la : Option Addr} {ll : Nat} {lc : Nat} {ordera : Option Addr} {orderl : Nat} {orderc : Nat} {w : World} {K : Value → World → Prop} (h : D_r21_Fits la ll lc ordera orderl orderc w K) :
    CALL Pg F_r21_Fits [.slice la ll lc, .slice ordera orderl orderc] w K :=
  call_of_vc [] Try.func31 rfl (Nat.le_of_ble_eq_true (by kernel_rfl)) ((E_r21_Fits la ll lc ordera orderl orderc w K) ▸ h)
def D_slices_SortStableFunc_Lint_int (xa : Option Addr) (xl : Nat) (xc : Nat) (cmp : Value) (w : World) (K : Value → World → Prop) : Prop :=
  CALL Pg F_slices_stableCmpFunc_int [.slice xa xl xc, .int .i64 (↑xl : Int), cmp] w fun v_1 w_1 =>
  TUPV v_1 fun cs_1 =>
  LEN cs_1 0 (
  K (.tuple #[]) w_1)
theorem E_slices_SortStableFunc_Lint_int (xa : Option Addr) (xl : Nat) (xc : Nat) (cmp : Value) (w : World) (K : Value → World → Prop) :
    D_slices_SortStableFunc_Lint_int xa xl xc cmp w K = vcFn Pg Try.f52 [] [.slice xa xl xc, cmp] w K := by kernel_rfl
theorem C_slices_SortStableFunc_Lint_int {xa : Option Addr} {xl : Nat} {xc : Nat} {cmp : Value} {w : World} {K : Value → World → Prop} (h : D_slices_SortStableFunc_Lint_int xa xl xc cmp w K) :
    CALL Pg F_slices_SortStableFunc_Lint_int [.slice xa xl xc, cmp] w K :=
  call_of_vc [] Try.func52 rfl (Nat.le_of_ble_eq_true (by kernel_rfl)) ((E_slices_SortStableFunc_Lint_int xa xl xc cmp w K) ▸ h)
def D_slices_stableCmpFunc_int (dataa : Option Addr) (datal : Nat) (datac : Nat) (n : Int) (cmp : Value) (w : World) (K : Value → World → Prop) : Prop :=
  LOOP [.int .i64 0, .int .i64 20] w fun I_1 N_1 =>
  ∀ w_1 : World,
  ∀ v_1 : Value,
  ∀ v_2 : Value,
  (I_1 [v_1, v_2] w_1 →
  INTV .i64 v_2 fun n_1 =>
  INTV .i64 v_1 fun n_2 =>
  ITE (decide (n_1 ≤ n)) (
   CALL Pg F_slices_insertionSortCmpFunc_int [.slice dataa datal datac, .int .i64 n_2, .int .i64 n_1, cmp] w_1 fun v_3 w_2 =>
   TUPV v_3 fun cs_1 =>
   LEN cs_1 0 (
   BIND (IntKind.i64.wrap (n_1 + 20)) fun n_3 =>
   N_1 [v_1, v_2] w_1 [.int .i64 n_1, .int .i64 n_3] w_2)) (
   CALL Pg F_slices_insertionSortCmpFunc_int [.slice dataa datal datac, .int .i64 n_2, .int .i64 n, cmp] w_1 fun v_4 w_3 =>
   TUPV v_4 fun cs_2 =>
   LEN cs_2 0 (
   LOOP [.int .i64 n_2, .int .i64 n_1, .int .i64 20] w_3 fun I_2 N_2 =>
   ∀ w_4 : World,
   ∀ v_5 : Value,
   ∀ v_6 : Value,
   ∀ v_7 : Value,
   (I_2 [v_5, v_6, v_7] w_4 →
   INTV .i64 v_7 fun n_4 =>
   INTV .i64 v_6 fun _ =>
   INTV .i64 v_5 fun _ =>
   ITE (decide (n_4 < n)) (
    BIND (IntKind.i64.wrap (2 * n_4)) fun n_7 =>
    LOOP [.int .i64 0, .int .i64 n_7] w_4 fun I_3 N_3 =>
    ∀ w_5 : World,
    ∀ v_8 : Value,
    ∀ v_9 : Value,
    (I_3 [v_8, v_9] w_5 →
    INTV .i64 v_9 fun n_8 =>
    INTV .i64 v_8 fun n_9 =>
    ITE (decide (n_8 ≤ n)) (
     BIND (IntKind.i64.wrap (n_9 + n_4)) fun n_10 =>
     CALL Pg F_slices_symMergeCmpFunc_int [.slice dataa datal datac, .int .i64 n_9, .int .i64 n_10, .int .i64 n_8, cmp] w_5 fun v_10 w_6 =>
     TUPV v_10 fun cs_3 =>
     LEN cs_3 0 (
     BIND (IntKind.i64.wrap (2 * n_4)) fun n_11 =>
     BIND (IntKind.i64.wrap (n_8 + n_11)) fun n_12 =>
     N_3 [v_8, v_9] w_5 [.int .i64 n_8, .int .i64 n_12] w_6)) (
     JOIN fun J_1 =>
     ((
      JOIN fun J_2 =>
      ((
       BIND (IntKind.i64.wrap (n_9 + n_4)) fun n_13 =>
       J_2 [.int .i64 n_13] w_5) ∧
       ∀ w_7 : World,
       ∀ v_11 : Value,
       (J_2 [v_11] w_7 →
       INTV .i64 v_11 fun n_14 =>
       ITE (decide (n_14 < n)) (
        CALL Pg F_slices_symMergeCmpFunc_int [.slice dataa datal datac, .int .i64 n_9, .int .i64 n_14, .int .i64 n, cmp] w_7 fun v_12 w_8 =>
        TUPV v_12 fun cs_4 =>
        LEN cs_4 0 (
        J_1 [] w_8)) (
        J_1 [] w_7)))) ∧
      ∀ w_9 : World,
      (J_1 [] w_9 →
      BIND (IntKind.i64.wrap (n_4 * 2)) fun n_15 =>
      N_2 [v_5, v_6, v_7] w_4 [.int .i64 n_9, .int .i64 n_8, .int .i64 n_15] w_9))))) (
    K (.tuple #[]) w_4)))))
theorem E_slices_stableCmpFunc_int (dataa : Option Addr) (datal : Nat) (datac : Nat) (n : Int) (cmp : Value) (w : World) (K : Value → World → Prop) :
    D_slices_stableCmpFunc_int dataa datal datac n cmp w K = vcFn Pg Try.f67 [13] [.slice dataa datal datac, .int .i64 n, cmp] w K := by kernel_rfl
theorem C_slices_stableCmpFunc_int {dataa : Option Addr} {datal : Nat} {datac : Nat} {n : Int} {cmp : Value} {w : World} {K : Value → World → Prop} (h : D_slices_stableCmpFunc_int dataa datal datac n cmp w K) :
    CALL Pg F_slices_stableCmpFunc_int [.slice dataa datal datac, .int .i64 n, cmp] w K :=
  call_of_vc [13] Try.func67 rfl (Nat.le_of_ble_eq_true (by kernel_rfl)) ((E_slices_stableCmpFunc_int dataa datal datac n cmp w K) ▸ h)
def D_slices_insertionSortCmpFunc_int (dataa : Option Addr) (datal : Nat) (datac : Nat) (a : Int) (b : Int) (cmp : Value) (w : World) (K : Value → World → Prop) : Prop :=
  BIND (IntKind.i64.wrap (a + 1)) fun n_1 =>
  LOOP [.int .i64 n_1] w fun I_1 N_1 =>
  ∀ w_1 : World,
  ∀ v_1 : Value,
  (I_1 [v_1] w_1 →
  INTV .i64 v_1 fun n_2 =>
  ITE (decide (n_2 < b)) (
   LOOP [.int .i64 n_2] w_1 fun I_2 N_2 =>
   ∀ w_2 : World,
   ∀ v_2 : Value,
   (I_2 [v_2] w_2 →
   INTV .i64 v_2 fun n_3 =>
   DRAW w_2 fun w_3 =>
   ITE (decide (n_3 > a)) (
    IDX dataa datal n_3 1 fun b_1 o_1 =>
    LDi .i64 w_3 ⟨b_1, o_1, none⟩ fun n_4 =>
    BIND (IntKind.i64.wrap (n_3 - 1)) fun n_5 =>
    IDX dataa datal n_5 1 fun b_2 o_2 =>
    LDi .i64 w_3 ⟨b_2, o_2, none⟩ fun n_6 =>
    FCALL Pg cmp [.int .i64 n_4, .int .i64 n_6] w_3 fun v_3 w_4 =>
    INTV .i64 v_3 fun n_7 =>
    ((
     KEEP w_4 []) ∧
     ITE (decide (n_7 < 0)) (
      DRAW w_4 fun w_5 =>
      BIND (IntKind.i64.wrap (n_3 - 1)) fun n_8 =>
      BIND (IntKind.i64.wrap (n_3 - 1)) fun n_9 =>
      IDX dataa datal n_9 1 fun b_3 o_3 =>
      LDi .i64 w_5 ⟨b_3, o_3, none⟩ fun n_10 =>
      IDX dataa datal n_3 1 fun b_4 o_4 =>
      LDi .i64 w_5 ⟨b_4, o_4, none⟩ fun n_11 =>
      IDX dataa datal n_3 1 fun b_5 o_5 =>
      ST1 w_5 ⟨b_5, o_5, none⟩ (.int .i64 n_10) fun w_6 =>
      ((
       KEEP w_6 []) ∧
       IDX dataa datal n_8 1 fun b_6 o_6 =>
       ST1 w_6 ⟨b_6, o_6, none⟩ (.int .i64 n_11) fun w_7 =>
       ((
        KEEP w_7 []) ∧
        BIND (IntKind.i64.wrap (n_3 - 1)) fun n_12 =>
        N_2 [v_2] w_2 [.int .i64 n_12] w_7))) (
      BIND (IntKind.i64.wrap (n_2 + 1)) fun n_13 =>
      N_1 [v_1] w_1 [.int .i64 n_13] w_4))) (
    BIND (IntKind.i64.wrap (n_2 + 1)) fun n_14 =>
    N_1 [v_1] w_1 [.int .i64 n_14] w_3))) (
   K (.tuple #[]) w_1))
theorem E_slices_insertionSortCmpFunc_int (dataa : Option Addr) (datal : Nat) (datac : Nat) (a : Int) (b : Int) (cmp : Value) (w : World) (K : Value → World → Prop) :
    D_slices_insertionSortCmpFunc_int dataa datal datac a b cmp w K = vcFn Pg Try.f78 [] [.slice dataa datal datac, .int .i64 a, .int .i64 b, cmp] w K := by kernel_rfl
theorem C_slices_insertionSortCmpFunc_int {dataa : Option Addr} {datal : Nat} {datac : Nat} {a : Int} {b : Int} {cmp : Value} {w : World} {K : Value → World → Prop} (h : D_slices_insertionSortCmpFunc_int dataa datal datac a b cmp w K) :
    CALL Pg F_slices_insertionSortCmpFunc_int [.slice dataa datal datac, .int .i64 a, .int .i64 b, cmp] w K :=
  call_of_vc [] Try.func78 rfl (Nat.le_of_ble_eq_true (by kernel_rfl)) ((E_slices_insertionSortCmpFunc_int dataa datal datac a b cmp w K) ▸ h)
def D_slices_symMergeCmpFunc_int (dataa : Option Addr) (datal : Nat) (datac : Nat) (a : Int) (m : Int) (b : Int) (cmp : Value) (w : World) (K : Value → World → Prop) : Prop :=
  BIND (IntKind.i64.wrap (m - a)) fun n_1 =>
  ITE (n_1 == 1) (
   LOOP [.int .i64 m, .int .i64 b] w fun I_1 N_1 =>
   ∀ w_1 : World,
   ∀ v_1 : Value,
   ∀ v_2 : Value,
   (I_1 [v_1, v_2] w_1 →
   INTV .i64 v_2 fun n_2 =>
   INTV .i64 v_1 fun n_3 =>
   ITE (decide (n_3 < n_2)) (
    BIND (IntKind.i64.wrap (n_3 + n_2)) fun n_4 =>
    BIND (IntKind.u64.wrap n_4) fun n_5 =>
    GE0 1 (
    BIND (shI BinOp.shr IntKind.u64 n_5 1) fun n_6 =>
    BIND (IntKind.i64.wrap n_6) fun n_7 =>
    DRAW w_1 fun w_2 =>
    IDX dataa datal n_7 1 fun b_1 o_1 =>
    LDi .i64 w_2 ⟨b_1, o_1, none⟩ fun n_8 =>
    IDX dataa datal a 1 fun b_2 o_2 =>
    LDi .i64 w_2 ⟨b_2, o_2, none⟩ fun n_9 =>
    FCALL Pg cmp [.int .i64 n_8, .int .i64 n_9] w_2 fun v_3 w_3 =>
    INTV .i64 v_3 fun n_10 =>
    ((
     KEEP w_3 []) ∧
     ITE (decide (n_10 < 0)) (
      BIND (IntKind.i64.wrap (n_7 + 1)) fun n_11 =>
      N_1 [v_1, v_2] w_1 [.int .i64 n_11, .int .i64 n_2] w_3) (
      N_1 [v_1, v_2] w_1 [.int .i64 n_3, .int .i64 n_7] w_3)))) (
    LOOP [.int .i64 a] w_1 fun I_2 N_2 =>
    ∀ w_4 : World,
    ∀ v_4 : Value,
    (I_2 [v_4] w_4 →
    INTV .i64 v_4 fun n_12 =>
    BIND (IntKind.i64.wrap (n_3 - 1)) fun n_13 =>
    ITE (decide (n_12 < n_13)) (
     DRAW w_4 fun w_5 =>
     BIND (IntKind.i64.wrap (n_12 + 1)) fun n_14 =>
     BIND (IntKind.i64.wrap (n_12 + 1)) fun n_15 =>
     IDX dataa datal n_15 1 fun b_3 o_3 =>
     LDi .i64 w_5 ⟨b_3, o_3, none⟩ fun n_16 =>
     IDX dataa datal n_12 1 fun b_4 o_4 =>
     LDi .i64 w_5 ⟨b_4, o_4, none⟩ fun n_17 =>
     IDX dataa datal n_12 1 fun b_5 o_5 =>
     ST1 w_5 ⟨b_5, o_5, none⟩ (.int .i64 n_16) fun w_6 =>
     ((
      KEEP w_6 []) ∧
      IDX dataa datal n_14 1 fun b_6 o_6 =>
      ST1 w_6 ⟨b_6, o_6, none⟩ (.int .i64 n_17) fun w_7 =>
      ((
       KEEP w_7 []) ∧
       BIND (IntKind.i64.wrap (n_12 + 1)) fun n_18 =>
       N_2 [v_4] w_4 [.int .i64 n_18] w_7))) (
     K (.tuple #[]) w_4))))) (
   BIND (IntKind.i64.wrap (b - m)) fun n_19 =>
   ITE (n_19 == 1) (
    LOOP [.int .i64 a, .int .i64 m] w fun I_3 N_3 =>
    ∀ w_8 : World,
    ∀ v_5 : Value,
    ∀ v_6 : Value,
    (I_3 [v_5, v_6] w_8 →
    INTV .i64 v_6 fun n_20 =>
    INTV .i64 v_5 fun n_21 =>
    ITE (decide (n_21 < n_20)) (
     BIND (IntKind.i64.wrap (n_21 + n_20)) fun n_22 =>
     BIND (IntKind.u64.wrap n_22) fun n_23 =>
     GE0 1 (
     BIND (shI BinOp.shr IntKind.u64 n_23 1) fun n_24 =>
     BIND (IntKind.i64.wrap n_24) fun n_25 =>
     DRAW w_8 fun w_9 =>
     IDX dataa datal m 1 fun b_7 o_7 =>
     LDi .i64 w_9 ⟨b_7, o_7, none⟩ fun n_26 =>
     IDX dataa datal n_25 1 fun b_8 o_8 =>
     LDi .i64 w_9 ⟨b_8, o_8, none⟩ fun n_27 =>
     FCALL Pg cmp [.int .i64 n_26, .int .i64 n_27] w_9 fun v_7 w_10 =>
     INTV .i64 v_7 fun n_28 =>
     ((
      KEEP w_10 []) ∧
      ITE (!decide (n_28 < 0)) (
       BIND (IntKind.i64.wrap (n_25 + 1)) fun n_29 =>
       N_3 [v_5, v_6] w_8 [.int .i64 n_29, .int .i64 n_20] w_10) (
       N_3 [v_5, v_6] w_8 [.int .i64 n_21, .int .i64 n_25] w_10)))) (
     LOOP [.int .i64 m] w_8 fun I_4 N_4 =>
     ∀ w_11 : World,
     ∀ v_8 : Value,
     (I_4 [v_8] w_11 →
     INTV .i64 v_8 fun n_30 =>
     ITE (decide (n_30 > n_21)) (
      DRAW w_11 fun w_12 =>
      BIND (IntKind.i64.wrap (n_30 - 1)) fun n_31 =>
      BIND (IntKind.i64.wrap (n_30 - 1)) fun n_32 =>
      IDX dataa datal n_32 1 fun b_9 o_9 =>
      LDi .i64 w_12 ⟨b_9, o_9, none⟩ fun n_33 =>
      IDX dataa datal n_30 1 fun b_10 o_10 =>
      LDi .i64 w_12 ⟨b_10, o_10, none⟩ fun n_34 =>
      IDX dataa datal n_30 1 fun b_11 o_11 =>
      ST1 w_12 ⟨b_11, o_11, none⟩ (.int .i64 n_33) fun w_13 =>
      ((
       KEEP w_13 []) ∧
       IDX dataa datal n_31 1 fun b_12 o_12 =>
       ST1 w_13 ⟨b_12, o_12, none⟩ (.int .i64 n_34) fun w_14 =>
       ((
        KEEP w_14 []) ∧
        BIND (IntKind.i64.wrap (n_30 - 1)) fun n_35 =>
        N_4 [v_8] w_11 [.int .i64 n_35] w_14))) (
      K (.tuple #[]) w_11))))) (
    BIND (IntKind.i64.wrap (a + b)) fun n_36 =>
    BIND (IntKind.u64.wrap n_36) fun n_37 =>
    GE0 1 (
    BIND (shI BinOp.shr IntKind.u64 n_37 1) fun n_38 =>
    BIND (IntKind.i64.wrap n_38) fun n_39 =>
    BIND (IntKind.i64.wrap (n_39 + m)) fun n_40 =>
    JOIN fun J_1 =>
    ((
     JOIN fun J_2 =>
     ((
      J_2 [.bool (decide (m > n_39))] w) ∧
      ∀ w_15 : World,
      ∀ v_9 : Value,
      (J_2 [v_9] w_15 →
      BOOLV v_9 fun t_1 =>
      ITE (t_1) (
       BIND (IntKind.i64.wrap (n_40 - b)) fun n_41 =>
       J_1 [.int .i64 n_41, .int .i64 n_39] w_15) (
       J_1 [.int .i64 a, .int .i64 m] w_15)))) ∧
     ∀ w_16 : World,
     ∀ v_10 : Value,
     ∀ v_11 : Value,
     (J_1 [v_10, v_11] w_16 →
     INTV .i64 v_11 fun n_42 =>
     INTV .i64 v_10 fun n_43 =>
     BIND (IntKind.i64.wrap (n_40 - 1)) fun n_44 =>
     LOOP [.int .i64 n_43, .int .i64 n_42] w_16 fun I_5 N_5 =>
     ∀ w_17 : World,
     ∀ v_12 : Value,
     ∀ v_13 : Value,
     (I_5 [v_12, v_13] w_17 →
     INTV .i64 v_13 fun n_45 =>
     INTV .i64 v_12 fun n_46 =>
     ITE (decide (n_46 < n_45)) (
      BIND (IntKind.i64.wrap (n_46 + n_45)) fun n_47 =>
      BIND (IntKind.u64.wrap n_47) fun n_48 =>
      GE0 1 (
      BIND (shI BinOp.shr IntKind.u64 n_48 1) fun n_49 =>
      BIND (IntKind.i64.wrap n_49) fun n_50 =>
      DRAW w_17 fun w_18 =>
      BIND (IntKind.i64.wrap (n_44 - n_50)) fun n_51 =>
      IDX dataa datal n_51 1 fun b_13 o_13 =>
      LDi .i64 w_18 ⟨b_13, o_13, none⟩ fun n_52 =>
      IDX dataa datal n_50 1 fun b_14 o_14 =>
      LDi .i64 w_18 ⟨b_14, o_14, none⟩ fun n_53 =>
      FCALL Pg cmp [.int .i64 n_52, .int .i64 n_53] w_18 fun v_14 w_19 =>
      INTV .i64 v_14 fun n_54 =>
      ((
       KEEP w_19 []) ∧
       ITE (!decide (n_54 < 0)) (
        BIND (IntKind.i64.wrap (n_50 + 1)) fun n_55 =>
        N_5 [v_12, v_13] w_17 [.int .i64 n_55, .int .i64 n_45] w_19) (
        N_5 [v_12, v_13] w_17 [.int .i64 n_46, .int .i64 n_50] w_19)))) (
      BIND (IntKind.i64.wrap (n_40 - n_46)) fun n_56 =>
      JOIN fun J_3 =>
      ((
       JOIN fun J_4 =>
       ((
        ITE (decide (n_46 < m)) (
         J_4 [.bool (decide (m < n_56))] w_17) (
         J_4 [.bool false] w_17)) ∧
        ∀ w_20 : World,
        ∀ v_15 : Value,
        (J_4 [v_15] w_20 →
        BOOLV v_15 fun t_2 =>
        ITE (t_2) (
         CALL Pg F_slices_rotateCmpFunc_int [.slice dataa datal datac, .int .i64 n_46, .int .i64 m, .int .i64 n_56, cmp] w_20 fun v_16 w_21 =>
         TUPV v_16 fun cs_1 =>
         LEN cs_1 0 (
         J_3 [] w_21)) (
         J_3 [] w_20)))) ∧
       ∀ w_22 : World,
       (J_3 [] w_22 →
       JOIN fun J_5 =>
       ((
        JOIN fun J_6 =>
        ((
         ITE (decide (a < n_46)) (
          J_6 [.bool (decide (n_46 < n_39))] w_22) (
          J_6 [.bool false] w_22)) ∧
         ∀ w_23 : World,
         ∀ v_17 : Value,
         (J_6 [v_17] w_23 →
         BOOLV v_17 fun t_3 =>
         ITE (t_3) (
          CALL Pg F_slices_symMergeCmpFunc_int [.slice dataa datal datac, .int .i64 a, .int .i64 n_46, .int .i64 n_39, cmp] w_23 fun v_18 w_24 =>
          TUPV v_18 fun cs_2 =>
          LEN cs_2 0 (
          J_5 [] w_24)) (
          J_5 [] w_23)))) ∧
        ∀ w_25 : World,
        (J_5 [] w_25 →
        ITE (decide (n_39 < n_56)) (
         ITE (decide (n_56 < b)) (
          CALL Pg F_slices_symMergeCmpFunc_int [.slice dataa datal datac, .int .i64 n_39, .int .i64 n_56, .int .i64 b, cmp] w_25 fun v_19 w_26 =>
          TUPV v_19 fun cs_3 =>
          LEN cs_3 0 (
          K (.tuple #[]) w_26)) (
          K (.tuple #[]) w_25)) (
         K (.tuple #[]) w_25))))))))))))
theorem E_slices_symMergeCmpFunc_int (dataa : Option Addr) (datal : Nat) (datac : Nat) (a : Int) (m : Int) (b : Int) (cmp : Value) (w : World) (K : Value → World → Prop) :
    D_slices_symMergeCmpFunc_int dataa datal datac a m b cmp w K = vcFn Pg Try.f79 [27, 39, 41] [.slice dataa datal datac, .int .i64 a, .int .i64 m, .int .i64 b, cmp] w K := by kernel_rfl
theorem C_slices_symMergeCmpFunc_int {dataa : Option Addr} {datal : Nat} {datac : Nat} {a : Int} {m : Int} {b : Int} {cmp : Value} {w : World} {K : Value → World → Prop} (h : D_slices_symMergeCmpFunc_int dataa datal datac a m b cmp w K) :
    CALL Pg F_slices_symMergeCmpFunc_int [.slice dataa datal datac, .int .i64 a, .int .i64 m, .int .i64 b, cmp] w K :=
  call_of_vc [27, 39, 41] Try.func79 rfl (Nat.le_of_ble_eq_true (by kernel_rfl)) ((E_slices_symMergeCmpFunc_int dataa datal datac a m b cmp w K) ▸ h)
def D_slices_rotateCmpFunc_int (dataa : Option Addr) (datal : Nat) (datac : Nat) (a : Int) (m : Int) (b : Int) (cmp : Value) (w : World) (K : Value → World → Prop) : Prop :=
  BIND (IntKind.i64.wrap (m - a)) fun n_1 =>
  BIND (IntKind.i64.wrap (b - m)) fun n_2 =>
  LOOP [.int .i64 n_1, .int .i64 n_2] w fun I_1 N_1 =>
  ∀ w_1 : World,
  ∀ v_1 : Value,
  ∀ v_2 : Value,
  (I_1 [v_1, v_2] w_1 →
  INTV .i64 v_2 fun n_3 =>
  INTV .i64 v_1 fun n_4 =>
  ITE (n_4 != n_3) (
   ITE (decide (n_4 > n_3)) (
    BIND (IntKind.i64.wrap (m - n_4)) fun n_5 =>
    CALL Pg F_slices_swapRangeCmpFunc_int [.slice dataa datal datac, .int .i64 n_5, .int .i64 m, .int .i64 n_3, cmp] w_1 fun v_3 w_2 =>
    TUPV v_3 fun cs_1 =>
    LEN cs_1 0 (
    BIND (IntKind.i64.wrap (n_4 - n_3)) fun n_6 =>
    N_1 [v_1, v_2] w_1 [.int .i64 n_6, .int .i64 n_3] w_2)) (
    BIND (IntKind.i64.wrap (m - n_4)) fun n_7 =>
    BIND (IntKind.i64.wrap (m + n_3)) fun n_8 =>
    BIND (IntKind.i64.wrap (n_8 - n_4)) fun n_9 =>
    CALL Pg F_slices_swapRangeCmpFunc_int [.slice dataa datal datac, .int .i64 n_7, .int .i64 n_9, .int .i64 n_4, cmp] w_1 fun v_4 w_3 =>
    TUPV v_4 fun cs_2 =>
    LEN cs_2 0 (
    BIND (IntKind.i64.wrap (n_3 - n_4)) fun n_10 =>
    N_1 [v_1, v_2] w_1 [.int .i64 n_4, .int .i64 n_10] w_3))) (
   BIND (IntKind.i64.wrap (m - n_4)) fun n_11 =>
   CALL Pg F_slices_swapRangeCmpFunc_int [.slice dataa datal datac, .int .i64 n_11, .int .i64 m, .int .i64 n_4, cmp] w_1 fun v_5 w_4 =>
   TUPV v_5 fun cs_3 =>
   LEN cs_3 0 (
   K (.tuple #[]) w_4)))
theorem E_slices_rotateCmpFunc_int (dataa : Option Addr) (datal : Nat) (datac : Nat) (a : Int) (m : Int) (b : Int) (cmp : Value) (w : World) (K : Value → World → Prop) :
    D_slices_rotateCmpFunc_int dataa datal datac a m b cmp w K = vcFn Pg Try.f82 [] [.slice dataa datal datac, .int .i64 a, .int .i64 m, .int .i64 b, cmp] w K := by kernel_rfl
theorem C_slices_rotateCmpFunc_int {dataa : Option Addr} {datal : Nat} {datac : Nat} {a : Int} {m : Int} {b : Int} {cmp : Value} {w : World} {K : Value → World → Prop} (h : D_slices_rotateCmpFunc_int dataa datal datac a m b cmp w K) :
    CALL Pg F_slices_rotateCmpFunc_int [.slice dataa datal datac, .int .i64 a, .int .i64 m, .int .i64 b, cmp] w K :=
  call_of_vc [] Try.func82 rfl (Nat.le_of_ble_eq_true (by kernel_rfl)) ((E_slices_rotateCmpFunc_int dataa datal datac a m b cmp w K) ▸ h)
def D_slices_swapRangeCmpFunc_int (dataa : Option Addr) (datal : Nat) (datac : Nat) (a : Int) (b : Int) (n : Int) (cmp : Value) (w : World) (K : Value → World → Prop) : Prop :=
  LOOP [.int .i64 0] w fun I_1 N_1 =>
  ∀ w_1 : World,
  ∀ v_1 : Value,
  (I_1 [v_1] w_1 →
  INTV .i64 v_1 fun n_1 =>
  ITE (decide (n_1 < n)) (
   DRAW w_1 fun w_2 =>
   BIND (IntKind.i64.wrap (a + n_1)) fun n_2 =>
   BIND (IntKind.i64.wrap (b + n_1)) fun n_3 =>
   BIND (IntKind.i64.wrap (b + n_1)) fun n_4 =>
   IDX dataa datal n_4 1 fun b_1 o_1 =>
   LDi .i64 w_2 ⟨b_1, o_1, none⟩ fun n_5 =>
   BIND (IntKind.i64.wrap (a + n_1)) fun n_6 =>
   IDX dataa datal n_6 1 fun b_2 o_2 =>
   LDi .i64 w_2 ⟨b_2, o_2, none⟩ fun n_7 =>
   IDX dataa datal n_2 1 fun b_3 o_3 =>
   ST1 w_2 ⟨b_3, o_3, none⟩ (.int .i64 n_5) fun w_3 =>
   ((
    KEEP w_3 []) ∧
    IDX dataa datal n_3 1 fun b_4 o_4 =>
    ST1 w_3 ⟨b_4, o_4, none⟩ (.int .i64 n_7) fun w_4 =>
    ((
     KEEP w_4 []) ∧
     BIND (IntKind.i64.wrap (n_1 + 1)) fun n_8 =>
     N_1 [v_1] w_1 [.int .i64 n_8] w_4))) (
   K (.tuple #[]) w_1))
theorem E_slices_swapRangeCmpFunc_int (dataa : Option Addr) (datal : Nat) (datac : Nat) (a : Int) (b : Int) (n : Int) (cmp : Value) (w : World) (K : Value → World → Prop) :
    D_slices_swapRangeCmpFunc_int dataa datal datac a b n cmp w K = vcFn Pg Try.f83 [] [.slice dataa datal datac, .int .i64 a, .int .i64 b, .int .i64 n, cmp] w K := by kernel_rfl
theorem C_slices_swapRangeCmpFunc_int {dataa : Option Addr} {datal : Nat} {datac : Nat} {a : Int} {b : Int} {n : Int} {cmp : Value} {w : World} {K : Value → World → Prop} (h : D_slices_swapRangeCmpFunc_int dataa datal datac a b n cmp w K) :
    CALL Pg F_slices_swapRangeCmpFunc_int [.slice dataa datal datac, .int .i64 a, .int .i64 b, .int .i64 n, cmp] w K :=
  call_of_vc [] Try.func83 rfl (Nat.le_of_ble_eq_true (by kernel_rfl)) ((E_slices_swapRangeCmpFunc_int dataa datal datac a b n cmp w K) ▸ h)

end Go.Proofs.Ytpopdookpbmmpaa
