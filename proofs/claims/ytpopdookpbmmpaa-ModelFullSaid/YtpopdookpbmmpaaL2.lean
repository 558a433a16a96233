/- What the evaluator asks of each function, in readable form: printed by a program of this claim's own. -/
import Derived.Test.YtpopdookpbmmpaaN
import Derived.Test.YtpopdookpbmmpaaDen
namespace Go.Proofs.Ytpopdookpbmmpaa
open Go.Den
set_option linter.unusedVariables false
set_option maxRecDepth 1000000
def D_l21_speaks (w : World) (K : Value → World → Prop) : Prop :=
  NEW w [.int .i64 0, .int .i64 0, .int .i64 0, .int .i64 0, .int .i64 0, .int .i64 0, .int .i64 1, .int .i64 4, .int .i64 5, .int .i64 1, .int .i64 0, .int .i64 0, .int .i64 0, .int .i64 0, .int .i64 0, .int .i64 2, .int .i64 3, .int .i64 3] T_api_Event_api_Event fun b_1 w_1 =>
  CALL Pg F_line_Order [.slice (some ⟨b_1, 0, none⟩) 2 2] w_1 fun v_1 w_2 =>
  SLV v_1 fun a_1 l_1 c_1 =>
  ITE ((↑l_1 : Int) == 2) (
   IDX a_1 l_1 0 1 fun b_2 o_1 =>
   LDi .i64 w_2 ⟨b_2, o_1, none⟩ fun n_1 =>
   ITE (n_1 == 1) (
    IDX a_1 l_1 1 1 fun b_3 o_2 =>
    LDi .i64 w_2 ⟨b_3, o_2, none⟩ fun n_2 =>
    ITE (n_2 == 0) (
     CALL Pg F_line_Right [.slice (some ⟨b_1, 0, none⟩) 2 2] w_2 fun v_2 w_3 =>
     BOOLV v_2 fun t_1 =>
     ITE (t_1) (
      CALL Pg F_line_Fits [.slice (some ⟨b_1, 0, none⟩) 2 2, .slice a_1 l_1 c_1] w_3 fun v_3 w_4 =>
      BOOLV v_3 fun t_2 =>
      ITE (t_2) (
       SILN Pg (Instr.sliceAt T_Lint (.slice a_1 l_1 c_1) none (some (.int .i64 1)) none) fun v_4 =>
       SLV v_4 fun a_2 l_2 c_2 =>
       CALL Pg F_line_Fits [.slice (some ⟨b_1, 0, none⟩) 2 2, .slice a_2 l_2 c_2] w_4 fun v_5 w_5 =>
       BOOLV v_5 fun t_3 =>
       ITE (!t_3) (
        IDX (some ⟨b_1, 0, none⟩) 2 1 9 fun b_4 o_3 =>
        LDi .i64 w_5 ⟨b_4, o_3, none⟩ fun n_3 =>
        LDi .i64 w_5 ⟨b_4, o_3 + 1, none⟩ fun n_4 =>
        LDi .i64 w_5 ⟨b_4, o_3 + 2, none⟩ fun n_5 =>
        LDi .i64 w_5 ⟨b_4, o_3 + 3, none⟩ fun n_6 =>
        LDi .i64 w_5 ⟨b_4, o_3 + 4, none⟩ fun n_7 =>
        LDi .i64 w_5 ⟨b_4, o_3 + 5, none⟩ fun n_8 =>
        LDi .i64 w_5 ⟨b_4, o_3 + 6, none⟩ fun n_9 =>
        LDi .i64 w_5 ⟨b_4, o_3 + 7, none⟩ fun n_10 =>
        LDi .i64 w_5 ⟨b_4, o_3 + 8, none⟩ fun n_11 =>
        CALL Pg F_line_Ahead [.agg #[.int .i64 n_3, .int .i64 n_4, .int .i64 n_5, .int .i64 n_6, .int .i64 n_7, .int .i64 n_8, .int .i64 n_9, .int .i64 n_10, .int .i64 n_11], .agg #[.int .i64 0, .int .i64 0, .int .i64 0, .int .i64 0, .int .i64 0, .int .i64 0, .int .i64 4, .int .i64 0, .int .i64 0]] w_5 fun v_6 w_6 =>
        BOOLV v_6 fun t_4 =>
        K (.bool t_4) w_6) (
        K (.bool false) w_5)) (
       K (.bool false) w_4)) (
      K (.bool false) w_3)) (
     K (.bool false) w_2)) (
    K (.bool false) w_2)) (
   K (.bool false) w_2)
theorem E_l21_speaks (w : World) (K : Value → World → Prop) :
    D_l21_speaks w K = vcFn Pg Try.f23 [] [] w K := by kernel_rfl
theorem C_l21_speaks {w : World} {K : Value → World → Prop} (h : D_l21_speaks w K) :
    CALL Pg F_l21_speaks [] w K :=
  call_of_vc [] Try.func23 rfl (Nat.le_of_ble_eq_true (by kernel_rfl)) ((E_l21_speaks w K) ▸ h)
def D_l21_LineOrders (la : Option Addr) (ll : Nat) (lc : Nat) (ordera : Option Addr) (orderl : Nat) (orderc : Nat) (w : World) (K : Value → World → Prop) : Prop :=
  CALL Pg F_l21_speaks [] w fun v_1 w_1 =>
  BOOLV v_1 fun t_1 =>
  ITE (!t_1) (
   K (.bool false) w_1) (
   ITE (decide ((↑ll : Int) > 60)) (
    K (.bool true) w_1) (
    ITE (decide ((↑orderl : Int) > 60)) (
     K (.bool true) w_1) (
     CALL Pg F_line_Order [.slice la ll lc] w_1 fun v_2 w_2 =>
     SLV v_2 fun a_1 l_1 c_1 =>
     CALL Pg F_r21_Order [.slice la ll lc] w_2 fun v_3 w_3 =>
     SLV v_3 fun a_2 l_2 c_2 =>
     ITE ((↑l_1 : Int) != (↑l_2 : Int)) (
      K (.bool false) w_3) (
      LOOP [.bool false, .int .i64 0] w_3 fun I_1 N_1 =>
      ∀ w_4 : World,
      ∀ v_4 : Value,
      ∀ v_5 : Value,
      (I_1 [v_4, v_5] w_4 →
      INTV .i64 v_5 fun n_1 =>
      BOOLV v_4 fun t_2 =>
      ITE (decide (n_1 < (↑l_1 : Int))) (
       DRAW w_4 fun w_5 =>
       IDX a_1 l_1 n_1 1 fun b_1 o_1 =>
       LDi .i64 w_5 ⟨b_1, o_1, none⟩ fun n_2 =>
       IDX a_2 l_2 n_1 1 fun b_2 o_2 =>
       LDi .i64 w_5 ⟨b_2, o_2, none⟩ fun n_3 =>
       ITE (n_2 != n_3) (
        K (.bool false) w_5) (
        BIND (IntKind.i64.wrap (n_1 + 1)) fun n_4 =>
        N_1 [v_4, v_5] w_4 [.bool t_2, .int .i64 n_4] w_5)) (
       LOOP [.bool t_2, .int .i64 0] w_4 fun I_2 N_2 =>
       ∀ w_6 : World,
       ∀ v_6 : Value,
       ∀ v_7 : Value,
       (I_2 [v_6, v_7] w_6 →
       INTV .i64 v_7 fun n_5 =>
       BOOLV v_6 fun t_3 =>
       ITE (decide (n_5 < (↑ll : Int))) (
        LOOP [.bool t_3, .int .i64 0] w_6 fun I_3 N_3 =>
        ∀ w_7 : World,
        ∀ v_8 : Value,
        ∀ v_9 : Value,
        (I_3 [v_8, v_9] w_7 →
        INTV .i64 v_9 fun n_6 =>
        BOOLV v_8 fun t_4 =>
        ITE (decide (n_6 < (↑ll : Int))) (
         DRAW w_7 fun w_8 =>
         IDX la ll n_5 9 fun b_3 o_3 =>
         LDi .i64 w_8 ⟨b_3, o_3, none⟩ fun n_7 =>
         LDi .i64 w_8 ⟨b_3, o_3 + 1, none⟩ fun n_8 =>
         LDi .i64 w_8 ⟨b_3, o_3 + 2, none⟩ fun n_9 =>
         LDi .i64 w_8 ⟨b_3, o_3 + 3, none⟩ fun n_10 =>
         LDi .i64 w_8 ⟨b_3, o_3 + 4, none⟩ fun n_11 =>
         LDi .i64 w_8 ⟨b_3, o_3 + 5, none⟩ fun n_12 =>
         LDi .i64 w_8 ⟨b_3, o_3 + 6, none⟩ fun n_13 =>
         LDi .i64 w_8 ⟨b_3, o_3 + 7, none⟩ fun n_14 =>
         LDi .i64 w_8 ⟨b_3, o_3 + 8, none⟩ fun n_15 =>
         IDX la ll n_6 9 fun b_4 o_4 =>
         LDi .i64 w_8 ⟨b_4, o_4, none⟩ fun n_16 =>
         LDi .i64 w_8 ⟨b_4, o_4 + 1, none⟩ fun n_17 =>
         LDi .i64 w_8 ⟨b_4, o_4 + 2, none⟩ fun n_18 =>
         LDi .i64 w_8 ⟨b_4, o_4 + 3, none⟩ fun n_19 =>
         LDi .i64 w_8 ⟨b_4, o_4 + 4, none⟩ fun n_20 =>
         LDi .i64 w_8 ⟨b_4, o_4 + 5, none⟩ fun n_21 =>
         LDi .i64 w_8 ⟨b_4, o_4 + 6, none⟩ fun n_22 =>
         LDi .i64 w_8 ⟨b_4, o_4 + 7, none⟩ fun n_23 =>
         LDi .i64 w_8 ⟨b_4, o_4 + 8, none⟩ fun n_24 =>
         IDX la ll n_5 9 fun b_5 o_5 =>
         LDi .i64 w_8 ⟨b_5, o_5, none⟩ fun n_25 =>
         LDi .i64 w_8 ⟨b_5, o_5 + 1, none⟩ fun n_26 =>
         LDi .i64 w_8 ⟨b_5, o_5 + 2, none⟩ fun n_27 =>
         LDi .i64 w_8 ⟨b_5, o_5 + 3, none⟩ fun n_28 =>
         LDi .i64 w_8 ⟨b_5, o_5 + 4, none⟩ fun n_29 =>
         LDi .i64 w_8 ⟨b_5, o_5 + 5, none⟩ fun n_30 =>
         LDi .i64 w_8 ⟨b_5, o_5 + 6, none⟩ fun n_31 =>
         LDi .i64 w_8 ⟨b_5, o_5 + 7, none⟩ fun n_32 =>
         LDi .i64 w_8 ⟨b_5, o_5 + 8, none⟩ fun n_33 =>
         IDX la ll n_6 9 fun b_6 o_6 =>
         LDi .i64 w_8 ⟨b_6, o_6, none⟩ fun n_34 =>
         LDi .i64 w_8 ⟨b_6, o_6 + 1, none⟩ fun n_35 =>
         LDi .i64 w_8 ⟨b_6, o_6 + 2, none⟩ fun n_36 =>
         LDi .i64 w_8 ⟨b_6, o_6 + 3, none⟩ fun n_37 =>
         LDi .i64 w_8 ⟨b_6, o_6 + 4, none⟩ fun n_38 =>
         LDi .i64 w_8 ⟨b_6, o_6 + 5, none⟩ fun n_39 =>
         LDi .i64 w_8 ⟨b_6, o_6 + 6, none⟩ fun n_40 =>
         LDi .i64 w_8 ⟨b_6, o_6 + 7, none⟩ fun n_41 =>
         LDi .i64 w_8 ⟨b_6, o_6 + 8, none⟩ fun n_42 =>
         CALL Pg F_line_Ahead [.agg #[.int .i64 n_7, .int .i64 n_8, .int .i64 n_9, .int .i64 n_10, .int .i64 n_11, .int .i64 n_12, .int .i64 n_13, .int .i64 n_14, .int .i64 n_15], .agg #[.int .i64 n_16, .int .i64 n_17, .int .i64 n_18, .int .i64 n_19, .int .i64 n_20, .int .i64 n_21, .int .i64 n_22, .int .i64 n_23, .int .i64 n_24]] w_8 fun v_10 w_9 =>
         BOOLV v_10 fun t_5 =>
         ((
          KEEP w_9 [Fact.cell ⟨b_5, o_5, none⟩ (.int .i64 n_25), Fact.cell ⟨b_5, o_5 + 1, none⟩ (.int .i64 n_26), Fact.cell ⟨b_5, o_5 + 2, none⟩ (.int .i64 n_27), Fact.cell ⟨b_5, o_5 + 3, none⟩ (.int .i64 n_28), Fact.cell ⟨b_5, o_5 + 4, none⟩ (.int .i64 n_29), Fact.cell ⟨b_5, o_5 + 5, none⟩ (.int .i64 n_30), Fact.cell ⟨b_5, o_5 + 6, none⟩ (.int .i64 n_31), Fact.cell ⟨b_5, o_5 + 7, none⟩ (.int .i64 n_32), Fact.cell ⟨b_5, o_5 + 8, none⟩ (.int .i64 n_33), Fact.cell ⟨b_6, o_6, none⟩ (.int .i64 n_34), Fact.cell ⟨b_6, o_6 + 1, none⟩ (.int .i64 n_35), Fact.cell ⟨b_6, o_6 + 2, none⟩ (.int .i64 n_36), Fact.cell ⟨b_6, o_6 + 3, none⟩ (.int .i64 n_37), Fact.cell ⟨b_6, o_6 + 4, none⟩ (.int .i64 n_38), Fact.cell ⟨b_6, o_6 + 5, none⟩ (.int .i64 n_39), Fact.cell ⟨b_6, o_6 + 6, none⟩ (.int .i64 n_40), Fact.cell ⟨b_6, o_6 + 7, none⟩ (.int .i64 n_41), Fact.cell ⟨b_6, o_6 + 8, none⟩ (.int .i64 n_42)]) ∧
          CALL Pg F_r21_Ahead [.agg #[.int .i64 n_25, .int .i64 n_26, .int .i64 n_27, .int .i64 n_28, .int .i64 n_29, .int .i64 n_30, .int .i64 n_31, .int .i64 n_32, .int .i64 n_33], .agg #[.int .i64 n_34, .int .i64 n_35, .int .i64 n_36, .int .i64 n_37, .int .i64 n_38, .int .i64 n_39, .int .i64 n_40, .int .i64 n_41, .int .i64 n_42]] w_9 fun v_11 w_10 =>
          BOOLV v_11 fun t_6 =>
          ((
           KEEP w_10 []) ∧
           ITE (!t_5 == t_6) (
            K (.bool false) w_10) (
            BIND (IntKind.i64.wrap (n_6 + 1)) fun n_43 =>
            N_3 [v_8, v_9] w_7 [.bool t_4, .int .i64 n_43] w_10)))) (
         BIND (IntKind.i64.wrap (n_5 + 1)) fun n_44 =>
         N_2 [v_6, v_7] w_6 [.bool t_4, .int .i64 n_44] w_7))) (
        CALL Pg F_line_Right [.slice la ll lc] w_6 fun v_12 w_11 =>
        BOOLV v_12 fun t_7 =>
        CALL Pg F_r21_Right [.slice la ll lc] w_11 fun v_13 w_12 =>
        BOOLV v_13 fun t_8 =>
        ITE (t_7 == t_8) (
         CALL Pg F_line_Fits [.slice la ll lc, .slice ordera orderl orderc] w_12 fun v_14 w_13 =>
         BOOLV v_14 fun t_9 =>
         CALL Pg F_r21_Fits [.slice la ll lc, .slice ordera orderl orderc] w_13 fun v_15 w_14 =>
         BOOLV v_15 fun t_10 =>
         ITE (t_9 == t_10) (
          CALL Pg F_line_Fits [.slice la ll lc, .slice a_1 l_1 c_1] w_14 fun v_16 w_15 =>
          BOOLV v_16 fun t_11 =>
          CALL Pg F_r21_Fits [.slice la ll lc, .slice a_2 l_2 c_2] w_15 fun v_17 w_16 =>
          BOOLV v_17 fun t_12 =>
          K (.bool (t_11 == t_12)) w_16) (
          K (.bool false) w_14)) (
         K (.bool false) w_12)))))))))
theorem E_l21_LineOrders (la : Option Addr) (ll : Nat) (lc : Nat) (ordera : Option Addr) (orderl : Nat) (orderc : Nat) (w : World) (K : Value → World → Prop) :
    D_l21_LineOrders la ll lc ordera orderl orderc w K = vcFn Pg Try.f4 [] [.slice la ll lc, .slice ordera orderl orderc] w K := by kernel_rfl
theorem C_l21_LineOrders {la : Option Addr} {ll : Nat} {lc : Nat} {ordera : Option Addr} {orderl : Nat} {orderc : Nat} {w : World} {K : Value → World → Prop} (h : D_l21_LineOrders la ll lc ordera orderl orderc w K) :
    CALL Pg F_l21_LineOrders [.slice la ll lc, .slice ordera orderl orderc] w K :=
  call_of_vc [] Try.func4 rfl (Nat.le_of_ble_eq_true (by kernel_rfl)) ((E_l21_LineOrders la ll lc ordera orderl orderc w K) ▸ h)
def D_l21_LineFits (la : Option Addr) (ll : Nat) (lc : Nat) (w : World) (K : Value → World → Prop) : Prop :=
  CALL Pg F_l21_speaks [] w fun v_1 w_1 =>
  BOOLV v_1 fun t_1 =>
  ITE (!t_1) (
   K (.bool false) w_1) (
   ITE (decide ((↑ll : Int) > 60)) (
    K (.bool true) w_1) (
    CALL Pg F_r21_Right [.slice la ll lc] w_1 fun v_2 w_2 =>
    BOOLV v_2 fun t_2 =>
    ITE (!t_2) (
     K (.bool true) w_2) (
     CALL Pg F_line_Right [.slice la ll lc] w_2 fun v_3 w_3 =>
     BOOLV v_3 fun t_3 =>
     ITE (t_3) (
      CALL Pg F_line_Order [.slice la ll lc] w_3 fun v_4 w_4 =>
      SLV v_4 fun a_1 l_1 c_1 =>
      CALL Pg F_line_Fits [.slice la ll lc, .slice a_1 l_1 c_1] w_4 fun v_5 w_5 =>
      BOOLV v_5 fun t_4 =>
      K (.bool t_4) w_5) (
      K (.bool false) w_3))))
theorem E_l21_LineFits (la : Option Addr) (ll : Nat) (lc : Nat) (w : World) (K : Value → World → Prop) :
    D_l21_LineFits la ll lc w K = vcFn Pg Try.f5 [] [.slice la ll lc] w K := by kernel_rfl
theorem C_l21_LineFits {la : Option Addr} {ll : Nat} {lc : Nat} {w : World} {K : Value → World → Prop} (h : D_l21_LineFits la ll lc w K) :
    CALL Pg F_l21_LineFits [.slice la ll lc] w K :=
  call_of_vc [] Try.func5 rfl (Nat.le_of_ble_eq_true (by kernel_rfl)) ((E_l21_LineFits la ll lc w K) ▸ h)
def D_l21_LineLater (la : Option Addr) (ll : Nat) (lc : Nat) (by_ : Int) (ordera : Option Addr) (orderl : Nat) (orderc : Nat) (w : World) (K : Value → World → Prop) : Prop :=
  CALL Pg F_l21_speaks [] w fun v_1 w_1 =>
  BOOLV v_1 fun t_1 =>
  ITE (!t_1) (
   K (.bool false) w_1) (
   ITE (decide ((↑ll : Int) > 60)) (
    K (.bool true) w_1) (
    ITE (decide ((↑orderl : Int) > 60)) (
     K (.bool true) w_1) (
     LOOP [.bool false, .slice none 0 0, .int .i64 0] w_1 fun I_1 N_1 =>
     ∀ w_2 : World,
     ∀ v_2 : Value,
     ∀ v_3 : Value,
     ∀ v_4 : Value,
     (I_1 [v_2, v_3, v_4] w_2 →
     INTV .i64 v_4 fun n_1 =>
     SLV v_3 fun a_1 l_1 c_1 =>
     BOOLV v_2 fun t_2 =>
     ITE (decide (n_1 < (↑ll : Int))) (
      IDX la ll n_1 9 fun b_1 o_1 =>
      LDi .i64 w_2 ⟨b_1, o_1, none⟩ fun n_2 =>
      LDi .i64 w_2 ⟨b_1, o_1 + 1, none⟩ fun n_3 =>
      LDi .i64 w_2 ⟨b_1, o_1 + 2, none⟩ fun n_4 =>
      LDi .i64 w_2 ⟨b_1, o_1 + 3, none⟩ fun n_5 =>
      LDi .i64 w_2 ⟨b_1, o_1 + 4, none⟩ fun n_6 =>
      LDi .i64 w_2 ⟨b_1, o_1 + 5, none⟩ fun n_7 =>
      LDi .i64 w_2 ⟨b_1, o_1 + 6, none⟩ fun n_8 =>
      LDi .i64 w_2 ⟨b_1, o_1 + 7, none⟩ fun n_9 =>
      LDi .i64 w_2 ⟨b_1, o_1 + 8, none⟩ fun n_10 =>
      NEW w_2 [.int .i64 0, .int .i64 0, .int .i64 0, .int .i64 0, .int .i64 0, .int .i64 0, .int .i64 0, .int .i64 0, .int .i64 0] T_api_Event_api_Event fun b_2 w_3 =>
      ST1 w_3 ⟨b_2, 0, none⟩ (.int .i64 n_2) fun w_4 =>
      ST1 w_4 ⟨b_2, 1, none⟩ (.int .i64 n_3) fun w_5 =>
      ST1 w_5 ⟨b_2, 2, none⟩ (.int .i64 n_4) fun w_6 =>
      ST1 w_6 ⟨b_2, 3, none⟩ (.int .i64 n_5) fun w_7 =>
      ST1 w_7 ⟨b_2, 4, none⟩ (.int .i64 n_6) fun w_8 =>
      ST1 w_8 ⟨b_2, 5, none⟩ (.int .i64 n_7) fun w_9 =>
      ST1 w_9 ⟨b_2, 6, none⟩ (.int .i64 n_8) fun w_10 =>
      ST1 w_10 ⟨b_2, 7, none⟩ (.int .i64 n_9) fun w_11 =>
      ST1 w_11 ⟨b_2, 8, none⟩ (.int .i64 n_10) fun w_12 =>
      LDi .i64 w_12 ⟨b_2, 6, none⟩ fun n_11 =>
      ITE (decide (n_11 < 1)) (
       K (.bool true) w_12) (
       LDi .i64 w_12 ⟨b_2, 7, none⟩ fun n_12 =>
       ITE (decide (n_12 < 0)) (
        K (.bool true) w_12) (
        LDi .i64 w_12 ⟨b_2, 8, none⟩ fun n_13 =>
        ITE (decide (n_13 < 0)) (
         K (.bool true) w_12) (
         LDi .i64 w_12 ⟨b_2, 6, none⟩ fun n_14 =>
         ITE (decide (n_14 > 1099511627776)) (
          K (.bool true) w_12) (
          LDi .i64 w_12 ⟨b_2, 7, none⟩ fun n_15 =>
          ITE (decide (n_15 > 1099511627776)) (
           K (.bool true) w_12) (
           LDi .i64 w_12 ⟨b_2, 8, none⟩ fun n_16 =>
           ITE (decide (n_16 > 1099511627776)) (
            K (.bool true) w_12) (
            LDi .i64 w_12 ⟨b_2, 6, none⟩ fun n_17 =>
            BIND (IntKind.i64.wrap by_) fun n_18 =>
            BIND (IntKind.i64.wrap (n_17 + n_18)) fun n_19 =>
            ST1 w_12 ⟨b_2, 6, none⟩ (.int .i64 n_19) fun w_13 =>
            JOIN fun J_1 =>
            ((
             JOIN fun J_2 =>
             ((
              LDi .i64 w_13 ⟨b_2, 7, none⟩ fun n_20 =>
              J_2 [.bool (decide (n_20 > 0))] w_13) ∧
              ∀ w_14 : World,
              ∀ v_5 : Value,
              (J_2 [v_5] w_14 →
              BOOLV v_5 fun t_3 =>
              ITE (t_3) (
               LDi .i64 w_14 ⟨b_2, 7, none⟩ fun n_21 =>
               BIND (IntKind.i64.wrap by_) fun n_22 =>
               BIND (IntKind.i64.wrap (n_21 + n_22)) fun n_23 =>
               ST1 w_14 ⟨b_2, 7, none⟩ (.int .i64 n_23) fun w_15 =>
               J_1 [] w_15) (
               J_1 [] w_14)))) ∧
             ∀ w_16 : World,
             (J_1 [] w_16 →
             JOIN fun J_3 =>
             ((
              JOIN fun J_4 =>
              ((
               LDi .i64 w_16 ⟨b_2, 8, none⟩ fun n_24 =>
               J_4 [.bool (decide (n_24 > 0))] w_16) ∧
               ∀ w_17 : World,
               ∀ v_6 : Value,
               (J_4 [v_6] w_17 →
               BOOLV v_6 fun t_4 =>
               ITE (t_4) (
                LDi .i64 w_17 ⟨b_2, 8, none⟩ fun n_25 =>
                BIND (IntKind.i64.wrap by_) fun n_26 =>
                BIND (IntKind.i64.wrap (n_25 + n_26)) fun n_27 =>
                ST1 w_17 ⟨b_2, 8, none⟩ (.int .i64 n_27) fun w_18 =>
                J_3 [] w_18) (
                J_3 [] w_17)))) ∧
              ∀ w_19 : World,
              (J_3 [] w_19 →
              LDi .i64 w_19 ⟨b_2, 0, none⟩ fun n_28 =>
              LDi .i64 w_19 ⟨b_2, 1, none⟩ fun n_29 =>
              LDi .i64 w_19 ⟨b_2, 2, none⟩ fun n_30 =>
              LDi .i64 w_19 ⟨b_2, 3, none⟩ fun n_31 =>
              LDi .i64 w_19 ⟨b_2, 4, none⟩ fun n_32 =>
              LDi .i64 w_19 ⟨b_2, 5, none⟩ fun n_33 =>
              LDi .i64 w_19 ⟨b_2, 6, none⟩ fun n_34 =>
              LDi .i64 w_19 ⟨b_2, 7, none⟩ fun n_35 =>
              LDi .i64 w_19 ⟨b_2, 8, none⟩ fun n_36 =>
              NEW w_19 [.int .i64 n_28, .int .i64 n_29, .int .i64 n_30, .int .i64 n_31, .int .i64 n_32, .int .i64 n_33, .int .i64 n_34, .int .i64 n_35, .int .i64 n_36] T_api_Event_api_Event fun b_3 w_20 =>
              SEML Pg w_20 (Builtin.append_ #[T_Lapi_Event, T_Lapi_Event] T_Lapi_Event #[.slice a_1 l_1 c_1, .slice (some ⟨b_3, 0, none⟩) 1 1]) fun v_7 w_21 =>
              SLV v_7 fun a_2 l_2 c_2 =>
              BIND (IntKind.i64.wrap (n_1 + 1)) fun n_37 =>
              N_1 [v_2, v_3, v_4] w_2 [.bool t_2, .slice a_2 l_2 c_2, .int .i64 n_37] w_21))))))))))) (
      CALL Pg F_line_Order [.slice la ll lc] w_2 fun v_8 w_22 =>
      SLV v_8 fun a_3 l_3 _ =>
      CALL Pg F_line_Order [.slice a_1 l_1 c_1] w_22 fun v_9 w_23 =>
      SLV v_9 fun a_4 l_4 _ =>
      LOOP [.bool t_2, .int .i64 0] w_23 fun I_2 N_2 =>
      ∀ w_24 : World,
      ∀ v_10 : Value,
      ∀ v_11 : Value,
      (I_2 [v_10, v_11] w_24 →
      INTV .i64 v_11 fun n_38 =>
      BOOLV v_10 fun t_5 =>
      ITE (decide (n_38 < (↑l_3 : Int))) (
       DRAW w_24 fun w_25 =>
       ITE (decide (n_38 ≥ (↑l_4 : Int))) (
        K (.bool false) w_25) (
        IDX a_3 l_3 n_38 1 fun b_4 o_2 =>
        LDi .i64 w_25 ⟨b_4, o_2, none⟩ fun n_39 =>
        IDX a_4 l_4 n_38 1 fun b_5 o_3 =>
        LDi .i64 w_25 ⟨b_5, o_3, none⟩ fun n_40 =>
        ITE (n_39 != n_40) (
         K (.bool false) w_25) (
         BIND (IntKind.i64.wrap (n_38 + 1)) fun n_41 =>
         N_2 [v_10, v_11] w_24 [.bool t_5, .int .i64 n_41] w_25))) (
       ITE ((↑l_3 : Int) == (↑l_4 : Int)) (
        CALL Pg F_line_Right [.slice la ll lc] w_24 fun v_12 w_26 =>
        BOOLV v_12 fun t_6 =>
        CALL Pg F_line_Right [.slice a_1 l_1 c_1] w_26 fun v_13 w_27 =>
        BOOLV v_13 fun t_7 =>
        ITE (t_6 == t_7) (
         CALL Pg F_line_Fits [.slice la ll lc, .slice ordera orderl orderc] w_27 fun v_14 w_28 =>
         BOOLV v_14 fun t_8 =>
         CALL Pg F_line_Fits [.slice a_1 l_1 c_1, .slice ordera orderl orderc] w_28 fun v_15 w_29 =>
         BOOLV v_15 fun t_9 =>
         K (.bool (t_8 == t_9)) w_29) (
         K (.bool false) w_27)) (
        K (.bool false) w_24))))))))
theorem E_l21_LineLater (la : Option Addr) (ll : Nat) (lc : Nat) (by_ : Int) (ordera : Option Addr) (orderl : Nat) (orderc : Nat) (w : World) (K : Value → World → Prop) :
    D_l21_LineLater la ll lc by_ ordera orderl orderc w K = vcFn Pg Try.f6 [12, 14] [.slice la ll lc, .int .u16 by_, .slice ordera orderl orderc] w K := by kernel_rfl
theorem C_l21_LineLater {la : Option Addr} {ll : Nat} {lc : Nat} {by_ : Int} {ordera : Option Addr} {orderl : Nat} {orderc : Nat} {w : World} {K : Value → World → Prop} (h : D_l21_LineLater la ll lc by_ ordera orderl orderc w K) :
    CALL Pg F_l21_LineLater [.slice la ll lc, .int .u16 by_, .slice ordera orderl orderc] w K :=
  call_of_vc [12, 14] Try.func6 rfl (Nat.le_of_ble_eq_true (by kernel_rfl)) ((E_l21_LineLater la ll lc by_ ordera orderl orderc w K) ▸ h)
def D_l21_LineOnly (la : Option Addr) (ll : Nat) (lc : Nat) (workers : Int) (w : World) (K : Value → World → Prop) : Prop :=
  CALL Pg F_l21_speaks [] w fun v_1 w_1 =>
  BOOLV v_1 fun t_1 =>
  ITE (!t_1) (
   K (.bool false) w_1) (
   ITE (decide ((↑ll : Int) > 60)) (
    K (.bool true) w_1) (
    CALL Pg F_r21_Right [.slice la ll lc] w_1 fun v_2 w_2 =>
    BOOLV v_2 fun t_2 =>
    ITE (!t_2) (
     K (.bool true) w_2) (
     NEW w_2 [] T_int fun b_1 w_3 =>
     LOOP [.slice none 0 0, .slice (some ⟨b_1, 0, none⟩) 0 0, .int .i64 0] w_3 fun I_1 N_1 =>
     ∀ w_4 : World,
     ∀ v_3 : Value,
     ∀ v_4 : Value,
     ∀ v_5 : Value,
     (I_1 [v_3, v_4, v_5] w_4 →
     INTV .i64 v_5 fun n_1 =>
     SLV v_4 fun a_1 l_1 c_1 =>
     SLV v_3 fun a_2 l_2 c_2 =>
     ITE (decide (n_1 < (↑ll : Int))) (
      IDX la ll n_1 9 fun b_2 o_1 =>
      LDi .i64 w_4 ⟨b_2, o_1, none⟩ fun n_2 =>
      LDi .i64 w_4 ⟨b_2, o_1 + 1, none⟩ fun n_3 =>
      LDi .i64 w_4 ⟨b_2, o_1 + 2, none⟩ fun n_4 =>
      LDi .i64 w_4 ⟨b_2, o_1 + 3, none⟩ fun n_5 =>
      LDi .i64 w_4 ⟨b_2, o_1 + 4, none⟩ fun n_6 =>
      LDi .i64 w_4 ⟨b_2, o_1 + 5, none⟩ fun n_7 =>
      LDi .i64 w_4 ⟨b_2, o_1 + 6, none⟩ fun n_8 =>
      LDi .i64 w_4 ⟨b_2, o_1 + 7, none⟩ fun n_9 =>
      LDi .i64 w_4 ⟨b_2, o_1 + 8, none⟩ fun n_10 =>
      NEW w_4 [.int .i64 0, .int .i64 0, .int .i64 0, .int .i64 0, .int .i64 0, .int .i64 0, .int .i64 0, .int .i64 0, .int .i64 0] T_api_Event_api_Event fun b_3 w_5 =>
      ST1 w_5 ⟨b_3, 0, none⟩ (.int .i64 n_2) fun w_6 =>
      ST1 w_6 ⟨b_3, 1, none⟩ (.int .i64 n_3) fun w_7 =>
      ST1 w_7 ⟨b_3, 2, none⟩ (.int .i64 n_4) fun w_8 =>
      ST1 w_8 ⟨b_3, 3, none⟩ (.int .i64 n_5) fun w_9 =>
      ST1 w_9 ⟨b_3, 4, none⟩ (.int .i64 n_6) fun w_10 =>
      ST1 w_10 ⟨b_3, 5, none⟩ (.int .i64 n_7) fun w_11 =>
      ST1 w_11 ⟨b_3, 6, none⟩ (.int .i64 n_8) fun w_12 =>
      ST1 w_12 ⟨b_3, 7, none⟩ (.int .i64 n_9) fun w_13 =>
      ST1 w_13 ⟨b_3, 8, none⟩ (.int .i64 n_10) fun w_14 =>
      LDi .i64 w_14 ⟨b_3, 0, none⟩ fun n_11 =>
      ITE (decide (n_11 ≥ 0)) (
       LDi .i64 w_14 ⟨b_3, 0, none⟩ fun n_12 =>
       ITE (decide (n_12 < 8)) (
        LDi .i64 w_14 ⟨b_3, 0, none⟩ fun n_13 =>
        GE0 n_13 (
        BIND (shI BinOp.shr IntKind.u8 workers n_13) fun n_14 =>
        BIND (bitI BinOp.and IntKind.u8 n_14 1) fun n_15 =>
        ITE (n_15 == 1) (
         LDi .i64 w_14 ⟨b_3, 0, none⟩ fun n_16 =>
         LDi .i64 w_14 ⟨b_3, 1, none⟩ fun n_17 =>
         LDi .i64 w_14 ⟨b_3, 2, none⟩ fun n_18 =>
         LDi .i64 w_14 ⟨b_3, 3, none⟩ fun n_19 =>
         LDi .i64 w_14 ⟨b_3, 4, none⟩ fun n_20 =>
         LDi .i64 w_14 ⟨b_3, 5, none⟩ fun n_21 =>
         LDi .i64 w_14 ⟨b_3, 6, none⟩ fun n_22 =>
         LDi .i64 w_14 ⟨b_3, 7, none⟩ fun n_23 =>
         LDi .i64 w_14 ⟨b_3, 8, none⟩ fun n_24 =>
         NEW w_14 [.int .i64 n_16, .int .i64 n_17, .int .i64 n_18, .int .i64 n_19, .int .i64 n_20, .int .i64 n_21, .int .i64 n_22, .int .i64 n_23, .int .i64 n_24] T_api_Event_api_Event fun b_4 w_15 =>
         SEML Pg w_15 (Builtin.append_ #[T_Lapi_Event, T_Lapi_Event] T_Lapi_Event #[.slice a_2 l_2 c_2, .slice (some ⟨b_4, 0, none⟩) 1 1]) fun v_6 w_16 =>
         SLV v_6 fun a_3 l_3 c_3 =>
         NEW w_16 [.int .i64 n_1] T_int fun b_5 w_17 =>
         SEML Pg w_17 (Builtin.append_ #[T_Lint, T_Lint] T_Lint #[.slice a_1 l_1 c_1, .slice (some ⟨b_5, 0, none⟩) 1 1]) fun v_7 w_18 =>
         SLV v_7 fun a_4 l_4 c_4 =>
         BIND (IntKind.i64.wrap (n_1 + 1)) fun n_25 =>
         N_1 [v_3, v_4, v_5] w_4 [.slice a_3 l_3 c_3, .slice a_4 l_4 c_4, .int .i64 n_25] w_18) (
         BIND (IntKind.i64.wrap (n_1 + 1)) fun n_26 =>
         N_1 [v_3, v_4, v_5] w_4 [.slice a_2 l_2 c_2, .slice a_1 l_1 c_1, .int .i64 n_26] w_14))) (
        BIND (IntKind.i64.wrap (n_1 + 1)) fun n_27 =>
        N_1 [v_3, v_4, v_5] w_4 [.slice a_2 l_2 c_2, .slice a_1 l_1 c_1, .int .i64 n_27] w_14)) (
       BIND (IntKind.i64.wrap (n_1 + 1)) fun n_28 =>
       N_1 [v_3, v_4, v_5] w_4 [.slice a_2 l_2 c_2, .slice a_1 l_1 c_1, .int .i64 n_28] w_14)) (
      CALL Pg F_line_Order [.slice la ll lc] w_4 fun v_8 w_19 =>
      SLV v_8 fun a_5 l_5 _ =>
      LOOP [.slice none 0 0, .int .i64 0] w_19 fun I_2 N_2 =>
      ∀ w_20 : World,
      ∀ v_9 : Value,
      ∀ v_10 : Value,
      (I_2 [v_9, v_10] w_20 →
      INTV .i64 v_10 fun n_29 =>
      SLV v_9 fun a_6 l_6 c_6 =>
      ITE (decide (n_29 < (↑l_5 : Int))) (
       IDX a_5 l_5 n_29 1 fun b_6 o_2 =>
       LDi .i64 w_20 ⟨b_6, o_2, none⟩ fun n_30 =>
       LOOP [.slice a_6 l_6 c_6, .int .i64 0] w_20 fun I_3 N_3 =>
       ∀ w_21 : World,
       ∀ v_11 : Value,
       ∀ v_12 : Value,
       (I_3 [v_11, v_12] w_21 →
       INTV .i64 v_12 fun n_31 =>
       SLV v_11 fun a_7 l_7 c_7 =>
       ITE (decide (n_31 < (↑l_1 : Int))) (
        IDX a_1 l_1 n_31 1 fun b_7 o_3 =>
        LDi .i64 w_21 ⟨b_7, o_3, none⟩ fun n_32 =>
        ITE (n_32 == n_30) (
         NEW w_21 [.int .i64 n_30] T_int fun b_8 w_22 =>
         SEML Pg w_22 (Builtin.append_ #[T_Lint, T_Lint] T_Lint #[.slice a_7 l_7 c_7, .slice (some ⟨b_8, 0, none⟩) 1 1]) fun v_13 w_23 =>
         SLV v_13 fun a_8 l_8 c_8 =>
         BIND (IntKind.i64.wrap (n_31 + 1)) fun n_33 =>
         N_3 [v_11, v_12] w_21 [.slice a_8 l_8 c_8, .int .i64 n_33] w_23) (
         BIND (IntKind.i64.wrap (n_31 + 1)) fun n_34 =>
         N_3 [v_11, v_12] w_21 [.slice a_7 l_7 c_7, .int .i64 n_34] w_21)) (
        BIND (IntKind.i64.wrap (n_29 + 1)) fun n_35 =>
        N_2 [v_9, v_10] w_20 [.slice a_7 l_7 c_7, .int .i64 n_35] w_21))) (
       CALL Pg F_line_Order [.slice a_2 l_2 c_2] w_20 fun v_14 w_24 =>
       SLV v_14 fun a_9 l_9 _ =>
       LOOP [.bool false, .slice none 0 0, .int .i64 0] w_24 fun I_4 N_4 =>
       ∀ w_25 : World,
       ∀ v_15 : Value,
       ∀ v_16 : Value,
       ∀ v_17 : Value,
       (I_4 [v_15, v_16, v_17] w_25 →
       INTV .i64 v_17 fun n_36 =>
       SLV v_16 fun a_10 l_10 c_10 =>
       BOOLV v_15 fun t_3 =>
       ITE (decide (n_36 < (↑l_9 : Int))) (
        IDX a_9 l_9 n_36 1 fun b_9 o_4 =>
        LDi .i64 w_25 ⟨b_9, o_4, none⟩ fun n_37 =>
        ITE (decide (n_37 < 0)) (
         K (.bool false) w_25) (
         ITE (decide (n_37 ≥ (↑l_1 : Int))) (
          K (.bool false) w_25) (
          IDX a_1 l_1 n_37 1 fun b_10 o_5 =>
          LDi .i64 w_25 ⟨b_10, o_5, none⟩ fun n_38 =>
          NEW w_25 [.int .i64 n_38] T_int fun b_11 w_26 =>
          SEML Pg w_26 (Builtin.append_ #[T_Lint, T_Lint] T_Lint #[.slice a_10 l_10 c_10, .slice (some ⟨b_11, 0, none⟩) 1 1]) fun v_18 w_27 =>
          SLV v_18 fun a_11 l_11 c_11 =>
          BIND (IntKind.i64.wrap (n_36 + 1)) fun n_39 =>
          N_4 [v_15, v_16, v_17] w_25 [.bool t_3, .slice a_11 l_11 c_11, .int .i64 n_39] w_27))) (
        ITE ((↑l_10 : Int) != (↑l_6 : Int)) (
         K (.bool false) w_25) (
         LOOP [.bool t_3, .int .i64 0] w_25 fun I_5 N_5 =>
         ∀ w_28 : World,
         ∀ v_19 : Value,
         ∀ v_20 : Value,
         (I_5 [v_19, v_20] w_28 →
         INTV .i64 v_20 fun n_40 =>
         BOOLV v_19 fun t_4 =>
         ITE (decide (n_40 < (↑l_10 : Int))) (
          DRAW w_28 fun w_29 =>
          IDX a_10 l_10 n_40 1 fun b_12 o_6 =>
          LDi .i64 w_29 ⟨b_12, o_6, none⟩ fun n_41 =>
          IDX a_6 l_6 n_40 1 fun b_13 o_7 =>
          LDi .i64 w_29 ⟨b_13, o_7, none⟩ fun n_42 =>
          ITE (n_41 != n_42) (
           K (.bool false) w_29) (
           BIND (IntKind.i64.wrap (n_40 + 1)) fun n_43 =>
           N_5 [v_19, v_20] w_28 [.bool t_4, .int .i64 n_43] w_29)) (
          CALL Pg F_line_Right [.slice a_2 l_2 c_2] w_28 fun v_21 w_30 =>
          BOOLV v_21 fun t_5 =>
          ITE (t_5) (
           CALL Pg F_line_Order [.slice a_2 l_2 c_2] w_30 fun v_22 w_31 =>
           SLV v_22 fun a_12 l_12 c_12 =>
           CALL Pg F_line_Fits [.slice a_2 l_2 c_2, .slice a_12 l_12 c_12] w_31 fun v_23 w_32 =>
           BOOLV v_23 fun t_6 =>
           K (.bool t_6) w_32) (
           K (.bool false) w_30)))))))))))))
theorem E_l21_LineOnly (la : Option Addr) (ll : Nat) (lc : Nat) (workers : Int) (w : World) (K : Value → World → Prop) :
    D_l21_LineOnly la ll lc workers w K = vcFn Pg Try.f7 [] [.slice la ll lc, .int .u8 workers] w K := by kernel_rfl
theorem C_l21_LineOnly {la : Option Addr} {ll : Nat} {lc : Nat} {workers : Int} {w : World} {K : Value → World → Prop} (h : D_l21_LineOnly la ll lc workers w K) :
    CALL Pg F_l21_LineOnly [.slice la ll lc, .int .u8 workers] w K :=
  call_of_vc [] Try.func7 rfl (Nat.le_of_ble_eq_true (by kernel_rfl)) ((E_l21_LineOnly la ll lc workers w K) ▸ h)

end Go.Proofs.Ytpopdookpbmmpaa
