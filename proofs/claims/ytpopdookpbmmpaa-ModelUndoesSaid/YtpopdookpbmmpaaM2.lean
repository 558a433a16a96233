/- What the evaluator asks of each function, in readable form: printed by a program of this claim's own. -/
import Derived.Test.YtpopdookpbmmpaaN
import Derived.Test.YtpopdookpbmmpaaDen
namespace Go.Proofs.Ytpopdookpbmmpaa
open Go.Den
set_option linter.unusedVariables false
set_option maxRecDepth 1000000
def D_model_New (c0 : Int) (c1 : Int) (c2 : Int) (c3 : Int) (c4a : Option Addr) (c4l : Nat) (c4c : Nat) (w : World) (K : Value → World → Prop) : Prop :=
  NEW w [.int .i64 c0, .int .i64 c1, .int .i64 c2, .int .i64 c3, .slice c4a c4l c4c] T_api_Config_api_Config fun b_1 w_1 =>
  LDi .i64 w_1 ⟨b_1, 0, none⟩ fun n_1 =>
  LDi .i64 w_1 ⟨b_1, 1, none⟩ fun n_2 =>
  LDi .i64 w_1 ⟨b_1, 2, none⟩ fun n_3 =>
  LDi .i64 w_1 ⟨b_1, 3, none⟩ fun n_4 =>
  LDl w_1 ⟨b_1, 4, none⟩ fun a_1 l_1 c_1 =>
  CALL Pg F_conf_Copy [.agg #[.int .i64 n_1, .int .i64 n_2, .int .i64 n_3, .int .i64 n_4, .slice a_1 l_1 c_1]] w_1 fun v_1 w_2 =>
  AGGV v_1 fun cs_1 =>
  GETV cs_1 0 fun v_2 =>
  INTV .i64 v_2 fun n_5 =>
  GETV cs_1 1 fun v_3 =>
  INTV .i64 v_3 fun n_6 =>
  GETV cs_1 2 fun v_4 =>
  INTV .i64 v_4 fun n_7 =>
  GETV cs_1 3 fun v_5 =>
  INTV .i64 v_5 fun n_8 =>
  GETV cs_1 4 fun v_6 =>
  SLV v_6 fun a_2 l_2 c_2 =>
  LEN cs_1 5 (
  NEW w_2 [.int .i64 n_5, .int .i64 n_6, .int .i64 n_7, .int .i64 n_8, .slice a_2 l_2 c_2, .slice none 0 0] T_model_Model_model_Model fun b_2 w_3 =>
  K (.pointer (some ⟨b_2, 0, none⟩)) w_3)
theorem E_model_New (c0 : Int) (c1 : Int) (c2 : Int) (c3 : Int) (c4a : Option Addr) (c4l : Nat) (c4c : Nat) (w : World) (K : Value → World → Prop) :
    D_model_New c0 c1 c2 c3 c4a c4l c4c w K = vcFn Pg Try.f40 [] [.agg #[.int .i64 c0, .int .i64 c1, .int .i64 c2, .int .i64 c3, .slice c4a c4l c4c]] w K := by kernel_rfl
theorem C_model_New {c0 : Int} {c1 : Int} {c2 : Int} {c3 : Int} {c4a : Option Addr} {c4l : Nat} {c4c : Nat} {w : World} {K : Value → World → Prop} (h : D_model_New c0 c1 c2 c3 c4a c4l c4c w K) :
    CALL Pg F_model_New [.agg #[.int .i64 c0, .int .i64 c1, .int .i64 c2, .int .i64 c3, .slice c4a c4l c4c]] w K :=
  call_of_vc [] Try.func40 rfl (Nat.le_of_ble_eq_true (by kernel_rfl)) ((E_model_New c0 c1 c2 c3 c4a c4l c4c w K) ▸ h)
def D_conf_Copy (c0 : Int) (c1 : Int) (c2 : Int) (c3 : Int) (c4a : Option Addr) (c4l : Nat) (c4c : Nat) (w : World) (K : Value → World → Prop) : Prop :=
  NEW w [.int .i64 c0, .int .i64 c1, .int .i64 c2, .int .i64 c3, .slice c4a c4l c4c] T_api_Config_api_Config fun b_1 w_1 =>
  NEW w_1 [.int .i64 0, .int .i64 0, .int .i64 0, .int .i64 0, .slice none 0 0] T_api_Config_api_Config fun b_2 w_2 =>
  LDl w_2 ⟨b_1, 4, none⟩ fun a_1 l_1 c_1 =>
  CALL Pg F_slices_Clone_Lint_int [.slice a_1 l_1 c_1] w_2 fun v_1 w_3 =>
  SLV v_1 fun a_2 l_2 c_2 =>
  ST1 w_3 ⟨b_1, 4, none⟩ (.slice a_2 l_2 c_2) fun w_4 =>
  LDi .i64 w_4 ⟨b_1, 0, none⟩ fun n_1 =>
  LDi .i64 w_4 ⟨b_1, 1, none⟩ fun n_2 =>
  LDi .i64 w_4 ⟨b_1, 2, none⟩ fun n_3 =>
  LDi .i64 w_4 ⟨b_1, 3, none⟩ fun n_4 =>
  LDl w_4 ⟨b_1, 4, none⟩ fun a_3 l_3 c_3 =>
  ST1 w_4 ⟨b_2, 0, none⟩ (.int .i64 n_1) fun w_5 =>
  ST1 w_5 ⟨b_2, 1, none⟩ (.int .i64 n_2) fun w_6 =>
  ST1 w_6 ⟨b_2, 2, none⟩ (.int .i64 n_3) fun w_7 =>
  ST1 w_7 ⟨b_2, 3, none⟩ (.int .i64 n_4) fun w_8 =>
  ST1 w_8 ⟨b_2, 4, none⟩ (.slice a_3 l_3 c_3) fun w_9 =>
  LDi .i64 w_9 ⟨b_2, 0, none⟩ fun n_5 =>
  LDi .i64 w_9 ⟨b_2, 1, none⟩ fun n_6 =>
  LDi .i64 w_9 ⟨b_2, 2, none⟩ fun n_7 =>
  LDi .i64 w_9 ⟨b_2, 3, none⟩ fun n_8 =>
  LDl w_9 ⟨b_2, 4, none⟩ fun a_4 l_4 c_4 =>
  K (.agg #[.int .i64 n_5, .int .i64 n_6, .int .i64 n_7, .int .i64 n_8, .slice a_4 l_4 c_4]) w_9
theorem E_conf_Copy (c0 : Int) (c1 : Int) (c2 : Int) (c3 : Int) (c4a : Option Addr) (c4l : Nat) (c4c : Nat) (w : World) (K : Value → World → Prop) :
    D_conf_Copy c0 c1 c2 c3 c4a c4l c4c w K = vcFn Pg Try.f56 [] [.agg #[.int .i64 c0, .int .i64 c1, .int .i64 c2, .int .i64 c3, .slice c4a c4l c4c]] w K := by kernel_rfl
theorem C_conf_Copy {c0 : Int} {c1 : Int} {c2 : Int} {c3 : Int} {c4a : Option Addr} {c4l : Nat} {c4c : Nat} {w : World} {K : Value → World → Prop} (h : D_conf_Copy c0 c1 c2 c3 c4a c4l c4c w K) :
    CALL Pg F_conf_Copy [.agg #[.int .i64 c0, .int .i64 c1, .int .i64 c2, .int .i64 c3, .slice c4a c4l c4c]] w K :=
  call_of_vc [] Try.func56 rfl (Nat.le_of_ble_eq_true (by kernel_rfl)) ((E_conf_Copy c0 c1 c2 c3 c4a c4l c4c w K) ▸ h)
def D_slices_Clone_Lint_int (sa : Option Addr) (sl : Nat) (sc : Nat) (w : World) (K : Value → World → Prop) : Prop :=
  SILN Pg (binE BinOp.eql T_Lint (Operand.tmp 3) (Operand.const (.slice none 0 0)) (.slice sa sl sc) (.slice none 0 0)) fun v_1 =>
  BOOLV v_1 fun t_1 =>
  ITE (t_1) (
   K (.slice none 0 0) w) (
   NEW w [] T_int fun b_1 w_1 =>
   SEML Pg w_1 (Builtin.append_ #[T_Lint, T_Lint] T_Lint #[.slice (some ⟨b_1, 0, none⟩) 0 0, .slice sa sl sc]) fun v_2 w_2 =>
   SLV v_2 fun a_1 l_1 c_1 =>
   K (.slice a_1 l_1 c_1) w_2)
theorem E_slices_Clone_Lint_int (sa : Option Addr) (sl : Nat) (sc : Nat) (w : World) (K : Value → World → Prop) :
    D_slices_Clone_Lint_int sa sl sc w K = vcFn Pg Try.f69 [] [.slice sa sl sc] w K := by kernel_rfl
theorem C_slices_Clone_Lint_int {sa : Option Addr} {sl : Nat} {sc : Nat} {w : World} {K : Value → World → Prop} (h : D_slices_Clone_Lint_int sa sl sc w K) :
    CALL Pg F_slices_Clone_Lint_int [.slice sa sl sc] w K :=
  call_of_vc [] Try.func69 rfl (Nat.le_of_ble_eq_true (by kernel_rfl)) ((E_slices_Clone_Lint_int sa sl sc w K) ▸ h)
def D_pmodel_Model_Do (m : Option Addr) (r0 : Int) (r1 : Int) (a0 : Int) (a1 : Int) (w : World) (K : Value → World → Prop) : Prop :=
  NEW w [.int .i64 r0, .int .i64 r1] T_api_Request_api_Request fun b_1 w_1 =>
  NEW w_1 [.int .i64 a0, .int .i64 a1] T_api_Answer_api_Answer fun b_2 w_2 =>
  JOIN fun J_1 =>
  ((
   DRAW w_2 fun w_3 =>
   NN m fun b_3 o_1 =>
   LDi .i64 w_3 ⟨b_3, o_1, none⟩ fun n_1 =>
   LDi .i64 w_3 ⟨b_3, o_1 + 1, none⟩ fun n_2 =>
   LDi .i64 w_3 ⟨b_3, o_1 + 2, none⟩ fun n_3 =>
   LDi .i64 w_3 ⟨b_3, o_1 + 3, none⟩ fun n_4 =>
   LDl w_3 ⟨b_3, o_1 + 4, none⟩ fun a_1 l_1 c_1 =>
   LDi .i64 w_3 ⟨b_1, 0, none⟩ fun n_5 =>
   LDi .i64 w_3 ⟨b_1, 1, none⟩ fun n_6 =>
   ((
    CALL Pg F_ask_Check [.agg #[.int .i64 n_1, .int .i64 n_2, .int .i64 n_3, .int .i64 n_4, .slice a_1 l_1 c_1], .agg #[.int .i64 n_5, .int .i64 n_6]] w_3 fun v_1 w_4 =>
    TUPV v_1 fun cs_1 =>
    GETV cs_1 0 fun v_2 =>
    AGGV v_2 fun cs_2 =>
    GETV cs_2 0 fun v_3 =>
    INTV .i64 v_3 fun n_7 =>
    GETV cs_2 1 fun v_4 =>
    INTV .i64 v_4 fun n_8 =>
    LEN cs_2 2 (
    GETV cs_1 1 fun v_5 =>
    INTV .i64 v_5 fun n_9 =>
    LEN cs_1 2 (
    ((
     KEEP w_4 []) ∧
     NEW w_4 [.int .i64 0, .int .i64 0] T_live_Thing_live_Thing fun b_4 w_5 =>
     ((
      KEEP w_5 []) ∧
      ST1 w_5 ⟨b_4, 0, none⟩ (.int .i64 n_7) fun w_6 =>
      ST1 w_6 ⟨b_4, 1, none⟩ (.int .i64 n_8) fun w_7 =>
      ((
       KEEP w_7 []) ∧
       J_1 [.pointer (some ⟨b_4, 0, none⟩), .int .i64 n_9] w_7)))))) ∧
    NEW w_3 [.int .i64 0, .int .i64 0] T_live_Thing_live_Thing fun b_5 w_8 =>
    ((
     KEEP w_8 [Fact.cell ⟨b_3, o_1, none⟩ (.int .i64 n_1), Fact.cell ⟨b_3, o_1 + 1, none⟩ (.int .i64 n_2), Fact.cell ⟨b_3, o_1 + 2, none⟩ (.int .i64 n_3), Fact.cell ⟨b_3, o_1 + 3, none⟩ (.int .i64 n_4), Fact.cell ⟨b_3, o_1 + 4, none⟩ (.slice a_1 l_1 c_1), Fact.cell ⟨b_1, 0, none⟩ (.int .i64 n_5), Fact.cell ⟨b_1, 1, none⟩ (.int .i64 n_6)]) ∧
     CALL Pg F_ask_Check [.agg #[.int .i64 n_1, .int .i64 n_2, .int .i64 n_3, .int .i64 n_4, .slice a_1 l_1 c_1], .agg #[.int .i64 n_5, .int .i64 n_6]] w_8 fun v_6 w_9 =>
     TUPV v_6 fun cs_3 =>
     GETV cs_3 0 fun v_7 =>
     AGGV v_7 fun cs_4 =>
     GETV cs_4 0 fun v_8 =>
     INTV .i64 v_8 fun n_10 =>
     GETV cs_4 1 fun v_9 =>
     INTV .i64 v_9 fun n_11 =>
     LEN cs_4 2 (
     GETV cs_3 1 fun v_10 =>
     INTV .i64 v_10 fun n_12 =>
     LEN cs_3 2 (
     ((
      KEEP w_9 []) ∧
      ST1 w_9 ⟨b_5, 0, none⟩ (.int .i64 n_10) fun w_10 =>
      ST1 w_10 ⟨b_5, 1, none⟩ (.int .i64 n_11) fun w_11 =>
      ((
       KEEP w_11 []) ∧
       J_1 [.pointer (some ⟨b_5, 0, none⟩), .int .i64 n_12] w_11))))))) ∧
   ∀ w_12 : World,
   ∀ v_11 : Value,
   ∀ v_12 : Value,
   (J_1 [v_11, v_12] w_12 →
   INTV .i64 v_12 fun n_13 =>
   PTRV v_11 fun q_1 =>
   ITE (n_13 != 0) (
    LDi .i64 w_12 ⟨b_2, 0, none⟩ fun n_14 =>
    LDi .i64 w_12 ⟨b_2, 1, none⟩ fun n_15 =>
    K (.bool (n_14 == n_13 && (n_15 == 0 && true))) w_12) (
    LDi .i64 w_12 ⟨b_1, 0, none⟩ fun n_16 =>
    ITE (n_16 == 1) (
     NN q_1 fun b_6 o_2 =>
     LDi .i64 w_12 ⟨b_6, o_2, none⟩ fun n_17 =>
     LDi .i64 w_12 ⟨b_6, o_2 + 1, none⟩ fun n_18 =>
     LDi .i64 w_12 ⟨b_2, 0, none⟩ fun n_19 =>
     LDi .i64 w_12 ⟨b_2, 1, none⟩ fun n_20 =>
     CALL Pg F_pmodel_Model_alloc [.pointer m, .agg #[.int .i64 n_17, .int .i64 n_18], .agg #[.int .i64 n_19, .int .i64 n_20]] w_12 fun v_13 w_13 =>
     BOOLV v_13 fun t_1 =>
     K (.bool t_1) w_13) (
     LDi .i64 w_12 ⟨b_1, 0, none⟩ fun n_21 =>
     LDi .i64 w_12 ⟨b_1, 1, none⟩ fun n_22 =>
     LDi .i64 w_12 ⟨b_2, 0, none⟩ fun n_23 =>
     LDi .i64 w_12 ⟨b_2, 1, none⟩ fun n_24 =>
     CALL Pg F_pmodel_Model_free [.pointer m, .agg #[.int .i64 n_21, .int .i64 n_22], .agg #[.int .i64 n_23, .int .i64 n_24]] w_12 fun v_14 w_14 =>
     BOOLV v_14 fun t_2 =>
     K (.bool t_2) w_14))))
theorem E_pmodel_Model_Do (m : Option Addr) (r0 : Int) (r1 : Int) (a0 : Int) (a1 : Int) (w : World) (K : Value → World → Prop) :
    D_pmodel_Model_Do m r0 r1 a0 a1 w K = vcFn Pg Try.f42 [1] [.pointer m, .agg #[.int .i64 r0, .int .i64 r1], .agg #[.int .i64 a0, .int .i64 a1]] w K := by kernel_rfl
theorem C_pmodel_Model_Do {m : Option Addr} {r0 : Int} {r1 : Int} {a0 : Int} {a1 : Int} {w : World} {K : Value → World → Prop} (h : D_pmodel_Model_Do m r0 r1 a0 a1 w K) :
    CALL Pg F_pmodel_Model_Do [.pointer m, .agg #[.int .i64 r0, .int .i64 r1], .agg #[.int .i64 a0, .int .i64 a1]] w K :=
  call_of_vc [1] Try.func42 rfl (Nat.le_of_ble_eq_true (by kernel_rfl)) ((E_pmodel_Model_Do m r0 r1 a0 a1 w K) ▸ h)
def D_pmodel_Model_Live (m : Option Addr) (w : World) (K : Value → World → Prop) : Prop :=
  NN m fun b_1 o_1 =>
  CALL Pg F_pspan_Map_All [.pointer (some ⟨b_1, o_1 + 5, none⟩)] w fun v_1 w_1 =>
  SLV v_1 fun a_1 l_1 c_1 =>
  K (.slice a_1 l_1 c_1) w_1
theorem E_pmodel_Model_Live (m : Option Addr) (w : World) (K : Value → World → Prop) :
    D_pmodel_Model_Live m w K = vcFn Pg Try.f44 [] [.pointer m] w K := by kernel_rfl
theorem C_pmodel_Model_Live {m : Option Addr} {w : World} {K : Value → World → Prop} (h : D_pmodel_Model_Live m w K) :
    CALL Pg F_pmodel_Model_Live [.pointer m] w K :=
  call_of_vc [] Try.func44 rfl (Nat.le_of_ble_eq_true (by kernel_rfl)) ((E_pmodel_Model_Live m w K) ▸ h)
def D_pmodel_Model_Bytes (m : Option Addr) (w : World) (K : Value → World → Prop) : Prop :=
  NN m fun b_1 o_1 =>
  CALL Pg F_pspan_Map_Bytes [.pointer (some ⟨b_1, o_1 + 5, none⟩)] w fun v_1 w_1 =>
  INTV .i64 v_1 fun n_1 =>
  K (.int .i64 n_1) w_1
theorem E_pmodel_Model_Bytes (m : Option Addr) (w : World) (K : Value → World → Prop) :
    D_pmodel_Model_Bytes m w K = vcFn Pg Try.f45 [] [.pointer m] w K := by kernel_rfl
theorem C_pmodel_Model_Bytes {m : Option Addr} {w : World} {K : Value → World → Prop} (h : D_pmodel_Model_Bytes m w K) :
    CALL Pg F_pmodel_Model_Bytes [.pointer m] w K :=
  call_of_vc [] Try.func45 rfl (Nat.le_of_ble_eq_true (by kernel_rfl)) ((E_pmodel_Model_Bytes m w K) ▸ h)
def D_pmodel_Model_alloc (m : Option Addr) (x0 : Int) (x1 : Int) (a0 : Int) (a1 : Int) (w : World) (K : Value → World → Prop) : Prop :=
  NEW w [.int .i64 x0, .int .i64 x1] T_live_Thing_live_Thing fun b_1 w_1 =>
  NEW w_1 [.int .i64 a0, .int .i64 a1] T_api_Answer_api_Answer fun b_2 w_2 =>
  LDi .i64 w_2 ⟨b_2, 0, none⟩ fun n_1 =>
  ITE (n_1 == 5) (
   LDi .i64 w_2 ⟨b_2, 1, none⟩ fun n_2 =>
   K (.bool (n_2 == 0)) w_2) (
   LDi .i64 w_2 ⟨b_2, 0, none⟩ fun n_3 =>
   ITE (n_3 != 0) (
    K (.bool false) w_2) (
    JOIN fun J_1 =>
    ((
     DRAW w_2 fun w_3 =>
     LDi .i64 w_3 ⟨b_2, 1, none⟩ fun n_4 =>
     LDi .i64 w_3 ⟨b_1, 0, none⟩ fun n_5 =>
     LDi .i64 w_3 ⟨b_1, 1, none⟩ fun n_6 =>
     NN m fun b_3 o_1 =>
     LDi .i64 w_3 ⟨b_3, o_1, none⟩ fun n_7 =>
     LDi .i64 w_3 ⟨b_3, o_1 + 1, none⟩ fun n_8 =>
     LDi .i64 w_3 ⟨b_3, o_1 + 2, none⟩ fun n_9 =>
     LDi .i64 w_3 ⟨b_3, o_1 + 3, none⟩ fun n_10 =>
     LDl w_3 ⟨b_3, o_1 + 4, none⟩ fun a_1 l_1 c_1 =>
     ((
      CALL Pg F_live_Thing_Size [.agg #[.int .i64 n_5, .int .i64 n_6], .agg #[.int .i64 n_7, .int .i64 n_8, .int .i64 n_9, .int .i64 n_10, .slice a_1 l_1 c_1]] w_3 fun v_1 w_4 =>
      INTV .i64 v_1 fun n_11 =>
      ((
       KEEP w_4 [Fact.cell ⟨b_2, 1, none⟩ (.int .i64 n_4)]) ∧
       NEW w_4 [.int .i64 0, .int .i64 0] T_api_Interval_api_Interval fun b_4 w_5 =>
       ((
        KEEP w_5 [Fact.cell ⟨b_2, 1, none⟩ (.int .i64 n_4)]) ∧
        ST1 w_5 ⟨b_4, 0, none⟩ (.int .i64 n_4) fun w_6 =>
        ST1 w_6 ⟨b_4, 1, none⟩ (.int .i64 n_11) fun w_7 =>
        ((
         KEEP w_7 []) ∧
         J_1 [.pointer (some ⟨b_4, 0, none⟩)] w_7)))) ∧
      NEW w_3 [.int .i64 0, .int .i64 0] T_api_Interval_api_Interval fun b_5 w_8 =>
      ((
       KEEP w_8 [Fact.cell ⟨b_2, 1, none⟩ (.int .i64 n_4), Fact.cell ⟨b_1, 0, none⟩ (.int .i64 n_5), Fact.cell ⟨b_1, 1, none⟩ (.int .i64 n_6), Fact.cell ⟨b_3, o_1, none⟩ (.int .i64 n_7), Fact.cell ⟨b_3, o_1 + 1, none⟩ (.int .i64 n_8), Fact.cell ⟨b_3, o_1 + 2, none⟩ (.int .i64 n_9), Fact.cell ⟨b_3, o_1 + 3, none⟩ (.int .i64 n_10), Fact.cell ⟨b_3, o_1 + 4, none⟩ (.slice a_1 l_1 c_1)]) ∧
       CALL Pg F_live_Thing_Size [.agg #[.int .i64 n_5, .int .i64 n_6], .agg #[.int .i64 n_7, .int .i64 n_8, .int .i64 n_9, .int .i64 n_10, .slice a_1 l_1 c_1]] w_8 fun v_2 w_9 =>
       INTV .i64 v_2 fun n_12 =>
       ((
        KEEP w_9 [Fact.cell ⟨b_2, 1, none⟩ (.int .i64 n_4)]) ∧
        ST1 w_9 ⟨b_5, 0, none⟩ (.int .i64 n_4) fun w_10 =>
        ST1 w_10 ⟨b_5, 1, none⟩ (.int .i64 n_12) fun w_11 =>
        ((
         KEEP w_11 []) ∧
         J_1 [.pointer (some ⟨b_5, 0, none⟩)] w_11))))) ∧
     ∀ w_12 : World,
     ∀ v_3 : Value,
     (J_1 [v_3] w_12 →
     PTRV v_3 fun q_1 =>
     DRAW w_12 fun w_13 =>
     NN m fun b_6 o_2 =>
     LDi .i64 w_13 ⟨b_6, o_2, none⟩ fun n_13 =>
     LDi .i64 w_13 ⟨b_6, o_2 + 1, none⟩ fun n_14 =>
     LDi .i64 w_13 ⟨b_6, o_2 + 2, none⟩ fun n_15 =>
     LDi .i64 w_13 ⟨b_6, o_2 + 3, none⟩ fun n_16 =>
     LDl w_13 ⟨b_6, o_2 + 4, none⟩ fun a_2 l_2 c_2 =>
     NN q_1 fun b_7 o_3 =>
     LDi .i64 w_13 ⟨b_7, o_3, none⟩ fun n_17 =>
     CALL Pg F_arena_Place [.agg #[.int .i64 n_13, .int .i64 n_14, .int .i64 n_15, .int .i64 n_16, .slice a_2 l_2 c_2], .int .i64 n_17] w_13 fun v_4 w_14 =>
     TUPV v_4 fun cs_1 =>
     GETV cs_1 0 fun v_5 =>
     INTV .i64 v_5 fun _ =>
     GETV cs_1 1 fun v_6 =>
     INTV .i64 v_6 fun _ =>
     GETV cs_1 2 fun v_7 =>
     BOOLV v_7 fun t_1 =>
     LEN cs_1 3 (
     ((
      KEEP w_14 []) ∧
      JOIN fun J_2 =>
      ((
       DRAW w_14 fun w_15 =>
       ITE (!t_1) (
        J_2 [.bool true] w_15) (
        NN q_1 fun b_8 o_4 =>
        LDi .i64 w_15 ⟨b_8, o_4, none⟩ fun n_20 =>
        NN q_1 fun b_9 o_5 =>
        LDi .i64 w_15 ⟨b_9, o_5 + 1, none⟩ fun n_21 =>
        BIND (IntKind.i64.wrap (n_20 + n_21)) fun n_22 =>
        NN m fun b_10 o_6 =>
        LDi .i64 w_15 ⟨b_10, o_6, none⟩ fun n_23 =>
        LDi .i64 w_15 ⟨b_10, o_6 + 1, none⟩ fun n_24 =>
        LDi .i64 w_15 ⟨b_10, o_6 + 2, none⟩ fun n_25 =>
        LDi .i64 w_15 ⟨b_10, o_6 + 3, none⟩ fun n_26 =>
        LDl w_15 ⟨b_10, o_6 + 4, none⟩ fun a_3 l_3 c_3 =>
        CALL Pg F_arena_End [.agg #[.int .i64 n_23, .int .i64 n_24, .int .i64 n_25, .int .i64 n_26, .slice a_3 l_3 c_3]] w_15 fun v_8 w_16 =>
        INTV .i64 v_8 fun n_27 =>
        ((
         KEEP w_16 [Fact.cell ⟨b_8, o_4, none⟩ (.int .i64 n_20), Fact.cell ⟨b_9, o_5 + 1, none⟩ (.int .i64 n_21)]) ∧
         J_2 [.bool (decide (n_22 > n_27))] w_16))) ∧
       ∀ w_17 : World,
       ∀ v_9 : Value,
       (J_2 [v_9] w_17 →
       BOOLV v_9 fun t_2 =>
       ITE (t_2) (
        K (.bool false) w_17) (
        DRAW w_17 fun w_18 =>
        NN m fun b_11 o_7 =>
        NN q_1 fun b_12 o_8 =>
        LDi .i64 w_18 ⟨b_12, o_8, none⟩ fun n_28 =>
        LDi .i64 w_18 ⟨b_12, o_8 + 1, none⟩ fun n_29 =>
        CALL Pg F_pspan_Map_Put [.pointer (some ⟨b_11, o_7 + 5, none⟩), .agg #[.int .i64 n_28, .int .i64 n_29]] w_18 fun v_10 w_19 =>
        BOOLV v_10 fun t_3 =>
        ((
         KEEP w_19 []) ∧
         K (.bool t_3) w_19))))))))))
theorem E_pmodel_Model_alloc (m : Option Addr) (x0 : Int) (x1 : Int) (a0 : Int) (a1 : Int) (w : World) (K : Value → World → Prop) :
    D_pmodel_Model_alloc m x0 x1 a0 a1 w K = vcFn Pg Try.f59 [5, 7] [.pointer m, .agg #[.int .i64 x0, .int .i64 x1], .agg #[.int .i64 a0, .int .i64 a1]] w K := by kernel_rfl
theorem C_pmodel_Model_alloc {m : Option Addr} {x0 : Int} {x1 : Int} {a0 : Int} {a1 : Int} {w : World} {K : Value → World → Prop} (h : D_pmodel_Model_alloc m x0 x1 a0 a1 w K) :
    CALL Pg F_pmodel_Model_alloc [.pointer m, .agg #[.int .i64 x0, .int .i64 x1], .agg #[.int .i64 a0, .int .i64 a1]] w K :=
  call_of_vc [5, 7] Try.func59 rfl (Nat.le_of_ble_eq_true (by kernel_rfl)) ((E_pmodel_Model_alloc m x0 x1 a0 a1 w K) ▸ h)
def D_pmodel_Model_free (m : Option Addr) (r0 : Int) (r1 : Int) (a0 : Int) (a1 : Int) (w : World) (K : Value → World → Prop) : Prop :=
  NEW w [.int .i64 r0, .int .i64 r1] T_api_Request_api_Request fun b_1 w_1 =>
  NEW w_1 [.int .i64 a0, .int .i64 a1] T_api_Answer_api_Answer fun b_2 w_2 =>
  JOIN fun J_1 =>
  ((
   DRAW w_2 fun w_3 =>
   NN m fun b_3 o_1 =>
   LDi .i64 w_3 ⟨b_1, 1, none⟩ fun n_1 =>
   ((
    CALL Pg F_pspan_Map_Get [.pointer (some ⟨b_3, o_1 + 5, none⟩), .int .i64 n_1] w_3 fun v_1 w_4 =>
    TUPV v_1 fun cs_1 =>
    GETV cs_1 0 fun v_2 =>
    AGGV v_2 fun cs_2 =>
    GETV cs_2 0 fun v_3 =>
    INTV .i64 v_3 fun n_2 =>
    GETV cs_2 1 fun v_4 =>
    INTV .i64 v_4 fun n_3 =>
    LEN cs_2 2 (
    GETV cs_1 1 fun v_5 =>
    BOOLV v_5 fun t_1 =>
    LEN cs_1 2 (
    ((
     KEEP w_4 []) ∧
     NEW w_4 [.int .i64 0, .int .i64 0] T_api_Interval_api_Interval fun b_4 w_5 =>
     ((
      KEEP w_5 []) ∧
      ST1 w_5 ⟨b_4, 0, none⟩ (.int .i64 n_2) fun w_6 =>
      ST1 w_6 ⟨b_4, 1, none⟩ (.int .i64 n_3) fun w_7 =>
      ((
       KEEP w_7 []) ∧
       J_1 [.pointer (some ⟨b_4, 0, none⟩), .bool t_1] w_7)))))) ∧
    NEW w_3 [.int .i64 0, .int .i64 0] T_api_Interval_api_Interval fun b_5 w_8 =>
    ((
     KEEP w_8 [Fact.cell ⟨b_1, 1, none⟩ (.int .i64 n_1)]) ∧
     CALL Pg F_pspan_Map_Get [.pointer (some ⟨b_3, o_1 + 5, none⟩), .int .i64 n_1] w_8 fun v_6 w_9 =>
     TUPV v_6 fun cs_3 =>
     GETV cs_3 0 fun v_7 =>
     AGGV v_7 fun cs_4 =>
     GETV cs_4 0 fun v_8 =>
     INTV .i64 v_8 fun n_4 =>
     GETV cs_4 1 fun v_9 =>
     INTV .i64 v_9 fun n_5 =>
     LEN cs_4 2 (
     GETV cs_3 1 fun v_10 =>
     BOOLV v_10 fun t_2 =>
     LEN cs_3 2 (
     ((
      KEEP w_9 []) ∧
      ST1 w_9 ⟨b_5, 0, none⟩ (.int .i64 n_4) fun w_10 =>
      ST1 w_10 ⟨b_5, 1, none⟩ (.int .i64 n_5) fun w_11 =>
      ((
       KEEP w_11 []) ∧
       J_1 [.pointer (some ⟨b_5, 0, none⟩), .bool t_2] w_11))))))) ∧
   ∀ w_12 : World,
   ∀ v_11 : Value,
   ∀ v_12 : Value,
   (J_1 [v_11, v_12] w_12 →
   BOOLV v_12 fun t_3 =>
   PTRV v_11 fun q_1 =>
   ITE (!t_3) (
    LDi .i64 w_12 ⟨b_2, 0, none⟩ fun n_6 =>
    LDi .i64 w_12 ⟨b_2, 1, none⟩ fun n_7 =>
    K (.bool (n_6 == 4 && (n_7 == 0 && true))) w_12) (
    LDi .i64 w_12 ⟨b_2, 0, none⟩ fun n_8 =>
    LDi .i64 w_12 ⟨b_2, 1, none⟩ fun n_9 =>
    NN q_1 fun b_6 o_2 =>
    LDi .i64 w_12 ⟨b_6, o_2 + 1, none⟩ fun n_10 =>
    ITE (!(n_8 == 0 && (n_9 == n_10 && true))) (
     K (.bool false) w_12) (
     LDi .i64 w_12 ⟨b_1, 0, none⟩ fun n_11 =>
     ITE (n_11 == 2) (
      DRAW w_12 fun w_13 =>
      NN m fun b_7 o_3 =>
      LDi .i64 w_13 ⟨b_1, 1, none⟩ fun n_12 =>
      CALL Pg F_pspan_Map_Drop [.pointer (some ⟨b_7, o_3 + 5, none⟩), .int .i64 n_12] w_13 fun v_13 w_14 =>
      TUPV v_13 fun cs_5 =>
      GETV cs_5 0 fun v_14 =>
      AGGV v_14 fun cs_6 =>
      GETV cs_6 0 fun v_15 =>
      INTV .i64 v_15 fun _ =>
      GETV cs_6 1 fun v_16 =>
      INTV .i64 v_16 fun _ =>
      LEN cs_6 2 (
      GETV cs_5 1 fun v_17 =>
      BOOLV v_17 fun _ =>
      LEN cs_5 2 (
      ((
       KEEP w_14 []) ∧
       K (.bool true) w_14)))) (
      K (.bool true) w_12)))))
theorem E_pmodel_Model_free (m : Option Addr) (r0 : Int) (r1 : Int) (a0 : Int) (a1 : Int) (w : World) (K : Value → World → Prop) :
    D_pmodel_Model_free m r0 r1 a0 a1 w K = vcFn Pg Try.f60 [1] [.pointer m, .agg #[.int .i64 r0, .int .i64 r1], .agg #[.int .i64 a0, .int .i64 a1]] w K := by kernel_rfl
theorem C_pmodel_Model_free {m : Option Addr} {r0 : Int} {r1 : Int} {a0 : Int} {a1 : Int} {w : World} {K : Value → World → Prop} (h : D_pmodel_Model_free m r0 r1 a0 a1 w K) :
    CALL Pg F_pmodel_Model_free [.pointer m, .agg #[.int .i64 r0, .int .i64 r1], .agg #[.int .i64 a0, .int .i64 a1]] w K :=
  call_of_vc [1] Try.func60 rfl (Nat.le_of_ble_eq_true (by kernel_rfl)) ((E_pmodel_Model_free m r0 r1 a0 a1 w K) ▸ h)
def D_model_Replay (c0 : Int) (c1 : Int) (c2 : Int) (c3 : Int) (c4a : Option Addr) (c4l : Nat) (c4c : Nat) (la : Option Addr) (ll : Nat) (lc : Nat) (w : World) (K : Value → World → Prop) : Prop :=
  NEW w [.int .i64 c0, .int .i64 c1, .int .i64 c2, .int .i64 c3, .slice c4a c4l c4c] T_api_Config_api_Config fun b_1 w_1 =>
  LDi .i64 w_1 ⟨b_1, 0, none⟩ fun n_1 =>
  LDi .i64 w_1 ⟨b_1, 1, none⟩ fun n_2 =>
  LDi .i64 w_1 ⟨b_1, 2, none⟩ fun n_3 =>
  LDi .i64 w_1 ⟨b_1, 3, none⟩ fun n_4 =>
  LDl w_1 ⟨b_1, 4, none⟩ fun a_1 l_1 c_1 =>
  CALL Pg F_model_New [.agg #[.int .i64 n_1, .int .i64 n_2, .int .i64 n_3, .int .i64 n_4, .slice a_1 l_1 c_1]] w_1 fun v_1 w_2 =>
  PTRV v_1 fun q_1 =>
  CALL Pg F_line_Order [.slice la ll lc] w_2 fun v_2 w_3 =>
  SLV v_2 fun a_2 l_2 _ =>
  LOOP [.pointer none, .int .i64 0, .int .i64 0] w_3 fun I_1 N_1 =>
  ∀ w_4 : World,
  ∀ v_3 : Value,
  ∀ v_4 : Value,
  ∀ v_5 : Value,
  (I_1 [v_3, v_4, v_5] w_4 →
  INTV .i64 v_5 fun n_5 =>
  INTV .i64 v_4 fun n_6 =>
  PTRV v_3 fun q_2 =>
  ITE (decide (n_5 < (↑l_2 : Int))) (
   IDX a_2 l_2 n_5 1 fun b_2 o_1 =>
   LDi .i64 w_4 ⟨b_2, o_1, none⟩ fun n_7 =>
   DRAW w_4 fun w_5 =>
   IDX la ll n_7 9 fun b_3 o_2 =>
   LDi .i64 w_5 ⟨b_3, o_2 + 1, none⟩ fun n_8 =>
   LDi .i64 w_5 ⟨b_3, o_2 + 1 + 1, none⟩ fun n_9 =>
   IDX la ll n_7 9 fun b_4 o_3 =>
   LDi .i64 w_5 ⟨b_4, o_3 + 3, none⟩ fun n_10 =>
   LDi .i64 w_5 ⟨b_4, o_3 + 3 + 1, none⟩ fun n_11 =>
   CALL Pg F_pmodel_Model_Do [.pointer q_1, .agg #[.int .i64 n_8, .int .i64 n_9], .agg #[.int .i64 n_10, .int .i64 n_11]] w_5 fun v_6 w_6 =>
   BOOLV v_6 fun t_1 =>
   ((
    KEEP w_6 []) ∧
    ITE (!t_1) (
     K (.tuple #[.pointer q_1, .int .i64 n_7]) w_6) (
     BIND (IntKind.i64.wrap (n_5 + 1)) fun n_12 =>
     N_1 [v_3, v_4, v_5] w_4 [.pointer q_2, .int .i64 n_6, .int .i64 n_12] w_6))) (
   K (.tuple #[.pointer q_1, .int .i64 (-1)]) w_4))
theorem E_model_Replay (c0 : Int) (c1 : Int) (c2 : Int) (c3 : Int) (c4a : Option Addr) (c4l : Nat) (c4c : Nat) (la : Option Addr) (ll : Nat) (lc : Nat) (w : World) (K : Value → World → Prop) :
    D_model_Replay c0 c1 c2 c3 c4a c4l c4c la ll lc w K = vcFn Pg Try.f46 [] [.agg #[.int .i64 c0, .int .i64 c1, .int .i64 c2, .int .i64 c3, .slice c4a c4l c4c], .slice la ll lc] w K := by kernel_rfl
theorem C_model_Replay {c0 : Int} {c1 : Int} {c2 : Int} {c3 : Int} {c4a : Option Addr} {c4l : Nat} {c4c : Nat} {la : Option Addr} {ll : Nat} {lc : Nat} {w : World} {K : Value → World → Prop} (h : D_model_Replay c0 c1 c2 c3 c4a c4l c4c la ll lc w K) :
    CALL Pg F_model_Replay [.agg #[.int .i64 c0, .int .i64 c1, .int .i64 c2, .int .i64 c3, .slice c4a c4l c4c], .slice la ll lc] w K :=
  call_of_vc [] Try.func46 rfl (Nat.le_of_ble_eq_true (by kernel_rfl)) ((E_model_Replay c0 c1 c2 c3 c4a c4l c4c la ll lc w K) ▸ h)
def D_ask_Check (c0 : Int) (c1 : Int) (c2 : Int) (c3 : Int) (c4a : Option Addr) (c4l : Nat) (c4c : Nat) (r0 : Int) (r1 : Int) (w : World) (K : Value → World → Prop) : Prop :=
  NEW w [.int .i64 c0, .int .i64 c1, .int .i64 c2, .int .i64 c3, .slice c4a c4l c4c] T_api_Config_api_Config fun b_1 w_1 =>
  NEW w_1 [.int .i64 r0, .int .i64 r1] T_api_Request_api_Request fun b_2 w_2 =>
  NEW w_2 [.int .i64 0, .int .i64 0] T_live_Thing_live_Thing fun b_3 w_3 =>
  LDi .i64 w_3 ⟨b_2, 0, none⟩ fun n_1 =>
  ITE (n_1 == 1) (
   LDi .i64 w_3 ⟨b_1, 0, none⟩ fun n_2 =>
   LDi .i64 w_3 ⟨b_1, 1, none⟩ fun n_3 =>
   LDi .i64 w_3 ⟨b_1, 2, none⟩ fun n_4 =>
   LDi .i64 w_3 ⟨b_1, 3, none⟩ fun n_5 =>
   LDl w_3 ⟨b_1, 4, none⟩ fun a_1 l_1 c_1 =>
   LDi .i64 w_3 ⟨b_2, 1, none⟩ fun n_6 =>
   CALL Pg F_arena_Class [.agg #[.int .i64 n_2, .int .i64 n_3, .int .i64 n_4, .int .i64 n_5, .slice a_1 l_1 c_1], .int .i64 n_6] w_3 fun v_1 w_4 =>
   TUPV v_1 fun cs_1 =>
   GETV cs_1 0 fun v_2 =>
   INTV .i64 v_2 fun n_7 =>
   GETV cs_1 1 fun v_3 =>
   BOOLV v_3 fun t_1 =>
   LEN cs_1 2 (
   ITE (t_1) (
    CALL Pg F_live_Of [.int .i64 n_7] w_4 fun v_4 w_5 =>
    AGGV v_4 fun cs_2 =>
    GETV cs_2 0 fun v_5 =>
    INTV .i64 v_5 fun n_8 =>
    GETV cs_2 1 fun v_6 =>
    INTV .i64 v_6 fun n_9 =>
    LEN cs_2 2 (
    ST1 w_5 ⟨b_3, 0, none⟩ (.int .i64 n_8) fun w_6 =>
    ST1 w_6 ⟨b_3, 1, none⟩ (.int .i64 n_9) fun w_7 =>
    LDi .i64 w_7 ⟨b_3, 0, none⟩ fun n_10 =>
    LDi .i64 w_7 ⟨b_3, 1, none⟩ fun n_11 =>
    K (.tuple #[.agg #[.int .i64 n_10, .int .i64 n_11], .int .i64 0]) w_7)) (
    LDi .i64 w_4 ⟨b_1, 0, none⟩ fun n_12 =>
    LDi .i64 w_4 ⟨b_1, 1, none⟩ fun n_13 =>
    LDi .i64 w_4 ⟨b_1, 2, none⟩ fun n_14 =>
    LDi .i64 w_4 ⟨b_1, 3, none⟩ fun n_15 =>
    LDl w_4 ⟨b_1, 4, none⟩ fun a_2 l_2 c_2 =>
    LDi .i64 w_4 ⟨b_2, 1, none⟩ fun n_16 =>
    CALL Pg F_arena_Run [.agg #[.int .i64 n_12, .int .i64 n_13, .int .i64 n_14, .int .i64 n_15, .slice a_2 l_2 c_2], .int .i64 n_16] w_4 fun v_7 w_8 =>
    INTV .i64 v_7 fun n_17 =>
    ITE (decide (n_17 > 0)) (
     CALL Pg F_live_Run [.int .i64 n_17] w_8 fun v_8 w_9 =>
     AGGV v_8 fun cs_3 =>
     GETV cs_3 0 fun v_9 =>
     INTV .i64 v_9 fun n_18 =>
     GETV cs_3 1 fun v_10 =>
     INTV .i64 v_10 fun n_19 =>
     LEN cs_3 2 (
     ST1 w_9 ⟨b_3, 0, none⟩ (.int .i64 n_18) fun w_10 =>
     ST1 w_10 ⟨b_3, 1, none⟩ (.int .i64 n_19) fun w_11 =>
     LDi .i64 w_11 ⟨b_3, 0, none⟩ fun n_20 =>
     LDi .i64 w_11 ⟨b_3, 1, none⟩ fun n_21 =>
     K (.tuple #[.agg #[.int .i64 n_20, .int .i64 n_21], .int .i64 0]) w_11)) (
     ST1 w_8 ⟨b_3, 0, none⟩ (.int .i64 0) fun w_12 =>
     ST1 w_12 ⟨b_3, 1, none⟩ (.int .i64 0) fun w_13 =>
     LDi .i64 w_13 ⟨b_3, 0, none⟩ fun n_22 =>
     LDi .i64 w_13 ⟨b_3, 1, none⟩ fun n_23 =>
     K (.tuple #[.agg #[.int .i64 n_22, .int .i64 n_23], .int .i64 3]) w_13)))) (
   ITE (n_1 == 2) (
    ITE (n_1 == 2) (
     LDi .i64 w_3 ⟨b_1, 0, none⟩ fun n_24 =>
     LDi .i64 w_3 ⟨b_1, 1, none⟩ fun n_25 =>
     LDi .i64 w_3 ⟨b_1, 2, none⟩ fun n_26 =>
     LDi .i64 w_3 ⟨b_1, 3, none⟩ fun n_27 =>
     LDl w_3 ⟨b_1, 4, none⟩ fun a_3 l_3 c_3 =>
     LDi .i64 w_3 ⟨b_2, 1, none⟩ fun n_28 =>
     CALL Pg F_arena_Place [.agg #[.int .i64 n_24, .int .i64 n_25, .int .i64 n_26, .int .i64 n_27, .slice a_3 l_3 c_3], .int .i64 n_28] w_3 fun v_11 w_14 =>
     TUPV v_11 fun cs_4 =>
     GETV cs_4 0 fun v_12 =>
     INTV .i64 v_12 fun _ =>
     GETV cs_4 1 fun v_13 =>
     INTV .i64 v_13 fun _ =>
     GETV cs_4 2 fun v_14 =>
     BOOLV v_14 fun t_2 =>
     LEN cs_4 3 (
     ITE (!t_2) (
      ST1 w_14 ⟨b_3, 0, none⟩ (.int .i64 0) fun w_15 =>
      ST1 w_15 ⟨b_3, 1, none⟩ (.int .i64 0) fun w_16 =>
      LDi .i64 w_16 ⟨b_3, 0, none⟩ fun n_31 =>
      LDi .i64 w_16 ⟨b_3, 1, none⟩ fun n_32 =>
      K (.tuple #[.agg #[.int .i64 n_31, .int .i64 n_32], .int .i64 4]) w_16) (
      ST1 w_14 ⟨b_3, 0, none⟩ (.int .i64 0) fun w_17 =>
      ST1 w_17 ⟨b_3, 1, none⟩ (.int .i64 0) fun w_18 =>
      LDi .i64 w_18 ⟨b_3, 0, none⟩ fun n_33 =>
      LDi .i64 w_18 ⟨b_3, 1, none⟩ fun n_34 =>
      K (.tuple #[.agg #[.int .i64 n_33, .int .i64 n_34], .int .i64 0]) w_18))) (
     ST1 w_3 ⟨b_3, 0, none⟩ (.int .i64 0) fun w_19 =>
     ST1 w_19 ⟨b_3, 1, none⟩ (.int .i64 0) fun w_20 =>
     LDi .i64 w_20 ⟨b_3, 0, none⟩ fun n_35 =>
     LDi .i64 w_20 ⟨b_3, 1, none⟩ fun n_36 =>
     K (.tuple #[.agg #[.int .i64 n_35, .int .i64 n_36], .int .i64 2]) w_20)) (
    ITE (n_1 == 3) (
     LDi .i64 w_3 ⟨b_1, 0, none⟩ fun n_37 =>
     LDi .i64 w_3 ⟨b_1, 1, none⟩ fun n_38 =>
     LDi .i64 w_3 ⟨b_1, 2, none⟩ fun n_39 =>
     LDi .i64 w_3 ⟨b_1, 3, none⟩ fun n_40 =>
     LDl w_3 ⟨b_1, 4, none⟩ fun a_4 l_4 c_4 =>
     LDi .i64 w_3 ⟨b_2, 1, none⟩ fun n_41 =>
     CALL Pg F_arena_Place [.agg #[.int .i64 n_37, .int .i64 n_38, .int .i64 n_39, .int .i64 n_40, .slice a_4 l_4 c_4], .int .i64 n_41] w_3 fun v_15 w_21 =>
     TUPV v_15 fun cs_5 =>
     GETV cs_5 0 fun v_16 =>
     INTV .i64 v_16 fun _ =>
     GETV cs_5 1 fun v_17 =>
     INTV .i64 v_17 fun _ =>
     GETV cs_5 2 fun v_18 =>
     BOOLV v_18 fun t_3 =>
     LEN cs_5 3 (
     ITE (!t_3) (
      ST1 w_21 ⟨b_3, 0, none⟩ (.int .i64 0) fun w_22 =>
      ST1 w_22 ⟨b_3, 1, none⟩ (.int .i64 0) fun w_23 =>
      LDi .i64 w_23 ⟨b_3, 0, none⟩ fun n_44 =>
      LDi .i64 w_23 ⟨b_3, 1, none⟩ fun n_45 =>
      K (.tuple #[.agg #[.int .i64 n_44, .int .i64 n_45], .int .i64 4]) w_23) (
      ST1 w_21 ⟨b_3, 0, none⟩ (.int .i64 0) fun w_24 =>
      ST1 w_24 ⟨b_3, 1, none⟩ (.int .i64 0) fun w_25 =>
      LDi .i64 w_25 ⟨b_3, 0, none⟩ fun n_46 =>
      LDi .i64 w_25 ⟨b_3, 1, none⟩ fun n_47 =>
      K (.tuple #[.agg #[.int .i64 n_46, .int .i64 n_47], .int .i64 0]) w_25))) (
     ST1 w_3 ⟨b_3, 0, none⟩ (.int .i64 0) fun w_26 =>
     ST1 w_26 ⟨b_3, 1, none⟩ (.int .i64 0) fun w_27 =>
     LDi .i64 w_27 ⟨b_3, 0, none⟩ fun n_48 =>
     LDi .i64 w_27 ⟨b_3, 1, none⟩ fun n_49 =>
     K (.tuple #[.agg #[.int .i64 n_48, .int .i64 n_49], .int .i64 2]) w_27)))
theorem E_ask_Check (c0 : Int) (c1 : Int) (c2 : Int) (c3 : Int) (c4a : Option Addr) (c4l : Nat) (c4c : Nat) (r0 : Int) (r1 : Int) (w : World) (K : Value → World → Prop) :
    D_ask_Check c0 c1 c2 c3 c4a c4l c4c r0 r1 w K = vcFn Pg Try.f58 [] [.agg #[.int .i64 c0, .int .i64 c1, .int .i64 c2, .int .i64 c3, .slice c4a c4l c4c], .agg #[.int .i64 r0, .int .i64 r1]] w K := by kernel_rfl
theorem C_ask_Check {c0 : Int} {c1 : Int} {c2 : Int} {c3 : Int} {c4a : Option Addr} {c4l : Nat} {c4c : Nat} {r0 : Int} {r1 : Int} {w : World} {K : Value → World → Prop} (h : D_ask_Check c0 c1 c2 c3 c4a c4l c4c r0 r1 w K) :
    CALL Pg F_ask_Check [.agg #[.int .i64 c0, .int .i64 c1, .int .i64 c2, .int .i64 c3, .slice c4a c4l c4c], .agg #[.int .i64 r0, .int .i64 r1]] w K :=
  call_of_vc [] Try.func58 rfl (Nat.le_of_ble_eq_true (by kernel_rfl)) ((E_ask_Check c0 c1 c2 c3 c4a c4l c4c r0 r1 w K) ▸ h)
def D_live_Of (class_ : Int) (w : World) (K : Value → World → Prop) : Prop :=
  NEW w [.int .i64 0, .int .i64 0] T_live_Thing_live_Thing fun b_1 w_1 =>
  ST1 w_1 ⟨b_1, 0, none⟩ (.int .i64 class_) fun w_2 =>
  ST1 w_2 ⟨b_1, 1, none⟩ (.int .i64 0) fun w_3 =>
  LDi .i64 w_3 ⟨b_1, 0, none⟩ fun n_1 =>
  LDi .i64 w_3 ⟨b_1, 1, none⟩ fun n_2 =>
  K (.agg #[.int .i64 n_1, .int .i64 n_2]) w_3
theorem E_live_Of (class_ : Int) (w : World) (K : Value → World → Prop) :
    D_live_Of class_ w K = vcFn Pg Try.f71 [] [.int .i64 class_] w K := by kernel_rfl
theorem C_live_Of {class_ : Int} {w : World} {K : Value → World → Prop} (h : D_live_Of class_ w K) :
    CALL Pg F_live_Of [.int .i64 class_] w K :=
  call_of_vc [] Try.func71 rfl (Nat.le_of_ble_eq_true (by kernel_rfl)) ((E_live_Of class_ w K) ▸ h)
def D_live_Run (n : Int) (w : World) (K : Value → World → Prop) : Prop :=
  NEW w [.int .i64 0, .int .i64 0] T_live_Thing_live_Thing fun b_1 w_1 =>
  ST1 w_1 ⟨b_1, 0, none⟩ (.int .i64 (-1)) fun w_2 =>
  ST1 w_2 ⟨b_1, 1, none⟩ (.int .i64 n) fun w_3 =>
  LDi .i64 w_3 ⟨b_1, 0, none⟩ fun n_1 =>
  LDi .i64 w_3 ⟨b_1, 1, none⟩ fun n_2 =>
  K (.agg #[.int .i64 n_1, .int .i64 n_2]) w_3
theorem E_live_Run (n : Int) (w : World) (K : Value → World → Prop) :
    D_live_Run n w K = vcFn Pg Try.f73 [] [.int .i64 n] w K := by kernel_rfl
theorem C_live_Run {n : Int} {w : World} {K : Value → World → Prop} (h : D_live_Run n w K) :
    CALL Pg F_live_Run [.int .i64 n] w K :=
  call_of_vc [] Try.func73 rfl (Nat.le_of_ble_eq_true (by kernel_rfl)) ((E_live_Run n w K) ▸ h)
def D_live_Thing_Size (t0 : Int) (t1 : Int) (c0 : Int) (c1 : Int) (c2 : Int) (c3 : Int) (c4a : Option Addr) (c4l : Nat) (c4c : Nat) (w : World) (K : Value → World → Prop) : Prop :=
  NEW w [.int .i64 t0, .int .i64 t1] T_live_Thing_live_Thing fun b_1 w_1 =>
  NEW w_1 [.int .i64 c0, .int .i64 c1, .int .i64 c2, .int .i64 c3, .slice c4a c4l c4c] T_api_Config_api_Config fun b_2 w_2 =>
  JOIN fun J_1 =>
  ((
   LDi .i64 w_2 ⟨b_1, 0, none⟩ fun n_1 =>
   ITE (decide (n_1 ≥ 0)) (
    LDi .i64 w_2 ⟨b_1, 0, none⟩ fun n_2 =>
    LDl w_2 ⟨b_2, 4, none⟩ fun _ l_1 _ =>
    ITE (decide (n_2 < (↑l_1 : Int))) (
     LDi .i64 w_2 ⟨b_1, 1, none⟩ fun n_3 =>
     J_1 [.bool (n_3 == 0)] w_2) (
     J_1 [.bool false] w_2)) (
    J_1 [.bool false] w_2)) ∧
   ∀ w_3 : World,
   ∀ v_1 : Value,
   (J_1 [v_1] w_3 →
   BOOLV v_1 fun t_1 =>
   ITE (t_1) (
    LDl w_3 ⟨b_2, 4, none⟩ fun a_2 l_2 _ =>
    LDi .i64 w_3 ⟨b_1, 0, none⟩ fun n_4 =>
    IDX a_2 l_2 n_4 1 fun b_3 o_1 =>
    LDi .i64 w_3 ⟨b_3, o_1, none⟩ fun n_5 =>
    K (.int .i64 n_5) w_3) (
    JOIN fun J_2 =>
    ((
     LDi .i64 w_3 ⟨b_1, 0, none⟩ fun n_6 =>
     ITE (n_6 == -1) (
      LDi .i64 w_3 ⟨b_1, 1, none⟩ fun n_7 =>
      ITE (decide (n_7 ≥ 1)) (
       LDi .i64 w_3 ⟨b_1, 1, none⟩ fun n_8 =>
       LDi .i64 w_3 ⟨b_2, 1, none⟩ fun n_9 =>
       J_2 [.bool (decide (n_8 ≤ n_9))] w_3) (
       J_2 [.bool false] w_3)) (
      J_2 [.bool false] w_3)) ∧
     ∀ w_4 : World,
     ∀ v_2 : Value,
     (J_2 [v_2] w_4 →
     BOOLV v_2 fun t_2 =>
     ITE (t_2) (
      LDi .i64 w_4 ⟨b_1, 1, none⟩ fun n_10 =>
      BIND (IntKind.i64.wrap (n_10 * 1024)) fun n_11 =>
      K (.int .i64 n_11) w_4) (
      K (.int .i64 0) w_4))))))
theorem E_live_Thing_Size (t0 : Int) (t1 : Int) (c0 : Int) (c1 : Int) (c2 : Int) (c3 : Int) (c4a : Option Addr) (c4l : Nat) (c4c : Nat) (w : World) (K : Value → World → Prop) :
    D_live_Thing_Size t0 t1 c0 c1 c2 c3 c4a c4l c4c w K = vcFn Pg Try.f75 [1, 3] [.agg #[.int .i64 t0, .int .i64 t1], .agg #[.int .i64 c0, .int .i64 c1, .int .i64 c2, .int .i64 c3, .slice c4a c4l c4c]] w K := by kernel_rfl
theorem C_live_Thing_Size {t0 : Int} {t1 : Int} {c0 : Int} {c1 : Int} {c2 : Int} {c3 : Int} {c4a : Option Addr} {c4l : Nat} {c4c : Nat} {w : World} {K : Value → World → Prop} (h : D_live_Thing_Size t0 t1 c0 c1 c2 c3 c4a c4l c4c w K) :
    CALL Pg F_live_Thing_Size [.agg #[.int .i64 t0, .int .i64 t1], .agg #[.int .i64 c0, .int .i64 c1, .int .i64 c2, .int .i64 c3, .slice c4a c4l c4c]] w K :=
  call_of_vc [1, 3] Try.func75 rfl (Nat.le_of_ble_eq_true (by kernel_rfl)) ((E_live_Thing_Size t0 t1 c0 c1 c2 c3 c4a c4l c4c w K) ▸ h)
def D_r22_Do (c0 : Int) (c1 : Int) (c2 : Int) (c3 : Int) (c4a : Option Addr) (c4l : Nat) (c4c : Nat) (la : Option Addr) (ll : Nat) (lc : Nat) (r0 : Int) (r1 : Int) (a0 : Int) (a1 : Int) (w : World) (K : Value → World → Prop) : Prop :=
  NEW w [.int .i64 c0, .int .i64 c1, .int .i64 c2, .int .i64 c3, .slice c4a c4l c4c] T_api_Config_api_Config fun b_1 w_1 =>
  NEW w_1 [.int .i64 r0, .int .i64 r1] T_api_Request_api_Request fun b_2 w_2 =>
  NEW w_2 [.int .i64 a0, .int .i64 a1] T_api_Answer_api_Answer fun b_3 w_3 =>
  LDi .i64 w_3 ⟨b_2, 0, none⟩ fun n_1 =>
  ITE (n_1 == 1) (
   LDi .i64 w_3 ⟨b_1, 0, none⟩ fun n_2 =>
   LDi .i64 w_3 ⟨b_1, 1, none⟩ fun n_3 =>
   LDi .i64 w_3 ⟨b_1, 2, none⟩ fun n_4 =>
   LDi .i64 w_3 ⟨b_1, 3, none⟩ fun n_5 =>
   LDl w_3 ⟨b_1, 4, none⟩ fun a_1 l_1 c_1 =>
   LDi .i64 w_3 ⟨b_2, 1, none⟩ fun n_6 =>
   CALL Pg F_r22_Size [.agg #[.int .i64 n_2, .int .i64 n_3, .int .i64 n_4, .int .i64 n_5, .slice a_1 l_1 c_1], .int .i64 n_6] w_3 fun v_1 w_4 =>
   INTV .i64 v_1 fun n_7 =>
   ITE (n_7 == 0) (
    DRAW w_4 fun w_5 =>
    LDi .i64 w_5 ⟨b_3, 0, none⟩ fun n_8 =>
    LDi .i64 w_5 ⟨b_3, 1, none⟩ fun n_9 =>
    K (.tuple #[.slice la ll lc, .bool (n_8 == 3 && (n_9 == 0 && true))]) w_5) (
    LDi .i64 w_4 ⟨b_3, 0, none⟩ fun n_10 =>
    ITE (n_10 != 0) (
     DRAW w_4 fun w_6 =>
     LDi .i64 w_6 ⟨b_3, 0, none⟩ fun n_11 =>
     LDi .i64 w_6 ⟨b_3, 1, none⟩ fun n_12 =>
     K (.tuple #[.slice la ll lc, .bool (n_11 == 5 && (n_12 == 0 && true))]) w_6) (
     JOIN fun J_1 =>
     ((
      JOIN fun J_2 =>
      ((
       LDi .i64 w_4 ⟨b_1, 0, none⟩ fun n_13 =>
       LDi .i64 w_4 ⟨b_1, 1, none⟩ fun n_14 =>
       LDi .i64 w_4 ⟨b_1, 2, none⟩ fun n_15 =>
       LDi .i64 w_4 ⟨b_1, 3, none⟩ fun n_16 =>
       LDl w_4 ⟨b_1, 4, none⟩ fun a_2 l_2 c_2 =>
       LDi .i64 w_4 ⟨b_3, 1, none⟩ fun n_17 =>
       CALL Pg F_r22_Grain [.agg #[.int .i64 n_13, .int .i64 n_14, .int .i64 n_15, .int .i64 n_16, .slice a_2 l_2 c_2], .int .i64 n_17] w_4 fun v_2 w_7 =>
       BOOLV v_2 fun t_1 =>
       ITE (!t_1) (
        J_2 [.bool true] w_7) (
        LDi .i64 w_7 ⟨b_3, 1, none⟩ fun n_18 =>
        BIND (IntKind.i64.wrap (n_18 + n_7)) fun n_19 =>
        LDi .i64 w_7 ⟨b_1, 1, none⟩ fun n_20 =>
        BIND (IntKind.i64.wrap (1024 * n_20)) fun n_21 =>
        BIND (IntKind.i64.wrap (65536 + n_21)) fun n_22 =>
        J_2 [.bool (decide (n_19 > n_22))] w_7)) ∧
       ∀ w_8 : World,
       ∀ v_3 : Value,
       (J_2 [v_3] w_8 →
       BOOLV v_3 fun t_2 =>
       ITE (t_2) (
        K (.tuple #[.slice la ll lc, .bool false]) w_8) (
        J_1 [.slice none 0 0, .bool false] w_8)))) ∧
      ∀ w_9 : World,
      ∀ v_4 : Value,
      ∀ v_5 : Value,
      (J_1 [v_4, v_5] w_9 →
      BOOLV v_5 fun _ =>
      SLV v_4 fun _ _ _ =>
      LDi .i64 w_9 ⟨b_3, 1, none⟩ fun n_23 =>
      CALL Pg F_r06_Put [.slice la ll lc, .agg #[.int .i64 n_23, .int .i64 n_7]] w_9 fun v_6 w_10 =>
      TUPV v_6 fun cs_1 =>
      GETV cs_1 0 fun v_7 =>
      SLV v_7 fun a_4 l_4 c_4 =>
      GETV cs_1 1 fun v_8 =>
      BOOLV v_8 fun t_4 =>
      LEN cs_1 2 (
      K (.tuple #[.slice a_4 l_4 c_4, .bool t_4]) w_10)))))) (
   JOIN fun J_3 =>
   ((
    JOIN fun J_4 =>
    ((
     J_4 [.bool (n_1 == 2)] w_3) ∧
     ∀ w_11 : World,
     ∀ v_9 : Value,
     (J_4 [v_9] w_11 →
     BOOLV v_9 fun t_5 =>
     ITE (t_5) (
      J_3 [.bool t_5] w_11) (
      J_3 [.bool (n_1 == 3)] w_11)))) ∧
    ∀ w_12 : World,
    ∀ v_10 : Value,
    (J_3 [v_10] w_12 →
    BOOLV v_10 fun t_6 =>
    ITE (t_6) (
     LDi .i64 w_12 ⟨b_2, 1, none⟩ fun n_24 =>
     CALL Pg F_r06_Find [.slice la ll lc, .int .i64 n_24] w_12 fun v_11 w_13 =>
     INTV .i64 v_11 fun n_25 =>
     ITE (decide (n_25 < 0)) (
      DRAW w_13 fun w_14 =>
      LDi .i64 w_14 ⟨b_3, 0, none⟩ fun n_26 =>
      LDi .i64 w_14 ⟨b_3, 1, none⟩ fun n_27 =>
      K (.tuple #[.slice la ll lc, .bool (n_26 == 4 && (n_27 == 0 && true))]) w_14) (
      DRAW w_13 fun w_15 =>
      LDi .i64 w_15 ⟨b_3, 0, none⟩ fun n_28 =>
      LDi .i64 w_15 ⟨b_3, 1, none⟩ fun n_29 =>
      IDX la ll n_25 2 fun b_4 o_1 =>
      LDi .i64 w_15 ⟨b_4, o_1 + 1, none⟩ fun n_30 =>
      ITE (!(n_28 == 0 && (n_29 == n_30 && true))) (
       K (.tuple #[.slice la ll lc, .bool false]) w_15) (
       LDi .i64 w_15 ⟨b_2, 0, none⟩ fun n_31 =>
       ITE (n_31 == 2) (
        LDi .i64 w_15 ⟨b_2, 1, none⟩ fun n_32 =>
        CALL Pg F_r06_Drop [.slice la ll lc, .int .i64 n_32] w_15 fun v_12 w_16 =>
        SLV v_12 fun a_5 l_5 c_5 =>
        K (.tuple #[.slice a_5 l_5 c_5, .bool true]) w_16) (
        K (.tuple #[.slice la ll lc, .bool true]) w_15)))) (
     DRAW w_12 fun w_17 =>
     LDi .i64 w_17 ⟨b_3, 0, none⟩ fun n_33 =>
     LDi .i64 w_17 ⟨b_3, 1, none⟩ fun n_34 =>
     K (.tuple #[.slice la ll lc, .bool (n_33 == 2 && (n_34 == 0 && true))]) w_17))))
theorem E_r22_Do (c0 : Int) (c1 : Int) (c2 : Int) (c3 : Int) (c4a : Option Addr) (c4l : Nat) (c4c : Nat) (la : Option Addr) (ll : Nat) (lc : Nat) (r0 : Int) (r1 : Int) (a0 : Int) (a1 : Int) (w : World) (K : Value → World → Prop) :
    D_r22_Do c0 c1 c2 c3 c4a c4l c4c la ll lc r0 r1 a0 a1 w K = vcFn Pg Try.f41 [8, 11] [.agg #[.int .i64 c0, .int .i64 c1, .int .i64 c2, .int .i64 c3, .slice c4a c4l c4c], .slice la ll lc, .agg #[.int .i64 r0, .int .i64 r1], .agg #[.int .i64 a0, .int .i64 a1]] w K := by kernel_rfl
theorem C_r22_Do {c0 : Int} {c1 : Int} {c2 : Int} {c3 : Int} {c4a : Option Addr} {c4l : Nat} {c4c : Nat} {la : Option Addr} {ll : Nat} {lc : Nat} {r0 : Int} {r1 : Int} {a0 : Int} {a1 : Int} {w : World} {K : Value → World → Prop} (h : D_r22_Do c0 c1 c2 c3 c4a c4l c4c la ll lc r0 r1 a0 a1 w K) :
    CALL Pg F_r22_Do [.agg #[.int .i64 c0, .int .i64 c1, .int .i64 c2, .int .i64 c3, .slice c4a c4l c4c], .slice la ll lc, .agg #[.int .i64 r0, .int .i64 r1], .agg #[.int .i64 a0, .int .i64 a1]] w K :=
  call_of_vc [8, 11] Try.func41 rfl (Nat.le_of_ble_eq_true (by kernel_rfl)) ((E_r22_Do c0 c1 c2 c3 c4a c4l c4c la ll lc r0 r1 a0 a1 w K) ▸ h)
def D_r22_Replay (c0 : Int) (c1 : Int) (c2 : Int) (c3 : Int) (c4a : Option Addr) (c4l : Nat) (c4c : Nat) (la : Option Addr) (ll : Nat) (lc : Nat) (w : World) (K : Value → World → Prop) : Prop :=
  NEW w [.int .i64 c0, .int .i64 c1, .int .i64 c2, .int .i64 c3, .slice c4a c4l c4c] T_api_Config_api_Config fun b_1 w_1 =>
  NEW w_1 [] T_api_Interval_api_Interval fun b_2 w_2 =>
  CALL Pg F_r21_Order [.slice la ll lc] w_2 fun v_1 w_3 =>
  SLV v_1 fun a_1 l_1 _ =>
  LOOP [.slice none 0 0, .int .i64 0, .slice (some ⟨b_2, 0, none⟩) 0 0, .int .i64 0] w_3 fun I_1 N_1 =>
  ∀ w_4 : World,
  ∀ v_2 : Value,
  ∀ v_3 : Value,
  ∀ v_4 : Value,
  ∀ v_5 : Value,
  (I_1 [v_2, v_3, v_4, v_5] w_4 →
  INTV .i64 v_5 fun n_1 =>
  SLV v_4 fun a_2 l_2 c_2 =>
  INTV .i64 v_3 fun n_2 =>
  SLV v_2 fun a_3 l_3 c_3 =>
  ITE (decide (n_1 < (↑l_1 : Int))) (
   DRAW w_4 fun w_5 =>
   LDi .i64 w_5 ⟨b_1, 0, none⟩ fun n_3 =>
   LDi .i64 w_5 ⟨b_1, 1, none⟩ fun n_4 =>
   LDi .i64 w_5 ⟨b_1, 2, none⟩ fun n_5 =>
   LDi .i64 w_5 ⟨b_1, 3, none⟩ fun n_6 =>
   LDl w_5 ⟨b_1, 4, none⟩ fun a_4 l_4 c_4 =>
   IDX a_1 l_1 n_1 1 fun b_3 o_1 =>
   LDi .i64 w_5 ⟨b_3, o_1, none⟩ fun n_7 =>
   IDX la ll n_7 9 fun b_4 o_2 =>
   LDi .i64 w_5 ⟨b_4, o_2 + 1, none⟩ fun n_8 =>
   LDi .i64 w_5 ⟨b_4, o_2 + 1 + 1, none⟩ fun n_9 =>
   IDX a_1 l_1 n_1 1 fun b_5 o_3 =>
   LDi .i64 w_5 ⟨b_5, o_3, none⟩ fun n_10 =>
   IDX la ll n_10 9 fun b_6 o_4 =>
   LDi .i64 w_5 ⟨b_6, o_4 + 3, none⟩ fun n_11 =>
   LDi .i64 w_5 ⟨b_6, o_4 + 3 + 1, none⟩ fun n_12 =>
   CALL Pg F_r22_Do [.agg #[.int .i64 n_3, .int .i64 n_4, .int .i64 n_5, .int .i64 n_6, .slice a_4 l_4 c_4], .slice a_2 l_2 c_2, .agg #[.int .i64 n_8, .int .i64 n_9], .agg #[.int .i64 n_11, .int .i64 n_12]] w_5 fun v_6 w_6 =>
   TUPV v_6 fun cs_1 =>
   GETV cs_1 0 fun v_7 =>
   SLV v_7 fun a_5 l_5 c_5 =>
   GETV cs_1 1 fun v_8 =>
   BOOLV v_8 fun t_1 =>
   LEN cs_1 2 (
   ((
    KEEP w_6 []) ∧
    ITE (!t_1) (
     DRAW w_6 fun w_7 =>
     IDX a_1 l_1 n_1 1 fun b_7 o_5 =>
     LDi .i64 w_7 ⟨b_7, o_5, none⟩ fun n_13 =>
     K (.tuple #[.slice a_2 l_2 c_2, .int .i64 n_13]) w_7) (
     BIND (IntKind.i64.wrap (n_1 + 1)) fun n_14 =>
     N_1 [v_2, v_3, v_4, v_5] w_4 [.slice a_3 l_3 c_3, .int .i64 n_2, .slice a_5 l_5 c_5, .int .i64 n_14] w_6)))) (
   K (.tuple #[.slice a_2 l_2 c_2, .int .i64 (-1)]) w_4))
theorem E_r22_Replay (c0 : Int) (c1 : Int) (c2 : Int) (c3 : Int) (c4a : Option Addr) (c4l : Nat) (c4c : Nat) (la : Option Addr) (ll : Nat) (lc : Nat) (w : World) (K : Value → World → Prop) :
    D_r22_Replay c0 c1 c2 c3 c4a c4l c4c la ll lc w K = vcFn Pg Try.f47 [] [.agg #[.int .i64 c0, .int .i64 c1, .int .i64 c2, .int .i64 c3, .slice c4a c4l c4c], .slice la ll lc] w K := by kernel_rfl
theorem C_r22_Replay {c0 : Int} {c1 : Int} {c2 : Int} {c3 : Int} {c4a : Option Addr} {c4l : Nat} {c4c : Nat} {la : Option Addr} {ll : Nat} {lc : Nat} {w : World} {K : Value → World → Prop} (h : D_r22_Replay c0 c1 c2 c3 c4a c4l c4c la ll lc w K) :
    CALL Pg F_r22_Replay [.agg #[.int .i64 c0, .int .i64 c1, .int .i64 c2, .int .i64 c3, .slice c4a c4l c4c], .slice la ll lc] w K :=
  call_of_vc [] Try.func47 rfl (Nat.le_of_ble_eq_true (by kernel_rfl)) ((E_r22_Replay c0 c1 c2 c3 c4a c4l c4c la ll lc w K) ▸ h)
def D_r22_Size (c0 : Int) (c1 : Int) (c2 : Int) (c3 : Int) (c4a : Option Addr) (c4l : Nat) (c4c : Nat) (n : Int) (w : World) (K : Value → World → Prop) : Prop :=
  NEW w [.int .i64 c0, .int .i64 c1, .int .i64 c2, .int .i64 c3, .slice c4a c4l c4c] T_api_Config_api_Config fun b_1 w_1 =>
  LDi .i64 w_1 ⟨b_1, 0, none⟩ fun n_1 =>
  LDi .i64 w_1 ⟨b_1, 1, none⟩ fun n_2 =>
  LDi .i64 w_1 ⟨b_1, 2, none⟩ fun n_3 =>
  LDi .i64 w_1 ⟨b_1, 3, none⟩ fun n_4 =>
  LDl w_1 ⟨b_1, 4, none⟩ fun a_1 l_1 c_1 =>
  CALL Pg F_r05_Class [.agg #[.int .i64 n_1, .int .i64 n_2, .int .i64 n_3, .int .i64 n_4, .slice a_1 l_1 c_1], .int .i64 n] w_1 fun v_1 w_2 =>
  INTV .i64 v_1 fun n_5 =>
  ITE (decide (n_5 ≥ 0)) (
   LDl w_2 ⟨b_1, 4, none⟩ fun a_2 l_2 _ =>
   IDX a_2 l_2 n_5 1 fun b_2 o_1 =>
   LDi .i64 w_2 ⟨b_2, o_1, none⟩ fun n_6 =>
   K (.int .i64 n_6) w_2) (
   LDi .i64 w_2 ⟨b_1, 0, none⟩ fun n_7 =>
   LDi .i64 w_2 ⟨b_1, 1, none⟩ fun n_8 =>
   LDi .i64 w_2 ⟨b_1, 2, none⟩ fun n_9 =>
   LDi .i64 w_2 ⟨b_1, 3, none⟩ fun n_10 =>
   LDl w_2 ⟨b_1, 4, none⟩ fun a_3 l_3 c_3 =>
   CALL Pg F_r05_Run [.agg #[.int .i64 n_7, .int .i64 n_8, .int .i64 n_9, .int .i64 n_10, .slice a_3 l_3 c_3], .int .i64 n] w_2 fun v_2 w_3 =>
   INTV .i64 v_2 fun n_11 =>
   BIND (IntKind.i64.wrap (1024 * n_11)) fun n_12 =>
   K (.int .i64 n_12) w_3)
theorem E_r22_Size (c0 : Int) (c1 : Int) (c2 : Int) (c3 : Int) (c4a : Option Addr) (c4l : Nat) (c4c : Nat) (n : Int) (w : World) (K : Value → World → Prop) :
    D_r22_Size c0 c1 c2 c3 c4a c4l c4c n w K = vcFn Pg Try.f48 [] [.agg #[.int .i64 c0, .int .i64 c1, .int .i64 c2, .int .i64 c3, .slice c4a c4l c4c], .int .i64 n] w K := by kernel_rfl
theorem C_r22_Size {c0 : Int} {c1 : Int} {c2 : Int} {c3 : Int} {c4a : Option Addr} {c4l : Nat} {c4c : Nat} {n : Int} {w : World} {K : Value → World → Prop} (h : D_r22_Size c0 c1 c2 c3 c4a c4l c4c n w K) :
    CALL Pg F_r22_Size [.agg #[.int .i64 c0, .int .i64 c1, .int .i64 c2, .int .i64 c3, .slice c4a c4l c4c], .int .i64 n] w K :=
  call_of_vc [] Try.func48 rfl (Nat.le_of_ble_eq_true (by kernel_rfl)) ((E_r22_Size c0 c1 c2 c3 c4a c4l c4c n w K) ▸ h)
def D_r22_Grain (c0 : Int) (c1 : Int) (c2 : Int) (c3 : Int) (c4a : Option Addr) (c4l : Nat) (c4c : Nat) (at_ : Int) (w : World) (K : Value → World → Prop) : Prop :=
  NEW w [.int .i64 c0, .int .i64 c1, .int .i64 c2, .int .i64 c3, .slice c4a c4l c4c] T_api_Config_api_Config fun b_1 w_1 =>
  ITE (decide (at_ ≥ 65536)) (
   LDi .i64 w_1 ⟨b_1, 1, none⟩ fun n_1 =>
   BIND (IntKind.i64.wrap (1024 * n_1)) fun n_2 =>
   BIND (IntKind.i64.wrap (65536 + n_2)) fun n_3 =>
   ITE (decide (at_ < n_3)) (
    NZ 16 (
    BIND (at_.tmod 16) fun n_4 =>
    K (.bool (n_4 == 0)) w_1)) (
    K (.bool false) w_1)) (
   K (.bool false) w_1)
theorem E_r22_Grain (c0 : Int) (c1 : Int) (c2 : Int) (c3 : Int) (c4a : Option Addr) (c4l : Nat) (c4c : Nat) (at_ : Int) (w : World) (K : Value → World → Prop) :
    D_r22_Grain c0 c1 c2 c3 c4a c4l c4c at_ w K = vcFn Pg Try.f57 [] [.agg #[.int .i64 c0, .int .i64 c1, .int .i64 c2, .int .i64 c3, .slice c4a c4l c4c], .int .i64 at_] w K := by kernel_rfl
theorem C_r22_Grain {c0 : Int} {c1 : Int} {c2 : Int} {c3 : Int} {c4a : Option Addr} {c4l : Nat} {c4c : Nat} {at_ : Int} {w : World} {K : Value → World → Prop} (h : D_r22_Grain c0 c1 c2 c3 c4a c4l c4c at_ w K) :
    CALL Pg F_r22_Grain [.agg #[.int .i64 c0, .int .i64 c1, .int .i64 c2, .int .i64 c3, .slice c4a c4l c4c], .int .i64 at_] w K :=
  call_of_vc [] Try.func57 rfl (Nat.le_of_ble_eq_true (by kernel_rfl)) ((E_r22_Grain c0 c1 c2 c3 c4a c4l c4c at_ w K) ▸ h)
def D_l22_same (gota : Option Addr) (gotl : Nat) (gotc : Nat) (wanta : Option Addr) (wantl : Nat) (wantc : Nat) (w : World) (K : Value → World → Prop) : Prop :=
  ITE ((↑gotl : Int) != (↑wantl : Int)) (
   K (.bool false) w) (
   LOOP [.bool false, .int .i64 0] w fun I_1 N_1 =>
   ∀ w_1 : World,
   ∀ v_1 : Value,
   ∀ v_2 : Value,
   (I_1 [v_1, v_2] w_1 →
   INTV .i64 v_2 fun n_1 =>
   BOOLV v_1 fun t_1 =>
   ITE (decide (n_1 < (↑gotl : Int))) (
    IDX gota gotl n_1 2 fun b_1 o_1 =>
    LDi .i64 w_1 ⟨b_1, o_1, none⟩ fun n_2 =>
    LDi .i64 w_1 ⟨b_1, o_1 + 1, none⟩ fun n_3 =>
    NEW w_1 [.int .i64 0, .int .i64 0] T_api_Interval_api_Interval fun b_2 w_2 =>
    ST1 w_2 ⟨b_2, 0, none⟩ (.int .i64 n_2) fun w_3 =>
    ST1 w_3 ⟨b_2, 1, none⟩ (.int .i64 n_3) fun w_4 =>
    LDi .i64 w_4 ⟨b_2, 0, none⟩ fun n_4 =>
    CALL Pg F_r06_Find [.slice wanta wantl wantc, .int .i64 n_4] w_4 fun v_3 w_5 =>
    INTV .i64 v_3 fun n_5 =>
    JOIN fun J_1 =>
    ((
     DRAW w_5 fun w_6 =>
     ITE (decide (n_5 < 0)) (
      J_1 [.bool true] w_6) (
      IDX wanta wantl n_5 2 fun b_3 o_2 =>
      LDi .i64 w_6 ⟨b_3, o_2, none⟩ fun n_6 =>
      LDi .i64 w_6 ⟨b_3, o_2 + 1, none⟩ fun n_7 =>
      LDi .i64 w_6 ⟨b_2, 0, none⟩ fun n_8 =>
      LDi .i64 w_6 ⟨b_2, 1, none⟩ fun n_9 =>
      ITE (!(n_6 == n_8 && (n_7 == n_9 && true))) (
       J_1 [.bool true] w_6) (
       ITE (decide (n_1 > 0)) (
        BIND (IntKind.i64.wrap (n_1 - 1)) fun n_10 =>
        IDX gota gotl n_10 2 fun b_4 o_3 =>
        LDi .i64 w_6 ⟨b_4, o_3, none⟩ fun n_11 =>
        LDi .i64 w_6 ⟨b_2, 0, none⟩ fun n_12 =>
        J_1 [.bool (decide (n_11 ≥ n_12))] w_6) (
        J_1 [.bool false] w_6)))) ∧
     ∀ w_7 : World,
     ∀ v_4 : Value,
     (J_1 [v_4] w_7 →
     BOOLV v_4 fun t_2 =>
     ITE (t_2) (
      K (.bool false) w_7) (
      BIND (IntKind.i64.wrap (n_1 + 1)) fun n_13 =>
      N_1 [v_1, v_2] w_1 [.bool t_1, .int .i64 n_13] w_7)))) (
    K (.bool true) w_1)))
theorem E_l22_same (gota : Option Addr) (gotl : Nat) (gotc : Nat) (wanta : Option Addr) (wantl : Nat) (wantc : Nat) (w : World) (K : Value → World → Prop) :
    D_l22_same gota gotl gotc wanta wantl wantc w K = vcFn Pg Try.f43 [7] [.slice gota gotl gotc, .slice wanta wantl wantc] w K := by kernel_rfl
theorem C_l22_same {gota : Option Addr} {gotl : Nat} {gotc : Nat} {wanta : Option Addr} {wantl : Nat} {wantc : Nat} {w : World} {K : Value → World → Prop} (h : D_l22_same gota gotl gotc wanta wantl wantc w K) :
    CALL Pg F_l22_same [.slice gota gotl gotc, .slice wanta wantl wantc] w K :=
  call_of_vc [7] Try.func43 rfl (Nat.le_of_ble_eq_true (by kernel_rfl)) ((E_l22_same gota gotl gotc wanta wantl wantc w K) ▸ h)

end Go.Proofs.Ytpopdookpbmmpaa
