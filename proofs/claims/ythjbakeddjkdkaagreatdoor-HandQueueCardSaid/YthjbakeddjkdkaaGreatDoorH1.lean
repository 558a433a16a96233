/- What the evaluator asks of each function, in readable form: printed by a program of this claim's own. -/
import Derived.Test.YthjbakeddjkdkaaGreatDoorN
import Derived.Test.YthjbakeddjkdkaaGreatDoorDen
namespace Go.Proofs.YthjbakeddjkdkaaGreatDoor
open Go.Den
set_option linter.unusedVariables false
set_option maxRecDepth 1000000
def D_conf_in_int (n : Int) (least : Int) (most : Int) (w : World) (K : Value → World → Prop) : Prop :=
  ITE (decide (n ≥ least)) (
   K (.bool (decide (n ≤ most))) w) (
   K (.bool false) w)
theorem E_conf_in_int (n : Int) (least : Int) (most : Int) (w : World) (K : Value → World → Prop) :
    D_conf_in_int n least most w K = vcFn Pg Tryz.f26 [] [.int .i64 n, .int .i64 least, .int .i64 most] w K := by kernel_rfl
theorem C_conf_in_int {n : Int} {least : Int} {most : Int} {w : World} {K : Value → World → Prop} (h : D_conf_in_int n least most w K) :
    CALL Pg F_conf_in_int [.int .i64 n, .int .i64 least, .int .i64 most] w K :=
  call_of_vc [] Tryz.func26 rfl (Nat.le_of_ble_eq_true (by kernel_rfl)) ((E_conf_in_int n least most w K) ▸ h)
def D_conf_Check (c0 : Int) (c1 : Int) (c2 : Int) (c3 : Int) (c4a : Option Addr) (c4l : Nat) (c4c : Nat) (w : World) (K : Value → World → Prop) : Prop :=
  NEW w [.int .i64 c0, .int .i64 c1, .int .i64 c2, .int .i64 c3, .slice c4a c4l c4c] T_api_Config_api_Config fun b_1 w_1 =>
  LDi .i64 w_1 ⟨b_1, 0, none⟩ fun n_1 =>
  CALL Pg F_conf_in_int [.int .i64 n_1, .int .i64 1, .int .i64 64] w_1 fun v_1 w_2 =>
  BOOLV v_1 fun t_1 =>
  ITE (!t_1) (
   K (.int .i64 1) w_2) (
   LDi .i64 w_2 ⟨b_1, 1, none⟩ fun n_2 =>
   CALL Pg F_conf_in_int [.int .i64 n_2, .int .i64 1, .int .i64 64] w_2 fun v_2 w_3 =>
   BOOLV v_2 fun t_2 =>
   ITE (!t_2) (
    K (.int .i64 1) w_3) (
    LDi .i64 w_3 ⟨b_1, 2, none⟩ fun n_3 =>
    CALL Pg F_conf_in_int [.int .i64 n_3, .int .i64 1, .int .i64 64] w_3 fun v_3 w_4 =>
    BOOLV v_3 fun t_3 =>
    ITE (!t_3) (
     K (.int .i64 1) w_4) (
     LDi .i64 w_4 ⟨b_1, 3, none⟩ fun n_4 =>
     CALL Pg F_conf_in_int [.int .i64 n_4, .int .i64 0, .int .i64 8] w_4 fun v_4 w_5 =>
     BOOLV v_4 fun t_4 =>
     ITE (!t_4) (
      K (.int .i64 1) w_5) (
      LDl w_5 ⟨b_1, 4, none⟩ fun _ l_1 _ =>
      CALL Pg F_conf_in_int [.int .i64 (↑l_1 : Int), .int .i64 1, .int .i64 16] w_5 fun v_5 w_6 =>
      BOOLV v_5 fun t_5 =>
      ITE (!t_5) (
       K (.int .i64 1) w_6) (
       LDl w_6 ⟨b_1, 4, none⟩ fun a_2 l_2 _ =>
       LOOP [.int .i64 0, .int .i64 0, .int .i64 0] w_6 fun I_1 N_1 =>
       ∀ w_7 : World,
       ∀ v_6 : Value,
       ∀ v_7 : Value,
       ∀ v_8 : Value,
       (I_1 [v_6, v_7, v_8] w_7 →
       INTV .i64 v_8 fun n_5 =>
       INTV .i64 v_7 fun n_6 =>
       INTV .i64 v_6 fun n_7 =>
       ITE (decide (n_5 < (↑l_2 : Int))) (
        IDX a_2 l_2 n_5 1 fun b_2 o_1 =>
        LDi .i64 w_7 ⟨b_2, o_1, none⟩ fun n_8 =>
        ITE (decide (n_8 ≤ n_6)) (
         K (.int .i64 1) w_7) (
         ITE (decide (n_8 > 512)) (
          K (.int .i64 1) w_7) (
          NZ 16 (
          BIND (n_8.tmod 16) fun n_9 =>
          ITE (n_9 != 0) (
           K (.int .i64 1) w_7) (
           BIND (IntKind.i64.wrap (n_5 + 1)) fun n_10 =>
           N_1 [v_6, v_7, v_8] w_7 [.int .i64 n_7, .int .i64 n_8, .int .i64 n_10] w_7))))) (
        K (.int .i64 0) w_7)))))))
theorem E_conf_Check (c0 : Int) (c1 : Int) (c2 : Int) (c3 : Int) (c4a : Option Addr) (c4l : Nat) (c4c : Nat) (w : World) (K : Value → World → Prop) :
    D_conf_Check c0 c1 c2 c3 c4a c4l c4c w K = vcFn Pg Tryz.f13 [] [.agg #[.int .i64 c0, .int .i64 c1, .int .i64 c2, .int .i64 c3, .slice c4a c4l c4c]] w K := by kernel_rfl
theorem C_conf_Check {c0 : Int} {c1 : Int} {c2 : Int} {c3 : Int} {c4a : Option Addr} {c4l : Nat} {c4c : Nat} {w : World} {K : Value → World → Prop} (h : D_conf_Check c0 c1 c2 c3 c4a c4l c4c w K) :
    CALL Pg F_conf_Check [.agg #[.int .i64 c0, .int .i64 c1, .int .i64 c2, .int .i64 c3, .slice c4a c4l c4c]] w K :=
  call_of_vc [] Tryz.func13 rfl (Nat.le_of_ble_eq_true (by kernel_rfl)) ((E_conf_Check c0 c1 c2 c3 c4a c4l c4c w K) ▸ h)
def D_slices_Clone_Lint_int (sa : Option Addr) (sl : Nat) (sc : Nat) (w : World) (K : Value → World → Prop) : Prop :=
  SILN Pg (binE BinOp.eql T_Lint (Operand.tmp 3) (Operand.const (.slice none 0 0)) (.slice sa sl sc) (.slice none 0 0)) fun v_1 =>
  BOOLV v_1 fun t_1 =>
  ITE (t_1) (
   K (.slice none 0 0) w) (
   NEW w [] T_int fun b_1 w_1 =>
   SEML Pg w_1 (Builtin.append_ #[T_Lint, T_Lint] T_Lint #[.slice (some ⟨b_1, 0, none⟩) 0 0, .slice sa sl sc]) fun v_2 w_2 =>
   SLV v_2 fun a_1 l_1 c_1 =>
   K (.slice a_1 l_1 c_1) w_2)
theorem E_slices_Clone_Lint_int (sa : Option Addr) (sl : Nat) (sc : Nat) (w : World) (K : Value → World → Prop) :
    D_slices_Clone_Lint_int sa sl sc w K = vcFn Pg Tryz.f27 [] [.slice sa sl sc] w K := by kernel_rfl
theorem C_slices_Clone_Lint_int {sa : Option Addr} {sl : Nat} {sc : Nat} {w : World} {K : Value → World → Prop} (h : D_slices_Clone_Lint_int sa sl sc w K) :
    CALL Pg F_slices_Clone_Lint_int [.slice sa sl sc] w K :=
  call_of_vc [] Tryz.func27 rfl (Nat.le_of_ble_eq_true (by kernel_rfl)) ((E_slices_Clone_Lint_int sa sl sc w K) ▸ h)
def D_conf_Copy (c0 : Int) (c1 : Int) (c2 : Int) (c3 : Int) (c4a : Option Addr) (c4l : Nat) (c4c : Nat) (w : World) (K : Value → World → Prop) : Prop :=
  NEW w [.int .i64 c0, .int .i64 c1, .int .i64 c2, .int .i64 c3, .slice c4a c4l c4c] T_api_Config_api_Config fun b_1 w_1 =>
  NEW w_1 [.int .i64 0, .int .i64 0, .int .i64 0, .int .i64 0, .slice none 0 0] T_api_Config_api_Config fun b_2 w_2 =>
  LDl w_2 ⟨b_1, 4, none⟩ fun a_1 l_1 c_1 =>
  CALL Pg F_slices_Clone_Lint_int [.slice a_1 l_1 c_1] w_2 fun v_1 w_3 =>
  SLV v_1 fun a_2 l_2 c_2 =>
  ST1 w_3 ⟨b_1, 4, none⟩ (.slice a_2 l_2 c_2) fun w_4 =>
  LDi .i64 w_4 ⟨b_1, 0, none⟩ fun n_1 =>
  LDi .i64 w_4 ⟨b_1, 1, none⟩ fun n_2 =>
  LDi .i64 w_4 ⟨b_1, 2, none⟩ fun n_3 =>
  LDi .i64 w_4 ⟨b_1, 3, none⟩ fun n_4 =>
  LDl w_4 ⟨b_1, 4, none⟩ fun a_3 l_3 c_3 =>
  ST1 w_4 ⟨b_2, 0, none⟩ (.int .i64 n_1) fun w_5 =>
  ST1 w_5 ⟨b_2, 1, none⟩ (.int .i64 n_2) fun w_6 =>
  ST1 w_6 ⟨b_2, 2, none⟩ (.int .i64 n_3) fun w_7 =>
  ST1 w_7 ⟨b_2, 3, none⟩ (.int .i64 n_4) fun w_8 =>
  ST1 w_8 ⟨b_2, 4, none⟩ (.slice a_3 l_3 c_3) fun w_9 =>
  LDi .i64 w_9 ⟨b_2, 0, none⟩ fun n_5 =>
  LDi .i64 w_9 ⟨b_2, 1, none⟩ fun n_6 =>
  LDi .i64 w_9 ⟨b_2, 2, none⟩ fun n_7 =>
  LDi .i64 w_9 ⟨b_2, 3, none⟩ fun n_8 =>
  LDl w_9 ⟨b_2, 4, none⟩ fun a_4 l_4 c_4 =>
  K (.agg #[.int .i64 n_5, .int .i64 n_6, .int .i64 n_7, .int .i64 n_8, .slice a_4 l_4 c_4]) w_9
theorem E_conf_Copy (c0 : Int) (c1 : Int) (c2 : Int) (c3 : Int) (c4a : Option Addr) (c4l : Nat) (c4c : Nat) (w : World) (K : Value → World → Prop) :
    D_conf_Copy c0 c1 c2 c3 c4a c4l c4c w K = vcFn Pg Tryz.f14 [] [.agg #[.int .i64 c0, .int .i64 c1, .int .i64 c2, .int .i64 c3, .slice c4a c4l c4c]] w K := by kernel_rfl
theorem C_conf_Copy {c0 : Int} {c1 : Int} {c2 : Int} {c3 : Int} {c4a : Option Addr} {c4l : Nat} {c4c : Nat} {w : World} {K : Value → World → Prop} (h : D_conf_Copy c0 c1 c2 c3 c4a c4l c4c w K) :
    CALL Pg F_conf_Copy [.agg #[.int .i64 c0, .int .i64 c1, .int .i64 c2, .int .i64 c3, .slice c4a c4l c4c]] w K :=
  call_of_vc [] Tryz.func14 rfl (Nat.le_of_ble_eq_true (by kernel_rfl)) ((E_conf_Copy c0 c1 c2 c3 c4a c4l c4c w K) ▸ h)
def D_heart_New (c0 : Int) (c1 : Int) (c2 : Int) (c3 : Int) (c4a : Option Addr) (c4l : Nat) (c4c : Nat) (w : World) (K : Value → World → Prop) : Prop :=
  NEW w [.int .i64 c0, .int .i64 c1, .int .i64 c2, .int .i64 c3, .slice c4a c4l c4c] T_api_Config_api_Config fun b_1 w_1 =>
  NEW w_1 [.int .i64 0, .int .i64 0, .int .i64 0, .int .i64 0, .slice none 0 0] T_heart_Heart_heart_Heart fun b_2 w_2 =>
  LDi .i64 w_2 ⟨b_1, 0, none⟩ fun n_1 =>
  LDi .i64 w_2 ⟨b_1, 1, none⟩ fun n_2 =>
  LDi .i64 w_2 ⟨b_1, 2, none⟩ fun n_3 =>
  LDi .i64 w_2 ⟨b_1, 3, none⟩ fun n_4 =>
  LDl w_2 ⟨b_1, 4, none⟩ fun a_1 l_1 c_1 =>
  CALL Pg F_conf_Copy [.agg #[.int .i64 n_1, .int .i64 n_2, .int .i64 n_3, .int .i64 n_4, .slice a_1 l_1 c_1]] w_2 fun v_1 w_3 =>
  AGGV v_1 fun cs_1 =>
  GETV cs_1 0 fun v_2 =>
  INTV .i64 v_2 fun n_5 =>
  GETV cs_1 1 fun v_3 =>
  INTV .i64 v_3 fun n_6 =>
  GETV cs_1 2 fun v_4 =>
  INTV .i64 v_4 fun n_7 =>
  GETV cs_1 3 fun v_5 =>
  INTV .i64 v_5 fun n_8 =>
  GETV cs_1 4 fun v_6 =>
  SLV v_6 fun a_2 l_2 c_2 =>
  LEN cs_1 5 (
  ST1 w_3 ⟨b_2, 0, none⟩ (.int .i64 n_5) fun w_4 =>
  ST1 w_4 ⟨b_2, 1, none⟩ (.int .i64 n_6) fun w_5 =>
  ST1 w_5 ⟨b_2, 2, none⟩ (.int .i64 n_7) fun w_6 =>
  ST1 w_6 ⟨b_2, 3, none⟩ (.int .i64 n_8) fun w_7 =>
  ST1 w_7 ⟨b_2, 4, none⟩ (.slice a_2 l_2 c_2) fun w_8 =>
  LDi .i64 w_8 ⟨b_2, 0, none⟩ fun n_9 =>
  LDi .i64 w_8 ⟨b_2, 1, none⟩ fun n_10 =>
  LDi .i64 w_8 ⟨b_2, 2, none⟩ fun n_11 =>
  LDi .i64 w_8 ⟨b_2, 3, none⟩ fun n_12 =>
  LDl w_8 ⟨b_2, 4, none⟩ fun a_3 l_3 c_3 =>
  K (.agg #[.int .i64 n_9, .int .i64 n_10, .int .i64 n_11, .int .i64 n_12, .slice a_3 l_3 c_3]) w_8)
theorem E_heart_New (c0 : Int) (c1 : Int) (c2 : Int) (c3 : Int) (c4a : Option Addr) (c4l : Nat) (c4c : Nat) (w : World) (K : Value → World → Prop) :
    D_heart_New c0 c1 c2 c3 c4a c4l c4c w K = vcFn Pg Tryz.f15 [] [.agg #[.int .i64 c0, .int .i64 c1, .int .i64 c2, .int .i64 c3, .slice c4a c4l c4c]] w K := by kernel_rfl
theorem C_heart_New {c0 : Int} {c1 : Int} {c2 : Int} {c3 : Int} {c4a : Option Addr} {c4l : Nat} {c4c : Nat} {w : World} {K : Value → World → Prop} (h : D_heart_New c0 c1 c2 c3 c4a c4l c4c w K) :
    CALL Pg F_heart_New [.agg #[.int .i64 c0, .int .i64 c1, .int .i64 c2, .int .i64 c3, .slice c4a c4l c4c]] w K :=
  call_of_vc [] Tryz.func15 rfl (Nat.le_of_ble_eq_true (by kernel_rfl)) ((E_heart_New c0 c1 c2 c3 c4a c4l c4c w K) ▸ h)
def D_heart_Heart_Words (h_0 : Int) (h_1 : Int) (h_2 : Int) (h_3 : Int) (h_4a : Option Addr) (h_4l : Nat) (h_4c : Nat) (w : World) (K : Value → World → Prop) : Prop :=
  NEW w [.int .i64 h_0, .int .i64 h_1, .int .i64 h_2, .int .i64 h_3, .slice h_4a h_4l h_4c] T_heart_Heart_heart_Heart fun b_1 w_1 =>
  LDi .i64 w_1 ⟨b_1, 0, none⟩ fun n_1 =>
  LDi .i64 w_1 ⟨b_1, 1, none⟩ fun n_2 =>
  LDi .i64 w_1 ⟨b_1, 2, none⟩ fun n_3 =>
  LDi .i64 w_1 ⟨b_1, 3, none⟩ fun n_4 =>
  LDl w_1 ⟨b_1, 4, none⟩ fun a_1 l_1 c_1 =>
  CALL Pg F_conf_State [.agg #[.int .i64 n_1, .int .i64 n_2, .int .i64 n_3, .int .i64 n_4, .slice a_1 l_1 c_1]] w_1 fun v_1 w_2 =>
  INTV .i64 v_1 fun n_5 =>
  K (.int .i64 n_5) w_2
theorem E_heart_Heart_Words (h_0 : Int) (h_1 : Int) (h_2 : Int) (h_3 : Int) (h_4a : Option Addr) (h_4l : Nat) (h_4c : Nat) (w : World) (K : Value → World → Prop) :
    D_heart_Heart_Words h_0 h_1 h_2 h_3 h_4a h_4l h_4c w K = vcFn Pg Tryz.f74 [] [.agg #[.int .i64 h_0, .int .i64 h_1, .int .i64 h_2, .int .i64 h_3, .slice h_4a h_4l h_4c]] w K := by kernel_rfl
theorem C_heart_Heart_Words {h_0 : Int} {h_1 : Int} {h_2 : Int} {h_3 : Int} {h_4a : Option Addr} {h_4l : Nat} {h_4c : Nat} {w : World} {K : Value → World → Prop} (h : D_heart_Heart_Words h_0 h_1 h_2 h_3 h_4a h_4l h_4c w K) :
    CALL Pg F_heart_Heart_Words [.agg #[.int .i64 h_0, .int .i64 h_1, .int .i64 h_2, .int .i64 h_3, .slice h_4a h_4l h_4c]] w K :=
  call_of_vc [] Tryz.func74 rfl (Nat.le_of_ble_eq_true (by kernel_rfl)) ((E_heart_Heart_Words h_0 h_1 h_2 h_3 h_4a h_4l h_4c w K) ▸ h)
def D_conf_State (c0 : Int) (c1 : Int) (c2 : Int) (c3 : Int) (c4a : Option Addr) (c4l : Nat) (c4c : Nat) (w : World) (K : Value → World → Prop) : Prop :=
  NEW w [.int .i64 c0, .int .i64 c1, .int .i64 c2, .int .i64 c3, .slice c4a c4l c4c] T_api_Config_api_Config fun b_1 w_1 =>
  LDi .i64 w_1 ⟨b_1, 1, none⟩ fun n_1 =>
  BIND (IntKind.i64.wrap (2 * n_1)) fun n_2 =>
  K (.int .i64 n_2) w_1
theorem E_conf_State (c0 : Int) (c1 : Int) (c2 : Int) (c3 : Int) (c4a : Option Addr) (c4l : Nat) (c4c : Nat) (w : World) (K : Value → World → Prop) :
    D_conf_State c0 c1 c2 c3 c4a c4l c4c w K = vcFn Pg Tryz.f75 [] [.agg #[.int .i64 c0, .int .i64 c1, .int .i64 c2, .int .i64 c3, .slice c4a c4l c4c]] w K := by kernel_rfl
theorem C_conf_State {c0 : Int} {c1 : Int} {c2 : Int} {c3 : Int} {c4a : Option Addr} {c4l : Nat} {c4c : Nat} {w : World} {K : Value → World → Prop} (h : D_conf_State c0 c1 c2 c3 c4a c4l c4c w K) :
    CALL Pg F_conf_State [.agg #[.int .i64 c0, .int .i64 c1, .int .i64 c2, .int .i64 c3, .slice c4a c4l c4c]] w K :=
  call_of_vc [] Tryz.func75 rfl (Nat.le_of_ble_eq_true (by kernel_rfl)) ((E_conf_State c0 c1 c2 c3 c4a c4l c4c w K) ▸ h)
def D_slot_Frame_Record (f0 : Int) (f1 : Int) (f2 : Int) (w : World) (K : Value → World → Prop) : Prop :=
  NEW w [.int .i64 f0, .int .i64 f1, .int .i64 f2] T_slot_Frame_slot_Frame fun b_1 w_1 =>
  LDi .i64 w_1 ⟨b_1, 1, none⟩ fun n_1 =>
  LDi .i64 w_1 ⟨b_1, 2, none⟩ fun n_2 =>
  BIND (IntKind.i64.wrap (3 * n_2)) fun n_3 =>
  BIND (IntKind.i64.wrap (n_1 + n_3)) fun n_4 =>
  K (.int .i64 n_4) w_1
theorem E_slot_Frame_Record (f0 : Int) (f1 : Int) (f2 : Int) (w : World) (K : Value → World → Prop) :
    D_slot_Frame_Record f0 f1 f2 w K = vcFn Pg Tryz.f38 [] [.agg #[.int .i64 f0, .int .i64 f1, .int .i64 f2]] w K := by kernel_rfl
theorem C_slot_Frame_Record {f0 : Int} {f1 : Int} {f2 : Int} {w : World} {K : Value → World → Prop} (h : D_slot_Frame_Record f0 f1 f2 w K) :
    CALL Pg F_slot_Frame_Record [.agg #[.int .i64 f0, .int .i64 f1, .int .i64 f2]] w K :=
  call_of_vc [] Tryz.func38 rfl (Nat.le_of_ble_eq_true (by kernel_rfl)) ((E_slot_Frame_Record f0 f1 f2 w K) ▸ h)
def D_slot_Frame_Size (f0 : Int) (f1 : Int) (f2 : Int) (w : World) (K : Value → World → Prop) : Prop :=
  NEW w [.int .i64 f0, .int .i64 f1, .int .i64 f2] T_slot_Frame_slot_Frame fun b_1 w_1 =>
  DRAW w_1 fun w_2 =>
  LDi .i64 w_2 ⟨b_1, 2, none⟩ fun n_1 =>
  BIND (IntKind.i64.wrap (4 * n_1)) fun n_2 =>
  BIND (IntKind.i64.wrap (1 + n_2)) fun n_3 =>
  LDi .i64 w_2 ⟨b_1, 2, none⟩ fun n_4 =>
  BIND (IntKind.i64.wrap (2 * n_4)) fun n_5 =>
  LDi .i64 w_2 ⟨b_1, 0, none⟩ fun n_6 =>
  LDi .i64 w_2 ⟨b_1, 1, none⟩ fun n_7 =>
  LDi .i64 w_2 ⟨b_1, 2, none⟩ fun n_8 =>
  CALL Pg F_slot_Frame_Record [.agg #[.int .i64 n_6, .int .i64 n_7, .int .i64 n_8]] w_2 fun v_1 w_3 =>
  INTV .i64 v_1 fun n_9 =>
  ((
   KEEP w_3 [Fact.cell ⟨b_1, 2, none⟩ (.int .i64 n_1), Fact.cell ⟨b_1, 2, none⟩ (.int .i64 n_4)]) ∧
   BIND (IntKind.i64.wrap (n_5 * n_9)) fun n_10 =>
   BIND (IntKind.i64.wrap (n_3 + n_10)) fun n_11 =>
   K (.int .i64 n_11) w_3)
theorem E_slot_Frame_Size (f0 : Int) (f1 : Int) (f2 : Int) (w : World) (K : Value → World → Prop) :
    D_slot_Frame_Size f0 f1 f2 w K = vcFn Pg Tryz.f28 [] [.agg #[.int .i64 f0, .int .i64 f1, .int .i64 f2]] w K := by kernel_rfl
theorem C_slot_Frame_Size {f0 : Int} {f1 : Int} {f2 : Int} {w : World} {K : Value → World → Prop} (h : D_slot_Frame_Size f0 f1 f2 w K) :
    CALL Pg F_slot_Frame_Size [.agg #[.int .i64 f0, .int .i64 f1, .int .i64 f2]] w K :=
  call_of_vc [] Tryz.func28 rfl (Nat.le_of_ble_eq_true (by kernel_rfl)) ((E_slot_Frame_Size f0 f1 f2 w K) ▸ h)
def D_slot_Frame_Head (f0 : Int) (f1 : Int) (f2 : Int) (w : World) (K : Value → World → Prop) : Prop :=
  NEW w [.int .i64 f0, .int .i64 f1, .int .i64 f2] T_slot_Frame_slot_Frame fun b_1 w_1 =>
  LDi .i64 w_1 ⟨b_1, 0, none⟩ fun n_1 =>
  K (.int .i64 n_1) w_1
theorem E_slot_Frame_Head (f0 : Int) (f1 : Int) (f2 : Int) (w : World) (K : Value → World → Prop) :
    D_slot_Frame_Head f0 f1 f2 w K = vcFn Pg Tryz.f30 [] [.agg #[.int .i64 f0, .int .i64 f1, .int .i64 f2]] w K := by kernel_rfl
theorem C_slot_Frame_Head {f0 : Int} {f1 : Int} {f2 : Int} {w : World} {K : Value → World → Prop} (h : D_slot_Frame_Head f0 f1 f2 w K) :
    CALL Pg F_slot_Frame_Head [.agg #[.int .i64 f0, .int .i64 f1, .int .i64 f2]] w K :=
  call_of_vc [] Tryz.func30 rfl (Nat.le_of_ble_eq_true (by kernel_rfl)) ((E_slot_Frame_Head f0 f1 f2 w K) ▸ h)
def D_hall_Size (ot : Nat) (ov : Value) (workers : Int) (w : World) (K : Value → World → Prop) : Prop :=
  INV Pg (.iface ot ov) "Words" [] w fun v_1 w_1 =>
  INTV .i64 v_1 fun n_1 =>
  CALL Pg F_slot_Frame_Size [.agg #[.int .i64 0, .int .i64 n_1, .int .i64 workers]] w_1 fun v_2 w_2 =>
  INTV .i64 v_2 fun n_2 =>
  K (.int .i64 n_2) w_2
theorem E_hall_Size (ot : Nat) (ov : Value) (workers : Int) (w : World) (K : Value → World → Prop) :
    D_hall_Size ot ov workers w K = vcFn Pg Tryz.f16 [] [.iface ot ov, .int .i64 workers] w K := by kernel_rfl
theorem C_hall_Size {ot : Nat} {ov : Value} {workers : Int} {w : World} {K : Value → World → Prop} (h : D_hall_Size ot ov workers w K) :
    CALL Pg F_hall_Size [.iface ot ov, .int .i64 workers] w K :=
  call_of_vc [] Tryz.func16 rfl (Nat.le_of_ble_eq_true (by kernel_rfl)) ((E_hall_Size ot ov workers w K) ▸ h)
def D_mem_New (n : Int) (w : World) (K : Value → World → Prop) : Prop :=
  SILN Pg (Builtin.max_ #[T_int, T_int] T_int #[.int .i64 n, .int .i64 0]) fun v_1 =>
  INTV .i64 v_1 fun n_1 =>
  SILN Pg (Builtin.min_ #[T_int, T_int] T_int #[.int .i64 n_1, .int .i64 16777216]) fun v_2 =>
  INTV .i64 v_2 fun n_2 =>
  SEML Pg w (Instr.makeSlice T_Luint64 (.int .i64 n_2) (.int .i64 n_2)) fun v_3 w_1 =>
  SLV v_3 fun a_1 l_1 c_1 =>
  NEW w_1 [.slice a_1 l_1 c_1, .int .i64 0, .int .i64 0, .int .i64 0, .int .i64 0] T_mem_Memory_mem_Memory fun b_1 w_2 =>
  K (.pointer (some ⟨b_1, 0, none⟩)) w_2
theorem E_mem_New (n : Int) (w : World) (K : Value → World → Prop) :
    D_mem_New n w K = vcFn Pg Tryz.f17 [] [.int .i64 n] w K := by kernel_rfl
theorem C_mem_New {n : Int} {w : World} {K : Value → World → Prop} (h : D_mem_New n w K) :
    CALL Pg F_mem_New [.int .i64 n] w K :=
  call_of_vc [] Tryz.func17 rfl (Nat.le_of_ble_eq_true (by kernel_rfl)) ((E_mem_New n w K) ▸ h)
def D_pmem_Memory_at (m : Option Addr) (kind : Int) (at_ : Int) (w : World) (K : Value → World → Prop) : Prop :=
  NN m fun b_1 o_1 =>
  LDi .i64 w ⟨b_1, o_1 + 1, none⟩ fun n_1 =>
  BIND (IntKind.i64.wrap (n_1 + 1)) fun n_2 =>
  NN m fun b_2 o_2 =>
  ST1 w ⟨b_2, o_2 + 1, none⟩ (.int .i64 n_2) fun w_1 =>
  NN m fun b_3 o_3 =>
  ST1 w_1 ⟨b_3, o_3 + 3, none⟩ (.int .i64 kind) fun w_2 =>
  ST1 w_2 ⟨b_3, o_3 + 3 + 1, none⟩ (.int .i64 at_) fun w_3 =>
  ITE (decide (at_ < 0)) (
   NN m fun b_4 o_4 =>
   LDi .i64 w_3 ⟨b_4, o_4 + 2, none⟩ fun n_3 =>
   BIND (IntKind.i64.wrap (n_3 + 1)) fun n_4 =>
   NN m fun b_5 o_5 =>
   ST1 w_3 ⟨b_5, o_5 + 2, none⟩ (.int .i64 n_4) fun w_4 =>
   NEW w_4 [.int .u64 0] T_uint64 fun b_6 w_5 =>
   K (.pointer (some ⟨b_6, 0, none⟩)) w_5) (
   NN m fun b_7 o_6 =>
   LDl w_3 ⟨b_7, o_6, none⟩ fun _ l_1 _ =>
   ITE (decide (at_ ≥ (↑l_1 : Int))) (
    NN m fun b_8 o_7 =>
    LDi .i64 w_3 ⟨b_8, o_7 + 2, none⟩ fun n_5 =>
    BIND (IntKind.i64.wrap (n_5 + 1)) fun n_6 =>
    NN m fun b_9 o_8 =>
    ST1 w_3 ⟨b_9, o_8 + 2, none⟩ (.int .i64 n_6) fun w_6 =>
    NEW w_6 [.int .u64 0] T_uint64 fun b_10 w_7 =>
    K (.pointer (some ⟨b_10, 0, none⟩)) w_7) (
    NN m fun b_11 o_9 =>
    LDl w_3 ⟨b_11, o_9, none⟩ fun a_2 l_2 _ =>
    IDX a_2 l_2 at_ 1 fun b_12 o_10 =>
    K (.pointer (some ⟨b_12, o_10, none⟩)) w_3))
theorem E_pmem_Memory_at (m : Option Addr) (kind : Int) (at_ : Int) (w : World) (K : Value → World → Prop) :
    D_pmem_Memory_at m kind at_ w K = vcFn Pg Tryz.f39 [] [.pointer m, .int .i64 kind, .int .i64 at_] w K := by kernel_rfl
theorem C_pmem_Memory_at {m : Option Addr} {kind : Int} {at_ : Int} {w : World} {K : Value → World → Prop} (h : D_pmem_Memory_at m kind at_ w K) :
    CALL Pg F_pmem_Memory_at [.pointer m, .int .i64 kind, .int .i64 at_] w K :=
  call_of_vc [] Tryz.func39 rfl (Nat.le_of_ble_eq_true (by kernel_rfl)) ((E_pmem_Memory_at m kind at_ w K) ▸ h)
def D_pmem_Memory_Store (m : Option Addr) (at_ : Int) (x : Int) (w : World) (K : Value → World → Prop) : Prop :=
  CALL Pg F_pmem_Memory_at [.pointer m, .int .i64 2, .int .i64 at_] w fun v_1 w_1 =>
  PTRV v_1 fun q_1 =>
  NN q_1 fun b_1 o_1 =>
  ST1 w_1 ⟨b_1, o_1, none⟩ (.int .u64 x) fun w_2 =>
  K (.tuple #[]) w_2
theorem E_pmem_Memory_Store (m : Option Addr) (at_ : Int) (x : Int) (w : World) (K : Value → World → Prop) :
    D_pmem_Memory_Store m at_ x w K = vcFn Pg Tryz.f29 [] [.pointer m, .int .i64 at_, .int .u64 x] w K := by kernel_rfl
theorem C_pmem_Memory_Store {m : Option Addr} {at_ : Int} {x : Int} {w : World} {K : Value → World → Prop} (h : D_pmem_Memory_Store m at_ x w K) :
    CALL Pg F_pmem_Memory_Store [.pointer m, .int .i64 at_, .int .u64 x] w K :=
  call_of_vc [] Tryz.func29 rfl (Nat.le_of_ble_eq_true (by kernel_rfl)) ((E_pmem_Memory_Store m at_ x w K) ▸ h)
def D_word_Field_Right (f0 : Int) (f1 : Int) (w : World) (K : Value → World → Prop) : Prop :=
  NEW w [.int .i64 f0, .int .i64 f1] T_word_Field_word_Field fun b_1 w_1 =>
  LDi .i64 w_1 ⟨b_1, 0, none⟩ fun n_1 =>
  ITE (decide (n_1 ≥ 0)) (
   LDi .i64 w_1 ⟨b_1, 1, none⟩ fun n_2 =>
   ITE (decide (n_2 ≥ 1)) (
    LDi .i64 w_1 ⟨b_1, 0, none⟩ fun n_3 =>
    ITE (decide (n_3 ≤ 63)) (
     LDi .i64 w_1 ⟨b_1, 1, none⟩ fun n_4 =>
     LDi .i64 w_1 ⟨b_1, 0, none⟩ fun n_5 =>
     BIND (IntKind.i64.wrap (64 - n_5)) fun n_6 =>
     K (.bool (decide (n_4 ≤ n_6))) w_1) (
     K (.bool false) w_1)) (
    K (.bool false) w_1)) (
   K (.bool false) w_1)
theorem E_word_Field_Right (f0 : Int) (f1 : Int) (w : World) (K : Value → World → Prop) :
    D_word_Field_Right f0 f1 w K = vcFn Pg Tryz.f48 [] [.agg #[.int .i64 f0, .int .i64 f1]] w K := by kernel_rfl
theorem C_word_Field_Right {f0 : Int} {f1 : Int} {w : World} {K : Value → World → Prop} (h : D_word_Field_Right f0 f1 w K) :
    CALL Pg F_word_Field_Right [.agg #[.int .i64 f0, .int .i64 f1]] w K :=
  call_of_vc [] Tryz.func48 rfl (Nat.le_of_ble_eq_true (by kernel_rfl)) ((E_word_Field_Right f0 f1 w K) ▸ h)
def D_word_Field_mask (f0 : Int) (f1 : Int) (w : World) (K : Value → World → Prop) : Prop :=
  NEW w [.int .i64 f0, .int .i64 f1] T_word_Field_word_Field fun b_1 w_1 =>
  LDi .i64 w_1 ⟨b_1, 1, none⟩ fun n_1 =>
  ITE (decide (n_1 ≥ 64)) (
   K (.int .u64 18446744073709551615) w_1) (
   LDi .i64 w_1 ⟨b_1, 1, none⟩ fun n_2 =>
   BIND (IntKind.u64.wrap n_2) fun n_3 =>
   GE0 n_3 (
   BIND (shI BinOp.shl IntKind.u64 1 n_3) fun n_4 =>
   BIND (IntKind.u64.wrap (n_4 - 1)) fun n_5 =>
   K (.int .u64 n_5) w_1))
theorem E_word_Field_mask (f0 : Int) (f1 : Int) (w : World) (K : Value → World → Prop) :
    D_word_Field_mask f0 f1 w K = vcFn Pg Tryz.f49 [] [.agg #[.int .i64 f0, .int .i64 f1]] w K := by kernel_rfl
theorem C_word_Field_mask {f0 : Int} {f1 : Int} {w : World} {K : Value → World → Prop} (h : D_word_Field_mask f0 f1 w K) :
    CALL Pg F_word_Field_mask [.agg #[.int .i64 f0, .int .i64 f1]] w K :=
  call_of_vc [] Tryz.func49 rfl (Nat.le_of_ble_eq_true (by kernel_rfl)) ((E_word_Field_mask f0 f1 w K) ▸ h)
def D_word_Field_Put (f0 : Int) (f1 : Int) (w_ : Int) (n : Int) (w : World) (K : Value → World → Prop) : Prop :=
  NEW w [.int .i64 f0, .int .i64 f1] T_word_Field_word_Field fun b_1 w_1 =>
  LDi .i64 w_1 ⟨b_1, 0, none⟩ fun n_1 =>
  LDi .i64 w_1 ⟨b_1, 1, none⟩ fun n_2 =>
  CALL Pg F_word_Field_Right [.agg #[.int .i64 n_1, .int .i64 n_2]] w_1 fun v_1 w_2 =>
  BOOLV v_1 fun t_1 =>
  ITE (!t_1) (
   K (.tuple #[.int .u64 w_, .bool false]) w_2) (
   LDi .i64 w_2 ⟨b_1, 0, none⟩ fun n_3 =>
   LDi .i64 w_2 ⟨b_1, 1, none⟩ fun n_4 =>
   CALL Pg F_word_Field_mask [.agg #[.int .i64 n_3, .int .i64 n_4]] w_2 fun v_2 w_3 =>
   INTV .u64 v_2 fun n_5 =>
   ITE (decide (n > n_5)) (
    K (.tuple #[.int .u64 w_, .bool false]) w_3) (
    DRAW w_3 fun w_4 =>
    LDi .i64 w_4 ⟨b_1, 0, none⟩ fun n_6 =>
    LDi .i64 w_4 ⟨b_1, 1, none⟩ fun n_7 =>
    LDi .i64 w_4 ⟨b_1, 0, none⟩ fun n_8 =>
    BIND (IntKind.u64.wrap n_8) fun n_9 =>
    LDi .i64 w_4 ⟨b_1, 0, none⟩ fun n_10 =>
    BIND (IntKind.u64.wrap n_10) fun n_11 =>
    GE0 n_11 (
    BIND (shI BinOp.shl IntKind.u64 n n_11) fun n_12 =>
    CALL Pg F_word_Field_mask [.agg #[.int .i64 n_6, .int .i64 n_7]] w_4 fun v_3 w_5 =>
    INTV .u64 v_3 fun n_13 =>
    ((
     KEEP w_5 [Fact.cell ⟨b_1, 0, none⟩ (.int .i64 n_8), Fact.cell ⟨b_1, 0, none⟩ (.int .i64 n_10)]) ∧
     GE0 n_9 (
     BIND (shI BinOp.shl IntKind.u64 n_13 n_9) fun n_14 =>
     BIND (bitI BinOp.andNot IntKind.u64 w_ n_14) fun n_15 =>
     BIND (bitI BinOp.or IntKind.u64 n_15 n_12) fun n_16 =>
     K (.tuple #[.int .u64 n_16, .bool true]) w_5)))))
theorem E_word_Field_Put (f0 : Int) (f1 : Int) (w_ : Int) (n : Int) (w : World) (K : Value → World → Prop) :
    D_word_Field_Put f0 f1 w_ n w K = vcFn Pg Tryz.f40 [] [.agg #[.int .i64 f0, .int .i64 f1], .int .u64 w_, .int .u64 n] w K := by kernel_rfl
theorem C_word_Field_Put {f0 : Int} {f1 : Int} {w_ : Int} {n : Int} {w : World} {K : Value → World → Prop} (h : D_word_Field_Put f0 f1 w_ n w K) :
    CALL Pg F_word_Field_Put [.agg #[.int .i64 f0, .int .i64 f1], .int .u64 w_, .int .u64 n] w K :=
  call_of_vc [] Tryz.func40 rfl (Nat.le_of_ble_eq_true (by kernel_rfl)) ((E_word_Field_Put f0 f1 w_ n w K) ▸ h)
def D_word_Of (r0 : Int) (r1 : Int) (r2 : Int) (w : World) (K : Value → World → Prop) : Prop :=
  NEW w [.int .i64 r0, .int .i64 r1, .int .i64 r2] T_word_Ref_word_Ref fun b_1 w_1 =>
  LDi .i64 w_1 ⟨b_1, 0, none⟩ fun n_1 =>
  LDi .i64 w_1 ⟨b_1, 1, none⟩ fun n_2 =>
  LDi .i64 w_1 ⟨b_1, 2, none⟩ fun n_3 =>
  LOOP [.int .u64 0, .int .u64 9223372036854775808, .int .i64 0] w_1 fun I_1 N_1 =>
  ∀ w_2 : World,
  ∀ v_1 : Value,
  ∀ v_2 : Value,
  ∀ v_3 : Value,
  (I_1 [v_1, v_2, v_3] w_2 →
  INTV .i64 v_3 fun n_4 =>
  INTV .u64 v_2 fun n_5 =>
  INTV .u64 v_1 fun n_6 =>
  ITE (decide (n_4 < 3)) (
   SILN Pg (Instr.index T_3_int (.agg #[.int .i64 n_1, .int .i64 n_2, .int .i64 n_3]) (.int .i64 n_4)) fun v_4 =>
   INTV .i64 v_4 fun n_7 =>
   IDX (some ⟨0, 0, none⟩) 4 n_4 2 fun b_2 o_1 =>
   LDi .i64 w_2 ⟨b_2, o_1, none⟩ fun n_8 =>
   LDi .i64 w_2 ⟨b_2, o_1 + 1, none⟩ fun n_9 =>
   BIND (IntKind.u64.wrap n_7) fun n_10 =>
   CALL Pg F_word_Field_Put [.agg #[.int .i64 n_8, .int .i64 n_9], .int .u64 n_5, .int .u64 n_10] w_2 fun v_5 w_3 =>
   TUPV v_5 fun cs_1 =>
   GETV cs_1 0 fun v_6 =>
   INTV .u64 v_6 fun n_11 =>
   GETV cs_1 1 fun v_7 =>
   BOOLV v_7 fun t_1 =>
   LEN cs_1 2 (
   ITE (!t_1) (
    K (.int .u64 0) w_3) (
    BIND (IntKind.i64.wrap (n_4 + 1)) fun n_12 =>
    N_1 [v_1, v_2, v_3] w_2 [.int .u64 n_6, .int .u64 n_11, .int .i64 n_12] w_3))) (
   K (.int .u64 n_5) w_2))
theorem E_word_Of (r0 : Int) (r1 : Int) (r2 : Int) (w : World) (K : Value → World → Prop) :
    D_word_Of r0 r1 r2 w K = vcFn Pg Tryz.f31 [] [.agg #[.int .i64 r0, .int .i64 r1, .int .i64 r2]] w K := by kernel_rfl
theorem C_word_Of {r0 : Int} {r1 : Int} {r2 : Int} {w : World} {K : Value → World → Prop} (h : D_word_Of r0 r1 r2 w K) :
    CALL Pg F_word_Of [.agg #[.int .i64 r0, .int .i64 r1, .int .i64 r2]] w K :=
  call_of_vc [] Tryz.func31 rfl (Nat.le_of_ble_eq_true (by kernel_rfl)) ((E_word_Of r0 r1 r2 w K) ▸ h)
def D_hall_New (m : Option Addr) (base : Int) (workers : Int) (tries : Int) (ot : Nat) (ov : Value) (w : World) (K : Value → World → Prop) : Prop :=
  INV Pg (.iface ot ov) "Words" [] w fun v_1 w_1 =>
  INTV .i64 v_1 fun n_1 =>
  NEW w_1 [.int .i64 0, .int .i64 0, .int .i64 0] T_slot_Frame_slot_Frame fun b_1 w_2 =>
  ST1 w_2 ⟨b_1, 0, none⟩ (.int .i64 base) fun w_3 =>
  ST1 w_3 ⟨b_1, 1, none⟩ (.int .i64 n_1) fun w_4 =>
  ST1 w_4 ⟨b_1, 2, none⟩ (.int .i64 workers) fun w_5 =>
  LDi .i64 w_5 ⟨b_1, 0, none⟩ fun n_2 =>
  LDi .i64 w_5 ⟨b_1, 1, none⟩ fun n_3 =>
  LDi .i64 w_5 ⟨b_1, 2, none⟩ fun n_4 =>
  CALL Pg F_slot_Frame_Head [.agg #[.int .i64 n_2, .int .i64 n_3, .int .i64 n_4]] w_5 fun v_2 w_6 =>
  INTV .i64 v_2 fun n_5 =>
  CALL Pg F_word_Of [.agg #[.int .i64 0, .int .i64 0, .int .i64 0]] w_6 fun v_3 w_7 =>
  INTV .u64 v_3 fun n_6 =>
  CALL Pg F_pmem_Memory_Store [.pointer m, .int .i64 n_5, .int .u64 n_6] w_7 fun v_4 w_8 =>
  TUPV v_4 fun cs_1 =>
  LEN cs_1 0 (
  DRAW w_8 fun w_9 =>
  LDi .i64 w_9 ⟨b_1, 0, none⟩ fun n_7 =>
  LDi .i64 w_9 ⟨b_1, 1, none⟩ fun n_8 =>
  LDi .i64 w_9 ⟨b_1, 2, none⟩ fun n_9 =>
  ((
   SEML Pg w_9 (Instr.makeSlice T_Luint64 (.int .i64 workers) (.int .i64 workers)) fun v_5 w_10 =>
   SLV v_5 fun a_1 l_1 c_1 =>
   ((
    KEEP w_10 [Fact.cell ⟨b_1, 0, none⟩ (.int .i64 n_7), Fact.cell ⟨b_1, 1, none⟩ (.int .i64 n_8), Fact.cell ⟨b_1, 2, none⟩ (.int .i64 n_9)]) ∧
    SEML Pg w_10 (Instr.makeSlice T_Lphall_Call (.int .i64 workers) (.int .i64 workers)) fun v_6 w_11 =>
    SLV v_6 fun a_2 l_2 c_2 =>
    ((
     KEEP w_11 [Fact.cell ⟨b_1, 0, none⟩ (.int .i64 n_7), Fact.cell ⟨b_1, 1, none⟩ (.int .i64 n_8), Fact.cell ⟨b_1, 2, none⟩ (.int .i64 n_9)]) ∧
     NEW w_11 [.pointer m, .int .i64 n_7, .int .i64 n_8, .int .i64 n_9, .iface ot ov, .int .i64 tries, .slice a_1 l_1 c_1, .slice a_2 l_2 c_2, .slice none 0 0] T_hall_Hall_hall_Hall fun b_2 w_12 =>
     ((
      KEEP w_12 []) ∧
      K (.pointer (some ⟨b_2, 0, none⟩)) w_12)))) ∧
   SEML Pg w_9 (Instr.makeSlice T_Lphall_Call (.int .i64 workers) (.int .i64 workers)) fun v_7 w_13 =>
   SLV v_7 fun a_3 l_3 c_3 =>
   ((
    KEEP w_13 [Fact.cell ⟨b_1, 0, none⟩ (.int .i64 n_7), Fact.cell ⟨b_1, 1, none⟩ (.int .i64 n_8), Fact.cell ⟨b_1, 2, none⟩ (.int .i64 n_9)]) ∧
    SEML Pg w_13 (Instr.makeSlice T_Luint64 (.int .i64 workers) (.int .i64 workers)) fun v_8 w_14 =>
    SLV v_8 fun a_4 l_4 c_4 =>
    ((
     KEEP w_14 [Fact.cell ⟨b_1, 0, none⟩ (.int .i64 n_7), Fact.cell ⟨b_1, 1, none⟩ (.int .i64 n_8), Fact.cell ⟨b_1, 2, none⟩ (.int .i64 n_9)]) ∧
     NEW w_14 [.pointer m, .int .i64 n_7, .int .i64 n_8, .int .i64 n_9, .iface ot ov, .int .i64 tries, .slice a_4 l_4 c_4, .slice a_3 l_3 c_3, .slice none 0 0] T_hall_Hall_hall_Hall fun b_3 w_15 =>
     ((
      KEEP w_15 []) ∧
      K (.pointer (some ⟨b_3, 0, none⟩)) w_15)))))
theorem E_hall_New (m : Option Addr) (base : Int) (workers : Int) (tries : Int) (ot : Nat) (ov : Value) (w : World) (K : Value → World → Prop) :
    D_hall_New m base workers tries ot ov w K = vcFn Pg Tryz.f19 [] [.pointer m, .int .i64 base, .int .i64 workers, .int .i64 tries, .iface ot ov] w K := by kernel_rfl
theorem C_hall_New {m : Option Addr} {base : Int} {workers : Int} {tries : Int} {ot : Nat} {ov : Value} {w : World} {K : Value → World → Prop} (h : D_hall_New m base workers tries ot ov w K) :
    CALL Pg F_hall_New [.pointer m, .int .i64 base, .int .i64 workers, .int .i64 tries, .iface ot ov] w K :=
  call_of_vc [] Tryz.func19 rfl (Nat.le_of_ble_eq_true (by kernel_rfl)) ((E_hall_New m base workers tries ot ov w K) ▸ h)
def D_live_Size (c0 : Int) (c1 : Int) (c2 : Int) (c3 : Int) (c4a : Option Addr) (c4l : Nat) (c4c : Nat) (w : World) (K : Value → World → Prop) : Prop :=
  NEW w [.int .i64 c0, .int .i64 c1, .int .i64 c2, .int .i64 c3, .slice c4a c4l c4c] T_api_Config_api_Config fun b_1 w_1 =>
  LDi .i64 w_1 ⟨b_1, 1, none⟩ fun n_1 =>
  BIND (IntKind.i64.wrap (n_1 * 64)) fun n_2 =>
  K (.int .i64 n_2) w_1
theorem E_live_Size (c0 : Int) (c1 : Int) (c2 : Int) (c3 : Int) (c4a : Option Addr) (c4l : Nat) (c4c : Nat) (w : World) (K : Value → World → Prop) :
    D_live_Size c0 c1 c2 c3 c4a c4l c4c w K = vcFn Pg Tryz.f18 [] [.agg #[.int .i64 c0, .int .i64 c1, .int .i64 c2, .int .i64 c3, .slice c4a c4l c4c]] w K := by kernel_rfl
theorem C_live_Size {c0 : Int} {c1 : Int} {c2 : Int} {c3 : Int} {c4a : Option Addr} {c4l : Nat} {c4c : Nat} {w : World} {K : Value → World → Prop} (h : D_live_Size c0 c1 c2 c3 c4a c4l c4c w K) :
    CALL Pg F_live_Size [.agg #[.int .i64 c0, .int .i64 c1, .int .i64 c2, .int .i64 c3, .slice c4a c4l c4c]] w K :=
  call_of_vc [] Tryz.func18 rfl (Nat.le_of_ble_eq_true (by kernel_rfl)) ((E_live_Size c0 c1 c2 c3 c4a c4l c4c w K) ▸ h)
def D_live_New (m : Option Addr) (base : Int) (c0 : Int) (c1 : Int) (c2 : Int) (c3 : Int) (c4a : Option Addr) (c4l : Nat) (c4c : Nat) (w : World) (K : Value → World → Prop) : Prop :=
  NEW w [.int .i64 c0, .int .i64 c1, .int .i64 c2, .int .i64 c3, .slice c4a c4l c4c] T_api_Config_api_Config fun b_1 w_1 =>
  LDi .i64 w_1 ⟨b_1, 0, none⟩ fun n_1 =>
  LDi .i64 w_1 ⟨b_1, 1, none⟩ fun n_2 =>
  LDi .i64 w_1 ⟨b_1, 2, none⟩ fun n_3 =>
  LDi .i64 w_1 ⟨b_1, 3, none⟩ fun n_4 =>
  LDl w_1 ⟨b_1, 4, none⟩ fun a_1 l_1 c_1 =>
  CALL Pg F_conf_Copy [.agg #[.int .i64 n_1, .int .i64 n_2, .int .i64 n_3, .int .i64 n_4, .slice a_1 l_1 c_1]] w_1 fun v_1 w_2 =>
  AGGV v_1 fun cs_1 =>
  GETV cs_1 0 fun v_2 =>
  INTV .i64 v_2 fun n_5 =>
  GETV cs_1 1 fun v_3 =>
  INTV .i64 v_3 fun n_6 =>
  GETV cs_1 2 fun v_4 =>
  INTV .i64 v_4 fun n_7 =>
  GETV cs_1 3 fun v_5 =>
  INTV .i64 v_5 fun n_8 =>
  GETV cs_1 4 fun v_6 =>
  SLV v_6 fun a_2 l_2 c_2 =>
  LEN cs_1 5 (
  NEW w_2 [.pointer m, .int .i64 base, .int .i64 n_5, .int .i64 n_6, .int .i64 n_7, .int .i64 n_8, .slice a_2 l_2 c_2] T_live_Table_live_Table fun b_2 w_3 =>
  K (.pointer (some ⟨b_2, 0, none⟩)) w_3)
theorem E_live_New (m : Option Addr) (base : Int) (c0 : Int) (c1 : Int) (c2 : Int) (c3 : Int) (c4a : Option Addr) (c4l : Nat) (c4c : Nat) (w : World) (K : Value → World → Prop) :
    D_live_New m base c0 c1 c2 c3 c4a c4l c4c w K = vcFn Pg Tryz.f20 [] [.pointer m, .int .i64 base, .agg #[.int .i64 c0, .int .i64 c1, .int .i64 c2, .int .i64 c3, .slice c4a c4l c4c]] w K := by kernel_rfl
theorem C_live_New {m : Option Addr} {base : Int} {c0 : Int} {c1 : Int} {c2 : Int} {c3 : Int} {c4a : Option Addr} {c4l : Nat} {c4c : Nat} {w : World} {K : Value → World → Prop} (h : D_live_New m base c0 c1 c2 c3 c4a c4l c4c w K) :
    CALL Pg F_live_New [.pointer m, .int .i64 base, .agg #[.int .i64 c0, .int .i64 c1, .int .i64 c2, .int .i64 c3, .slice c4a c4l c4c]] w K :=
  call_of_vc [] Tryz.func20 rfl (Nat.le_of_ble_eq_true (by kernel_rfl)) ((E_live_New m base c0 c1 c2 c3 c4a c4l c4c w K) ▸ h)
def D_ask_Open (c0 : Int) (c1 : Int) (c2 : Int) (c3 : Int) (c4a : Option Addr) (c4l : Nat) (c4c : Nat) (w : World) (K : Value → World → Prop) : Prop :=
  NEW w [.int .i64 c0, .int .i64 c1, .int .i64 c2, .int .i64 c3, .slice c4a c4l c4c] T_api_Config_api_Config fun b_1 w_1 =>
  LDi .i64 w_1 ⟨b_1, 0, none⟩ fun n_1 =>
  LDi .i64 w_1 ⟨b_1, 1, none⟩ fun n_2 =>
  LDi .i64 w_1 ⟨b_1, 2, none⟩ fun n_3 =>
  LDi .i64 w_1 ⟨b_1, 3, none⟩ fun n_4 =>
  LDl w_1 ⟨b_1, 4, none⟩ fun a_1 l_1 c_1 =>
  CALL Pg F_conf_Check [.agg #[.int .i64 n_1, .int .i64 n_2, .int .i64 n_3, .int .i64 n_4, .slice a_1 l_1 c_1]] w_1 fun v_1 w_2 =>
  INTV .i64 v_1 fun n_5 =>
  ITE (n_5 != 0) (
   K (.tuple #[.pointer none, .int .i64 n_5]) w_2) (
   LDi .i64 w_2 ⟨b_1, 0, none⟩ fun n_6 =>
   LDi .i64 w_2 ⟨b_1, 1, none⟩ fun n_7 =>
   LDi .i64 w_2 ⟨b_1, 2, none⟩ fun n_8 =>
   LDi .i64 w_2 ⟨b_1, 3, none⟩ fun n_9 =>
   LDl w_2 ⟨b_1, 4, none⟩ fun a_2 l_2 c_2 =>
   CALL Pg F_conf_Copy [.agg #[.int .i64 n_6, .int .i64 n_7, .int .i64 n_8, .int .i64 n_9, .slice a_2 l_2 c_2]] w_2 fun v_2 w_3 =>
   AGGV v_2 fun cs_1 =>
   GETV cs_1 0 fun v_3 =>
   INTV .i64 v_3 fun n_10 =>
   GETV cs_1 1 fun v_4 =>
   INTV .i64 v_4 fun n_11 =>
   GETV cs_1 2 fun v_5 =>
   INTV .i64 v_5 fun n_12 =>
   GETV cs_1 3 fun v_6 =>
   INTV .i64 v_6 fun n_13 =>
   GETV cs_1 4 fun v_7 =>
   SLV v_7 fun a_3 l_3 c_3 =>
   LEN cs_1 5 (
   ST1 w_3 ⟨b_1, 0, none⟩ (.int .i64 n_10) fun w_4 =>
   ST1 w_4 ⟨b_1, 1, none⟩ (.int .i64 n_11) fun w_5 =>
   ST1 w_5 ⟨b_1, 2, none⟩ (.int .i64 n_12) fun w_6 =>
   ST1 w_6 ⟨b_1, 3, none⟩ (.int .i64 n_13) fun w_7 =>
   ST1 w_7 ⟨b_1, 4, none⟩ (.slice a_3 l_3 c_3) fun w_8 =>
   LDi .i64 w_8 ⟨b_1, 0, none⟩ fun n_14 =>
   LDi .i64 w_8 ⟨b_1, 1, none⟩ fun n_15 =>
   LDi .i64 w_8 ⟨b_1, 2, none⟩ fun n_16 =>
   LDi .i64 w_8 ⟨b_1, 3, none⟩ fun n_17 =>
   LDl w_8 ⟨b_1, 4, none⟩ fun a_4 l_4 c_4 =>
   CALL Pg F_heart_New [.agg #[.int .i64 n_14, .int .i64 n_15, .int .i64 n_16, .int .i64 n_17, .slice a_4 l_4 c_4]] w_8 fun v_8 w_9 =>
   AGGV v_8 fun cs_2 =>
   GETV cs_2 0 fun v_9 =>
   INTV .i64 v_9 fun n_18 =>
   GETV cs_2 1 fun v_10 =>
   INTV .i64 v_10 fun n_19 =>
   GETV cs_2 2 fun v_11 =>
   INTV .i64 v_11 fun n_20 =>
   GETV cs_2 3 fun v_12 =>
   INTV .i64 v_12 fun n_21 =>
   GETV cs_2 4 fun v_13 =>
   SLV v_13 fun a_5 l_5 c_5 =>
   LEN cs_2 5 (
   NEW w_9 [.int .i64 0, .int .i64 0, .int .i64 0, .int .i64 0, .slice none 0 0] T_heart_Heart_heart_Heart fun b_2 w_10 =>
   ST1 w_10 ⟨b_2, 0, none⟩ (.int .i64 n_18) fun w_11 =>
   ST1 w_11 ⟨b_2, 1, none⟩ (.int .i64 n_19) fun w_12 =>
   ST1 w_12 ⟨b_2, 2, none⟩ (.int .i64 n_20) fun w_13 =>
   ST1 w_13 ⟨b_2, 3, none⟩ (.int .i64 n_21) fun w_14 =>
   ST1 w_14 ⟨b_2, 4, none⟩ (.slice a_5 l_5 c_5) fun w_15 =>
   LDi .i64 w_15 ⟨b_2, 0, none⟩ fun n_22 =>
   LDi .i64 w_15 ⟨b_2, 1, none⟩ fun n_23 =>
   LDi .i64 w_15 ⟨b_2, 2, none⟩ fun n_24 =>
   LDi .i64 w_15 ⟨b_2, 3, none⟩ fun n_25 =>
   LDl w_15 ⟨b_2, 4, none⟩ fun a_6 l_6 c_6 =>
   LDi .i64 w_15 ⟨b_1, 0, none⟩ fun n_26 =>
   CALL Pg F_hall_Size [.iface T_heart_Heart_heart_Heart (.agg #[.int .i64 n_22, .int .i64 n_23, .int .i64 n_24, .int .i64 n_25, .slice a_6 l_6 c_6]), .int .i64 n_26] w_15 fun v_14 w_16 =>
   INTV .i64 v_14 fun n_27 =>
   LDi .i64 w_16 ⟨b_1, 0, none⟩ fun n_28 =>
   LDi .i64 w_16 ⟨b_1, 1, none⟩ fun n_29 =>
   LDi .i64 w_16 ⟨b_1, 2, none⟩ fun n_30 =>
   LDi .i64 w_16 ⟨b_1, 3, none⟩ fun n_31 =>
   LDl w_16 ⟨b_1, 4, none⟩ fun a_7 l_7 c_7 =>
   CALL Pg F_live_Size [.agg #[.int .i64 n_28, .int .i64 n_29, .int .i64 n_30, .int .i64 n_31, .slice a_7 l_7 c_7]] w_16 fun v_15 w_17 =>
   INTV .i64 v_15 fun n_32 =>
   BIND (IntKind.i64.wrap (n_27 + n_32)) fun n_33 =>
   CALL Pg F_mem_New [.int .i64 n_33] w_17 fun v_16 w_18 =>
   PTRV v_16 fun q_1 =>
   DRAW w_18 fun w_19 =>
   LDi .i64 w_19 ⟨b_1, 0, none⟩ fun n_34 =>
   LDi .i64 w_19 ⟨b_1, 1, none⟩ fun n_35 =>
   LDi .i64 w_19 ⟨b_1, 2, none⟩ fun n_36 =>
   LDi .i64 w_19 ⟨b_1, 3, none⟩ fun n_37 =>
   LDl w_19 ⟨b_1, 4, none⟩ fun a_8 l_8 c_8 =>
   LDi .i64 w_19 ⟨b_1, 0, none⟩ fun n_38 =>
   LDi .i64 w_19 ⟨b_1, 3, none⟩ fun n_39 =>
   LDi .i64 w_19 ⟨b_2, 0, none⟩ fun n_40 =>
   LDi .i64 w_19 ⟨b_2, 1, none⟩ fun n_41 =>
   LDi .i64 w_19 ⟨b_2, 2, none⟩ fun n_42 =>
   LDi .i64 w_19 ⟨b_2, 3, none⟩ fun n_43 =>
   LDl w_19 ⟨b_2, 4, none⟩ fun a_9 l_9 c_9 =>
   LDi .i64 w_19 ⟨b_1, 0, none⟩ fun n_44 =>
   LDi .i64 w_19 ⟨b_1, 1, none⟩ fun n_45 =>
   LDi .i64 w_19 ⟨b_1, 2, none⟩ fun n_46 =>
   LDi .i64 w_19 ⟨b_1, 3, none⟩ fun n_47 =>
   LDl w_19 ⟨b_1, 4, none⟩ fun a_10 l_10 c_10 =>
   CALL Pg F_hall_New [.pointer q_1, .int .i64 0, .int .i64 n_38, .int .i64 n_39, .iface T_heart_Heart_heart_Heart (.agg #[.int .i64 n_40, .int .i64 n_41, .int .i64 n_42, .int .i64 n_43, .slice a_9 l_9 c_9])] w_19 fun v_17 w_20 =>
   PTRV v_17 fun q_2 =>
   ((
    KEEP w_20 [Fact.cell ⟨b_1, 0, none⟩ (.int .i64 n_34), Fact.cell ⟨b_1, 1, none⟩ (.int .i64 n_35), Fact.cell ⟨b_1, 2, none⟩ (.int .i64 n_36), Fact.cell ⟨b_1, 3, none⟩ (.int .i64 n_37), Fact.cell ⟨b_1, 4, none⟩ (.slice a_8 l_8 c_8), Fact.cell ⟨b_1, 0, none⟩ (.int .i64 n_44), Fact.cell ⟨b_1, 1, none⟩ (.int .i64 n_45), Fact.cell ⟨b_1, 2, none⟩ (.int .i64 n_46), Fact.cell ⟨b_1, 3, none⟩ (.int .i64 n_47), Fact.cell ⟨b_1, 4, none⟩ (.slice a_10 l_10 c_10)]) ∧
    CALL Pg F_live_New [.pointer q_1, .int .i64 n_27, .agg #[.int .i64 n_44, .int .i64 n_45, .int .i64 n_46, .int .i64 n_47, .slice a_10 l_10 c_10]] w_20 fun v_18 w_21 =>
    PTRV v_18 fun q_3 =>
    ((
     KEEP w_21 [Fact.cell ⟨b_1, 0, none⟩ (.int .i64 n_34), Fact.cell ⟨b_1, 1, none⟩ (.int .i64 n_35), Fact.cell ⟨b_1, 2, none⟩ (.int .i64 n_36), Fact.cell ⟨b_1, 3, none⟩ (.int .i64 n_37), Fact.cell ⟨b_1, 4, none⟩ (.slice a_8 l_8 c_8)]) ∧
     NEW w_21 [.int .i64 n_34, .int .i64 n_35, .int .i64 n_36, .int .i64 n_37, .slice a_8 l_8 c_8, .pointer q_1, .pointer q_2, .pointer q_3] T_ask_Shop_ask_Shop fun b_3 w_22 =>
     ((
      KEEP w_22 []) ∧
      K (.tuple #[.pointer (some ⟨b_3, 0, none⟩), .int .i64 0]) w_22))))))
theorem E_ask_Open (c0 : Int) (c1 : Int) (c2 : Int) (c3 : Int) (c4a : Option Addr) (c4l : Nat) (c4c : Nat) (w : World) (K : Value → World → Prop) :
    D_ask_Open c0 c1 c2 c3 c4a c4l c4c w K = vcFn Pg Tryz.f6 [] [.agg #[.int .i64 c0, .int .i64 c1, .int .i64 c2, .int .i64 c3, .slice c4a c4l c4c]] w K := by kernel_rfl
theorem C_ask_Open {c0 : Int} {c1 : Int} {c2 : Int} {c3 : Int} {c4a : Option Addr} {c4l : Nat} {c4c : Nat} {w : World} {K : Value → World → Prop} (h : D_ask_Open c0 c1 c2 c3 c4a c4l c4c w K) :
    CALL Pg F_ask_Open [.agg #[.int .i64 c0, .int .i64 c1, .int .i64 c2, .int .i64 c3, .slice c4a c4l c4c]] w K :=
  call_of_vc [] Tryz.func6 rfl (Nat.le_of_ble_eq_true (by kernel_rfl)) ((E_ask_Open c0 c1 c2 c3 c4a c4l c4c w K) ▸ h)

end Go.Proofs.YthjbakeddjkdkaaGreatDoor
