/- What the evaluator asks of each function, in readable form: printed by a program of this claim's own. -/
import Derived.Test.YtapcknlnhpafcaaN
import Derived.Test.YtapcknlnhpafcaaDen
namespace Go.Proofs.Ytapcknlnhpafcaa
open Go.Den
set_option linter.unusedVariables false
set_option maxRecDepth 1000000
def D_arena_Class (c0 : Int) (c1 : Int) (c2 : Int) (c3 : Int) (c4a : Option Addr) (c4l : Nat) (c4c : Nat) (size : Int) (w : World) (K : Value → World → Prop) : Prop :=
  NEW w [.int .i64 c0, .int .i64 c1, .int .i64 c2, .int .i64 c3, .slice c4a c4l c4c] T_api_Config_api_Config fun b_1 w_1 =>
  ITE (decide (size < 1)) (
   K (.tuple #[.int .i64 0, .bool false]) w_1) (
   LDl w_1 ⟨b_1, 4, none⟩ fun a_1 l_1 _ =>
   LOOP [.int .i64 0, .bool false, .int .i64 0] w_1 fun I_1 N_1 =>
   ∀ w_2 : World,
   ∀ v_1 : Value,
   ∀ v_2 : Value,
   ∀ v_3 : Value,
   (I_1 [v_1, v_2, v_3] w_2 →
   INTV .i64 v_3 fun n_1 =>
   BOOLV v_2 fun t_1 =>
   INTV .i64 v_1 fun n_2 =>
   ITE (decide (n_1 < (↑l_1 : Int))) (
    IDX a_1 l_1 n_1 1 fun b_2 o_1 =>
    LDi .i64 w_2 ⟨b_2, o_1, none⟩ fun n_3 =>
    ITE (decide (size ≤ n_3)) (
     K (.tuple #[.int .i64 n_1, .bool true]) w_2) (
     BIND (IntKind.i64.wrap (n_1 + 1)) fun n_4 =>
     N_1 [v_1, v_2, v_3] w_2 [.int .i64 n_2, .bool t_1, .int .i64 n_4] w_2)) (
    K (.tuple #[.int .i64 0, .bool false]) w_2)))
theorem E_arena_Class (c0 : Int) (c1 : Int) (c2 : Int) (c3 : Int) (c4a : Option Addr) (c4l : Nat) (c4c : Nat) (size : Int) (w : World) (K : Value → World → Prop) :
    D_arena_Class c0 c1 c2 c3 c4a c4l c4c size w K = vcFn Pg Try.f11 [] [.agg #[.int .i64 c0, .int .i64 c1, .int .i64 c2, .int .i64 c3, .slice c4a c4l c4c], .int .i64 size] w K := by kernel_rfl
theorem C_arena_Class {c0 : Int} {c1 : Int} {c2 : Int} {c3 : Int} {c4a : Option Addr} {c4l : Nat} {c4c : Nat} {size : Int} {w : World} {K : Value → World → Prop} (h : D_arena_Class c0 c1 c2 c3 c4a c4l c4c size w K) :
    CALL Pg F_arena_Class [.agg #[.int .i64 c0, .int .i64 c1, .int .i64 c2, .int .i64 c3, .slice c4a c4l c4c], .int .i64 size] w K :=
  call_of_vc [] Try.func11 rfl (Nat.le_of_ble_eq_true (by kernel_rfl)) ((E_arena_Class c0 c1 c2 c3 c4a c4l c4c size w K) ▸ h)
def D_arena_Most (c0 : Int) (c1 : Int) (c2 : Int) (c3 : Int) (c4a : Option Addr) (c4l : Nat) (c4c : Nat) (w : World) (K : Value → World → Prop) : Prop :=
  NEW w [.int .i64 c0, .int .i64 c1, .int .i64 c2, .int .i64 c3, .slice c4a c4l c4c] T_api_Config_api_Config fun b_1 w_1 =>
  LDi .i64 w_1 ⟨b_1, 1, none⟩ fun n_1 =>
  BIND (IntKind.i64.wrap (n_1 * 1024)) fun n_2 =>
  K (.int .i64 n_2) w_1
theorem E_arena_Most (c0 : Int) (c1 : Int) (c2 : Int) (c3 : Int) (c4a : Option Addr) (c4l : Nat) (c4c : Nat) (w : World) (K : Value → World → Prop) :
    D_arena_Most c0 c1 c2 c3 c4a c4l c4c w K = vcFn Pg Try.f15 [] [.agg #[.int .i64 c0, .int .i64 c1, .int .i64 c2, .int .i64 c3, .slice c4a c4l c4c]] w K := by kernel_rfl
theorem C_arena_Most {c0 : Int} {c1 : Int} {c2 : Int} {c3 : Int} {c4a : Option Addr} {c4l : Nat} {c4c : Nat} {w : World} {K : Value → World → Prop} (h : D_arena_Most c0 c1 c2 c3 c4a c4l c4c w K) :
    CALL Pg F_arena_Most [.agg #[.int .i64 c0, .int .i64 c1, .int .i64 c2, .int .i64 c3, .slice c4a c4l c4c]] w K :=
  call_of_vc [] Try.func15 rfl (Nat.le_of_ble_eq_true (by kernel_rfl)) ((E_arena_Most c0 c1 c2 c3 c4a c4l c4c w K) ▸ h)
def D_arena_End (c0 : Int) (c1 : Int) (c2 : Int) (c3 : Int) (c4a : Option Addr) (c4l : Nat) (c4c : Nat) (w : World) (K : Value → World → Prop) : Prop :=
  NEW w [.int .i64 c0, .int .i64 c1, .int .i64 c2, .int .i64 c3, .slice c4a c4l c4c] T_api_Config_api_Config fun b_1 w_1 =>
  LDi .i64 w_1 ⟨b_1, 0, none⟩ fun n_1 =>
  LDi .i64 w_1 ⟨b_1, 1, none⟩ fun n_2 =>
  LDi .i64 w_1 ⟨b_1, 2, none⟩ fun n_3 =>
  LDi .i64 w_1 ⟨b_1, 3, none⟩ fun n_4 =>
  LDl w_1 ⟨b_1, 4, none⟩ fun a_1 l_1 c_1 =>
  CALL Pg F_arena_Most [.agg #[.int .i64 n_1, .int .i64 n_2, .int .i64 n_3, .int .i64 n_4, .slice a_1 l_1 c_1]] w_1 fun v_1 w_2 =>
  INTV .i64 v_1 fun n_5 =>
  BIND (IntKind.i64.wrap (65536 + n_5)) fun n_6 =>
  K (.int .i64 n_6) w_2
theorem E_arena_End (c0 : Int) (c1 : Int) (c2 : Int) (c3 : Int) (c4a : Option Addr) (c4l : Nat) (c4c : Nat) (w : World) (K : Value → World → Prop) :
    D_arena_End c0 c1 c2 c3 c4a c4l c4c w K = vcFn Pg Try.f20 [] [.agg #[.int .i64 c0, .int .i64 c1, .int .i64 c2, .int .i64 c3, .slice c4a c4l c4c]] w K := by kernel_rfl
theorem C_arena_End {c0 : Int} {c1 : Int} {c2 : Int} {c3 : Int} {c4a : Option Addr} {c4l : Nat} {c4c : Nat} {w : World} {K : Value → World → Prop} (h : D_arena_End c0 c1 c2 c3 c4a c4l c4c w K) :
    CALL Pg F_arena_End [.agg #[.int .i64 c0, .int .i64 c1, .int .i64 c2, .int .i64 c3, .slice c4a c4l c4c]] w K :=
  call_of_vc [] Try.func20 rfl (Nat.le_of_ble_eq_true (by kernel_rfl)) ((E_arena_End c0 c1 c2 c3 c4a c4l c4c w K) ▸ h)
def D_arena_Run (c0 : Int) (c1 : Int) (c2 : Int) (c3 : Int) (c4a : Option Addr) (c4l : Nat) (c4c : Nat) (size : Int) (w : World) (K : Value → World → Prop) : Prop :=
  NEW w [.int .i64 c0, .int .i64 c1, .int .i64 c2, .int .i64 c3, .slice c4a c4l c4c] T_api_Config_api_Config fun b_1 w_1 =>
  LDi .i64 w_1 ⟨b_1, 0, none⟩ fun n_1 =>
  LDi .i64 w_1 ⟨b_1, 1, none⟩ fun n_2 =>
  LDi .i64 w_1 ⟨b_1, 2, none⟩ fun n_3 =>
  LDi .i64 w_1 ⟨b_1, 3, none⟩ fun n_4 =>
  LDl w_1 ⟨b_1, 4, none⟩ fun a_1 l_1 c_1 =>
  CALL Pg F_arena_Class [.agg #[.int .i64 n_1, .int .i64 n_2, .int .i64 n_3, .int .i64 n_4, .slice a_1 l_1 c_1], .int .i64 size] w_1 fun v_1 w_2 =>
  TUPV v_1 fun cs_1 =>
  GETV cs_1 0 fun v_2 =>
  INTV .i64 v_2 fun _ =>
  GETV cs_1 1 fun v_3 =>
  BOOLV v_3 fun t_1 =>
  LEN cs_1 2 (
  ITE (t_1) (
   K (.int .i64 0) w_2) (
   ITE (decide (size < 1)) (
    K (.int .i64 0) w_2) (
    LDi .i64 w_2 ⟨b_1, 0, none⟩ fun n_6 =>
    LDi .i64 w_2 ⟨b_1, 1, none⟩ fun n_7 =>
    LDi .i64 w_2 ⟨b_1, 2, none⟩ fun n_8 =>
    LDi .i64 w_2 ⟨b_1, 3, none⟩ fun n_9 =>
    LDl w_2 ⟨b_1, 4, none⟩ fun a_2 l_2 c_2 =>
    CALL Pg F_arena_Most [.agg #[.int .i64 n_6, .int .i64 n_7, .int .i64 n_8, .int .i64 n_9, .slice a_2 l_2 c_2]] w_2 fun v_4 w_3 =>
    INTV .i64 v_4 fun n_10 =>
    ITE (decide (size > n_10)) (
     K (.int .i64 0) w_3) (
     BIND (IntKind.i64.wrap (size + 1024)) fun n_11 =>
     BIND (IntKind.i64.wrap (n_11 - 1)) fun n_12 =>
     NZ 1024 (
     BIND (IntKind.i64.wrap (n_12.tdiv 1024)) fun n_13 =>
     K (.int .i64 n_13) w_3)))))
theorem E_arena_Run (c0 : Int) (c1 : Int) (c2 : Int) (c3 : Int) (c4a : Option Addr) (c4l : Nat) (c4c : Nat) (size : Int) (w : World) (K : Value → World → Prop) :
    D_arena_Run c0 c1 c2 c3 c4a c4l c4c size w K = vcFn Pg Try.f13 [] [.agg #[.int .i64 c0, .int .i64 c1, .int .i64 c2, .int .i64 c3, .slice c4a c4l c4c], .int .i64 size] w K := by kernel_rfl
theorem C_arena_Run {c0 : Int} {c1 : Int} {c2 : Int} {c3 : Int} {c4a : Option Addr} {c4l : Nat} {c4c : Nat} {size : Int} {w : World} {K : Value → World → Prop} (h : D_arena_Run c0 c1 c2 c3 c4a c4l c4c size w K) :
    CALL Pg F_arena_Run [.agg #[.int .i64 c0, .int .i64 c1, .int .i64 c2, .int .i64 c3, .slice c4a c4l c4c], .int .i64 size] w K :=
  call_of_vc [] Try.func13 rfl (Nat.le_of_ble_eq_true (by kernel_rfl)) ((E_arena_Run c0 c1 c2 c3 c4a c4l c4c size w K) ▸ h)
def D_arena_is (c0 : Int) (c1 : Int) (c2 : Int) (c3 : Int) (c4a : Option Addr) (c4l : Nat) (c4c : Nat) (class_ : Int) (w : World) (K : Value → World → Prop) : Prop :=
  NEW w [.int .i64 c0, .int .i64 c1, .int .i64 c2, .int .i64 c3, .slice c4a c4l c4c] T_api_Config_api_Config fun b_1 w_1 =>
  ITE (decide (class_ ≥ 0)) (
   LDl w_1 ⟨b_1, 4, none⟩ fun _ l_1 _ =>
   K (.bool (decide (class_ < (↑l_1 : Int)))) w_1) (
   K (.bool false) w_1)
theorem E_arena_is (c0 : Int) (c1 : Int) (c2 : Int) (c3 : Int) (c4a : Option Addr) (c4l : Nat) (c4c : Nat) (class_ : Int) (w : World) (K : Value → World → Prop) :
    D_arena_is c0 c1 c2 c3 c4a c4l c4c class_ w K = vcFn Pg Try.f27 [] [.agg #[.int .i64 c0, .int .i64 c1, .int .i64 c2, .int .i64 c3, .slice c4a c4l c4c], .int .i64 class_] w K := by kernel_rfl
theorem C_arena_is {c0 : Int} {c1 : Int} {c2 : Int} {c3 : Int} {c4a : Option Addr} {c4l : Nat} {c4c : Nat} {class_ : Int} {w : World} {K : Value → World → Prop} (h : D_arena_is c0 c1 c2 c3 c4a c4l c4c class_ w K) :
    CALL Pg F_arena_is [.agg #[.int .i64 c0, .int .i64 c1, .int .i64 c2, .int .i64 c3, .slice c4a c4l c4c], .int .i64 class_] w K :=
  call_of_vc [] Try.func27 rfl (Nat.le_of_ble_eq_true (by kernel_rfl)) ((E_arena_is c0 c1 c2 c3 c4a c4l c4c class_ w K) ▸ h)
def D_arena_Cap (c0 : Int) (c1 : Int) (c2 : Int) (c3 : Int) (c4a : Option Addr) (c4l : Nat) (c4c : Nat) (class_ : Int) (w : World) (K : Value → World → Prop) : Prop :=
  NEW w [.int .i64 c0, .int .i64 c1, .int .i64 c2, .int .i64 c3, .slice c4a c4l c4c] T_api_Config_api_Config fun b_1 w_1 =>
  LDi .i64 w_1 ⟨b_1, 0, none⟩ fun n_1 =>
  LDi .i64 w_1 ⟨b_1, 1, none⟩ fun n_2 =>
  LDi .i64 w_1 ⟨b_1, 2, none⟩ fun n_3 =>
  LDi .i64 w_1 ⟨b_1, 3, none⟩ fun n_4 =>
  LDl w_1 ⟨b_1, 4, none⟩ fun a_1 l_1 c_1 =>
  CALL Pg F_arena_is [.agg #[.int .i64 n_1, .int .i64 n_2, .int .i64 n_3, .int .i64 n_4, .slice a_1 l_1 c_1], .int .i64 class_] w_1 fun v_1 w_2 =>
  BOOLV v_1 fun t_1 =>
  ITE (!t_1) (
   K (.int .i64 0) w_2) (
   LDl w_2 ⟨b_1, 4, none⟩ fun a_2 l_2 _ =>
   IDX a_2 l_2 class_ 1 fun b_2 o_1 =>
   LDi .i64 w_2 ⟨b_2, o_1, none⟩ fun n_5 =>
   NZ n_5 (
   BIND (IntKind.i64.wrap (Int.tdiv 1024 n_5)) fun n_6 =>
   K (.int .i64 n_6) w_2))
theorem E_arena_Cap (c0 : Int) (c1 : Int) (c2 : Int) (c3 : Int) (c4a : Option Addr) (c4l : Nat) (c4c : Nat) (class_ : Int) (w : World) (K : Value → World → Prop) :
    D_arena_Cap c0 c1 c2 c3 c4a c4l c4c class_ w K = vcFn Pg Try.f16 [] [.agg #[.int .i64 c0, .int .i64 c1, .int .i64 c2, .int .i64 c3, .slice c4a c4l c4c], .int .i64 class_] w K := by kernel_rfl
theorem C_arena_Cap {c0 : Int} {c1 : Int} {c2 : Int} {c3 : Int} {c4a : Option Addr} {c4l : Nat} {c4c : Nat} {class_ : Int} {w : World} {K : Value → World → Prop} (h : D_arena_Cap c0 c1 c2 c3 c4a c4l c4c class_ w K) :
    CALL Pg F_arena_Cap [.agg #[.int .i64 c0, .int .i64 c1, .int .i64 c2, .int .i64 c3, .slice c4a c4l c4c], .int .i64 class_] w K :=
  call_of_vc [] Try.func16 rfl (Nat.le_of_ble_eq_true (by kernel_rfl)) ((E_arena_Cap c0 c1 c2 c3 c4a c4l c4c class_ w K) ▸ h)
def D_arena_All (c0 : Int) (c1 : Int) (c2 : Int) (c3 : Int) (c4a : Option Addr) (c4l : Nat) (c4c : Nat) (class_ : Int) (w : World) (K : Value → World → Prop) : Prop :=
  NEW w [.int .i64 c0, .int .i64 c1, .int .i64 c2, .int .i64 c3, .slice c4a c4l c4c] T_api_Config_api_Config fun b_1 w_1 =>
  LDi .i64 w_1 ⟨b_1, 0, none⟩ fun n_1 =>
  LDi .i64 w_1 ⟨b_1, 1, none⟩ fun n_2 =>
  LDi .i64 w_1 ⟨b_1, 2, none⟩ fun n_3 =>
  LDi .i64 w_1 ⟨b_1, 3, none⟩ fun n_4 =>
  LDl w_1 ⟨b_1, 4, none⟩ fun a_1 l_1 c_1 =>
  CALL Pg F_arena_Cap [.agg #[.int .i64 n_1, .int .i64 n_2, .int .i64 n_3, .int .i64 n_4, .slice a_1 l_1 c_1], .int .i64 class_] w_1 fun v_1 w_2 =>
  INTV .i64 v_1 fun n_5 =>
  CALL Pg F_mask_Low [.int .i64 n_5] w_2 fun v_2 w_3 =>
  INTV .u64 v_2 fun n_6 =>
  K (.int .u64 n_6) w_3
theorem E_arena_All (c0 : Int) (c1 : Int) (c2 : Int) (c3 : Int) (c4a : Option Addr) (c4l : Nat) (c4c : Nat) (class_ : Int) (w : World) (K : Value → World → Prop) :
    D_arena_All c0 c1 c2 c3 c4a c4l c4c class_ w K = vcFn Pg Try.f24 [] [.agg #[.int .i64 c0, .int .i64 c1, .int .i64 c2, .int .i64 c3, .slice c4a c4l c4c], .int .i64 class_] w K := by kernel_rfl
theorem C_arena_All {c0 : Int} {c1 : Int} {c2 : Int} {c3 : Int} {c4a : Option Addr} {c4l : Nat} {c4c : Nat} {class_ : Int} {w : World} {K : Value → World → Prop} (h : D_arena_All c0 c1 c2 c3 c4a c4l c4c class_ w K) :
    CALL Pg F_arena_All [.agg #[.int .i64 c0, .int .i64 c1, .int .i64 c2, .int .i64 c3, .slice c4a c4l c4c], .int .i64 class_] w K :=
  call_of_vc [] Try.func24 rfl (Nat.le_of_ble_eq_true (by kernel_rfl)) ((E_arena_All c0 c1 c2 c3 c4a c4l c4c class_ w K) ▸ h)
def D_arena_Address (c0 : Int) (c1 : Int) (c2 : Int) (c3 : Int) (c4a : Option Addr) (c4l : Nat) (c4c : Nat) (class_ : Int) (b0 : Int) (b1 : Int) (w : World) (K : Value → World → Prop) : Prop :=
  NEW w [.int .i64 c0, .int .i64 c1, .int .i64 c2, .int .i64 c3, .slice c4a c4l c4c] T_api_Config_api_Config fun b_1 w_1 =>
  NEW w_1 [.int .i64 b0, .int .i64 b1] T_api_Block_api_Block fun b_2 w_2 =>
  DRAW w_2 fun w_3 =>
  LDi .i64 w_3 ⟨b_2, 0, none⟩ fun n_1 =>
  ITE (decide (n_1 < 0)) (
   K (.int .i64 0) w_3) (
   LDi .i64 w_3 ⟨b_2, 0, none⟩ fun n_2 =>
   LDi .i64 w_3 ⟨b_1, 1, none⟩ fun n_3 =>
   ITE (decide (n_2 ≥ n_3)) (
    K (.int .i64 0) w_3) (
    LDi .i64 w_3 ⟨b_2, 1, none⟩ fun n_4 =>
    ITE (decide (n_4 < 0)) (
     K (.int .i64 0) w_3) (
     LDi .i64 w_3 ⟨b_2, 1, none⟩ fun n_5 =>
     LDi .i64 w_3 ⟨b_1, 0, none⟩ fun n_6 =>
     LDi .i64 w_3 ⟨b_1, 1, none⟩ fun n_7 =>
     LDi .i64 w_3 ⟨b_1, 2, none⟩ fun n_8 =>
     LDi .i64 w_3 ⟨b_1, 3, none⟩ fun n_9 =>
     LDl w_3 ⟨b_1, 4, none⟩ fun a_1 l_1 c_1 =>
     CALL Pg F_arena_Cap [.agg #[.int .i64 n_6, .int .i64 n_7, .int .i64 n_8, .int .i64 n_9, .slice a_1 l_1 c_1], .int .i64 class_] w_3 fun v_1 w_4 =>
     INTV .i64 v_1 fun n_10 =>
     ((
      KEEP w_4 [Fact.cell ⟨b_2, 1, none⟩ (.int .i64 n_5)]) ∧
      ITE (decide (n_5 ≥ n_10)) (
       K (.int .i64 0) w_4) (
       DRAW w_4 fun w_5 =>
       LDi .i64 w_5 ⟨b_2, 0, none⟩ fun n_11 =>
       BIND (IntKind.i64.wrap (n_11 * 1024)) fun n_12 =>
       BIND (IntKind.i64.wrap (65536 + n_12)) fun n_13 =>
       LDi .i64 w_5 ⟨b_2, 1, none⟩ fun n_14 =>
       LDl w_5 ⟨b_1, 4, none⟩ fun a_2 l_2 _ =>
       IDX a_2 l_2 class_ 1 fun b_3 o_1 =>
       LDi .i64 w_5 ⟨b_3, o_1, none⟩ fun n_15 =>
       BIND (IntKind.i64.wrap (n_14 * n_15)) fun n_16 =>
       BIND (IntKind.i64.wrap (n_13 + n_16)) fun n_17 =>
       K (.int .i64 n_17) w_5)))))
theorem E_arena_Address (c0 : Int) (c1 : Int) (c2 : Int) (c3 : Int) (c4a : Option Addr) (c4l : Nat) (c4c : Nat) (class_ : Int) (b0 : Int) (b1 : Int) (w : World) (K : Value → World → Prop) :
    D_arena_Address c0 c1 c2 c3 c4a c4l c4c class_ b0 b1 w K = vcFn Pg Try.f17 [] [.agg #[.int .i64 c0, .int .i64 c1, .int .i64 c2, .int .i64 c3, .slice c4a c4l c4c], .int .i64 class_, .agg #[.int .i64 b0, .int .i64 b1]] w K := by kernel_rfl
theorem C_arena_Address {c0 : Int} {c1 : Int} {c2 : Int} {c3 : Int} {c4a : Option Addr} {c4l : Nat} {c4c : Nat} {class_ : Int} {b0 : Int} {b1 : Int} {w : World} {K : Value → World → Prop} (h : D_arena_Address c0 c1 c2 c3 c4a c4l c4c class_ b0 b1 w K) :
    CALL Pg F_arena_Address [.agg #[.int .i64 c0, .int .i64 c1, .int .i64 c2, .int .i64 c3, .slice c4a c4l c4c], .int .i64 class_, .agg #[.int .i64 b0, .int .i64 b1]] w K :=
  call_of_vc [] Try.func17 rfl (Nat.le_of_ble_eq_true (by kernel_rfl)) ((E_arena_Address c0 c1 c2 c3 c4a c4l c4c class_ b0 b1 w K) ▸ h)
def D_arena_Place (c0 : Int) (c1 : Int) (c2 : Int) (c3 : Int) (c4a : Option Addr) (c4l : Nat) (c4c : Nat) (at_ : Int) (w : World) (K : Value → World → Prop) : Prop :=
  NEW w [.int .i64 c0, .int .i64 c1, .int .i64 c2, .int .i64 c3, .slice c4a c4l c4c] T_api_Config_api_Config fun b_1 w_1 =>
  ITE (decide (at_ < 65536)) (
   K (.tuple #[.int .i64 0, .int .i64 0, .bool false]) w_1) (
   LDi .i64 w_1 ⟨b_1, 0, none⟩ fun n_1 =>
   LDi .i64 w_1 ⟨b_1, 1, none⟩ fun n_2 =>
   LDi .i64 w_1 ⟨b_1, 2, none⟩ fun n_3 =>
   LDi .i64 w_1 ⟨b_1, 3, none⟩ fun n_4 =>
   LDl w_1 ⟨b_1, 4, none⟩ fun a_1 l_1 c_1 =>
   CALL Pg F_arena_End [.agg #[.int .i64 n_1, .int .i64 n_2, .int .i64 n_3, .int .i64 n_4, .slice a_1 l_1 c_1]] w_1 fun v_1 w_2 =>
   INTV .i64 v_1 fun n_5 =>
   ITE (decide (at_ ≥ n_5)) (
    K (.tuple #[.int .i64 0, .int .i64 0, .bool false]) w_2) (
    NZ 16 (
    BIND (at_.tmod 16) fun n_6 =>
    ITE (n_6 != 0) (
     K (.tuple #[.int .i64 0, .int .i64 0, .bool false]) w_2) (
     BIND (IntKind.i64.wrap (at_ - 65536)) fun n_7 =>
     NZ 16 (
     BIND (IntKind.i64.wrap (n_7.tdiv 16)) fun n_8 =>
     NZ 64 (
     BIND (IntKind.i64.wrap (n_8.tdiv 64)) fun n_9 =>
     NZ 64 (
     BIND (n_8.tmod 64) fun n_10 =>
     K (.tuple #[.int .i64 n_9, .int .i64 n_10, .bool true]) w_2)))))))
theorem E_arena_Place (c0 : Int) (c1 : Int) (c2 : Int) (c3 : Int) (c4a : Option Addr) (c4l : Nat) (c4c : Nat) (at_ : Int) (w : World) (K : Value → World → Prop) :
    D_arena_Place c0 c1 c2 c3 c4a c4l c4c at_ w K = vcFn Pg Try.f19 [] [.agg #[.int .i64 c0, .int .i64 c1, .int .i64 c2, .int .i64 c3, .slice c4a c4l c4c], .int .i64 at_] w K := by kernel_rfl
theorem C_arena_Place {c0 : Int} {c1 : Int} {c2 : Int} {c3 : Int} {c4a : Option Addr} {c4l : Nat} {c4c : Nat} {at_ : Int} {w : World} {K : Value → World → Prop} (h : D_arena_Place c0 c1 c2 c3 c4a c4l c4c at_ w K) :
    CALL Pg F_arena_Place [.agg #[.int .i64 c0, .int .i64 c1, .int .i64 c2, .int .i64 c3, .slice c4a c4l c4c], .int .i64 at_] w K :=
  call_of_vc [] Try.func19 rfl (Nat.le_of_ble_eq_true (by kernel_rfl)) ((E_arena_Place c0 c1 c2 c3 c4a c4l c4c at_ w K) ▸ h)
def D_arena_Block (c0 : Int) (c1 : Int) (c2 : Int) (c3 : Int) (c4a : Option Addr) (c4l : Nat) (c4c : Nat) (class_ : Int) (at_ : Int) (w : World) (K : Value → World → Prop) : Prop :=
  NEW w [.int .i64 c0, .int .i64 c1, .int .i64 c2, .int .i64 c3, .slice c4a c4l c4c] T_api_Config_api_Config fun b_1 w_1 =>
  NEW w_1 [.int .i64 0, .int .i64 0] T_api_Block_api_Block fun b_2 w_2 =>
  LDi .i64 w_2 ⟨b_1, 0, none⟩ fun n_1 =>
  LDi .i64 w_2 ⟨b_1, 1, none⟩ fun n_2 =>
  LDi .i64 w_2 ⟨b_1, 2, none⟩ fun n_3 =>
  LDi .i64 w_2 ⟨b_1, 3, none⟩ fun n_4 =>
  LDl w_2 ⟨b_1, 4, none⟩ fun a_1 l_1 c_1 =>
  CALL Pg F_arena_Place [.agg #[.int .i64 n_1, .int .i64 n_2, .int .i64 n_3, .int .i64 n_4, .slice a_1 l_1 c_1], .int .i64 at_] w_2 fun v_1 w_3 =>
  TUPV v_1 fun cs_1 =>
  GETV cs_1 0 fun v_2 =>
  INTV .i64 v_2 fun n_5 =>
  GETV cs_1 1 fun v_3 =>
  INTV .i64 v_3 fun n_6 =>
  GETV cs_1 2 fun v_4 =>
  BOOLV v_4 fun t_1 =>
  LEN cs_1 3 (
  ITE (!t_1) (
   ST1 w_3 ⟨b_2, 0, none⟩ (.int .i64 0) fun w_4 =>
   ST1 w_4 ⟨b_2, 1, none⟩ (.int .i64 0) fun w_5 =>
   LDi .i64 w_5 ⟨b_2, 0, none⟩ fun n_7 =>
   LDi .i64 w_5 ⟨b_2, 1, none⟩ fun n_8 =>
   K (.tuple #[.agg #[.int .i64 n_7, .int .i64 n_8], .bool false]) w_5) (
   LDi .i64 w_3 ⟨b_1, 0, none⟩ fun n_9 =>
   LDi .i64 w_3 ⟨b_1, 1, none⟩ fun n_10 =>
   LDi .i64 w_3 ⟨b_1, 2, none⟩ fun n_11 =>
   LDi .i64 w_3 ⟨b_1, 3, none⟩ fun n_12 =>
   LDl w_3 ⟨b_1, 4, none⟩ fun a_2 l_2 c_2 =>
   CALL Pg F_arena_is [.agg #[.int .i64 n_9, .int .i64 n_10, .int .i64 n_11, .int .i64 n_12, .slice a_2 l_2 c_2], .int .i64 class_] w_3 fun v_5 w_6 =>
   BOOLV v_5 fun t_2 =>
   ITE (!t_2) (
    ST1 w_6 ⟨b_2, 0, none⟩ (.int .i64 0) fun w_7 =>
    ST1 w_7 ⟨b_2, 1, none⟩ (.int .i64 0) fun w_8 =>
    LDi .i64 w_8 ⟨b_2, 0, none⟩ fun n_13 =>
    LDi .i64 w_8 ⟨b_2, 1, none⟩ fun n_14 =>
    K (.tuple #[.agg #[.int .i64 n_13, .int .i64 n_14], .bool false]) w_8) (
    BIND (IntKind.i64.wrap (n_6 * 16)) fun n_15 =>
    LDl w_6 ⟨b_1, 4, none⟩ fun a_3 l_3 _ =>
    IDX a_3 l_3 class_ 1 fun b_3 o_1 =>
    LDi .i64 w_6 ⟨b_3, o_1, none⟩ fun n_16 =>
    NZ n_16 (
    BIND (n_15.tmod n_16) fun n_17 =>
    ITE (n_17 != 0) (
     ST1 w_6 ⟨b_2, 0, none⟩ (.int .i64 0) fun w_9 =>
     ST1 w_9 ⟨b_2, 1, none⟩ (.int .i64 0) fun w_10 =>
     LDi .i64 w_10 ⟨b_2, 0, none⟩ fun n_18 =>
     LDi .i64 w_10 ⟨b_2, 1, none⟩ fun n_19 =>
     K (.tuple #[.agg #[.int .i64 n_18, .int .i64 n_19], .bool false]) w_10) (
     BIND (IntKind.i64.wrap (n_6 * 16)) fun n_20 =>
     LDl w_6 ⟨b_1, 4, none⟩ fun a_4 l_4 _ =>
     IDX a_4 l_4 class_ 1 fun b_4 o_2 =>
     LDi .i64 w_6 ⟨b_4, o_2, none⟩ fun n_21 =>
     NZ n_21 (
     BIND (IntKind.i64.wrap (n_20.tdiv n_21)) fun n_22 =>
     NEW w_6 [.int .i64 0, .int .i64 0] T_api_Block_api_Block fun b_5 w_11 =>
     ST1 w_11 ⟨b_5, 0, none⟩ (.int .i64 n_5) fun w_12 =>
     ST1 w_12 ⟨b_5, 1, none⟩ (.int .i64 n_22) fun w_13 =>
     DRAW w_13 fun w_14 =>
     LDi .i64 w_14 ⟨b_5, 1, none⟩ fun n_23 =>
     LDi .i64 w_14 ⟨b_1, 0, none⟩ fun n_24 =>
     LDi .i64 w_14 ⟨b_1, 1, none⟩ fun n_25 =>
     LDi .i64 w_14 ⟨b_1, 2, none⟩ fun n_26 =>
     LDi .i64 w_14 ⟨b_1, 3, none⟩ fun n_27 =>
     LDl w_14 ⟨b_1, 4, none⟩ fun a_5 l_5 c_5 =>
     CALL Pg F_arena_Cap [.agg #[.int .i64 n_24, .int .i64 n_25, .int .i64 n_26, .int .i64 n_27, .slice a_5 l_5 c_5], .int .i64 class_] w_14 fun v_6 w_15 =>
     INTV .i64 v_6 fun n_28 =>
     ((
      KEEP w_15 [Fact.cell ⟨b_5, 1, none⟩ (.int .i64 n_23)]) ∧
      ITE (decide (n_23 ≥ n_28)) (
       ST1 w_15 ⟨b_2, 0, none⟩ (.int .i64 0) fun w_16 =>
       ST1 w_16 ⟨b_2, 1, none⟩ (.int .i64 0) fun w_17 =>
       LDi .i64 w_17 ⟨b_2, 0, none⟩ fun n_29 =>
       LDi .i64 w_17 ⟨b_2, 1, none⟩ fun n_30 =>
       K (.tuple #[.agg #[.int .i64 n_29, .int .i64 n_30], .bool false]) w_17) (
       LDi .i64 w_15 ⟨b_5, 0, none⟩ fun n_31 =>
       LDi .i64 w_15 ⟨b_5, 1, none⟩ fun n_32 =>
       ST1 w_15 ⟨b_2, 0, none⟩ (.int .i64 n_31) fun w_18 =>
       ST1 w_18 ⟨b_2, 1, none⟩ (.int .i64 n_32) fun w_19 =>
       LDi .i64 w_19 ⟨b_2, 0, none⟩ fun n_33 =>
       LDi .i64 w_19 ⟨b_2, 1, none⟩ fun n_34 =>
       K (.tuple #[.agg #[.int .i64 n_33, .int .i64 n_34], .bool true]) w_19))))))))
theorem E_arena_Block (c0 : Int) (c1 : Int) (c2 : Int) (c3 : Int) (c4a : Option Addr) (c4l : Nat) (c4c : Nat) (class_ : Int) (at_ : Int) (w : World) (K : Value → World → Prop) :
    D_arena_Block c0 c1 c2 c3 c4a c4l c4c class_ at_ w K = vcFn Pg Try.f18 [] [.agg #[.int .i64 c0, .int .i64 c1, .int .i64 c2, .int .i64 c3, .slice c4a c4l c4c], .int .i64 class_, .int .i64 at_] w K := by kernel_rfl
theorem C_arena_Block {c0 : Int} {c1 : Int} {c2 : Int} {c3 : Int} {c4a : Option Addr} {c4l : Nat} {c4c : Nat} {class_ : Int} {at_ : Int} {w : World} {K : Value → World → Prop} (h : D_arena_Block c0 c1 c2 c3 c4a c4l c4c class_ at_ w K) :
    CALL Pg F_arena_Block [.agg #[.int .i64 c0, .int .i64 c1, .int .i64 c2, .int .i64 c3, .slice c4a c4l c4c], .int .i64 class_, .int .i64 at_] w K :=
  call_of_vc [] Try.func18 rfl (Nat.le_of_ble_eq_true (by kernel_rfl)) ((E_arena_Block c0 c1 c2 c3 c4a c4l c4c class_ at_ w K) ▸ h)
def D_mask_Low (n : Int) (w : World) (K : Value → World → Prop) : Prop :=
  ITE (decide (n ≤ 0)) (
   K (.int .u64 0) w) (
   ITE (decide (n ≥ 64)) (
    K (.int .u64 18446744073709551615) w) (
    BIND (IntKind.u64.wrap n) fun n_1 =>
    GE0 n_1 (
    BIND (shI BinOp.shl IntKind.u64 1 n_1) fun n_2 =>
    BIND (IntKind.u64.wrap (n_2 - 1)) fun n_3 =>
    K (.int .u64 n_3) w)))
theorem E_mask_Low (n : Int) (w : World) (K : Value → World → Prop) :
    D_mask_Low n w K = vcFn Pg Try.f28 [] [.int .i64 n] w K := by kernel_rfl
theorem C_mask_Low {n : Int} {w : World} {K : Value → World → Prop} (h : D_mask_Low n w K) :
    CALL Pg F_mask_Low [.int .i64 n] w K :=
  call_of_vc [] Try.func28 rfl (Nat.le_of_ble_eq_true (by kernel_rfl)) ((E_mask_Low n w K) ▸ h)
def D_r04_May (c0 : Int) (c1 : Int) (c2 : Int) (c3 : Int) (c4a : Option Addr) (c4l : Nat) (c4c : Nat) (w : World) (K : Value → World → Prop) : Prop :=
  NEW w [.int .i64 c0, .int .i64 c1, .int .i64 c2, .int .i64 c3, .slice c4a c4l c4c] T_api_Config_api_Config fun b_1 w_1 =>
  JOIN fun J_1 =>
  ((
   LDi .i64 w_1 ⟨b_1, 0, none⟩ fun n_1 =>
   ITE (decide (n_1 ≥ 1)) (
    LDi .i64 w_1 ⟨b_1, 0, none⟩ fun n_2 =>
    ITE (decide (n_2 ≤ 64)) (
     LDi .i64 w_1 ⟨b_1, 1, none⟩ fun n_3 =>
     ITE (decide (n_3 ≥ 1)) (
      LDi .i64 w_1 ⟨b_1, 1, none⟩ fun n_4 =>
      ITE (decide (n_4 ≤ 64)) (
       LDi .i64 w_1 ⟨b_1, 2, none⟩ fun n_5 =>
       ITE (decide (n_5 ≥ 1)) (
        LDi .i64 w_1 ⟨b_1, 2, none⟩ fun n_6 =>
        ITE (decide (n_6 ≤ 64)) (
         LDi .i64 w_1 ⟨b_1, 3, none⟩ fun n_7 =>
         ITE (decide (n_7 ≥ 0)) (
          LDi .i64 w_1 ⟨b_1, 3, none⟩ fun n_8 =>
          J_1 [.bool (decide (n_8 ≤ 8))] w_1) (
          J_1 [.bool false] w_1)) (
         J_1 [.bool false] w_1)) (
        J_1 [.bool false] w_1)) (
       J_1 [.bool false] w_1)) (
      J_1 [.bool false] w_1)) (
     J_1 [.bool false] w_1)) (
    J_1 [.bool false] w_1)) ∧
   ∀ w_2 : World,
   ∀ v_1 : Value,
   (J_1 [v_1] w_2 →
   BOOLV v_1 fun t_1 =>
   JOIN fun J_2 =>
   ((
    ITE (t_1) (
     LDl w_2 ⟨b_1, 4, none⟩ fun _ l_1 _ =>
     ITE (decide ((↑l_1 : Int) ≥ 1)) (
      LDl w_2 ⟨b_1, 4, none⟩ fun _ l_2 _ =>
      J_2 [.bool (decide ((↑l_2 : Int) ≤ 16))] w_2) (
      J_2 [.bool false] w_2)) (
     J_2 [.bool false] w_2)) ∧
    ∀ w_3 : World,
    ∀ v_2 : Value,
    (J_2 [v_2] w_3 →
    BOOLV v_2 fun t_2 =>
    LOOP [.bool t_2, .int .i64 0] w_3 fun I_1 N_1 =>
    ∀ w_4 : World,
    ∀ v_3 : Value,
    ∀ v_4 : Value,
    (I_1 [v_3, v_4] w_4 →
    INTV .i64 v_4 fun n_9 =>
    BOOLV v_3 fun t_3 =>
    LDl w_4 ⟨b_1, 4, none⟩ fun _ l_3 _ =>
    ITE (decide (n_9 < (↑l_3 : Int))) (
     LDl w_4 ⟨b_1, 4, none⟩ fun a_4 l_4 _ =>
     IDX a_4 l_4 n_9 1 fun b_2 o_1 =>
     LDi .i64 w_4 ⟨b_2, o_1, none⟩ fun n_10 =>
     ITE (t_3) (
      ITE (decide (n_10 ≥ 16)) (
       ITE (decide (n_10 ≤ 512)) (
        NZ 16 (
        BIND (n_10.tmod 16) fun n_11 =>
        ITE (n_11 == 0) (
         ITE (n_9 == 0) (
          BIND (IntKind.i64.wrap (n_9 + 1)) fun n_12 =>
          N_1 [v_3, v_4] w_4 [.bool true, .int .i64 n_12] w_4) (
          LDl w_4 ⟨b_1, 4, none⟩ fun a_5 l_5 _ =>
          BIND (IntKind.i64.wrap (n_9 - 1)) fun n_13 =>
          IDX a_5 l_5 n_13 1 fun b_3 o_2 =>
          LDi .i64 w_4 ⟨b_3, o_2, none⟩ fun n_14 =>
          BIND (IntKind.i64.wrap (n_9 + 1)) fun n_15 =>
          N_1 [v_3, v_4] w_4 [.bool (decide (n_14 < n_10)), .int .i64 n_15] w_4)) (
         BIND (IntKind.i64.wrap (n_9 + 1)) fun n_16 =>
         N_1 [v_3, v_4] w_4 [.bool false, .int .i64 n_16] w_4))) (
        BIND (IntKind.i64.wrap (n_9 + 1)) fun n_17 =>
        N_1 [v_3, v_4] w_4 [.bool false, .int .i64 n_17] w_4)) (
       BIND (IntKind.i64.wrap (n_9 + 1)) fun n_18 =>
       N_1 [v_3, v_4] w_4 [.bool false, .int .i64 n_18] w_4)) (
      BIND (IntKind.i64.wrap (n_9 + 1)) fun n_19 =>
      N_1 [v_3, v_4] w_4 [.bool false, .int .i64 n_19] w_4)) (
     K (.bool t_3) w_4))))))
theorem E_r04_May (c0 : Int) (c1 : Int) (c2 : Int) (c3 : Int) (c4a : Option Addr) (c4l : Nat) (c4c : Nat) (w : World) (K : Value → World → Prop) :
    D_r04_May c0 c1 c2 c3 c4a c4l c4c w K = vcFn Pg Try.f10 [1, 2] [.agg #[.int .i64 c0, .int .i64 c1, .int .i64 c2, .int .i64 c3, .slice c4a c4l c4c]] w K := by kernel_rfl
theorem C_r04_May {c0 : Int} {c1 : Int} {c2 : Int} {c3 : Int} {c4a : Option Addr} {c4l : Nat} {c4c : Nat} {w : World} {K : Value → World → Prop} (h : D_r04_May c0 c1 c2 c3 c4a c4l c4c w K) :
    CALL Pg F_r04_May [.agg #[.int .i64 c0, .int .i64 c1, .int .i64 c2, .int .i64 c3, .slice c4a c4l c4c]] w K :=
  call_of_vc [1, 2] Try.func10 rfl (Nat.le_of_ble_eq_true (by kernel_rfl)) ((E_r04_May c0 c1 c2 c3 c4a c4l c4c w K) ▸ h)
def D_r05_Class (c0 : Int) (c1 : Int) (c2 : Int) (c3 : Int) (c4a : Option Addr) (c4l : Nat) (c4c : Nat) (size : Int) (w : World) (K : Value → World → Prop) : Prop :=
  NEW w [.int .i64 c0, .int .i64 c1, .int .i64 c2, .int .i64 c3, .slice c4a c4l c4c] T_api_Config_api_Config fun b_1 w_1 =>
  LDl w_1 ⟨b_1, 4, none⟩ fun _ l_1 _ =>
  BIND (IntKind.i64.wrap ((↑l_1 : Int) - 1)) fun n_1 =>
  LOOP [.int .i64 (-1), .int .i64 n_1] w_1 fun I_1 N_1 =>
  ∀ w_2 : World,
  ∀ v_1 : Value,
  ∀ v_2 : Value,
  (I_1 [v_1, v_2] w_2 →
  INTV .i64 v_2 fun n_2 =>
  INTV .i64 v_1 fun n_3 =>
  ITE (decide (n_2 ≥ 0)) (
   ITE (decide (size ≥ 1)) (
    LDl w_2 ⟨b_1, 4, none⟩ fun a_2 l_2 _ =>
    IDX a_2 l_2 n_2 1 fun b_2 o_1 =>
    LDi .i64 w_2 ⟨b_2, o_1, none⟩ fun n_4 =>
    ITE (decide (size ≤ n_4)) (
     BIND (IntKind.i64.wrap (n_2 - 1)) fun n_5 =>
     N_1 [v_1, v_2] w_2 [.int .i64 n_2, .int .i64 n_5] w_2) (
     BIND (IntKind.i64.wrap (n_2 - 1)) fun n_6 =>
     N_1 [v_1, v_2] w_2 [.int .i64 n_3, .int .i64 n_6] w_2)) (
    BIND (IntKind.i64.wrap (n_2 - 1)) fun n_7 =>
    N_1 [v_1, v_2] w_2 [.int .i64 n_3, .int .i64 n_7] w_2)) (
   K (.int .i64 n_3) w_2))
theorem E_r05_Class (c0 : Int) (c1 : Int) (c2 : Int) (c3 : Int) (c4a : Option Addr) (c4l : Nat) (c4c : Nat) (size : Int) (w : World) (K : Value → World → Prop) :
    D_r05_Class c0 c1 c2 c3 c4a c4l c4c size w K = vcFn Pg Try.f12 [] [.agg #[.int .i64 c0, .int .i64 c1, .int .i64 c2, .int .i64 c3, .slice c4a c4l c4c], .int .i64 size] w K := by kernel_rfl
theorem C_r05_Class {c0 : Int} {c1 : Int} {c2 : Int} {c3 : Int} {c4a : Option Addr} {c4l : Nat} {c4c : Nat} {size : Int} {w : World} {K : Value → World → Prop} (h : D_r05_Class c0 c1 c2 c3 c4a c4l c4c size w K) :
    CALL Pg F_r05_Class [.agg #[.int .i64 c0, .int .i64 c1, .int .i64 c2, .int .i64 c3, .slice c4a c4l c4c], .int .i64 size] w K :=
  call_of_vc [] Try.func12 rfl (Nat.le_of_ble_eq_true (by kernel_rfl)) ((E_r05_Class c0 c1 c2 c3 c4a c4l c4c size w K) ▸ h)
def D_r05_Run (c0 : Int) (c1 : Int) (c2 : Int) (c3 : Int) (c4a : Option Addr) (c4l : Nat) (c4c : Nat) (size : Int) (w : World) (K : Value → World → Prop) : Prop :=
  NEW w [.int .i64 c0, .int .i64 c1, .int .i64 c2, .int .i64 c3, .slice c4a c4l c4c] T_api_Config_api_Config fun b_1 w_1 =>
  ITE (decide (size < 1)) (
   K (.int .i64 0) w_1) (
   LDi .i64 w_1 ⟨b_1, 0, none⟩ fun n_1 =>
   LDi .i64 w_1 ⟨b_1, 1, none⟩ fun n_2 =>
   LDi .i64 w_1 ⟨b_1, 2, none⟩ fun n_3 =>
   LDi .i64 w_1 ⟨b_1, 3, none⟩ fun n_4 =>
   LDl w_1 ⟨b_1, 4, none⟩ fun a_1 l_1 c_1 =>
   CALL Pg F_r05_Class [.agg #[.int .i64 n_1, .int .i64 n_2, .int .i64 n_3, .int .i64 n_4, .slice a_1 l_1 c_1], .int .i64 size] w_1 fun v_1 w_2 =>
   INTV .i64 v_1 fun n_5 =>
   ITE (decide (n_5 ≥ 0)) (
    K (.int .i64 0) w_2) (
    LOOP [.int .i64 0, .int .i64 1] w_2 fun I_1 N_1 =>
    ∀ w_3 : World,
    ∀ v_2 : Value,
    ∀ v_3 : Value,
    (I_1 [v_2, v_3] w_3 →
    INTV .i64 v_3 fun n_6 =>
    INTV .i64 v_2 fun n_7 =>
    LDi .i64 w_3 ⟨b_1, 1, none⟩ fun n_8 =>
    ITE (decide (n_6 ≤ n_8)) (
     BIND (IntKind.i64.wrap (1024 * n_6)) fun n_9 =>
     ITE (decide (size ≤ n_9)) (
      K (.int .i64 n_6) w_3) (
      BIND (IntKind.i64.wrap (n_6 + 1)) fun n_10 =>
      N_1 [v_2, v_3] w_3 [.int .i64 n_7, .int .i64 n_10] w_3)) (
     K (.int .i64 0) w_3))))
theorem E_r05_Run (c0 : Int) (c1 : Int) (c2 : Int) (c3 : Int) (c4a : Option Addr) (c4l : Nat) (c4c : Nat) (size : Int) (w : World) (K : Value → World → Prop) :
    D_r05_Run c0 c1 c2 c3 c4a c4l c4c size w K = vcFn Pg Try.f14 [] [.agg #[.int .i64 c0, .int .i64 c1, .int .i64 c2, .int .i64 c3, .slice c4a c4l c4c], .int .i64 size] w K := by kernel_rfl
theorem C_r05_Run {c0 : Int} {c1 : Int} {c2 : Int} {c3 : Int} {c4a : Option Addr} {c4l : Nat} {c4c : Nat} {size : Int} {w : World} {K : Value → World → Prop} (h : D_r05_Run c0 c1 c2 c3 c4a c4l c4c size w K) :
    CALL Pg F_r05_Run [.agg #[.int .i64 c0, .int .i64 c1, .int .i64 c2, .int .i64 c3, .slice c4a c4l c4c], .int .i64 size] w K :=
  call_of_vc [] Try.func14 rfl (Nat.le_of_ble_eq_true (by kernel_rfl)) ((E_r05_Run c0 c1 c2 c3 c4a c4l c4c size w K) ▸ h)
def D_r05_Cap (c0 : Int) (c1 : Int) (c2 : Int) (c3 : Int) (c4a : Option Addr) (c4l : Nat) (c4c : Nat) (class_ : Int) (w : World) (K : Value → World → Prop) : Prop :=
  NEW w [.int .i64 c0, .int .i64 c1, .int .i64 c2, .int .i64 c3, .slice c4a c4l c4c] T_api_Config_api_Config fun b_1 w_1 =>
  ITE (decide (class_ < 0)) (
   K (.int .i64 0) w_1) (
   LDl w_1 ⟨b_1, 4, none⟩ fun _ l_1 _ =>
   ITE (decide (class_ ≥ (↑l_1 : Int))) (
    K (.int .i64 0) w_1) (
    LDl w_1 ⟨b_1, 4, none⟩ fun a_2 l_2 _ =>
    IDX a_2 l_2 class_ 1 fun b_2 o_1 =>
    LDi .i64 w_1 ⟨b_2, o_1, none⟩ fun n_1 =>
    LOOP [.int .i64 0, .int .i64 n_1] w_1 fun I_1 N_1 =>
    ∀ w_2 : World,
    ∀ v_1 : Value,
    ∀ v_2 : Value,
    (I_1 [v_1, v_2] w_2 →
    INTV .i64 v_2 fun n_2 =>
    INTV .i64 v_1 fun n_3 =>
    ITE (decide (n_2 ≤ 1024)) (
     BIND (IntKind.i64.wrap (n_3 + 1)) fun n_4 =>
     LDl w_2 ⟨b_1, 4, none⟩ fun a_3 l_3 _ =>
     IDX a_3 l_3 class_ 1 fun b_3 o_2 =>
     LDi .i64 w_2 ⟨b_3, o_2, none⟩ fun n_5 =>
     BIND (IntKind.i64.wrap (n_2 + n_5)) fun n_6 =>
     N_1 [v_1, v_2] w_2 [.int .i64 n_4, .int .i64 n_6] w_2) (
     K (.int .i64 n_3) w_2))))
theorem E_r05_Cap (c0 : Int) (c1 : Int) (c2 : Int) (c3 : Int) (c4a : Option Addr) (c4l : Nat) (c4c : Nat) (class_ : Int) (w : World) (K : Value → World → Prop) :
    D_r05_Cap c0 c1 c2 c3 c4a c4l c4c class_ w K = vcFn Pg Try.f22 [] [.agg #[.int .i64 c0, .int .i64 c1, .int .i64 c2, .int .i64 c3, .slice c4a c4l c4c], .int .i64 class_] w K := by kernel_rfl
theorem C_r05_Cap {c0 : Int} {c1 : Int} {c2 : Int} {c3 : Int} {c4a : Option Addr} {c4l : Nat} {c4c : Nat} {class_ : Int} {w : World} {K : Value → World → Prop} (h : D_r05_Cap c0 c1 c2 c3 c4a c4l c4c class_ w K) :
    CALL Pg F_r05_Cap [.agg #[.int .i64 c0, .int .i64 c1, .int .i64 c2, .int .i64 c3, .slice c4a c4l c4c], .int .i64 class_] w K :=
  call_of_vc [] Try.func22 rfl (Nat.le_of_ble_eq_true (by kernel_rfl)) ((E_r05_Cap c0 c1 c2 c3 c4a c4l c4c class_ w K) ▸ h)
def D_r05_Address (c0 : Int) (c1 : Int) (c2 : Int) (c3 : Int) (c4a : Option Addr) (c4l : Nat) (c4c : Nat) (class_ : Int) (b0 : Int) (b1 : Int) (w : World) (K : Value → World → Prop) : Prop :=
  NEW w [.int .i64 c0, .int .i64 c1, .int .i64 c2, .int .i64 c3, .slice c4a c4l c4c] T_api_Config_api_Config fun b_1 w_1 =>
  NEW w_1 [.int .i64 b0, .int .i64 b1] T_api_Block_api_Block fun b_2 w_2 =>
  DRAW w_2 fun w_3 =>
  LDi .i64 w_3 ⟨b_2, 0, none⟩ fun n_1 =>
  ITE (decide (n_1 < 0)) (
   K (.int .i64 0) w_3) (
   LDi .i64 w_3 ⟨b_2, 0, none⟩ fun n_2 =>
   LDi .i64 w_3 ⟨b_1, 1, none⟩ fun n_3 =>
   ITE (decide (n_2 ≥ n_3)) (
    K (.int .i64 0) w_3) (
    LDi .i64 w_3 ⟨b_2, 1, none⟩ fun n_4 =>
    ITE (decide (n_4 < 0)) (
     K (.int .i64 0) w_3) (
     LDi .i64 w_3 ⟨b_2, 1, none⟩ fun n_5 =>
     LDi .i64 w_3 ⟨b_1, 0, none⟩ fun n_6 =>
     LDi .i64 w_3 ⟨b_1, 1, none⟩ fun n_7 =>
     LDi .i64 w_3 ⟨b_1, 2, none⟩ fun n_8 =>
     LDi .i64 w_3 ⟨b_1, 3, none⟩ fun n_9 =>
     LDl w_3 ⟨b_1, 4, none⟩ fun a_1 l_1 c_1 =>
     CALL Pg F_r05_Cap [.agg #[.int .i64 n_6, .int .i64 n_7, .int .i64 n_8, .int .i64 n_9, .slice a_1 l_1 c_1], .int .i64 class_] w_3 fun v_1 w_4 =>
     INTV .i64 v_1 fun n_10 =>
     ((
      KEEP w_4 [Fact.cell ⟨b_2, 1, none⟩ (.int .i64 n_5)]) ∧
      ITE (decide (n_5 ≥ n_10)) (
       K (.int .i64 0) w_4) (
       DRAW w_4 fun w_5 =>
       LDi .i64 w_5 ⟨b_2, 0, none⟩ fun n_11 =>
       BIND (IntKind.i64.wrap (1024 * n_11)) fun n_12 =>
       BIND (IntKind.i64.wrap (65536 + n_12)) fun n_13 =>
       LDl w_5 ⟨b_1, 4, none⟩ fun a_2 l_2 _ =>
       IDX a_2 l_2 class_ 1 fun b_3 o_1 =>
       LDi .i64 w_5 ⟨b_3, o_1, none⟩ fun n_14 =>
       LDi .i64 w_5 ⟨b_2, 1, none⟩ fun n_15 =>
       BIND (IntKind.i64.wrap (n_14 * n_15)) fun n_16 =>
       BIND (IntKind.i64.wrap (n_13 + n_16)) fun n_17 =>
       K (.int .i64 n_17) w_5)))))
theorem E_r05_Address (c0 : Int) (c1 : Int) (c2 : Int) (c3 : Int) (c4a : Option Addr) (c4l : Nat) (c4c : Nat) (class_ : Int) (b0 : Int) (b1 : Int) (w : World) (K : Value → World → Prop) :
    D_r05_Address c0 c1 c2 c3 c4a c4l c4c class_ b0 b1 w K = vcFn Pg Try.f23 [] [.agg #[.int .i64 c0, .int .i64 c1, .int .i64 c2, .int .i64 c3, .slice c4a c4l c4c], .int .i64 class_, .agg #[.int .i64 b0, .int .i64 b1]] w K := by kernel_rfl
theorem C_r05_Address {c0 : Int} {c1 : Int} {c2 : Int} {c3 : Int} {c4a : Option Addr} {c4l : Nat} {c4c : Nat} {class_ : Int} {b0 : Int} {b1 : Int} {w : World} {K : Value → World → Prop} (h : D_r05_Address c0 c1 c2 c3 c4a c4l c4c class_ b0 b1 w K) :
    CALL Pg F_r05_Address [.agg #[.int .i64 c0, .int .i64 c1, .int .i64 c2, .int .i64 c3, .slice c4a c4l c4c], .int .i64 class_, .agg #[.int .i64 b0, .int .i64 b1]] w K :=
  call_of_vc [] Try.func23 rfl (Nat.le_of_ble_eq_true (by kernel_rfl)) ((E_r05_Address c0 c1 c2 c3 c4a c4l c4c class_ b0 b1 w K) ▸ h)
def D_r05_Block (c0 : Int) (c1 : Int) (c2 : Int) (c3 : Int) (c4a : Option Addr) (c4l : Nat) (c4c : Nat) (class_ : Int) (at_ : Int) (w : World) (K : Value → World → Prop) : Prop :=
  NEW w [.int .i64 c0, .int .i64 c1, .int .i64 c2, .int .i64 c3, .slice c4a c4l c4c] T_api_Config_api_Config fun b_1 w_1 =>
  NEW w_1 [.int .i64 0, .int .i64 0] T_api_Block_api_Block fun b_2 w_2 =>
  LOOP [.bool false, .int .i64 0] w_2 fun I_1 N_1 =>
  ∀ w_3 : World,
  ∀ v_1 : Value,
  ∀ v_2 : Value,
  (I_1 [v_1, v_2] w_3 →
  INTV .i64 v_2 fun n_1 =>
  BOOLV v_1 fun t_1 =>
  LDi .i64 w_3 ⟨b_1, 1, none⟩ fun n_2 =>
  ITE (decide (n_1 < n_2)) (
   LOOP [.bool t_1, .int .i64 0] w_3 fun I_2 N_2 =>
   ∀ w_4 : World,
   ∀ v_3 : Value,
   ∀ v_4 : Value,
   (I_2 [v_3, v_4] w_4 →
   INTV .i64 v_4 fun n_3 =>
   BOOLV v_3 fun t_2 =>
   LDi .i64 w_4 ⟨b_1, 0, none⟩ fun n_4 =>
   LDi .i64 w_4 ⟨b_1, 1, none⟩ fun n_5 =>
   LDi .i64 w_4 ⟨b_1, 2, none⟩ fun n_6 =>
   LDi .i64 w_4 ⟨b_1, 3, none⟩ fun n_7 =>
   LDl w_4 ⟨b_1, 4, none⟩ fun a_1 l_1 c_1 =>
   CALL Pg F_r05_Cap [.agg #[.int .i64 n_4, .int .i64 n_5, .int .i64 n_6, .int .i64 n_7, .slice a_1 l_1 c_1], .int .i64 class_] w_4 fun v_5 w_5 =>
   INTV .i64 v_5 fun n_8 =>
   ITE (decide (n_3 < n_8)) (
    NEW w_5 [.int .i64 0, .int .i64 0] T_api_Block_api_Block fun b_3 w_6 =>
    ST1 w_6 ⟨b_3, 0, none⟩ (.int .i64 n_1) fun w_7 =>
    ST1 w_7 ⟨b_3, 1, none⟩ (.int .i64 n_3) fun w_8 =>
    LDi .i64 w_8 ⟨b_1, 0, none⟩ fun n_9 =>
    LDi .i64 w_8 ⟨b_1, 1, none⟩ fun n_10 =>
    LDi .i64 w_8 ⟨b_1, 2, none⟩ fun n_11 =>
    LDi .i64 w_8 ⟨b_1, 3, none⟩ fun n_12 =>
    LDl w_8 ⟨b_1, 4, none⟩ fun a_2 l_2 c_2 =>
    LDi .i64 w_8 ⟨b_3, 0, none⟩ fun n_13 =>
    LDi .i64 w_8 ⟨b_3, 1, none⟩ fun n_14 =>
    CALL Pg F_r05_Address [.agg #[.int .i64 n_9, .int .i64 n_10, .int .i64 n_11, .int .i64 n_12, .slice a_2 l_2 c_2], .int .i64 class_, .agg #[.int .i64 n_13, .int .i64 n_14]] w_8 fun v_6 w_9 =>
    INTV .i64 v_6 fun n_15 =>
    ITE (n_15 == at_) (
     LDi .i64 w_9 ⟨b_3, 0, none⟩ fun n_16 =>
     LDi .i64 w_9 ⟨b_3, 1, none⟩ fun n_17 =>
     ST1 w_9 ⟨b_2, 0, none⟩ (.int .i64 n_16) fun w_10 =>
     ST1 w_10 ⟨b_2, 1, none⟩ (.int .i64 n_17) fun w_11 =>
     LDi .i64 w_11 ⟨b_2, 0, none⟩ fun n_18 =>
     LDi .i64 w_11 ⟨b_2, 1, none⟩ fun n_19 =>
     K (.tuple #[.agg #[.int .i64 n_18, .int .i64 n_19], .bool true]) w_11) (
     BIND (IntKind.i64.wrap (n_3 + 1)) fun n_20 =>
     N_2 [v_3, v_4] w_4 [.bool t_2, .int .i64 n_20] w_9)) (
    BIND (IntKind.i64.wrap (n_1 + 1)) fun n_21 =>
    N_1 [v_1, v_2] w_3 [.bool t_2, .int .i64 n_21] w_5))) (
   ST1 w_3 ⟨b_2, 0, none⟩ (.int .i64 0) fun w_12 =>
   ST1 w_12 ⟨b_2, 1, none⟩ (.int .i64 0) fun w_13 =>
   LDi .i64 w_13 ⟨b_2, 0, none⟩ fun n_22 =>
   LDi .i64 w_13 ⟨b_2, 1, none⟩ fun n_23 =>
   K (.tuple #[.agg #[.int .i64 n_22, .int .i64 n_23], .bool false]) w_13))
theorem E_r05_Block (c0 : Int) (c1 : Int) (c2 : Int) (c3 : Int) (c4a : Option Addr) (c4l : Nat) (c4c : Nat) (class_ : Int) (at_ : Int) (w : World) (K : Value → World → Prop) :
    D_r05_Block c0 c1 c2 c3 c4a c4l c4c class_ at_ w K = vcFn Pg Try.f21 [] [.agg #[.int .i64 c0, .int .i64 c1, .int .i64 c2, .int .i64 c3, .slice c4a c4l c4c], .int .i64 class_, .int .i64 at_] w K := by kernel_rfl
theorem C_r05_Block {c0 : Int} {c1 : Int} {c2 : Int} {c3 : Int} {c4a : Option Addr} {c4l : Nat} {c4c : Nat} {class_ : Int} {at_ : Int} {w : World} {K : Value → World → Prop} (h : D_r05_Block c0 c1 c2 c3 c4a c4l c4c class_ at_ w K) :
    CALL Pg F_r05_Block [.agg #[.int .i64 c0, .int .i64 c1, .int .i64 c2, .int .i64 c3, .slice c4a c4l c4c], .int .i64 class_, .int .i64 at_] w K :=
  call_of_vc [] Try.func21 rfl (Nat.le_of_ble_eq_true (by kernel_rfl)) ((E_r05_Block c0 c1 c2 c3 c4a c4l c4c class_ at_ w K) ▸ h)
def D_r02_Low (n : Int) (w : World) (K : Value → World → Prop) : Prop :=
  CALL Pg F_r02_Least [.int .u64 18446744073709551615, .int .i64 n] w fun v_1 w_1 =>
  INTV .u64 v_1 fun n_1 =>
  K (.int .u64 n_1) w_1
theorem E_r02_Low (n : Int) (w : World) (K : Value → World → Prop) :
    D_r02_Low n w K = vcFn Pg Try.f25 [] [.int .i64 n] w K := by kernel_rfl
theorem C_r02_Low {n : Int} {w : World} {K : Value → World → Prop} (h : D_r02_Low n w K) :
    CALL Pg F_r02_Low [.int .i64 n] w K :=
  call_of_vc [] Try.func25 rfl (Nat.le_of_ble_eq_true (by kernel_rfl)) ((E_r02_Low n w K) ▸ h)
def D_r02_Least (m : Int) (n : Int) (w : World) (K : Value → World → Prop) : Prop :=
  CALL Pg F_r02_List [.int .u64 m] w fun v_1 w_1 =>
  SLV v_1 fun a_1 l_1 c_1 =>
  ITE (decide (n < 0)) (
   ITE (decide (0 < (↑l_1 : Int))) (
    SILX Pg w_1 (Instr.sliceAt T_Lint (.slice a_1 l_1 c_1) none (some (.int .i64 0)) none) fun v_2 _ =>
    SLV v_2 fun a_2 l_2 c_2 =>
    CALL Pg F_r02_Of [.slice a_2 l_2 c_2] w_1 fun v_3 w_2 =>
    INTV .u64 v_3 fun n_1 =>
    K (.int .u64 n_1) w_2) (
    CALL Pg F_r02_Of [.slice a_1 l_1 c_1] w_1 fun v_4 w_3 =>
    INTV .u64 v_4 fun n_2 =>
    K (.int .u64 n_2) w_3)) (
   ITE (decide (n < (↑l_1 : Int))) (
    SILX Pg w_1 (Instr.sliceAt T_Lint (.slice a_1 l_1 c_1) none (some (.int .i64 n)) none) fun v_5 _ =>
    SLV v_5 fun a_3 l_3 c_3 =>
    CALL Pg F_r02_Of [.slice a_3 l_3 c_3] w_1 fun v_6 w_4 =>
    INTV .u64 v_6 fun n_3 =>
    K (.int .u64 n_3) w_4) (
    CALL Pg F_r02_Of [.slice a_1 l_1 c_1] w_1 fun v_7 w_5 =>
    INTV .u64 v_7 fun n_4 =>
    K (.int .u64 n_4) w_5))
theorem E_r02_Least (m : Int) (n : Int) (w : World) (K : Value → World → Prop) :
    D_r02_Least m n w K = vcFn Pg Try.f29 [] [.int .u64 m, .int .i64 n] w K := by kernel_rfl
theorem C_r02_Least {m : Int} {n : Int} {w : World} {K : Value → World → Prop} (h : D_r02_Least m n w K) :
    CALL Pg F_r02_Least [.int .u64 m, .int .i64 n] w K :=
  call_of_vc [] Try.func29 rfl (Nat.le_of_ble_eq_true (by kernel_rfl)) ((E_r02_Least m n w K) ▸ h)
def D_r02_List (m : Int) (w : World) (K : Value → World → Prop) : Prop :=
  NEW w [] T_int fun b_1 w_1 =>
  LOOP [.slice (some ⟨b_1, 0, none⟩) 0 0, .int .i64 0] w_1 fun I_1 N_1 =>
  ∀ w_2 : World,
  ∀ v_1 : Value,
  ∀ v_2 : Value,
  (I_1 [v_1, v_2] w_2 →
  INTV .i64 v_2 fun n_1 =>
  SLV v_1 fun a_1 l_1 c_1 =>
  ITE (decide (n_1 < 64)) (
   CALL Pg F_r02_Has [.int .u64 m, .int .i64 n_1] w_2 fun v_3 w_3 =>
   BOOLV v_3 fun t_1 =>
   ITE (t_1) (
    NEW w_3 [.int .i64 n_1] T_int fun b_2 w_4 =>
    SEML Pg w_4 (Builtin.append_ #[T_Lint, T_Lint] T_Lint #[.slice a_1 l_1 c_1, .slice (some ⟨b_2, 0, none⟩) 1 1]) fun v_4 w_5 =>
    SLV v_4 fun a_2 l_2 c_2 =>
    BIND (IntKind.i64.wrap (n_1 + 1)) fun n_2 =>
    N_1 [v_1, v_2] w_2 [.slice a_2 l_2 c_2, .int .i64 n_2] w_5) (
    BIND (IntKind.i64.wrap (n_1 + 1)) fun n_3 =>
    N_1 [v_1, v_2] w_2 [.slice a_1 l_1 c_1, .int .i64 n_3] w_3)) (
   K (.slice a_1 l_1 c_1) w_2))
theorem E_r02_List (m : Int) (w : World) (K : Value → World → Prop) :
    D_r02_List m w K = vcFn Pg Try.f30 [] [.int .u64 m] w K := by kernel_rfl
theorem C_r02_List {m : Int} {w : World} {K : Value → World → Prop} (h : D_r02_List m w K) :
    CALL Pg F_r02_List [.int .u64 m] w K :=
  call_of_vc [] Try.func30 rfl (Nat.le_of_ble_eq_true (by kernel_rfl)) ((E_r02_List m w K) ▸ h)
def D_r02_Of (la : Option Addr) (ll : Nat) (lc : Nat) (w : World) (K : Value → World → Prop) : Prop :=
  LOOP [.int .u64 0, .int .i64 0] w fun I_1 N_1 =>
  ∀ w_1 : World,
  ∀ v_1 : Value,
  ∀ v_2 : Value,
  (I_1 [v_1, v_2] w_1 →
  INTV .i64 v_2 fun n_1 =>
  INTV .u64 v_1 fun n_2 =>
  ITE (decide (n_1 < (↑ll : Int))) (
   IDX la ll n_1 1 fun b_1 o_1 =>
   LDi .i64 w_1 ⟨b_1, o_1, none⟩ fun n_3 =>
   ITE (decide (n_3 ≥ 0)) (
    IDX la ll n_1 1 fun b_2 o_2 =>
    LDi .i64 w_1 ⟨b_2, o_2, none⟩ fun n_4 =>
    ITE (decide (n_4 ≤ 63)) (
     IDX la ll n_1 1 fun b_3 o_3 =>
     LDi .i64 w_1 ⟨b_3, o_3, none⟩ fun n_5 =>
     CALL Pg F_r02_Has [.int .u64 n_2, .int .i64 n_5] w_1 fun v_3 w_2 =>
     BOOLV v_3 fun t_1 =>
     ITE (!t_1) (
      IDX la ll n_1 1 fun b_4 o_4 =>
      LDi .i64 w_2 ⟨b_4, o_4, none⟩ fun n_6 =>
      CALL Pg F_r01_Power [.int .i64 n_6] w_2 fun v_4 w_3 =>
      INTV .u64 v_4 fun n_7 =>
      BIND (IntKind.u64.wrap (n_2 + n_7)) fun n_8 =>
      BIND (IntKind.i64.wrap (n_1 + 1)) fun n_9 =>
      N_1 [v_1, v_2] w_1 [.int .u64 n_8, .int .i64 n_9] w_3) (
      BIND (IntKind.i64.wrap (n_1 + 1)) fun n_10 =>
      N_1 [v_1, v_2] w_1 [.int .u64 n_2, .int .i64 n_10] w_2)) (
     BIND (IntKind.i64.wrap (n_1 + 1)) fun n_11 =>
     N_1 [v_1, v_2] w_1 [.int .u64 n_2, .int .i64 n_11] w_1)) (
    BIND (IntKind.i64.wrap (n_1 + 1)) fun n_12 =>
    N_1 [v_1, v_2] w_1 [.int .u64 n_2, .int .i64 n_12] w_1)) (
   K (.int .u64 n_2) w_1))
theorem E_r02_Of (la : Option Addr) (ll : Nat) (lc : Nat) (w : World) (K : Value → World → Prop) :
    D_r02_Of la ll lc w K = vcFn Pg Try.f31 [] [.slice la ll lc] w K := by kernel_rfl
theorem C_r02_Of {la : Option Addr} {ll : Nat} {lc : Nat} {w : World} {K : Value → World → Prop} (h : D_r02_Of la ll lc w K) :
    CALL Pg F_r02_Of [.slice la ll lc] w K :=
  call_of_vc [] Try.func31 rfl (Nat.le_of_ble_eq_true (by kernel_rfl)) ((E_r02_Of la ll lc w K) ▸ h)
def D_r02_Has (m : Int) (n : Int) (w : World) (K : Value → World → Prop) : Prop :=
  ITE (decide (n ≥ 0)) (
   ITE (decide (n ≤ 63)) (
    CALL Pg F_r01_Bit [.int .u64 m, .int .i64 n] w fun v_1 w_1 =>
    BOOLV v_1 fun t_1 =>
    K (.bool t_1) w_1) (
    K (.bool false) w)) (
   K (.bool false) w)
theorem E_r02_Has (m : Int) (n : Int) (w : World) (K : Value → World → Prop) :
    D_r02_Has m n w K = vcFn Pg Try.f32 [] [.int .u64 m, .int .i64 n] w K := by kernel_rfl
theorem C_r02_Has {m : Int} {n : Int} {w : World} {K : Value → World → Prop} (h : D_r02_Has m n w K) :
    CALL Pg F_r02_Has [.int .u64 m, .int .i64 n] w K :=
  call_of_vc [] Try.func32 rfl (Nat.le_of_ble_eq_true (by kernel_rfl)) ((E_r02_Has m n w K) ▸ h)
def D_r01_Power (n : Int) (w : World) (K : Value → World → Prop) : Prop :=
  LOOP [.int .u64 1, .int .i64 0] w fun I_1 N_1 =>
  ∀ w_1 : World,
  ∀ v_1 : Value,
  ∀ v_2 : Value,
  (I_1 [v_1, v_2] w_1 →
  INTV .i64 v_2 fun n_1 =>
  INTV .u64 v_1 fun n_2 =>
  ITE (decide (n_1 < n)) (
   BIND (IntKind.u64.wrap (n_2 * 2)) fun n_3 =>
   BIND (IntKind.i64.wrap (n_1 + 1)) fun n_4 =>
   N_1 [v_1, v_2] w_1 [.int .u64 n_3, .int .i64 n_4] w_1) (
   K (.int .u64 n_2) w_1))
theorem E_r01_Power (n : Int) (w : World) (K : Value → World → Prop) :
    D_r01_Power n w K = vcFn Pg Try.f33 [] [.int .i64 n] w K := by kernel_rfl
theorem C_r01_Power {n : Int} {w : World} {K : Value → World → Prop} (h : D_r01_Power n w K) :
    CALL Pg F_r01_Power [.int .i64 n] w K :=
  call_of_vc [] Try.func33 rfl (Nat.le_of_ble_eq_true (by kernel_rfl)) ((E_r01_Power n w K) ▸ h)
def D_r01_Bit (w_ : Int) (n : Int) (w : World) (K : Value → World → Prop) : Prop :=
  LOOP [.int .u64 w_, .int .i64 0] w fun I_1 N_1 =>
  ∀ w_1 : World,
  ∀ v_1 : Value,
  ∀ v_2 : Value,
  (I_1 [v_1, v_2] w_1 →
  INTV .i64 v_2 fun n_1 =>
  INTV .u64 v_1 fun n_2 =>
  ITE (decide (n_1 < n)) (
   NZ 2 (
   BIND (IntKind.u64.wrap (n_2.tdiv 2)) fun n_3 =>
   BIND (IntKind.i64.wrap (n_1 + 1)) fun n_4 =>
   N_1 [v_1, v_2] w_1 [.int .u64 n_3, .int .i64 n_4] w_1)) (
   NZ 2 (
   BIND (n_2.tmod 2) fun n_5 =>
   K (.bool (n_5 == 1)) w_1)))
theorem E_r01_Bit (w_ : Int) (n : Int) (w : World) (K : Value → World → Prop) :
    D_r01_Bit w_ n w K = vcFn Pg Try.f34 [] [.int .u64 w_, .int .i64 n] w K := by kernel_rfl
theorem C_r01_Bit {w_ : Int} {n : Int} {w : World} {K : Value → World → Prop} (h : D_r01_Bit w_ n w K) :
    CALL Pg F_r01_Bit [.int .u64 w_, .int .i64 n] w K :=
  call_of_vc [] Try.func34 rfl (Nat.le_of_ble_eq_true (by kernel_rfl)) ((E_r01_Bit w_ n w K) ▸ h)
def D_mask_Mask_Has (m : Int) (n : Int) (w : World) (K : Value → World → Prop) : Prop :=
  ITE (decide (n ≥ 0)) (
   ITE (decide (n < 64)) (
    BIND (IntKind.u64.wrap n) fun n_1 =>
    GE0 n_1 (
    BIND (shI BinOp.shr IntKind.u64 m n_1) fun n_2 =>
    BIND (bitI BinOp.and IntKind.u64 n_2 1) fun n_3 =>
    K (.bool (n_3 == 1)) w)) (
    K (.bool false) w)) (
   K (.bool false) w)
theorem E_mask_Mask_Has (m : Int) (n : Int) (w : World) (K : Value → World → Prop) :
    D_mask_Mask_Has m n w K = vcFn Pg Try.f26 [] [.int .u64 m, .int .i64 n] w K := by kernel_rfl
theorem C_mask_Mask_Has {m : Int} {n : Int} {w : World} {K : Value → World → Prop} (h : D_mask_Mask_Has m n w K) :
    CALL Pg F_mask_Mask_Has [.int .u64 m, .int .i64 n] w K :=
  call_of_vc [] Try.func26 rfl (Nat.le_of_ble_eq_true (by kernel_rfl)) ((E_mask_Mask_Has m n w K) ▸ h)
def D_l05_speaks (w : World) (K : Value → World → Prop) : Prop :=
  NEW w [.int .i64 16, .int .i64 64] T_int fun b_1 w_1 =>
  NEW w_1 [.int .i64 0, .int .i64 0, .int .i64 0, .int .i64 0, .slice none 0 0] T_api_Config_api_Config fun b_2 w_2 =>
  ST1 w_2 ⟨b_2, 0, none⟩ (.int .i64 1) fun w_3 =>
  ST1 w_3 ⟨b_2, 1, none⟩ (.int .i64 2) fun w_4 =>
  ST1 w_4 ⟨b_2, 2, none⟩ (.int .i64 1) fun w_5 =>
  ST1 w_5 ⟨b_2, 3, none⟩ (.int .i64 0) fun w_6 =>
  ST1 w_6 ⟨b_2, 4, none⟩ (.slice (some ⟨b_1, 0, none⟩) 2 2) fun w_7 =>
  LDi .i64 w_7 ⟨b_2, 0, none⟩ fun n_1 =>
  LDi .i64 w_7 ⟨b_2, 1, none⟩ fun n_2 =>
  LDi .i64 w_7 ⟨b_2, 2, none⟩ fun n_3 =>
  LDi .i64 w_7 ⟨b_2, 3, none⟩ fun n_4 =>
  LDl w_7 ⟨b_2, 4, none⟩ fun a_1 l_1 c_1 =>
  CALL Pg F_arena_Class [.agg #[.int .i64 n_1, .int .i64 n_2, .int .i64 n_3, .int .i64 n_4, .slice a_1 l_1 c_1], .int .i64 17] w_7 fun v_1 w_8 =>
  TUPV v_1 fun cs_1 =>
  GETV cs_1 0 fun v_2 =>
  INTV .i64 v_2 fun n_5 =>
  GETV cs_1 1 fun v_3 =>
  BOOLV v_3 fun t_1 =>
  LEN cs_1 2 (
  LDi .i64 w_8 ⟨b_2, 0, none⟩ fun n_6 =>
  LDi .i64 w_8 ⟨b_2, 1, none⟩ fun n_7 =>
  LDi .i64 w_8 ⟨b_2, 2, none⟩ fun n_8 =>
  LDi .i64 w_8 ⟨b_2, 3, none⟩ fun n_9 =>
  LDl w_8 ⟨b_2, 4, none⟩ fun a_2 l_2 c_2 =>
  CALL Pg F_arena_Block [.agg #[.int .i64 n_6, .int .i64 n_7, .int .i64 n_8, .int .i64 n_9, .slice a_2 l_2 c_2], .int .i64 1, .int .i64 66688] w_8 fun v_4 w_9 =>
  TUPV v_4 fun cs_2 =>
  GETV cs_2 0 fun v_5 =>
  AGGV v_5 fun cs_3 =>
  GETV cs_3 0 fun v_6 =>
  INTV .i64 v_6 fun n_10 =>
  GETV cs_3 1 fun v_7 =>
  INTV .i64 v_7 fun n_11 =>
  LEN cs_3 2 (
  GETV cs_2 1 fun v_8 =>
  BOOLV v_8 fun t_2 =>
  LEN cs_2 2 (
  NEW w_9 [.int .i64 0, .int .i64 0] T_api_Block_api_Block fun b_3 w_10 =>
  ST1 w_10 ⟨b_3, 0, none⟩ (.int .i64 n_10) fun w_11 =>
  ST1 w_11 ⟨b_3, 1, none⟩ (.int .i64 n_11) fun w_12 =>
  ITE (n_5 == 1) (
   ITE (t_1) (
    LDi .i64 w_12 ⟨b_2, 0, none⟩ fun n_12 =>
    LDi .i64 w_12 ⟨b_2, 1, none⟩ fun n_13 =>
    LDi .i64 w_12 ⟨b_2, 2, none⟩ fun n_14 =>
    LDi .i64 w_12 ⟨b_2, 3, none⟩ fun n_15 =>
    LDl w_12 ⟨b_2, 4, none⟩ fun a_3 l_3 c_3 =>
    CALL Pg F_arena_Address [.agg #[.int .i64 n_12, .int .i64 n_13, .int .i64 n_14, .int .i64 n_15, .slice a_3 l_3 c_3], .int .i64 1, .agg #[.int .i64 1, .int .i64 2]] w_12 fun v_9 w_13 =>
    INTV .i64 v_9 fun n_16 =>
    ITE (n_16 == 66688) (
     ITE (t_2) (
      LDi .i64 w_13 ⟨b_3, 0, none⟩ fun n_17 =>
      LDi .i64 w_13 ⟨b_3, 1, none⟩ fun n_18 =>
      ITE (n_17 == 1 && (n_18 == 2 && true)) (
       LDi .i64 w_13 ⟨b_2, 0, none⟩ fun n_19 =>
       LDi .i64 w_13 ⟨b_2, 1, none⟩ fun n_20 =>
       LDi .i64 w_13 ⟨b_2, 2, none⟩ fun n_21 =>
       LDi .i64 w_13 ⟨b_2, 3, none⟩ fun n_22 =>
       LDl w_13 ⟨b_2, 4, none⟩ fun a_4 l_4 c_4 =>
       CALL Pg F_arena_Most [.agg #[.int .i64 n_19, .int .i64 n_20, .int .i64 n_21, .int .i64 n_22, .slice a_4 l_4 c_4]] w_13 fun v_10 w_14 =>
       INTV .i64 v_10 fun n_23 =>
       ITE (n_23 == 2048) (
        LDi .i64 w_14 ⟨b_2, 0, none⟩ fun n_24 =>
        LDi .i64 w_14 ⟨b_2, 1, none⟩ fun n_25 =>
        LDi .i64 w_14 ⟨b_2, 2, none⟩ fun n_26 =>
        LDi .i64 w_14 ⟨b_2, 3, none⟩ fun n_27 =>
        LDl w_14 ⟨b_2, 4, none⟩ fun a_5 l_5 c_5 =>
        CALL Pg F_arena_End [.agg #[.int .i64 n_24, .int .i64 n_25, .int .i64 n_26, .int .i64 n_27, .slice a_5 l_5 c_5]] w_14 fun v_11 w_15 =>
        INTV .i64 v_11 fun n_28 =>
        ITE (n_28 == 67584) (
         LDi .i64 w_15 ⟨b_2, 0, none⟩ fun n_29 =>
         LDi .i64 w_15 ⟨b_2, 1, none⟩ fun n_30 =>
         LDi .i64 w_15 ⟨b_2, 2, none⟩ fun n_31 =>
         LDi .i64 w_15 ⟨b_2, 3, none⟩ fun n_32 =>
         LDl w_15 ⟨b_2, 4, none⟩ fun a_6 l_6 c_6 =>
         CALL Pg F_arena_Run [.agg #[.int .i64 n_29, .int .i64 n_30, .int .i64 n_31, .int .i64 n_32, .slice a_6 l_6 c_6], .int .i64 1025] w_15 fun v_12 w_16 =>
         INTV .i64 v_12 fun n_33 =>
         K (.bool (n_33 == 2)) w_16) (
         K (.bool false) w_15)) (
        K (.bool false) w_14)) (
       K (.bool false) w_13)) (
      K (.bool false) w_13)) (
     K (.bool false) w_13)) (
    K (.bool false) w_12)) (
   K (.bool false) w_12))))
theorem E_l05_speaks (w : World) (K : Value → World → Prop) :
    D_l05_speaks w K = vcFn Pg Try.f9 [] [] w K := by kernel_rfl
theorem C_l05_speaks {w : World} {K : Value → World → Prop} (h : D_l05_speaks w K) :
    CALL Pg F_l05_speaks [] w K :=
  call_of_vc [] Try.func9 rfl (Nat.le_of_ble_eq_true (by kernel_rfl)) ((E_l05_speaks w K) ▸ h)

end Go.Proofs.Ytapcknlnhpafcaa
