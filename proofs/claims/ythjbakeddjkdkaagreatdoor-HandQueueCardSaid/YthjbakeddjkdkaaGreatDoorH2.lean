/- What the evaluator asks of each function, in readable form: printed by a program of this claim's own. -/
import Derived.Test.YthjbakeddjkdkaaGreatDoorN
import Derived.Test.YthjbakeddjkdkaaGreatDoorDen
namespace Go.Proofs.YthjbakeddjkdkaaGreatDoor
open Go.Den
set_option linter.unusedVariables false
set_option maxRecDepth 1000000
def D_stock_New (c0 : Int) (c1 : Int) (c2 : Int) (c3 : Int) (c4a : Option Addr) (c4l : Nat) (c4c : Nat) (w : World) (K : Value → World → Prop) : Prop :=
  NEW w [.int .i64 c0, .int .i64 c1, .int .i64 c2, .int .i64 c3, .slice c4a c4l c4c] T_api_Config_api_Config fun b_1 w_1 =>
  DRAW w_1 fun w_2 =>
  LDi .i64 w_2 ⟨b_1, 0, none⟩ fun n_1 =>
  LDi .i64 w_2 ⟨b_1, 1, none⟩ fun n_2 =>
  LDi .i64 w_2 ⟨b_1, 2, none⟩ fun n_3 =>
  LDi .i64 w_2 ⟨b_1, 3, none⟩ fun n_4 =>
  LDl w_2 ⟨b_1, 4, none⟩ fun a_1 l_1 c_1 =>
  LDl w_2 ⟨b_1, 4, none⟩ fun a_2 l_2 c_2 =>
  ((
   CALL Pg F_conf_Copy [.agg #[.int .i64 n_1, .int .i64 n_2, .int .i64 n_3, .int .i64 n_4, .slice a_1 l_1 c_1]] w_2 fun v_1 w_3 =>
   AGGV v_1 fun cs_1 =>
   GETV cs_1 0 fun v_2 =>
   INTV .i64 v_2 fun n_5 =>
   GETV cs_1 1 fun v_3 =>
   INTV .i64 v_3 fun n_6 =>
   GETV cs_1 2 fun v_4 =>
   INTV .i64 v_4 fun n_7 =>
   GETV cs_1 3 fun v_5 =>
   INTV .i64 v_5 fun n_8 =>
   GETV cs_1 4 fun v_6 =>
   SLV v_6 fun a_3 l_3 c_3 =>
   LEN cs_1 5 (
   ((
    KEEP w_3 [Fact.cell ⟨b_1, 4, none⟩ (.slice a_2 l_2 c_2)]) ∧
    SEML Pg w_3 (Instr.makeSlice T_LLapi_Block (.int .i64 (↑l_2 : Int)) (.int .i64 (↑l_2 : Int))) fun v_7 w_4 =>
    SLV v_7 fun a_4 l_4 c_4 =>
    ((
     KEEP w_4 []) ∧
     NEW w_4 [.int .i64 n_5, .int .i64 n_6, .int .i64 n_7, .int .i64 n_8, .slice a_3 l_3 c_3, .slice a_4 l_4 c_4, .slice none 0 0] T_stock_Stock_stock_Stock fun b_2 w_5 =>
     ((
      KEEP w_5 []) ∧
      LDl w_5 ⟨b_1, 4, none⟩ fun _ l_5 _ =>
      LOOP [.int .i64 0] w_5 fun I_1 N_1 =>
      ∀ w_6 : World,
      ∀ v_8 : Value,
      (I_1 [v_8] w_6 →
      INTV .i64 v_8 fun n_9 =>
      ITE (decide (n_9 < (↑l_5 : Int))) (
       LDl w_6 ⟨b_2, 6, none⟩ fun a_6 l_6 c_6 =>
       NEWMAP w_6 fun b_3 w_7 =>
       NEW w_7 [.map (some b_3)] T_map_api_Block_struct fun b_4 w_8 =>
       SEML Pg w_8 (Builtin.append_ #[T_Lmap_api_Block_struct, T_Lmap_api_Block_struct] T_Lmap_api_Block_struct #[.slice a_6 l_6 c_6, .slice (some ⟨b_4, 0, none⟩) 1 1]) fun v_9 w_9 =>
       SLV v_9 fun a_7 l_7 c_7 =>
       ST1 w_9 ⟨b_2, 6, none⟩ (.slice a_7 l_7 c_7) fun w_10 =>
       BIND (IntKind.i64.wrap (n_9 + 1)) fun n_10 =>
       N_1 [v_8] w_6 [.int .i64 n_10] w_10) (
       K (.pointer (some ⟨b_2, 0, none⟩)) w_6))))))) ∧
   SEML Pg w_2 (Instr.makeSlice T_LLapi_Block (.int .i64 (↑l_2 : Int)) (.int .i64 (↑l_2 : Int))) fun v_10 w_11 =>
   SLV v_10 fun a_8 l_8 c_8 =>
   ((
    KEEP w_11 [Fact.cell ⟨b_1, 0, none⟩ (.int .i64 n_1), Fact.cell ⟨b_1, 1, none⟩ (.int .i64 n_2), Fact.cell ⟨b_1, 2, none⟩ (.int .i64 n_3), Fact.cell ⟨b_1, 3, none⟩ (.int .i64 n_4), Fact.cell ⟨b_1, 4, none⟩ (.slice a_1 l_1 c_1)]) ∧
    CALL Pg F_conf_Copy [.agg #[.int .i64 n_1, .int .i64 n_2, .int .i64 n_3, .int .i64 n_4, .slice a_1 l_1 c_1]] w_11 fun v_11 w_12 =>
    AGGV v_11 fun cs_2 =>
    GETV cs_2 0 fun v_12 =>
    INTV .i64 v_12 fun n_11 =>
    GETV cs_2 1 fun v_13 =>
    INTV .i64 v_13 fun n_12 =>
    GETV cs_2 2 fun v_14 =>
    INTV .i64 v_14 fun n_13 =>
    GETV cs_2 3 fun v_15 =>
    INTV .i64 v_15 fun n_14 =>
    GETV cs_2 4 fun v_16 =>
    SLV v_16 fun a_9 l_9 c_9 =>
    LEN cs_2 5 (
    ((
     KEEP w_12 []) ∧
     NEW w_12 [.int .i64 n_11, .int .i64 n_12, .int .i64 n_13, .int .i64 n_14, .slice a_9 l_9 c_9, .slice a_8 l_8 c_8, .slice none 0 0] T_stock_Stock_stock_Stock fun b_5 w_13 =>
     ((
      KEEP w_13 []) ∧
      LDl w_13 ⟨b_1, 4, none⟩ fun _ l_10 _ =>
      LOOP [.int .i64 0] w_13 fun I_2 N_2 =>
      ∀ w_14 : World,
      ∀ v_17 : Value,
      (I_2 [v_17] w_14 →
      INTV .i64 v_17 fun n_15 =>
      ITE (decide (n_15 < (↑l_10 : Int))) (
       LDl w_14 ⟨b_5, 6, none⟩ fun a_11 l_11 c_11 =>
       NEWMAP w_14 fun b_6 w_15 =>
       NEW w_15 [.map (some b_6)] T_map_api_Block_struct fun b_7 w_16 =>
       SEML Pg w_16 (Builtin.append_ #[T_Lmap_api_Block_struct, T_Lmap_api_Block_struct] T_Lmap_api_Block_struct #[.slice a_11 l_11 c_11, .slice (some ⟨b_7, 0, none⟩) 1 1]) fun v_18 w_17 =>
       SLV v_18 fun a_12 l_12 c_12 =>
       ST1 w_17 ⟨b_5, 6, none⟩ (.slice a_12 l_12 c_12) fun w_18 =>
       BIND (IntKind.i64.wrap (n_15 + 1)) fun n_16 =>
       N_2 [v_17] w_14 [.int .i64 n_16] w_18) (
       K (.pointer (some ⟨b_5, 0, none⟩)) w_14)))))))
theorem E_stock_New (c0 : Int) (c1 : Int) (c2 : Int) (c3 : Int) (c4a : Option Addr) (c4l : Nat) (c4c : Nat) (w : World) (K : Value → World → Prop) :
    D_stock_New c0 c1 c2 c3 c4a c4l c4c w K = vcFn Pg Tryz.f21 [] [.agg #[.int .i64 c0, .int .i64 c1, .int .i64 c2, .int .i64 c3, .slice c4a c4l c4c]] w K := by kernel_rfl
theorem C_stock_New {c0 : Int} {c1 : Int} {c2 : Int} {c3 : Int} {c4a : Option Addr} {c4l : Nat} {c4c : Nat} {w : World} {K : Value → World → Prop} (h : D_stock_New c0 c1 c2 c3 c4a c4l c4c w K) :
    CALL Pg F_stock_New [.agg #[.int .i64 c0, .int .i64 c1, .int .i64 c2, .int .i64 c3, .slice c4a c4l c4c]] w K :=
  call_of_vc [] Tryz.func21 rfl (Nat.le_of_ble_eq_true (by kernel_rfl)) ((E_stock_New c0 c1 c2 c3 c4a c4l c4c w K) ▸ h)
def D_hand_New (s : Option Addr) (worker : Int) (w : World) (K : Value → World → Prop) : Prop :=
  NN s fun b_1 o_1 =>
  LDi .i64 w ⟨b_1, o_1, none⟩ fun n_1 =>
  LDi .i64 w ⟨b_1, o_1 + 1, none⟩ fun n_2 =>
  LDi .i64 w ⟨b_1, o_1 + 2, none⟩ fun n_3 =>
  LDi .i64 w ⟨b_1, o_1 + 3, none⟩ fun n_4 =>
  LDl w ⟨b_1, o_1 + 4, none⟩ fun a_1 l_1 c_1 =>
  CALL Pg F_stock_New [.agg #[.int .i64 n_1, .int .i64 n_2, .int .i64 n_3, .int .i64 n_4, .slice a_1 l_1 c_1]] w fun v_1 w_1 =>
  PTRV v_1 fun q_1 =>
  NEW w_1 [.pointer s, .int .i64 worker, .pointer q_1, .slice none 0 0, .nilIface, .int .i64 0, .int .i64 0] T_hand_Hand_hand_Hand fun b_2 w_2 =>
  K (.pointer (some ⟨b_2, 0, none⟩)) w_2
theorem E_hand_New (s : Option Addr) (worker : Int) (w : World) (K : Value → World → Prop) :
    D_hand_New s worker w K = vcFn Pg Tryz.f7 [] [.pointer s, .int .i64 worker] w K := by kernel_rfl
theorem C_hand_New {s : Option Addr} {worker : Int} {w : World} {K : Value → World → Prop} (h : D_hand_New s worker w K) :
    CALL Pg F_hand_New [.pointer s, .int .i64 worker] w K :=
  call_of_vc [] Tryz.func7 rfl (Nat.le_of_ble_eq_true (by kernel_rfl)) ((E_hand_New s worker w K) ▸ h)
def D_phand_Hand_Ask (h_ : Option Addr) (la : Option Addr) (ll : Nat) (lc : Nat) (w : World) (K : Value → World → Prop) : Prop :=
  NN h_ fun b_1 o_1 =>
  LDl w ⟨b_1, o_1 + 3, none⟩ fun a_1 l_1 c_1 =>
  SEML Pg w (Builtin.append_ #[T_Lapi_Request, T_Lapi_Request] T_Lapi_Request #[.slice a_1 l_1 c_1, .slice la ll lc]) fun v_1 w_1 =>
  SLV v_1 fun a_2 l_2 c_2 =>
  NN h_ fun b_2 o_2 =>
  ST1 w_1 ⟨b_2, o_2 + 3, none⟩ (.slice a_2 l_2 c_2) fun w_2 =>
  K (.tuple #[]) w_2
theorem E_phand_Hand_Ask (h_ : Option Addr) (la : Option Addr) (ll : Nat) (lc : Nat) (w : World) (K : Value → World → Prop) :
    D_phand_Hand_Ask h_ la ll lc w K = vcFn Pg Tryz.f8 [] [.pointer h_, .slice la ll lc] w K := by kernel_rfl
theorem C_phand_Hand_Ask {h_ : Option Addr} {la : Option Addr} {ll : Nat} {lc : Nat} {w : World} {K : Value → World → Prop} (h : D_phand_Hand_Ask h_ la ll lc w K) :
    CALL Pg F_phand_Hand_Ask [.pointer h_, .slice la ll lc] w K :=
  call_of_vc [] Tryz.func8 rfl (Nat.le_of_ble_eq_true (by kernel_rfl)) ((E_phand_Hand_Ask h_ la ll lc w K) ▸ h)
def D_slices_Clone_Lapi_Request_api_Request (sa : Option Addr) (sl : Nat) (sc : Nat) (w : World) (K : Value → World → Prop) : Prop :=
  SILN Pg (binE BinOp.eql T_Lapi_Request (Operand.tmp 3) (Operand.const (.slice none 0 0)) (.slice sa sl sc) (.slice none 0 0)) fun v_1 =>
  BOOLV v_1 fun t_1 =>
  ITE (t_1) (
   K (.slice none 0 0) w) (
   NEW w [] T_api_Request_api_Request fun b_1 w_1 =>
   SEML Pg w_1 (Builtin.append_ #[T_Lapi_Request, T_Lapi_Request] T_Lapi_Request #[.slice (some ⟨b_1, 0, none⟩) 0 0, .slice sa sl sc]) fun v_2 w_2 =>
   SLV v_2 fun a_1 l_1 c_1 =>
   K (.slice a_1 l_1 c_1) w_2)
theorem E_slices_Clone_Lapi_Request_api_Request (sa : Option Addr) (sl : Nat) (sc : Nat) (w : World) (K : Value → World → Prop) :
    D_slices_Clone_Lapi_Request_api_Request sa sl sc w K = vcFn Pg Tryz.f22 [] [.slice sa sl sc] w K := by kernel_rfl
theorem C_slices_Clone_Lapi_Request_api_Request {sa : Option Addr} {sl : Nat} {sc : Nat} {w : World} {K : Value → World → Prop} (h : D_slices_Clone_Lapi_Request_api_Request sa sl sc w K) :
    CALL Pg F_slices_Clone_Lapi_Request_api_Request [.slice sa sl sc] w K :=
  call_of_vc [] Tryz.func22 rfl (Nat.le_of_ble_eq_true (by kernel_rfl)) ((E_slices_Clone_Lapi_Request_api_Request sa sl sc w K) ▸ h)
def D_phand_Hand_Queue (h_ : Option Addr) (w : World) (K : Value → World → Prop) : Prop :=
  NN h_ fun b_1 o_1 =>
  LDl w ⟨b_1, o_1 + 3, none⟩ fun a_1 l_1 c_1 =>
  CALL Pg F_slices_Clone_Lapi_Request_api_Request [.slice a_1 l_1 c_1] w fun v_1 w_1 =>
  SLV v_1 fun a_2 l_2 c_2 =>
  K (.slice a_2 l_2 c_2) w_1
theorem E_phand_Hand_Queue (h_ : Option Addr) (w : World) (K : Value → World → Prop) :
    D_phand_Hand_Queue h_ w K = vcFn Pg Tryz.f9 [] [.pointer h_] w K := by kernel_rfl
theorem C_phand_Hand_Queue {h_ : Option Addr} {w : World} {K : Value → World → Prop} (h : D_phand_Hand_Queue h_ w K) :
    CALL Pg F_phand_Hand_Queue [.pointer h_] w K :=
  call_of_vc [] Tryz.func9 rfl (Nat.le_of_ble_eq_true (by kernel_rfl)) ((E_phand_Hand_Queue h_ w K) ▸ h)
def D_phand_Hand_Idle (h_ : Option Addr) (w : World) (K : Value → World → Prop) : Prop :=
  NN h_ fun b_1 o_1 =>
  LDV w ⟨b_1, o_1 + 4, none⟩ fun v_1 =>
  SILN Pg (binE BinOp.eql T_hand_job_hand_job (Operand.tmp 6) (Operand.const Value.nilIface) v_1 Value.nilIface) fun v_2 =>
  BOOLV v_2 fun t_1 =>
  ITE (t_1) (
   NN h_ fun b_2 o_2 =>
   LDl w ⟨b_2, o_2 + 3, none⟩ fun _ l_1 _ =>
   K (.bool ((↑l_1 : Int) == 0)) w) (
   K (.bool false) w)
theorem E_phand_Hand_Idle (h_ : Option Addr) (w : World) (K : Value → World → Prop) :
    D_phand_Hand_Idle h_ w K = vcFn Pg Tryz.f10 [] [.pointer h_] w K := by kernel_rfl
theorem C_phand_Hand_Idle {h_ : Option Addr} {w : World} {K : Value → World → Prop} (h : D_phand_Hand_Idle h_ w K) :
    CALL Pg F_phand_Hand_Idle [.pointer h_] w K :=
  call_of_vc [] Tryz.func10 rfl (Nat.le_of_ble_eq_true (by kernel_rfl)) ((E_phand_Hand_Idle h_ w K) ▸ h)
def D_phand_Hand_Own (h_ : Option Addr) (class_ : Int) (w : World) (K : Value → World → Prop) : Prop :=
  NN h_ fun b_1 o_1 =>
  LDp w ⟨b_1, o_1 + 2, none⟩ fun q_1 =>
  CALL Pg F_pstock_Stock_Blocks [.pointer q_1, .int .i64 class_] w fun v_1 w_1 =>
  SLV v_1 fun a_1 l_1 c_1 =>
  K (.slice a_1 l_1 c_1) w_1
theorem E_phand_Hand_Own (h_ : Option Addr) (class_ : Int) (w : World) (K : Value → World → Prop) :
    D_phand_Hand_Own h_ class_ w K = vcFn Pg Tryz.f11 [] [.pointer h_, .int .i64 class_] w K := by kernel_rfl
theorem C_phand_Hand_Own {h_ : Option Addr} {class_ : Int} {w : World} {K : Value → World → Prop} (h : D_phand_Hand_Own h_ class_ w K) :
    CALL Pg F_phand_Hand_Own [.pointer h_, .int .i64 class_] w K :=
  call_of_vc [] Tryz.func11 rfl (Nat.le_of_ble_eq_true (by kernel_rfl)) ((E_phand_Hand_Own h_ class_ w K) ▸ h)
def D_pstock_Stock_Blocks (s : Option Addr) (class_ : Int) (w : World) (K : Value → World → Prop) : Prop :=
  CALL Pg F_pstock_Stock_is [.pointer s, .int .i64 class_] w fun v_1 w_1 =>
  BOOLV v_1 fun t_1 =>
  ITE (!t_1) (
   K (.slice none 0 0) w_1) (
   NN s fun b_1 o_1 =>
   LDl w_1 ⟨b_1, o_1 + 5, none⟩ fun a_1 l_1 _ =>
   IDX a_1 l_1 class_ 1 fun b_2 o_2 =>
   LDl w_1 ⟨b_2, o_2, none⟩ fun a_2 l_2 c_2 =>
   CALL Pg F_slices_Clone_Lapi_Block_api_Block [.slice a_2 l_2 c_2] w_1 fun v_2 w_2 =>
   SLV v_2 fun a_3 l_3 c_3 =>
   K (.slice a_3 l_3 c_3) w_2)
theorem E_pstock_Stock_Blocks (s : Option Addr) (class_ : Int) (w : World) (K : Value → World → Prop) :
    D_pstock_Stock_Blocks s class_ w K = vcFn Pg Tryz.f23 [] [.pointer s, .int .i64 class_] w K := by kernel_rfl
theorem C_pstock_Stock_Blocks {s : Option Addr} {class_ : Int} {w : World} {K : Value → World → Prop} (h : D_pstock_Stock_Blocks s class_ w K) :
    CALL Pg F_pstock_Stock_Blocks [.pointer s, .int .i64 class_] w K :=
  call_of_vc [] Tryz.func23 rfl (Nat.le_of_ble_eq_true (by kernel_rfl)) ((E_pstock_Stock_Blocks s class_ w K) ▸ h)
def D_pstock_Stock_is (s : Option Addr) (class_ : Int) (w : World) (K : Value → World → Prop) : Prop :=
  ITE (decide (class_ ≥ 0)) (
   NN s fun b_1 o_1 =>
   LDl w ⟨b_1, o_1 + 5, none⟩ fun _ l_1 _ =>
   K (.bool (decide (class_ < (↑l_1 : Int)))) w) (
   K (.bool false) w)
theorem E_pstock_Stock_is (s : Option Addr) (class_ : Int) (w : World) (K : Value → World → Prop) :
    D_pstock_Stock_is s class_ w K = vcFn Pg Tryz.f32 [] [.pointer s, .int .i64 class_] w K := by kernel_rfl
theorem C_pstock_Stock_is {s : Option Addr} {class_ : Int} {w : World} {K : Value → World → Prop} (h : D_pstock_Stock_is s class_ w K) :
    CALL Pg F_pstock_Stock_is [.pointer s, .int .i64 class_] w K :=
  call_of_vc [] Tryz.func32 rfl (Nat.le_of_ble_eq_true (by kernel_rfl)) ((E_pstock_Stock_is s class_ w K) ▸ h)
def D_slices_Clone_Lapi_Block_api_Block (sa : Option Addr) (sl : Nat) (sc : Nat) (w : World) (K : Value → World → Prop) : Prop :=
  SILN Pg (binE BinOp.eql T_Lapi_Block (Operand.tmp 3) (Operand.const (.slice none 0 0)) (.slice sa sl sc) (.slice none 0 0)) fun v_1 =>
  BOOLV v_1 fun t_1 =>
  ITE (t_1) (
   K (.slice none 0 0) w) (
   NEW w [] T_api_Block_api_Block fun b_1 w_1 =>
   SEML Pg w_1 (Builtin.append_ #[T_Lapi_Block, T_Lapi_Block] T_Lapi_Block #[.slice (some ⟨b_1, 0, none⟩) 0 0, .slice sa sl sc]) fun v_2 w_2 =>
   SLV v_2 fun a_1 l_1 c_1 =>
   K (.slice a_1 l_1 c_1) w_2)
theorem E_slices_Clone_Lapi_Block_api_Block (sa : Option Addr) (sl : Nat) (sc : Nat) (w : World) (K : Value → World → Prop) :
    D_slices_Clone_Lapi_Block_api_Block sa sl sc w K = vcFn Pg Tryz.f33 [] [.slice sa sl sc] w K := by kernel_rfl
theorem C_slices_Clone_Lapi_Block_api_Block {sa : Option Addr} {sl : Nat} {sc : Nat} {w : World} {K : Value → World → Prop} (h : D_slices_Clone_Lapi_Block_api_Block sa sl sc w K) :
    CALL Pg F_slices_Clone_Lapi_Block_api_Block [.slice sa sl sc] w K :=
  call_of_vc [] Tryz.func33 rfl (Nat.le_of_ble_eq_true (by kernel_rfl)) ((E_slices_Clone_Lapi_Block_api_Block sa sl sc w K) ▸ h)
def D_phand_Hand_Step (h_ : Option Addr) (w : World) (K : Value → World → Prop) : Prop :=
  NEW w [.bool false, .bool false, .bool false, .bool false, .int .i64 0, .int .i64 0, .int .i64 0, .int .i64 0] T_hand_Progress_hand_Progress fun b_1 w_1 =>
  CALL Pg F_phand_Hand_Idle [.pointer h_] w_1 fun v_1 w_2 =>
  BOOLV v_1 fun t_1 =>
  ITE (t_1) (
   ST1 w_2 ⟨b_1, 0, none⟩ (.bool false) fun w_3 =>
   ST1 w_3 ⟨b_1, 1, none⟩ (.bool false) fun w_4 =>
   ST1 w_4 ⟨b_1, 2, none⟩ (.bool false) fun w_5 =>
   ST1 w_5 ⟨b_1, 3, none⟩ (.bool false) fun w_6 =>
   ST1 w_6 ⟨b_1, 4, none⟩ (.int .i64 0) fun w_7 =>
   ST1 w_7 ⟨b_1, 5, none⟩ (.int .i64 0) fun w_8 =>
   ST1 w_8 ⟨b_1, 6, none⟩ (.int .i64 0) fun w_9 =>
   ST1 w_9 ⟨b_1, 7, none⟩ (.int .i64 0) fun w_10 =>
   LDb w_10 ⟨b_1, 0, none⟩ fun t_2 =>
   LDb w_10 ⟨b_1, 1, none⟩ fun t_3 =>
   LDb w_10 ⟨b_1, 2, none⟩ fun t_4 =>
   LDb w_10 ⟨b_1, 3, none⟩ fun t_5 =>
   LDi .i64 w_10 ⟨b_1, 4, none⟩ fun n_1 =>
   LDi .i64 w_10 ⟨b_1, 5, none⟩ fun n_2 =>
   LDi .i64 w_10 ⟨b_1, 6, none⟩ fun n_3 =>
   LDi .i64 w_10 ⟨b_1, 7, none⟩ fun n_4 =>
   K (.agg #[.bool t_2, .bool t_3, .bool t_4, .bool t_5, .int .i64 n_1, .int .i64 n_2, .int .i64 n_3, .int .i64 n_4]) w_10) (
   NN h_ fun b_2 o_1 =>
   LDV w_2 ⟨b_2, o_1 + 4, none⟩ fun v_2 =>
   SILN Pg (binE BinOp.eql T_hand_job_hand_job (Operand.tmp 13) (Operand.const Value.nilIface) v_2 Value.nilIface) fun v_3 =>
   BOOLV v_3 fun t_6 =>
   NEW w_2 [.bool false, .bool false, .bool false, .bool false, .int .i64 0, .int .i64 0, .int .i64 0, .int .i64 0] T_hand_Progress_hand_Progress fun b_3 w_11 =>
   ST1 w_11 ⟨b_3, 0, none⟩ (.bool true) fun w_12 =>
   ST1 w_12 ⟨b_3, 1, none⟩ (.bool t_6) fun w_13 =>
   ST1 w_13 ⟨b_3, 2, none⟩ (.bool false) fun w_14 =>
   ST1 w_14 ⟨b_3, 3, none⟩ (.bool false) fun w_15 =>
   ST1 w_15 ⟨b_3, 4, none⟩ (.int .i64 0) fun w_16 =>
   ST1 w_16 ⟨b_3, 5, none⟩ (.int .i64 0) fun w_17 =>
   ST1 w_17 ⟨b_3, 6, none⟩ (.int .i64 0) fun w_18 =>
   ST1 w_18 ⟨b_3, 7, none⟩ (.int .i64 0) fun w_19 =>
   LDb w_19 ⟨b_3, 1, none⟩ fun t_7 =>
   ITE (t_7) (
    DRAW w_19 fun w_20 =>
    NN h_ fun b_4 o_2 =>
    LDl w_20 ⟨b_4, o_2 + 3, none⟩ fun a_1 l_1 _ =>
    IDX a_1 l_1 0 2 fun b_5 o_3 =>
    LDi .i64 w_20 ⟨b_5, o_3, none⟩ fun n_5 =>
    LDi .i64 w_20 ⟨b_5, o_3 + 1, none⟩ fun n_6 =>
    NN h_ fun b_6 o_4 =>
    LDl w_20 ⟨b_6, o_4 + 3, none⟩ fun a_2 l_2 c_2 =>
    SILN Pg (Instr.sliceAt T_Lapi_Request (.slice a_2 l_2 c_2) (some (.int .i64 1)) none none) fun v_4 =>
    SLV v_4 fun a_3 l_3 c_3 =>
    NN h_ fun b_7 o_5 =>
    ST1 w_20 ⟨b_7, o_5 + 5, none⟩ (.int .i64 n_5) fun w_21 =>
    ST1 w_21 ⟨b_7, o_5 + 5 + 1, none⟩ (.int .i64 n_6) fun w_22 =>
    ((
     KEEP w_22 []) ∧
     NN h_ fun b_8 o_6 =>
     ST1 w_22 ⟨b_8, o_6 + 3, none⟩ (.slice a_3 l_3 c_3) fun w_23 =>
     ((
      KEEP w_23 []) ∧
      CALL Pg F_phand_Hand_begin [.pointer h_, .pointer (some ⟨b_3, 0, none⟩)] w_23 fun v_5 w_24 =>
      TUPV v_5 fun cs_1 =>
      LEN cs_1 0 (
      LDb w_24 ⟨b_3, 3, none⟩ fun t_8 =>
      ITE (t_8) (
       LDb w_24 ⟨b_3, 0, none⟩ fun t_9 =>
       LDb w_24 ⟨b_3, 1, none⟩ fun t_10 =>
       LDb w_24 ⟨b_3, 2, none⟩ fun t_11 =>
       LDb w_24 ⟨b_3, 3, none⟩ fun t_12 =>
       LDi .i64 w_24 ⟨b_3, 4, none⟩ fun n_7 =>
       LDi .i64 w_24 ⟨b_3, 5, none⟩ fun n_8 =>
       LDi .i64 w_24 ⟨b_3, 6, none⟩ fun n_9 =>
       LDi .i64 w_24 ⟨b_3, 7, none⟩ fun n_10 =>
       ST1 w_24 ⟨b_1, 0, none⟩ (.bool t_9) fun w_25 =>
       ST1 w_25 ⟨b_1, 1, none⟩ (.bool t_10) fun w_26 =>
       ST1 w_26 ⟨b_1, 2, none⟩ (.bool t_11) fun w_27 =>
       ST1 w_27 ⟨b_1, 3, none⟩ (.bool t_12) fun w_28 =>
       ST1 w_28 ⟨b_1, 4, none⟩ (.int .i64 n_7) fun w_29 =>
       ST1 w_29 ⟨b_1, 5, none⟩ (.int .i64 n_8) fun w_30 =>
       ST1 w_30 ⟨b_1, 6, none⟩ (.int .i64 n_9) fun w_31 =>
       ST1 w_31 ⟨b_1, 7, none⟩ (.int .i64 n_10) fun w_32 =>
       LDb w_32 ⟨b_1, 0, none⟩ fun t_13 =>
       LDb w_32 ⟨b_1, 1, none⟩ fun t_14 =>
       LDb w_32 ⟨b_1, 2, none⟩ fun t_15 =>
       LDb w_32 ⟨b_1, 3, none⟩ fun t_16 =>
       LDi .i64 w_32 ⟨b_1, 4, none⟩ fun n_11 =>
       LDi .i64 w_32 ⟨b_1, 5, none⟩ fun n_12 =>
       LDi .i64 w_32 ⟨b_1, 6, none⟩ fun n_13 =>
       LDi .i64 w_32 ⟨b_1, 7, none⟩ fun n_14 =>
       K (.agg #[.bool t_13, .bool t_14, .bool t_15, .bool t_16, .int .i64 n_11, .int .i64 n_12, .int .i64 n_13, .int .i64 n_14]) w_32) (
       NN h_ fun b_9 o_7 =>
       LDi .i64 w_24 ⟨b_9, o_7 + 5, none⟩ fun n_15 =>
       LDi .i64 w_24 ⟨b_9, o_7 + 5 + 1, none⟩ fun n_16 =>
       ST1 w_24 ⟨b_3, 4, none⟩ (.int .i64 n_15) fun w_33 =>
       ST1 w_33 ⟨b_3, 5, none⟩ (.int .i64 n_16) fun w_34 =>
       NN h_ fun b_10 o_8 =>
       LDV w_34 ⟨b_10, o_8 + 4, none⟩ fun v_6 =>
       INV Pg v_6 "Step" [] w_34 fun v_7 w_35 =>
       BOOLV v_7 fun _ =>
       NN h_ fun b_11 o_9 =>
       LDV w_35 ⟨b_11, o_9 + 4, none⟩ fun v_8 =>
       INV Pg v_8 "Answer" [] w_35 fun v_9 w_36 =>
       TUPV v_9 fun cs_2 =>
       GETV cs_2 0 fun v_10 =>
       AGGV v_10 fun cs_3 =>
       GETV cs_3 0 fun v_11 =>
       INTV .i64 v_11 fun n_17 =>
       GETV cs_3 1 fun v_12 =>
       INTV .i64 v_12 fun n_18 =>
       LEN cs_3 2 (
       GETV cs_2 1 fun v_13 =>
       BOOLV v_13 fun t_18 =>
       LEN cs_2 2 (
       ST1 w_36 ⟨b_3, 6, none⟩ (.int .i64 n_17) fun w_37 =>
       ST1 w_37 ⟨b_3, 7, none⟩ (.int .i64 n_18) fun w_38 =>
       ST1 w_38 ⟨b_3, 3, none⟩ (.bool t_18) fun w_39 =>
       NN h_ fun b_12 o_10 =>
       LDV w_39 ⟨b_12, o_10 + 4, none⟩ fun v_14 =>
       SILN Pg (Instr.typeAssert v_14 64 72 true) fun v_15 =>
       TUPV v_15 fun cs_4 =>
       LEN cs_4 0 (
       False)))))))) (
    NN h_ fun b_13 o_11 =>
    LDi .i64 w_19 ⟨b_13, o_11 + 5, none⟩ fun n_19 =>
    LDi .i64 w_19 ⟨b_13, o_11 + 5 + 1, none⟩ fun n_20 =>
    ST1 w_19 ⟨b_3, 4, none⟩ (.int .i64 n_19) fun w_40 =>
    ST1 w_40 ⟨b_3, 5, none⟩ (.int .i64 n_20) fun w_41 =>
    NN h_ fun b_14 o_12 =>
    LDV w_41 ⟨b_14, o_12 + 4, none⟩ fun v_16 =>
    INV Pg v_16 "Step" [] w_41 fun v_17 w_42 =>
    BOOLV v_17 fun _ =>
    NN h_ fun b_15 o_13 =>
    LDV w_42 ⟨b_15, o_13 + 4, none⟩ fun v_18 =>
    INV Pg v_18 "Answer" [] w_42 fun v_19 w_43 =>
    TUPV v_19 fun cs_5 =>
    GETV cs_5 0 fun v_20 =>
    AGGV v_20 fun cs_6 =>
    GETV cs_6 0 fun v_21 =>
    INTV .i64 v_21 fun n_21 =>
    GETV cs_6 1 fun v_22 =>
    INTV .i64 v_22 fun n_22 =>
    LEN cs_6 2 (
    GETV cs_5 1 fun v_23 =>
    BOOLV v_23 fun t_20 =>
    LEN cs_5 2 (
    ST1 w_43 ⟨b_3, 6, none⟩ (.int .i64 n_21) fun w_44 =>
    ST1 w_44 ⟨b_3, 7, none⟩ (.int .i64 n_22) fun w_45 =>
    ST1 w_45 ⟨b_3, 3, none⟩ (.bool t_20) fun w_46 =>
    NN h_ fun b_16 o_14 =>
    LDV w_46 ⟨b_16, o_14 + 4, none⟩ fun v_24 =>
    SILN Pg (Instr.typeAssert v_24 64 72 true) fun v_25 =>
    TUPV v_25 fun cs_7 =>
    LEN cs_7 0 (
    False)))))
theorem E_phand_Hand_Step (h_ : Option Addr) (w : World) (K : Value → World → Prop) :
    D_phand_Hand_Step h_ w K = vcFn Pg Tryz.f12 [] [.pointer h_] w K := by kernel_rfl
theorem C_phand_Hand_Step {h_ : Option Addr} {w : World} {K : Value → World → Prop} (h : D_phand_Hand_Step h_ w K) :
    CALL Pg F_phand_Hand_Step [.pointer h_] w K :=
  call_of_vc [] Tryz.func12 rfl (Nat.le_of_ble_eq_true (by kernel_rfl)) ((E_phand_Hand_Step h_ w K) ▸ h)
def D_phand_Hand_begin (h_ : Option Addr) (p : Option Addr) (w : World) (K : Value → World → Prop) : Prop :=
  NN h_ fun b_1 o_1 =>
  LDi .i64 w ⟨b_1, o_1 + 5, none⟩ fun n_1 =>
  LDi .i64 w ⟨b_1, o_1 + 5 + 1, none⟩ fun n_2 =>
  NN p fun b_2 o_2 =>
  ST1 w ⟨b_2, o_2 + 4, none⟩ (.int .i64 n_1) fun w_1 =>
  ST1 w_1 ⟨b_2, o_2 + 4 + 1, none⟩ (.int .i64 n_2) fun w_2 =>
  DRAW w_2 fun w_3 =>
  NN h_ fun b_3 o_3 =>
  LDp w_3 ⟨b_3, o_3, none⟩ fun q_1 =>
  NN q_1 fun b_4 o_4 =>
  LDi .i64 w_3 ⟨b_4, o_4, none⟩ fun n_3 =>
  LDi .i64 w_3 ⟨b_4, o_4 + 1, none⟩ fun n_4 =>
  LDi .i64 w_3 ⟨b_4, o_4 + 2, none⟩ fun n_5 =>
  LDi .i64 w_3 ⟨b_4, o_4 + 3, none⟩ fun n_6 =>
  LDl w_3 ⟨b_4, o_4 + 4, none⟩ fun a_1 l_1 c_1 =>
  NN h_ fun b_5 o_5 =>
  LDi .i64 w_3 ⟨b_5, o_5 + 5, none⟩ fun n_7 =>
  LDi .i64 w_3 ⟨b_5, o_5 + 5 + 1, none⟩ fun n_8 =>
  ((
   CALL Pg F_ask_Check [.agg #[.int .i64 n_3, .int .i64 n_4, .int .i64 n_5, .int .i64 n_6, .slice a_1 l_1 c_1], .agg #[.int .i64 n_7, .int .i64 n_8]] w_3 fun v_1 w_4 =>
   TUPV v_1 fun cs_1 =>
   GETV cs_1 0 fun v_2 =>
   AGGV v_2 fun cs_2 =>
   GETV cs_2 0 fun v_3 =>
   INTV .i64 v_3 fun n_9 =>
   GETV cs_2 1 fun v_4 =>
   INTV .i64 v_4 fun n_10 =>
   LEN cs_2 2 (
   GETV cs_1 1 fun v_5 =>
   INTV .i64 v_5 fun n_11 =>
   LEN cs_1 2 (
   ((
    KEEP w_4 []) ∧
    NEW w_4 [.int .i64 0, .int .i64 0] T_live_Thing_live_Thing fun b_6 w_5 =>
    ((
     KEEP w_5 []) ∧
     ST1 w_5 ⟨b_6, 0, none⟩ (.int .i64 n_9) fun w_6 =>
     ST1 w_6 ⟨b_6, 1, none⟩ (.int .i64 n_10) fun w_7 =>
     ((
      KEEP w_7 []) ∧
      ITE (n_11 != 0) (
       NN p fun b_7 o_6 =>
       ST1 w_7 ⟨b_7, o_6 + 6, none⟩ (.int .i64 n_11) fun w_8 =>
       ST1 w_8 ⟨b_7, o_6 + 6 + 1, none⟩ (.int .i64 0) fun w_9 =>
       NN p fun b_8 o_7 =>
       ST1 w_9 ⟨b_8, o_7 + 2, none⟩ (.bool true) fun w_10 =>
       NN p fun b_9 o_8 =>
       ST1 w_10 ⟨b_9, o_8 + 3, none⟩ (.bool true) fun w_11 =>
       K (.tuple #[]) w_11) (
       NN h_ fun b_10 o_9 =>
       LDi .i64 w_7 ⟨b_10, o_9 + 5, none⟩ fun n_12 =>
       ITE (n_12 == 3) (
        DRAW w_7 fun w_12 =>
        NN h_ fun b_11 o_10 =>
        LDp w_12 ⟨b_11, o_10, none⟩ fun q_2 =>
        NN h_ fun b_12 o_11 =>
        LDi .i64 w_12 ⟨b_12, o_11 + 5 + 1, none⟩ fun n_13 =>
        CALL Pg F_give_Usable [.pointer q_2, .int .i64 n_13] w_12 fun v_6 w_13 =>
        AGGV v_6 fun cs_3 =>
        GETV cs_3 0 fun v_7 =>
        INTV .i64 v_7 fun n_14 =>
        GETV cs_3 1 fun v_8 =>
        INTV .i64 v_8 fun n_15 =>
        LEN cs_3 2 (
        ((
         KEEP w_13 []) ∧
         NN p fun b_13 o_12 =>
         ST1 w_13 ⟨b_13, o_12 + 6, none⟩ (.int .i64 n_14) fun w_14 =>
         ST1 w_14 ⟨b_13, o_12 + 6 + 1, none⟩ (.int .i64 n_15) fun w_15 =>
         ((
          KEEP w_15 []) ∧
          NN p fun b_14 o_13 =>
          ST1 w_15 ⟨b_14, o_13 + 2, none⟩ (.bool true) fun w_16 =>
          ((
           KEEP w_16 []) ∧
           NN p fun b_15 o_14 =>
           ST1 w_16 ⟨b_15, o_14 + 3, none⟩ (.bool true) fun w_17 =>
           ((
            KEEP w_17 []) ∧
            K (.tuple #[]) w_17)))))) (
        NN h_ fun b_16 o_15 =>
        LDi .i64 w_7 ⟨b_16, o_15 + 5, none⟩ fun n_16 =>
        ITE (n_16 == 2) (
         DRAW w_7 fun w_18 =>
         NN h_ fun b_17 o_16 =>
         LDp w_18 ⟨b_17, o_16, none⟩ fun q_3 =>
         NN h_ fun b_18 o_17 =>
         LDi .i64 w_18 ⟨b_18, o_17 + 1, none⟩ fun n_17 =>
         NN h_ fun b_19 o_18 =>
         LDp w_18 ⟨b_19, o_18 + 2, none⟩ fun q_4 =>
         NN h_ fun b_20 o_19 =>
         LDi .i64 w_18 ⟨b_20, o_19 + 5 + 1, none⟩ fun n_18 =>
         CALL Pg F_give_New [.pointer q_3, .int .i64 n_17, .pointer q_4, .int .i64 n_18] w_18 fun v_9 w_19 =>
         PTRV v_9 fun q_5 =>
         ((
          KEEP w_19 []) ∧
          NN h_ fun b_21 o_20 =>
          ST1 w_19 ⟨b_21, o_20 + 4, none⟩ (.iface T_pgive_Give (.pointer q_5)) fun w_20 =>
          ((
           KEEP w_20 []) ∧
           K (.tuple #[]) w_20))) (
         DRAW w_7 fun w_21 =>
         NN h_ fun b_22 o_21 =>
         LDp w_21 ⟨b_22, o_21, none⟩ fun q_6 =>
         NN h_ fun b_23 o_22 =>
         LDi .i64 w_21 ⟨b_23, o_22 + 1, none⟩ fun n_19 =>
         NN h_ fun b_24 o_23 =>
         LDp w_21 ⟨b_24, o_23 + 2, none⟩ fun q_7 =>
         LDi .i64 w_21 ⟨b_6, 0, none⟩ fun n_20 =>
         LDi .i64 w_21 ⟨b_6, 1, none⟩ fun n_21 =>
         CALL Pg F_take_New [.pointer q_6, .int .i64 n_19, .pointer q_7, .agg #[.int .i64 n_20, .int .i64 n_21]] w_21 fun v_10 w_22 =>
         PTRV v_10 fun q_8 =>
         ((
          KEEP w_22 []) ∧
          NN h_ fun b_25 o_24 =>
          ST1 w_22 ⟨b_25, o_24 + 4, none⟩ (.iface T_ptake_Take (.pointer q_8)) fun w_23 =>
          ((
           KEEP w_23 []) ∧
           K (.tuple #[]) w_23))))))))))) ∧
   NEW w_3 [.int .i64 0, .int .i64 0] T_live_Thing_live_Thing fun b_26 w_24 =>
   ((
    KEEP w_24 [Fact.cell ⟨b_3, o_3, none⟩ (.pointer q_1), Fact.cell ⟨b_4, o_4, none⟩ (.int .i64 n_3), Fact.cell ⟨b_4, o_4 + 1, none⟩ (.int .i64 n_4), Fact.cell ⟨b_4, o_4 + 2, none⟩ (.int .i64 n_5), Fact.cell ⟨b_4, o_4 + 3, none⟩ (.int .i64 n_6), Fact.cell ⟨b_4, o_4 + 4, none⟩ (.slice a_1 l_1 c_1), Fact.cell ⟨b_5, o_5 + 5, none⟩ (.int .i64 n_7), Fact.cell ⟨b_5, o_5 + 5 + 1, none⟩ (.int .i64 n_8)]) ∧
    CALL Pg F_ask_Check [.agg #[.int .i64 n_3, .int .i64 n_4, .int .i64 n_5, .int .i64 n_6, .slice a_1 l_1 c_1], .agg #[.int .i64 n_7, .int .i64 n_8]] w_24 fun v_11 w_25 =>
    TUPV v_11 fun cs_4 =>
    GETV cs_4 0 fun v_12 =>
    AGGV v_12 fun cs_5 =>
    GETV cs_5 0 fun v_13 =>
    INTV .i64 v_13 fun n_22 =>
    GETV cs_5 1 fun v_14 =>
    INTV .i64 v_14 fun n_23 =>
    LEN cs_5 2 (
    GETV cs_4 1 fun v_15 =>
    INTV .i64 v_15 fun n_24 =>
    LEN cs_4 2 (
    ((
     KEEP w_25 []) ∧
     ST1 w_25 ⟨b_26, 0, none⟩ (.int .i64 n_22) fun w_26 =>
     ST1 w_26 ⟨b_26, 1, none⟩ (.int .i64 n_23) fun w_27 =>
     ((
      KEEP w_27 []) ∧
      ITE (n_24 != 0) (
       NN p fun b_27 o_25 =>
       ST1 w_27 ⟨b_27, o_25 + 6, none⟩ (.int .i64 n_24) fun w_28 =>
       ST1 w_28 ⟨b_27, o_25 + 6 + 1, none⟩ (.int .i64 0) fun w_29 =>
       NN p fun b_28 o_26 =>
       ST1 w_29 ⟨b_28, o_26 + 2, none⟩ (.bool true) fun w_30 =>
       NN p fun b_29 o_27 =>
       ST1 w_30 ⟨b_29, o_27 + 3, none⟩ (.bool true) fun w_31 =>
       K (.tuple #[]) w_31) (
       NN h_ fun b_30 o_28 =>
       LDi .i64 w_27 ⟨b_30, o_28 + 5, none⟩ fun n_25 =>
       ITE (n_25 == 3) (
        DRAW w_27 fun w_32 =>
        NN h_ fun b_31 o_29 =>
        LDp w_32 ⟨b_31, o_29, none⟩ fun q_9 =>
        NN h_ fun b_32 o_30 =>
        LDi .i64 w_32 ⟨b_32, o_30 + 5 + 1, none⟩ fun n_26 =>
        CALL Pg F_give_Usable [.pointer q_9, .int .i64 n_26] w_32 fun v_16 w_33 =>
        AGGV v_16 fun cs_6 =>
        GETV cs_6 0 fun v_17 =>
        INTV .i64 v_17 fun n_27 =>
        GETV cs_6 1 fun v_18 =>
        INTV .i64 v_18 fun n_28 =>
        LEN cs_6 2 (
        ((
         KEEP w_33 []) ∧
         NN p fun b_33 o_31 =>
         ST1 w_33 ⟨b_33, o_31 + 6, none⟩ (.int .i64 n_27) fun w_34 =>
         ST1 w_34 ⟨b_33, o_31 + 6 + 1, none⟩ (.int .i64 n_28) fun w_35 =>
         ((
          KEEP w_35 []) ∧
          NN p fun b_34 o_32 =>
          ST1 w_35 ⟨b_34, o_32 + 2, none⟩ (.bool true) fun w_36 =>
          ((
           KEEP w_36 []) ∧
           NN p fun b_35 o_33 =>
           ST1 w_36 ⟨b_35, o_33 + 3, none⟩ (.bool true) fun w_37 =>
           ((
            KEEP w_37 []) ∧
            K (.tuple #[]) w_37)))))) (
        NN h_ fun b_36 o_34 =>
        LDi .i64 w_27 ⟨b_36, o_34 + 5, none⟩ fun n_29 =>
        ITE (n_29 == 2) (
         DRAW w_27 fun w_38 =>
         NN h_ fun b_37 o_35 =>
         LDp w_38 ⟨b_37, o_35, none⟩ fun q_10 =>
         NN h_ fun b_38 o_36 =>
         LDi .i64 w_38 ⟨b_38, o_36 + 1, none⟩ fun n_30 =>
         NN h_ fun b_39 o_37 =>
         LDp w_38 ⟨b_39, o_37 + 2, none⟩ fun q_11 =>
         NN h_ fun b_40 o_38 =>
         LDi .i64 w_38 ⟨b_40, o_38 + 5 + 1, none⟩ fun n_31 =>
         CALL Pg F_give_New [.pointer q_10, .int .i64 n_30, .pointer q_11, .int .i64 n_31] w_38 fun v_19 w_39 =>
         PTRV v_19 fun q_12 =>
         ((
          KEEP w_39 []) ∧
          NN h_ fun b_41 o_39 =>
          ST1 w_39 ⟨b_41, o_39 + 4, none⟩ (.iface T_pgive_Give (.pointer q_12)) fun w_40 =>
          ((
           KEEP w_40 []) ∧
           K (.tuple #[]) w_40))) (
         DRAW w_27 fun w_41 =>
         NN h_ fun b_42 o_40 =>
         LDp w_41 ⟨b_42, o_40, none⟩ fun q_13 =>
         NN h_ fun b_43 o_41 =>
         LDi .i64 w_41 ⟨b_43, o_41 + 1, none⟩ fun n_32 =>
         NN h_ fun b_44 o_42 =>
         LDp w_41 ⟨b_44, o_42 + 2, none⟩ fun q_14 =>
         LDi .i64 w_41 ⟨b_26, 0, none⟩ fun n_33 =>
         LDi .i64 w_41 ⟨b_26, 1, none⟩ fun n_34 =>
         CALL Pg F_take_New [.pointer q_13, .int .i64 n_32, .pointer q_14, .agg #[.int .i64 n_33, .int .i64 n_34]] w_41 fun v_20 w_42 =>
         PTRV v_20 fun q_15 =>
         ((
          KEEP w_42 []) ∧
          NN h_ fun b_45 o_43 =>
          ST1 w_42 ⟨b_45, o_43 + 4, none⟩ (.iface T_ptake_Take (.pointer q_15)) fun w_43 =>
          ((
           KEEP w_43 []) ∧
           K (.tuple #[]) w_43)))))))))))
theorem E_phand_Hand_begin (h_ : Option Addr) (p : Option Addr) (w : World) (K : Value → World → Prop) :
    D_phand_Hand_begin h_ p w K = vcFn Pg Tryz.f24 [] [.pointer h_, .pointer p] w K := by kernel_rfl
theorem C_phand_Hand_begin {h_ : Option Addr} {p : Option Addr} {w : World} {K : Value → World → Prop} (h : D_phand_Hand_begin h_ p w K) :
    CALL Pg F_phand_Hand_begin [.pointer h_, .pointer p] w K :=
  call_of_vc [] Tryz.func24 rfl (Nat.le_of_ble_eq_true (by kernel_rfl)) ((E_phand_Hand_begin h_ p w K) ▸ h)
def D_ask_Check (c0 : Int) (c1 : Int) (c2 : Int) (c3 : Int) (c4a : Option Addr) (c4l : Nat) (c4c : Nat) (r0 : Int) (r1 : Int) (w : World) (K : Value → World → Prop) : Prop :=
  NEW w [.int .i64 c0, .int .i64 c1, .int .i64 c2, .int .i64 c3, .slice c4a c4l c4c] T_api_Config_api_Config fun b_1 w_1 =>
  NEW w_1 [.int .i64 r0, .int .i64 r1] T_api_Request_api_Request fun b_2 w_2 =>
  NEW w_2 [.int .i64 0, .int .i64 0] T_live_Thing_live_Thing fun b_3 w_3 =>
  LDi .i64 w_3 ⟨b_2, 0, none⟩ fun n_1 =>
  ITE (n_1 == 1) (
   LDi .i64 w_3 ⟨b_1, 0, none⟩ fun n_2 =>
   LDi .i64 w_3 ⟨b_1, 1, none⟩ fun n_3 =>
   LDi .i64 w_3 ⟨b_1, 2, none⟩ fun n_4 =>
   LDi .i64 w_3 ⟨b_1, 3, none⟩ fun n_5 =>
   LDl w_3 ⟨b_1, 4, none⟩ fun a_1 l_1 c_1 =>
   LDi .i64 w_3 ⟨b_2, 1, none⟩ fun n_6 =>
   CALL Pg F_arena_Class [.agg #[.int .i64 n_2, .int .i64 n_3, .int .i64 n_4, .int .i64 n_5, .slice a_1 l_1 c_1], .int .i64 n_6] w_3 fun v_1 w_4 =>
   TUPV v_1 fun cs_1 =>
   GETV cs_1 0 fun v_2 =>
   INTV .i64 v_2 fun n_7 =>
   GETV cs_1 1 fun v_3 =>
   BOOLV v_3 fun t_1 =>
   LEN cs_1 2 (
   ITE (t_1) (
    CALL Pg F_live_Of [.int .i64 n_7] w_4 fun v_4 w_5 =>
    AGGV v_4 fun cs_2 =>
    GETV cs_2 0 fun v_5 =>
    INTV .i64 v_5 fun n_8 =>
    GETV cs_2 1 fun v_6 =>
    INTV .i64 v_6 fun n_9 =>
    LEN cs_2 2 (
    ST1 w_5 ⟨b_3, 0, none⟩ (.int .i64 n_8) fun w_6 =>
    ST1 w_6 ⟨b_3, 1, none⟩ (.int .i64 n_9) fun w_7 =>
    LDi .i64 w_7 ⟨b_3, 0, none⟩ fun n_10 =>
    LDi .i64 w_7 ⟨b_3, 1, none⟩ fun n_11 =>
    K (.tuple #[.agg #[.int .i64 n_10, .int .i64 n_11], .int .i64 0]) w_7)) (
    LDi .i64 w_4 ⟨b_1, 0, none⟩ fun n_12 =>
    LDi .i64 w_4 ⟨b_1, 1, none⟩ fun n_13 =>
    LDi .i64 w_4 ⟨b_1, 2, none⟩ fun n_14 =>
    LDi .i64 w_4 ⟨b_1, 3, none⟩ fun n_15 =>
    LDl w_4 ⟨b_1, 4, none⟩ fun a_2 l_2 c_2 =>
    LDi .i64 w_4 ⟨b_2, 1, none⟩ fun n_16 =>
    CALL Pg F_arena_Run [.agg #[.int .i64 n_12, .int .i64 n_13, .int .i64 n_14, .int .i64 n_15, .slice a_2 l_2 c_2], .int .i64 n_16] w_4 fun v_7 w_8 =>
    INTV .i64 v_7 fun n_17 =>
    ITE (decide (n_17 > 0)) (
     CALL Pg F_live_Run [.int .i64 n_17] w_8 fun v_8 w_9 =>
     AGGV v_8 fun cs_3 =>
     GETV cs_3 0 fun v_9 =>
     INTV .i64 v_9 fun n_18 =>
     GETV cs_3 1 fun v_10 =>
     INTV .i64 v_10 fun n_19 =>
     LEN cs_3 2 (
     ST1 w_9 ⟨b_3, 0, none⟩ (.int .i64 n_18) fun w_10 =>
     ST1 w_10 ⟨b_3, 1, none⟩ (.int .i64 n_19) fun w_11 =>
     LDi .i64 w_11 ⟨b_3, 0, none⟩ fun n_20 =>
     LDi .i64 w_11 ⟨b_3, 1, none⟩ fun n_21 =>
     K (.tuple #[.agg #[.int .i64 n_20, .int .i64 n_21], .int .i64 0]) w_11)) (
     ST1 w_8 ⟨b_3, 0, none⟩ (.int .i64 0) fun w_12 =>
     ST1 w_12 ⟨b_3, 1, none⟩ (.int .i64 0) fun w_13 =>
     LDi .i64 w_13 ⟨b_3, 0, none⟩ fun n_22 =>
     LDi .i64 w_13 ⟨b_3, 1, none⟩ fun n_23 =>
     K (.tuple #[.agg #[.int .i64 n_22, .int .i64 n_23], .int .i64 3]) w_13)))) (
   ITE (n_1 == 2) (
    ITE (n_1 == 2) (
     LDi .i64 w_3 ⟨b_1, 0, none⟩ fun n_24 =>
     LDi .i64 w_3 ⟨b_1, 1, none⟩ fun n_25 =>
     LDi .i64 w_3 ⟨b_1, 2, none⟩ fun n_26 =>
     LDi .i64 w_3 ⟨b_1, 3, none⟩ fun n_27 =>
     LDl w_3 ⟨b_1, 4, none⟩ fun a_3 l_3 c_3 =>
     LDi .i64 w_3 ⟨b_2, 1, none⟩ fun n_28 =>
     CALL Pg F_arena_Place [.agg #[.int .i64 n_24, .int .i64 n_25, .int .i64 n_26, .int .i64 n_27, .slice a_3 l_3 c_3], .int .i64 n_28] w_3 fun v_11 w_14 =>
     TUPV v_11 fun cs_4 =>
     GETV cs_4 0 fun v_12 =>
     INTV .i64 v_12 fun _ =>
     GETV cs_4 1 fun v_13 =>
     INTV .i64 v_13 fun _ =>
     GETV cs_4 2 fun v_14 =>
     BOOLV v_14 fun t_2 =>
     LEN cs_4 3 (
     ITE (!t_2) (
      ST1 w_14 ⟨b_3, 0, none⟩ (.int .i64 0) fun w_15 =>
      ST1 w_15 ⟨b_3, 1, none⟩ (.int .i64 0) fun w_16 =>
      LDi .i64 w_16 ⟨b_3, 0, none⟩ fun n_31 =>
      LDi .i64 w_16 ⟨b_3, 1, none⟩ fun n_32 =>
      K (.tuple #[.agg #[.int .i64 n_31, .int .i64 n_32], .int .i64 4]) w_16) (
      ST1 w_14 ⟨b_3, 0, none⟩ (.int .i64 0) fun w_17 =>
      ST1 w_17 ⟨b_3, 1, none⟩ (.int .i64 0) fun w_18 =>
      LDi .i64 w_18 ⟨b_3, 0, none⟩ fun n_33 =>
      LDi .i64 w_18 ⟨b_3, 1, none⟩ fun n_34 =>
      K (.tuple #[.agg #[.int .i64 n_33, .int .i64 n_34], .int .i64 0]) w_18))) (
     ST1 w_3 ⟨b_3, 0, none⟩ (.int .i64 0) fun w_19 =>
     ST1 w_19 ⟨b_3, 1, none⟩ (.int .i64 0) fun w_20 =>
     LDi .i64 w_20 ⟨b_3, 0, none⟩ fun n_35 =>
     LDi .i64 w_20 ⟨b_3, 1, none⟩ fun n_36 =>
     K (.tuple #[.agg #[.int .i64 n_35, .int .i64 n_36], .int .i64 2]) w_20)) (
    ITE (n_1 == 3) (
     LDi .i64 w_3 ⟨b_1, 0, none⟩ fun n_37 =>
     LDi .i64 w_3 ⟨b_1, 1, none⟩ fun n_38 =>
     LDi .i64 w_3 ⟨b_1, 2, none⟩ fun n_39 =>
     LDi .i64 w_3 ⟨b_1, 3, none⟩ fun n_40 =>
     LDl w_3 ⟨b_1, 4, none⟩ fun a_4 l_4 c_4 =>
     LDi .i64 w_3 ⟨b_2, 1, none⟩ fun n_41 =>
     CALL Pg F_arena_Place [.agg #[.int .i64 n_37, .int .i64 n_38, .int .i64 n_39, .int .i64 n_40, .slice a_4 l_4 c_4], .int .i64 n_41] w_3 fun v_15 w_21 =>
     TUPV v_15 fun cs_5 =>
     GETV cs_5 0 fun v_16 =>
     INTV .i64 v_16 fun _ =>
     GETV cs_5 1 fun v_17 =>
     INTV .i64 v_17 fun _ =>
     GETV cs_5 2 fun v_18 =>
     BOOLV v_18 fun t_3 =>
     LEN cs_5 3 (
     ITE (!t_3) (
      ST1 w_21 ⟨b_3, 0, none⟩ (.int .i64 0) fun w_22 =>
      ST1 w_22 ⟨b_3, 1, none⟩ (.int .i64 0) fun w_23 =>
      LDi .i64 w_23 ⟨b_3, 0, none⟩ fun n_44 =>
      LDi .i64 w_23 ⟨b_3, 1, none⟩ fun n_45 =>
      K (.tuple #[.agg #[.int .i64 n_44, .int .i64 n_45], .int .i64 4]) w_23) (
      ST1 w_21 ⟨b_3, 0, none⟩ (.int .i64 0) fun w_24 =>
      ST1 w_24 ⟨b_3, 1, none⟩ (.int .i64 0) fun w_25 =>
      LDi .i64 w_25 ⟨b_3, 0, none⟩ fun n_46 =>
      LDi .i64 w_25 ⟨b_3, 1, none⟩ fun n_47 =>
      K (.tuple #[.agg #[.int .i64 n_46, .int .i64 n_47], .int .i64 0]) w_25))) (
     ST1 w_3 ⟨b_3, 0, none⟩ (.int .i64 0) fun w_26 =>
     ST1 w_26 ⟨b_3, 1, none⟩ (.int .i64 0) fun w_27 =>
     LDi .i64 w_27 ⟨b_3, 0, none⟩ fun n_48 =>
     LDi .i64 w_27 ⟨b_3, 1, none⟩ fun n_49 =>
     K (.tuple #[.agg #[.int .i64 n_48, .int .i64 n_49], .int .i64 2]) w_27)))
theorem E_ask_Check (c0 : Int) (c1 : Int) (c2 : Int) (c3 : Int) (c4a : Option Addr) (c4l : Nat) (c4c : Nat) (r0 : Int) (r1 : Int) (w : World) (K : Value → World → Prop) :
    D_ask_Check c0 c1 c2 c3 c4a c4l c4c r0 r1 w K = vcFn Pg Tryz.f34 [] [.agg #[.int .i64 c0, .int .i64 c1, .int .i64 c2, .int .i64 c3, .slice c4a c4l c4c], .agg #[.int .i64 r0, .int .i64 r1]] w K := by kernel_rfl
theorem C_ask_Check {c0 : Int} {c1 : Int} {c2 : Int} {c3 : Int} {c4a : Option Addr} {c4l : Nat} {c4c : Nat} {r0 : Int} {r1 : Int} {w : World} {K : Value → World → Prop} (h : D_ask_Check c0 c1 c2 c3 c4a c4l c4c r0 r1 w K) :
    CALL Pg F_ask_Check [.agg #[.int .i64 c0, .int .i64 c1, .int .i64 c2, .int .i64 c3, .slice c4a c4l c4c], .agg #[.int .i64 r0, .int .i64 r1]] w K :=
  call_of_vc [] Tryz.func34 rfl (Nat.le_of_ble_eq_true (by kernel_rfl)) ((E_ask_Check c0 c1 c2 c3 c4a c4l c4c r0 r1 w K) ▸ h)
def D_arena_Class (c0 : Int) (c1 : Int) (c2 : Int) (c3 : Int) (c4a : Option Addr) (c4l : Nat) (c4c : Nat) (size : Int) (w : World) (K : Value → World → Prop) : Prop :=
  NEW w [.int .i64 c0, .int .i64 c1, .int .i64 c2, .int .i64 c3, .slice c4a c4l c4c] T_api_Config_api_Config fun b_1 w_1 =>
  ITE (decide (size < 1)) (
   K (.tuple #[.int .i64 0, .bool false]) w_1) (
   LDl w_1 ⟨b_1, 4, none⟩ fun a_1 l_1 _ =>
   LOOP [.int .i64 0, .bool false, .int .i64 0] w_1 fun I_1 N_1 =>
   ∀ w_2 : World,
   ∀ v_1 : Value,
   ∀ v_2 : Value,
   ∀ v_3 : Value,
   (I_1 [v_1, v_2, v_3] w_2 →
   INTV .i64 v_3 fun n_1 =>
   BOOLV v_2 fun t_1 =>
   INTV .i64 v_1 fun n_2 =>
   ITE (decide (n_1 < (↑l_1 : Int))) (
    IDX a_1 l_1 n_1 1 fun b_2 o_1 =>
    LDi .i64 w_2 ⟨b_2, o_1, none⟩ fun n_3 =>
    ITE (decide (size ≤ n_3)) (
     K (.tuple #[.int .i64 n_1, .bool true]) w_2) (
     BIND (IntKind.i64.wrap (n_1 + 1)) fun n_4 =>
     N_1 [v_1, v_2, v_3] w_2 [.int .i64 n_2, .bool t_1, .int .i64 n_4] w_2)) (
    K (.tuple #[.int .i64 0, .bool false]) w_2)))
theorem E_arena_Class (c0 : Int) (c1 : Int) (c2 : Int) (c3 : Int) (c4a : Option Addr) (c4l : Nat) (c4c : Nat) (size : Int) (w : World) (K : Value → World → Prop) :
    D_arena_Class c0 c1 c2 c3 c4a c4l c4c size w K = vcFn Pg Tryz.f41 [] [.agg #[.int .i64 c0, .int .i64 c1, .int .i64 c2, .int .i64 c3, .slice c4a c4l c4c], .int .i64 size] w K := by kernel_rfl
theorem C_arena_Class {c0 : Int} {c1 : Int} {c2 : Int} {c3 : Int} {c4a : Option Addr} {c4l : Nat} {c4c : Nat} {size : Int} {w : World} {K : Value → World → Prop} (h : D_arena_Class c0 c1 c2 c3 c4a c4l c4c size w K) :
    CALL Pg F_arena_Class [.agg #[.int .i64 c0, .int .i64 c1, .int .i64 c2, .int .i64 c3, .slice c4a c4l c4c], .int .i64 size] w K :=
  call_of_vc [] Tryz.func41 rfl (Nat.le_of_ble_eq_true (by kernel_rfl)) ((E_arena_Class c0 c1 c2 c3 c4a c4l c4c size w K) ▸ h)
def D_arena_Run (c0 : Int) (c1 : Int) (c2 : Int) (c3 : Int) (c4a : Option Addr) (c4l : Nat) (c4c : Nat) (size : Int) (w : World) (K : Value → World → Prop) : Prop :=
  NEW w [.int .i64 c0, .int .i64 c1, .int .i64 c2, .int .i64 c3, .slice c4a c4l c4c] T_api_Config_api_Config fun b_1 w_1 =>
  LDi .i64 w_1 ⟨b_1, 0, none⟩ fun n_1 =>
  LDi .i64 w_1 ⟨b_1, 1, none⟩ fun n_2 =>
  LDi .i64 w_1 ⟨b_1, 2, none⟩ fun n_3 =>
  LDi .i64 w_1 ⟨b_1, 3, none⟩ fun n_4 =>
  LDl w_1 ⟨b_1, 4, none⟩ fun a_1 l_1 c_1 =>
  CALL Pg F_arena_Class [.agg #[.int .i64 n_1, .int .i64 n_2, .int .i64 n_3, .int .i64 n_4, .slice a_1 l_1 c_1], .int .i64 size] w_1 fun v_1 w_2 =>
  TUPV v_1 fun cs_1 =>
  GETV cs_1 0 fun v_2 =>
  INTV .i64 v_2 fun _ =>
  GETV cs_1 1 fun v_3 =>
  BOOLV v_3 fun t_1 =>
  LEN cs_1 2 (
  ITE (t_1) (
   K (.int .i64 0) w_2) (
   ITE (decide (size < 1)) (
    K (.int .i64 0) w_2) (
    LDi .i64 w_2 ⟨b_1, 0, none⟩ fun n_6 =>
    LDi .i64 w_2 ⟨b_1, 1, none⟩ fun n_7 =>
    LDi .i64 w_2 ⟨b_1, 2, none⟩ fun n_8 =>
    LDi .i64 w_2 ⟨b_1, 3, none⟩ fun n_9 =>
    LDl w_2 ⟨b_1, 4, none⟩ fun a_2 l_2 c_2 =>
    CALL Pg F_arena_Most [.agg #[.int .i64 n_6, .int .i64 n_7, .int .i64 n_8, .int .i64 n_9, .slice a_2 l_2 c_2]] w_2 fun v_4 w_3 =>
    INTV .i64 v_4 fun n_10 =>
    ITE (decide (size > n_10)) (
     K (.int .i64 0) w_3) (
     BIND (IntKind.i64.wrap (size + 1024)) fun n_11 =>
     BIND (IntKind.i64.wrap (n_11 - 1)) fun n_12 =>
     NZ 1024 (
     BIND (IntKind.i64.wrap (n_12.tdiv 1024)) fun n_13 =>
     K (.int .i64 n_13) w_3)))))
theorem E_arena_Run (c0 : Int) (c1 : Int) (c2 : Int) (c3 : Int) (c4a : Option Addr) (c4l : Nat) (c4c : Nat) (size : Int) (w : World) (K : Value → World → Prop) :
    D_arena_Run c0 c1 c2 c3 c4a c4l c4c size w K = vcFn Pg Tryz.f43 [] [.agg #[.int .i64 c0, .int .i64 c1, .int .i64 c2, .int .i64 c3, .slice c4a c4l c4c], .int .i64 size] w K := by kernel_rfl
theorem C_arena_Run {c0 : Int} {c1 : Int} {c2 : Int} {c3 : Int} {c4a : Option Addr} {c4l : Nat} {c4c : Nat} {size : Int} {w : World} {K : Value → World → Prop} (h : D_arena_Run c0 c1 c2 c3 c4a c4l c4c size w K) :
    CALL Pg F_arena_Run [.agg #[.int .i64 c0, .int .i64 c1, .int .i64 c2, .int .i64 c3, .slice c4a c4l c4c], .int .i64 size] w K :=
  call_of_vc [] Tryz.func43 rfl (Nat.le_of_ble_eq_true (by kernel_rfl)) ((E_arena_Run c0 c1 c2 c3 c4a c4l c4c size w K) ▸ h)
def D_live_Of (class_ : Int) (w : World) (K : Value → World → Prop) : Prop :=
  NEW w [.int .i64 0, .int .i64 0] T_live_Thing_live_Thing fun b_1 w_1 =>
  ST1 w_1 ⟨b_1, 0, none⟩ (.int .i64 class_) fun w_2 =>
  ST1 w_2 ⟨b_1, 1, none⟩ (.int .i64 0) fun w_3 =>
  LDi .i64 w_3 ⟨b_1, 0, none⟩ fun n_1 =>
  LDi .i64 w_3 ⟨b_1, 1, none⟩ fun n_2 =>
  K (.agg #[.int .i64 n_1, .int .i64 n_2]) w_3
theorem E_live_Of (class_ : Int) (w : World) (K : Value → World → Prop) :
    D_live_Of class_ w K = vcFn Pg Tryz.f42 [] [.int .i64 class_] w K := by kernel_rfl
theorem C_live_Of {class_ : Int} {w : World} {K : Value → World → Prop} (h : D_live_Of class_ w K) :
    CALL Pg F_live_Of [.int .i64 class_] w K :=
  call_of_vc [] Tryz.func42 rfl (Nat.le_of_ble_eq_true (by kernel_rfl)) ((E_live_Of class_ w K) ▸ h)
def D_live_Run (n : Int) (w : World) (K : Value → World → Prop) : Prop :=
  NEW w [.int .i64 0, .int .i64 0] T_live_Thing_live_Thing fun b_1 w_1 =>
  ST1 w_1 ⟨b_1, 0, none⟩ (.int .i64 (-1)) fun w_2 =>
  ST1 w_2 ⟨b_1, 1, none⟩ (.int .i64 n) fun w_3 =>
  LDi .i64 w_3 ⟨b_1, 0, none⟩ fun n_1 =>
  LDi .i64 w_3 ⟨b_1, 1, none⟩ fun n_2 =>
  K (.agg #[.int .i64 n_1, .int .i64 n_2]) w_3
theorem E_live_Run (n : Int) (w : World) (K : Value → World → Prop) :
    D_live_Run n w K = vcFn Pg Tryz.f44 [] [.int .i64 n] w K := by kernel_rfl
theorem C_live_Run {n : Int} {w : World} {K : Value → World → Prop} (h : D_live_Run n w K) :
    CALL Pg F_live_Run [.int .i64 n] w K :=
  call_of_vc [] Tryz.func44 rfl (Nat.le_of_ble_eq_true (by kernel_rfl)) ((E_live_Run n w K) ▸ h)
def D_arena_Most (c0 : Int) (c1 : Int) (c2 : Int) (c3 : Int) (c4a : Option Addr) (c4l : Nat) (c4c : Nat) (w : World) (K : Value → World → Prop) : Prop :=
  NEW w [.int .i64 c0, .int .i64 c1, .int .i64 c2, .int .i64 c3, .slice c4a c4l c4c] T_api_Config_api_Config fun b_1 w_1 =>
  LDi .i64 w_1 ⟨b_1, 1, none⟩ fun n_1 =>
  BIND (IntKind.i64.wrap (n_1 * 1024)) fun n_2 =>
  K (.int .i64 n_2) w_1
theorem E_arena_Most (c0 : Int) (c1 : Int) (c2 : Int) (c3 : Int) (c4a : Option Addr) (c4l : Nat) (c4c : Nat) (w : World) (K : Value → World → Prop) :
    D_arena_Most c0 c1 c2 c3 c4a c4l c4c w K = vcFn Pg Tryz.f50 [] [.agg #[.int .i64 c0, .int .i64 c1, .int .i64 c2, .int .i64 c3, .slice c4a c4l c4c]] w K := by kernel_rfl
theorem C_arena_Most {c0 : Int} {c1 : Int} {c2 : Int} {c3 : Int} {c4a : Option Addr} {c4l : Nat} {c4c : Nat} {w : World} {K : Value → World → Prop} (h : D_arena_Most c0 c1 c2 c3 c4a c4l c4c w K) :
    CALL Pg F_arena_Most [.agg #[.int .i64 c0, .int .i64 c1, .int .i64 c2, .int .i64 c3, .slice c4a c4l c4c]] w K :=
  call_of_vc [] Tryz.func50 rfl (Nat.le_of_ble_eq_true (by kernel_rfl)) ((E_arena_Most c0 c1 c2 c3 c4a c4l c4c w K) ▸ h)
def D_arena_End (c0 : Int) (c1 : Int) (c2 : Int) (c3 : Int) (c4a : Option Addr) (c4l : Nat) (c4c : Nat) (w : World) (K : Value → World → Prop) : Prop :=
  NEW w [.int .i64 c0, .int .i64 c1, .int .i64 c2, .int .i64 c3, .slice c4a c4l c4c] T_api_Config_api_Config fun b_1 w_1 =>
  LDi .i64 w_1 ⟨b_1, 0, none⟩ fun n_1 =>
  LDi .i64 w_1 ⟨b_1, 1, none⟩ fun n_2 =>
  LDi .i64 w_1 ⟨b_1, 2, none⟩ fun n_3 =>
  LDi .i64 w_1 ⟨b_1, 3, none⟩ fun n_4 =>
  LDl w_1 ⟨b_1, 4, none⟩ fun a_1 l_1 c_1 =>
  CALL Pg F_arena_Most [.agg #[.int .i64 n_1, .int .i64 n_2, .int .i64 n_3, .int .i64 n_4, .slice a_1 l_1 c_1]] w_1 fun v_1 w_2 =>
  INTV .i64 v_1 fun n_5 =>
  BIND (IntKind.i64.wrap (65536 + n_5)) fun n_6 =>
  K (.int .i64 n_6) w_2
theorem E_arena_End (c0 : Int) (c1 : Int) (c2 : Int) (c3 : Int) (c4a : Option Addr) (c4l : Nat) (c4c : Nat) (w : World) (K : Value → World → Prop) :
    D_arena_End c0 c1 c2 c3 c4a c4l c4c w K = vcFn Pg Tryz.f51 [] [.agg #[.int .i64 c0, .int .i64 c1, .int .i64 c2, .int .i64 c3, .slice c4a c4l c4c]] w K := by kernel_rfl
theorem C_arena_End {c0 : Int} {c1 : Int} {c2 : Int} {c3 : Int} {c4a : Option Addr} {c4l : Nat} {c4c : Nat} {w : World} {K : Value → World → Prop} (h : D_arena_End c0 c1 c2 c3 c4a c4l c4c w K) :
    CALL Pg F_arena_End [.agg #[.int .i64 c0, .int .i64 c1, .int .i64 c2, .int .i64 c3, .slice c4a c4l c4c]] w K :=
  call_of_vc [] Tryz.func51 rfl (Nat.le_of_ble_eq_true (by kernel_rfl)) ((E_arena_End c0 c1 c2 c3 c4a c4l c4c w K) ▸ h)

end Go.Proofs.YthjbakeddjkdkaaGreatDoor
