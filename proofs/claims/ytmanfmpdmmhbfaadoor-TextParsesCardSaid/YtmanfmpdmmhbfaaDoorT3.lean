/- What the evaluator asks of each function, in readable form: printed by a program of this claim's own. -/
import Derived.Test.YtmanfmpdmmhbfaaDoorN
import Derived.Test.YtmanfmpdmmhbfaaDoorDen
namespace Go.Proofs.YtmanfmpdmmhbfaaDoor
open Go.Den
set_option linter.unusedVariables false
set_option maxRecDepth 1000000
def D_r25_Cut (s : ByteArray) (at_ : Int) (w : World) (K : Value → World → Prop) : Prop :=
  NEW w [] T_string fun b_1 w_1 =>
  LOOP [.slice (some ⟨b_1, 0, none⟩) 0 0, .int .i64 0, .int .i64 0] w_1 fun I_1 N_1 =>
  ∀ w_2 : World,
  ∀ v_1 : Value,
  ∀ v_2 : Value,
  ∀ v_3 : Value,
  (I_1 [v_1, v_2, v_3] w_2 →
  INTV .i64 v_3 fun n_1 =>
  INTV .i64 v_2 fun n_2 =>
  SLV v_1 fun a_1 l_1 c_1 =>
  ITE (decide (n_1 ≤ (↑s.size : Int))) (
   JOIN fun J_1 =>
   ((
    ITE (n_1 == (↑s.size : Int)) (
     J_1 [.bool true] w_2) (
     SILN Pg (Instr.index T_string (.string s) (.int .i64 n_1)) fun v_4 =>
     INTV .u8 v_4 fun n_3 =>
     J_1 [.bool (n_3 == at_)] w_2)) ∧
    ∀ w_3 : World,
    ∀ v_5 : Value,
    (J_1 [v_5] w_3 →
    BOOLV v_5 fun t_1 =>
    ITE (t_1) (
     SILN Pg (Instr.sliceAt T_string (.string s) (some (.int .i64 n_2)) (some (.int .i64 n_1)) none) fun v_6 =>
     STRV v_6 fun s_1 =>
     NEW w_3 [.string s_1] T_string fun b_2 w_4 =>
     SEML Pg w_4 (Builtin.append_ #[T_Lstring, T_Lstring] T_Lstring #[.slice a_1 l_1 c_1, .slice (some ⟨b_2, 0, none⟩) 1 1]) fun v_7 w_5 =>
     SLV v_7 fun a_2 l_2 c_2 =>
     BIND (IntKind.i64.wrap (n_1 + 1)) fun n_4 =>
     BIND (IntKind.i64.wrap (n_1 + 1)) fun n_5 =>
     N_1 [v_1, v_2, v_3] w_2 [.slice a_2 l_2 c_2, .int .i64 n_4, .int .i64 n_5] w_5) (
     BIND (IntKind.i64.wrap (n_1 + 1)) fun n_6 =>
     N_1 [v_1, v_2, v_3] w_2 [.slice a_1 l_1 c_1, .int .i64 n_2, .int .i64 n_6] w_3)))) (
   K (.slice a_1 l_1 c_1) w_2))
theorem E_r25_Cut (s : ByteArray) (at_ : Int) (w : World) (K : Value → World → Prop) :
    D_r25_Cut s at_ w K = vcFn Pg Tryd.f20 [6] [.string s, .int .u8 at_] w K := by kernel_rfl
theorem C_r25_Cut {s : ByteArray} {at_ : Int} {w : World} {K : Value → World → Prop} (h : D_r25_Cut s at_ w K) :
    CALL Pg F_r25_Cut [.string s, .int .u8 at_] w K :=
  call_of_vc [6] Tryd.func20 rfl (Nat.le_of_ble_eq_true (by kernel_rfl)) ((E_r25_Cut s at_ w K) ▸ h)
def D_r25_Num (n : Int) (w : World) (K : Value → World → Prop) : Prop :=
  ITE (decide (n < 0)) (
   NZ 10 (
   BIND (n.tmod 10) fun n_1 =>
   BIND (IntKind.i64.wrap (48 - n_1)) fun n_2 =>
   BIND (IntKind.u8.wrap n_2) fun n_3 =>
   NEW w [.int .u8 n_3] T_uint8 fun b_1 w_1 =>
   SILX Pg w_1 (convert 64 9 (.slice (some ⟨b_1, 0, none⟩) 1 1)) fun v_1 _ =>
   STRV v_1 fun s_1 =>
   ITE (decide (n > -10)) (
    SILN Pg (binE BinOp.add T_string (Operand.const (.string { data := #[45] })) (Operand.tmp 15) (.string { data := #[45] }) (.string s_1)) fun v_2 =>
    STRV v_2 fun s_2 =>
    K (.string s_2) w_1) (
    NZ 10 (
    BIND (IntKind.i64.wrap (n.tdiv 10)) fun n_4 =>
    CALL Pg F_r25_Num [.int .i64 n_4] w_1 fun v_3 w_2 =>
    STRV v_3 fun s_3 =>
    SILN Pg (binE BinOp.add T_string (Operand.tmp 19) (Operand.tmp 20) (.string s_3) (.string s_1)) fun v_4 =>
    STRV v_4 fun s_4 =>
    K (.string s_4) w_2)))) (
   NZ 10 (
   BIND (n.tmod 10) fun n_5 =>
   BIND (IntKind.i64.wrap (48 + n_5)) fun n_6 =>
   BIND (IntKind.u8.wrap n_6) fun n_7 =>
   NEW w [.int .u8 n_7] T_uint8 fun b_2 w_3 =>
   SILX Pg w_3 (convert 64 9 (.slice (some ⟨b_2, 0, none⟩) 1 1)) fun v_5 _ =>
   STRV v_5 fun s_5 =>
   ITE (decide (n < 10)) (
    K (.string s_5) w_3) (
    NZ 10 (
    BIND (IntKind.i64.wrap (n.tdiv 10)) fun n_8 =>
    CALL Pg F_r25_Num [.int .i64 n_8] w_3 fun v_6 w_4 =>
    STRV v_6 fun s_6 =>
    SILN Pg (binE BinOp.add T_string (Operand.tmp 33) (Operand.tmp 34) (.string s_6) (.string s_5)) fun v_7 =>
    STRV v_7 fun s_7 =>
    K (.string s_7) w_4))))
theorem E_r25_Num (n : Int) (w : World) (K : Value → World → Prop) :
    D_r25_Num n w K = vcFn Pg Tryd.f31 [] [.int .i64 n] w K := by kernel_rfl
theorem C_r25_Num {n : Int} {w : World} {K : Value → World → Prop} (h : D_r25_Num n w K) :
    CALL Pg F_r25_Num [.int .i64 n] w K :=
  call_of_vc [] Tryd.func31 rfl (Nat.le_of_ble_eq_true (by kernel_rfl)) ((E_r25_Num n w K) ▸ h)
def D_r25_Number (w_ : ByteArray) (w : World) (K : Value → World → Prop) : Prop :=
  ITE (decide ((↑w_.size : Int) > 20)) (
   K (.tuple #[.int .i64 0, .bool false]) w) (
   LOOP [.int .i64 0, .int .i64 0] w fun I_1 N_1 =>
   ∀ w_1 : World,
   ∀ v_1 : Value,
   ∀ v_2 : Value,
   (I_1 [v_1, v_2] w_1 →
   INTV .i64 v_2 fun n_1 =>
   INTV .i64 v_1 fun n_2 =>
   ITE (decide (n_1 < (↑w_.size : Int))) (
    SILN Pg (Instr.index T_string (.string w_) (.int .i64 n_1)) fun v_3 =>
    INTV .u8 v_3 fun n_3 =>
    ITE (decide (n_3 ≥ 48)) (
     SILN Pg (Instr.index T_string (.string w_) (.int .i64 n_1)) fun v_4 =>
     INTV .u8 v_4 fun n_4 =>
     ITE (decide (n_4 ≤ 57)) (
      BIND (IntKind.i64.wrap (n_2 * 10)) fun n_5 =>
      SILN Pg (Instr.index T_string (.string w_) (.int .i64 n_1)) fun v_5 =>
      INTV .u8 v_5 fun n_6 =>
      BIND (IntKind.u8.wrap (n_6 - 48)) fun n_7 =>
      BIND (IntKind.i64.wrap n_7) fun n_8 =>
      BIND (IntKind.i64.wrap (n_5 - n_8)) fun n_9 =>
      BIND (IntKind.i64.wrap (n_1 + 1)) fun n_10 =>
      N_1 [v_1, v_2] w_1 [.int .i64 n_9, .int .i64 n_10] w_1) (
      BIND (IntKind.i64.wrap (n_1 + 1)) fun n_11 =>
      N_1 [v_1, v_2] w_1 [.int .i64 n_2, .int .i64 n_11] w_1)) (
     BIND (IntKind.i64.wrap (n_1 + 1)) fun n_12 =>
     N_1 [v_1, v_2] w_1 [.int .i64 n_2, .int .i64 n_12] w_1)) (
    JOIN fun J_1 =>
    ((
     JOIN fun J_2 =>
     ((
      ITE (decide ((↑w_.size : Int) > 0)) (
       SILN Pg (Instr.index T_string (.string w_) (.int .i64 0)) fun v_6 =>
       INTV .u8 v_6 fun n_13 =>
       J_2 [.bool (n_13 != 45)] w_1) (
       J_2 [.bool false] w_1)) ∧
      ∀ w_2 : World,
      ∀ v_7 : Value,
      (J_2 [v_7] w_2 →
      BOOLV v_7 fun t_1 =>
      ITE (t_1) (
       BIND (IntKind.i64.wrap (0 - n_2)) fun n_14 =>
       J_1 [.int .i64 n_14] w_2) (
       J_1 [.int .i64 n_2] w_2)))) ∧
     ∀ w_3 : World,
     ∀ v_8 : Value,
     (J_1 [v_8] w_3 →
     INTV .i64 v_8 fun n_15 =>
     CALL Pg F_r25_Num [.int .i64 n_15] w_3 fun v_9 w_4 =>
     STRV v_9 fun s_1 =>
     K (.tuple #[.int .i64 n_15, .bool (s_1 == w_)]) w_4)))))
theorem E_r25_Number (w_ : ByteArray) (w : World) (K : Value → World → Prop) :
    D_r25_Number w_ w K = vcFn Pg Tryd.f23 [9] [.string w_] w K := by kernel_rfl
theorem C_r25_Number {w_ : ByteArray} {w : World} {K : Value → World → Prop} (h : D_r25_Number w_ w K) :
    CALL Pg F_r25_Number [.string w_] w K :=
  call_of_vc [9] Tryd.func23 rfl (Nat.le_of_ble_eq_true (by kernel_rfl)) ((E_r25_Number w_ w K) ▸ h)
def D_r25_kind (w_ : ByteArray) (w : World) (K : Value → World → Prop) : Prop :=
  CALL Pg F_r25_Cut [.string { data := #[45, 32, 99, 111, 110, 102, 105, 103, 32, 97, 115, 107, 32, 112, 105, 99, 107, 32, 116, 117, 114, 110, 115, 32, 97, 108, 111, 110, 101, 32, 102, 105, 110, 105, 115, 104, 32, 101, 118, 101, 110, 116, 115, 32, 115, 116, 97, 116, 115, 32, 108, 105, 118, 101, 32, 99, 104, 101, 99, 107] }, .int .u8 32] w fun v_1 w_1 =>
  SLV v_1 fun a_1 l_1 _ =>
  LOOP [.int .i64 0, .int .i64 1] w_1 fun I_1 N_1 =>
  ∀ w_2 : World,
  ∀ v_2 : Value,
  ∀ v_3 : Value,
  (I_1 [v_2, v_3] w_2 →
  INTV .i64 v_3 fun n_1 =>
  INTV .i64 v_2 fun n_2 =>
  ITE (decide (n_1 < (↑l_1 : Int))) (
   IDX a_1 l_1 n_1 1 fun b_1 o_1 =>
   LDs w_2 ⟨b_1, o_1, none⟩ fun s_1 =>
   ITE (s_1 == w_) (
    K (.int .i64 n_1) w_2) (
    BIND (IntKind.i64.wrap (n_1 + 1)) fun n_3 =>
    N_1 [v_2, v_3] w_2 [.int .i64 n_2, .int .i64 n_3] w_2)) (
   K (.int .i64 0) w_2))
theorem E_r25_kind (w_ : ByteArray) (w : World) (K : Value → World → Prop) :
    D_r25_kind w_ w K = vcFn Pg Tryd.f21 [] [.string w_] w K := by kernel_rfl
theorem C_r25_kind {w_ : ByteArray} {w : World} {K : Value → World → Prop} (h : D_r25_kind w_ w K) :
    CALL Pg F_r25_kind [.string w_] w K :=
  call_of_vc [] Tryd.func21 rfl (Nat.le_of_ble_eq_true (by kernel_rfl)) ((E_r25_kind w_ w K) ▸ h)
def D_r25_request (w_ : ByteArray) (w : World) (K : Value → World → Prop) : Prop :=
  CALL Pg F_r25_Cut [.string { data := #[45, 32, 97, 108, 108, 111, 99, 32, 102, 114, 101, 101, 32, 117, 115, 97, 98, 108, 101] }, .int .u8 32] w fun v_1 w_1 =>
  SLV v_1 fun a_1 l_1 _ =>
  LOOP [.int .i64 0, .int .i64 1] w_1 fun I_1 N_1 =>
  ∀ w_2 : World,
  ∀ v_2 : Value,
  ∀ v_3 : Value,
  (I_1 [v_2, v_3] w_2 →
  INTV .i64 v_3 fun n_1 =>
  INTV .i64 v_2 fun n_2 =>
  ITE (decide (n_1 < (↑l_1 : Int))) (
   IDX a_1 l_1 n_1 1 fun b_1 o_1 =>
   LDs w_2 ⟨b_1, o_1, none⟩ fun s_1 =>
   ITE (s_1 == w_) (
    K (.int .i64 n_1) w_2) (
    BIND (IntKind.i64.wrap (n_1 + 1)) fun n_3 =>
    N_1 [v_2, v_3] w_2 [.int .i64 n_2, .int .i64 n_3] w_2)) (
   K (.int .i64 0) w_2))
theorem E_r25_request (w_ : ByteArray) (w : World) (K : Value → World → Prop) :
    D_r25_request w_ w K = vcFn Pg Tryd.f30 [] [.string w_] w K := by kernel_rfl
theorem C_r25_request {w_ : ByteArray} {w : World} {K : Value → World → Prop} (h : D_r25_request w_ w K) :
    CALL Pg F_r25_request [.string w_] w K :=
  call_of_vc [] Tryd.func30 rfl (Nat.le_of_ble_eq_true (by kernel_rfl)) ((E_r25_request w_ w K) ▸ h)
def D_r25_ask (la : Option Addr) (ll : Nat) (lc : Nat) (w : World) (K : Value → World → Prop) : Prop :=
  NEW w [.int .i64 0, .int .i64 0, .int .i64 0, .slice none 0 0] T_chandleryref25_Line_r25_Line fun b_1 w_1 =>
  ITE ((↑ll : Int) != 4) (
   ST1 w_1 ⟨b_1, 0, none⟩ (.int .i64 0) fun w_2 =>
   ST1 w_2 ⟨b_1, 1, none⟩ (.int .i64 0) fun w_3 =>
   ST1 w_3 ⟨b_1, 2, none⟩ (.int .i64 0) fun w_4 =>
   ST1 w_4 ⟨b_1, 3, none⟩ (.slice none 0 0) fun w_5 =>
   LDi .i64 w_5 ⟨b_1, 0, none⟩ fun n_1 =>
   LDi .i64 w_5 ⟨b_1, 1, none⟩ fun n_2 =>
   LDi .i64 w_5 ⟨b_1, 2, none⟩ fun n_3 =>
   LDl w_5 ⟨b_1, 3, none⟩ fun a_1 l_1 c_1 =>
   K (.tuple #[.agg #[.int .i64 n_1, .int .i64 n_2, .int .i64 n_3, .slice a_1 l_1 c_1], .bool false]) w_5) (
   IDX la ll 2 1 fun b_2 o_1 =>
   LDs w_1 ⟨b_2, o_1, none⟩ fun s_1 =>
   CALL Pg F_r25_request [.string s_1] w_1 fun v_1 w_6 =>
   INTV .i64 v_1 fun n_4 =>
   NEW w_6 [.int .i64 0, .int .i64 0, .int .i64 0, .slice none 0 0] T_chandleryref25_Line_r25_Line fun b_3 w_7 =>
   ST1 w_7 ⟨b_3, 0, none⟩ (.int .i64 2) fun w_8 =>
   ST1 w_8 ⟨b_3, 1, none⟩ (.int .i64 n_4) fun w_9 =>
   ST1 w_9 ⟨b_3, 2, none⟩ (.int .i64 0) fun w_10 =>
   ST1 w_10 ⟨b_3, 3, none⟩ (.slice none 0 0) fun w_11 =>
   IDX la ll 1 1 fun b_4 o_2 =>
   LDs w_11 ⟨b_4, o_2, none⟩ fun s_2 =>
   CALL Pg F_r25_Number [.string s_2] w_11 fun v_2 w_12 =>
   TUPV v_2 fun cs_1 =>
   GETV cs_1 0 fun v_3 =>
   INTV .i64 v_3 fun n_5 =>
   GETV cs_1 1 fun v_4 =>
   BOOLV v_4 fun t_1 =>
   LEN cs_1 2 (
   IDX la ll 3 1 fun b_5 o_3 =>
   LDs w_12 ⟨b_5, o_3, none⟩ fun s_3 =>
   JOIN fun J_1 =>
   ((
    ITE (decide ((↑s_3.size : Int) > 0)) (
     SILN Pg (Instr.index T_string (.string s_3) (.int .i64 0)) fun v_5 =>
     INTV .u8 v_5 fun n_6 =>
     J_1 [.bool (n_6 == 35)] w_12) (
     J_1 [.bool false] w_12)) ∧
    ∀ w_13 : World,
    ∀ v_6 : Value,
    (J_1 [v_6] w_13 →
    BOOLV v_6 fun t_2 =>
    JOIN fun J_2 =>
    ((
     JOIN fun J_3 =>
     ((
      J_3 [.bool t_2] w_13) ∧
      ∀ w_14 : World,
      ∀ v_7 : Value,
      (J_3 [v_7] w_14 →
      BOOLV v_7 fun t_3 =>
      ITE (t_3) (
       SILN Pg (Instr.sliceAt T_string (.string s_3) (some (.int .i64 1)) none none) fun v_8 =>
       STRV v_8 fun s_4 =>
       J_2 [.string s_4] w_14) (
       J_2 [.string s_3] w_14)))) ∧
     ∀ w_15 : World,
     ∀ v_9 : Value,
     (J_2 [v_9] w_15 →
     STRV v_9 fun s_5 =>
     CALL Pg F_r25_Number [.string s_5] w_15 fun v_10 w_16 =>
     TUPV v_10 fun cs_2 =>
     GETV cs_2 0 fun v_11 =>
     INTV .i64 v_11 fun n_7 =>
     GETV cs_2 1 fun v_12 =>
     BOOLV v_12 fun t_4 =>
     LEN cs_2 2 (
     JOIN fun J_4 =>
     ((
      JOIN fun J_5 =>
      ((
       ITE (!t_1) (
        J_5 [.bool true] w_16) (
        ITE (!t_4) (
         J_5 [.bool true] w_16) (
         LDi .i64 w_16 ⟨b_3, 1, none⟩ fun n_8 =>
         ITE (n_8 == 0) (
          J_5 [.bool true] w_16) (
          ITE (t_2) (
           J_5 [.bool (decide (n_7 < 1))] w_16) (
           J_5 [.bool false] w_16))))) ∧
       ∀ w_17 : World,
       ∀ v_13 : Value,
       (J_5 [v_13] w_17 →
       BOOLV v_13 fun t_5 =>
       ITE (t_5) (
        ST1 w_17 ⟨b_1, 0, none⟩ (.int .i64 0) fun w_18 =>
        ST1 w_18 ⟨b_1, 1, none⟩ (.int .i64 0) fun w_19 =>
        ST1 w_19 ⟨b_1, 2, none⟩ (.int .i64 0) fun w_20 =>
        ST1 w_20 ⟨b_1, 3, none⟩ (.slice none 0 0) fun w_21 =>
        LDi .i64 w_21 ⟨b_1, 0, none⟩ fun n_9 =>
        LDi .i64 w_21 ⟨b_1, 1, none⟩ fun n_10 =>
        LDi .i64 w_21 ⟨b_1, 2, none⟩ fun n_11 =>
        LDl w_21 ⟨b_1, 3, none⟩ fun a_2 l_2 c_2 =>
        K (.tuple #[.agg #[.int .i64 n_9, .int .i64 n_10, .int .i64 n_11, .slice a_2 l_2 c_2], .bool false]) w_21) (
        J_4 [.bool false] w_17)))) ∧
      ∀ w_22 : World,
      ∀ v_14 : Value,
      (J_4 [v_14] w_22 →
      BOOLV v_14 fun _ =>
      NEW w_22 [.int .i64 n_5, .int .i64 n_7] T_int fun b_6 w_23 =>
      ST1 w_23 ⟨b_3, 3, none⟩ (.slice (some ⟨b_6, 0, none⟩) 2 2) fun w_24 =>
      JOIN fun J_6 =>
      ((
       JOIN fun J_7 =>
       ((
        J_7 [.bool t_2] w_24) ∧
        ∀ w_25 : World,
        ∀ v_15 : Value,
        (J_7 [v_15] w_25 →
        BOOLV v_15 fun t_7 =>
        ITE (t_7) (
         ST1 w_25 ⟨b_3, 2, none⟩ (.int .i64 n_7) fun w_26 =>
         NEW w_26 [.int .i64 n_5, .int .i64 0] T_int fun b_7 w_27 =>
         ST1 w_27 ⟨b_3, 3, none⟩ (.slice (some ⟨b_7, 0, none⟩) 2 2) fun w_28 =>
         J_6 [] w_28) (
         J_6 [] w_25)))) ∧
       ∀ w_29 : World,
       (J_6 [] w_29 →
       LDi .i64 w_29 ⟨b_3, 0, none⟩ fun n_12 =>
       LDi .i64 w_29 ⟨b_3, 1, none⟩ fun n_13 =>
       LDi .i64 w_29 ⟨b_3, 2, none⟩ fun n_14 =>
       LDl w_29 ⟨b_3, 3, none⟩ fun a_3 l_3 c_3 =>
       ST1 w_29 ⟨b_1, 0, none⟩ (.int .i64 n_12) fun w_30 =>
       ST1 w_30 ⟨b_1, 1, none⟩ (.int .i64 n_13) fun w_31 =>
       ST1 w_31 ⟨b_1, 2, none⟩ (.int .i64 n_14) fun w_32 =>
       ST1 w_32 ⟨b_1, 3, none⟩ (.slice a_3 l_3 c_3) fun w_33 =>
       LDi .i64 w_33 ⟨b_1, 0, none⟩ fun n_15 =>
       LDi .i64 w_33 ⟨b_1, 1, none⟩ fun n_16 =>
       LDi .i64 w_33 ⟨b_1, 2, none⟩ fun n_17 =>
       LDl w_33 ⟨b_1, 3, none⟩ fun a_4 l_4 c_4 =>
       K (.tuple #[.agg #[.int .i64 n_15, .int .i64 n_16, .int .i64 n_17, .slice a_4 l_4 c_4], .bool true]) w_33)))))))))))
theorem E_r25_ask (la : Option Addr) (ll : Nat) (lc : Nat) (w : World) (K : Value → World → Prop) :
    D_r25_ask la ll lc w K = vcFn Pg Tryd.f22 [6, 7, 10, 13] [.slice la ll lc] w K := by kernel_rfl
theorem C_r25_ask {la : Option Addr} {ll : Nat} {lc : Nat} {w : World} {K : Value → World → Prop} (h : D_r25_ask la ll lc w K) :
    CALL Pg F_r25_ask [.slice la ll lc] w K :=
  call_of_vc [6, 7, 10, 13] Tryd.func22 rfl (Nat.le_of_ble_eq_true (by kernel_rfl)) ((E_r25_ask la ll lc w K) ▸ h)
def D_r25_Parse (s : ByteArray) (w : World) (K : Value → World → Prop) : Prop :=
  NEW w [.int .i64 0, .int .i64 0, .int .i64 0, .slice none 0 0] T_chandleryref25_Line_r25_Line fun b_1 w_1 =>
  CALL Pg F_r25_Cut [.string s, .int .u8 32] w_1 fun v_1 w_2 =>
  SLV v_1 fun a_1 l_1 c_1 =>
  IDX a_1 l_1 0 1 fun b_2 o_1 =>
  LDs w_2 ⟨b_2, o_1, none⟩ fun s_1 =>
  CALL Pg F_r25_kind [.string s_1] w_2 fun v_2 w_3 =>
  INTV .i64 v_2 fun n_1 =>
  NEW w_3 [.int .i64 0, .int .i64 0, .int .i64 0, .slice none 0 0] T_chandleryref25_Line_r25_Line fun b_3 w_4 =>
  ST1 w_4 ⟨b_3, 0, none⟩ (.int .i64 n_1) fun w_5 =>
  ST1 w_5 ⟨b_3, 1, none⟩ (.int .i64 0) fun w_6 =>
  ST1 w_6 ⟨b_3, 2, none⟩ (.int .i64 0) fun w_7 =>
  ST1 w_7 ⟨b_3, 3, none⟩ (.slice none 0 0) fun w_8 =>
  LDi .i64 w_8 ⟨b_3, 0, none⟩ fun n_2 =>
  ITE (n_2 == 2) (
   CALL Pg F_r25_ask [.slice a_1 l_1 c_1] w_8 fun v_3 w_9 =>
   TUPV v_3 fun cs_1 =>
   GETV cs_1 0 fun v_4 =>
   AGGV v_4 fun cs_2 =>
   GETV cs_2 0 fun v_5 =>
   INTV .i64 v_5 fun n_3 =>
   GETV cs_2 1 fun v_6 =>
   INTV .i64 v_6 fun n_4 =>
   GETV cs_2 2 fun v_7 =>
   INTV .i64 v_7 fun n_5 =>
   GETV cs_2 3 fun v_8 =>
   SLV v_8 fun a_2 l_2 c_2 =>
   LEN cs_2 4 (
   GETV cs_1 1 fun v_9 =>
   BOOLV v_9 fun t_1 =>
   LEN cs_1 2 (
   ST1 w_9 ⟨b_1, 0, none⟩ (.int .i64 n_3) fun w_10 =>
   ST1 w_10 ⟨b_1, 1, none⟩ (.int .i64 n_4) fun w_11 =>
   ST1 w_11 ⟨b_1, 2, none⟩ (.int .i64 n_5) fun w_12 =>
   ST1 w_12 ⟨b_1, 3, none⟩ (.slice a_2 l_2 c_2) fun w_13 =>
   LDi .i64 w_13 ⟨b_1, 0, none⟩ fun n_6 =>
   LDi .i64 w_13 ⟨b_1, 1, none⟩ fun n_7 =>
   LDi .i64 w_13 ⟨b_1, 2, none⟩ fun n_8 =>
   LDl w_13 ⟨b_1, 3, none⟩ fun a_3 l_3 c_3 =>
   K (.tuple #[.agg #[.int .i64 n_6, .int .i64 n_7, .int .i64 n_8, .slice a_3 l_3 c_3], .bool t_1]) w_13))) (
   LOOP [.bool false, .int .i64 1] w_8 fun I_1 N_1 =>
   ∀ w_14 : World,
   ∀ v_10 : Value,
   ∀ v_11 : Value,
   (I_1 [v_10, v_11] w_14 →
   INTV .i64 v_11 fun n_9 =>
   BOOLV v_10 fun t_2 =>
   ITE (decide (n_9 < (↑l_1 : Int))) (
    IDX a_1 l_1 n_9 1 fun b_4 o_2 =>
    LDs w_14 ⟨b_4, o_2, none⟩ fun s_2 =>
    CALL Pg F_r25_Number [.string s_2] w_14 fun v_12 w_15 =>
    TUPV v_12 fun cs_3 =>
    GETV cs_3 0 fun v_13 =>
    INTV .i64 v_13 fun n_10 =>
    GETV cs_3 1 fun v_14 =>
    BOOLV v_14 fun t_3 =>
    LEN cs_3 2 (
    ITE (!t_3) (
     ST1 w_15 ⟨b_1, 0, none⟩ (.int .i64 0) fun w_16 =>
     ST1 w_16 ⟨b_1, 1, none⟩ (.int .i64 0) fun w_17 =>
     ST1 w_17 ⟨b_1, 2, none⟩ (.int .i64 0) fun w_18 =>
     ST1 w_18 ⟨b_1, 3, none⟩ (.slice none 0 0) fun w_19 =>
     LDi .i64 w_19 ⟨b_1, 0, none⟩ fun n_11 =>
     LDi .i64 w_19 ⟨b_1, 1, none⟩ fun n_12 =>
     LDi .i64 w_19 ⟨b_1, 2, none⟩ fun n_13 =>
     LDl w_19 ⟨b_1, 3, none⟩ fun a_4 l_4 c_4 =>
     K (.tuple #[.agg #[.int .i64 n_11, .int .i64 n_12, .int .i64 n_13, .slice a_4 l_4 c_4], .bool false]) w_19) (
     LDl w_15 ⟨b_3, 3, none⟩ fun a_5 l_5 c_5 =>
     NEW w_15 [.int .i64 n_10] T_int fun b_5 w_20 =>
     SEML Pg w_20 (Builtin.append_ #[T_Lint, T_Lint] T_Lint #[.slice a_5 l_5 c_5, .slice (some ⟨b_5, 0, none⟩) 1 1]) fun v_15 w_21 =>
     SLV v_15 fun a_6 l_6 c_6 =>
     ST1 w_21 ⟨b_3, 3, none⟩ (.slice a_6 l_6 c_6) fun w_22 =>
     BIND (IntKind.i64.wrap (n_9 + 1)) fun n_14 =>
     N_1 [v_10, v_11] w_14 [.bool t_2, .int .i64 n_14] w_22))) (
    LDl w_14 ⟨b_3, 3, none⟩ fun _ l_7 _ =>
    JOIN fun J_1 =>
    ((
     LDi .i64 w_14 ⟨b_3, 0, none⟩ fun n_15 =>
     ITE (n_15 == 1) (
      ITE (decide ((↑l_7 : Int) ≥ 4)) (
       ITE (decide ((↑l_7 : Int) ≤ 32)) (
        J_1 [.bool true] w_14) (
        LDi .i64 w_14 ⟨b_3, 0, none⟩ fun n_16 =>
        ITE (n_16 == 3) (
         ITE ((↑l_7 : Int) == 2) (
          J_1 [.bool true] w_14) (
          LDi .i64 w_14 ⟨b_3, 0, none⟩ fun n_17 =>
          ITE (n_17 == 4) (
           ITE ((↑l_7 : Int) == 1) (
            J_1 [.bool true] w_14) (
            LDi .i64 w_14 ⟨b_3, 0, none⟩ fun n_18 =>
            ITE (decide (n_18 ≥ 6)) (
             J_1 [.bool ((↑l_7 : Int) == 0)] w_14) (
             J_1 [.bool false] w_14))) (
           LDi .i64 w_14 ⟨b_3, 0, none⟩ fun n_19 =>
           ITE (n_19 == 5) (
            ITE ((↑l_7 : Int) == 1) (
             J_1 [.bool true] w_14) (
             LDi .i64 w_14 ⟨b_3, 0, none⟩ fun n_20 =>
             ITE (decide (n_20 ≥ 6)) (
              J_1 [.bool ((↑l_7 : Int) == 0)] w_14) (
              J_1 [.bool false] w_14))) (
            LDi .i64 w_14 ⟨b_3, 0, none⟩ fun n_21 =>
            ITE (decide (n_21 ≥ 6)) (
             J_1 [.bool ((↑l_7 : Int) == 0)] w_14) (
             J_1 [.bool false] w_14))))) (
         LDi .i64 w_14 ⟨b_3, 0, none⟩ fun n_22 =>
         ITE (n_22 == 4) (
          ITE ((↑l_7 : Int) == 1) (
           J_1 [.bool true] w_14) (
           LDi .i64 w_14 ⟨b_3, 0, none⟩ fun n_23 =>
           ITE (decide (n_23 ≥ 6)) (
            J_1 [.bool ((↑l_7 : Int) == 0)] w_14) (
            J_1 [.bool false] w_14))) (
          LDi .i64 w_14 ⟨b_3, 0, none⟩ fun n_24 =>
          ITE (n_24 == 5) (
           ITE ((↑l_7 : Int) == 1) (
            J_1 [.bool true] w_14) (
            LDi .i64 w_14 ⟨b_3, 0, none⟩ fun n_25 =>
            ITE (decide (n_25 ≥ 6)) (
             J_1 [.bool ((↑l_7 : Int) == 0)] w_14) (
             J_1 [.bool false] w_14))) (
           LDi .i64 w_14 ⟨b_3, 0, none⟩ fun n_26 =>
           ITE (decide (n_26 ≥ 6)) (
            J_1 [.bool ((↑l_7 : Int) == 0)] w_14) (
            J_1 [.bool false] w_14)))))) (
       LDi .i64 w_14 ⟨b_3, 0, none⟩ fun n_27 =>
       ITE (n_27 == 3) (
        ITE ((↑l_7 : Int) == 2) (
         J_1 [.bool true] w_14) (
         LDi .i64 w_14 ⟨b_3, 0, none⟩ fun n_28 =>
         ITE (n_28 == 4) (
          ITE ((↑l_7 : Int) == 1) (
           J_1 [.bool true] w_14) (
           LDi .i64 w_14 ⟨b_3, 0, none⟩ fun n_29 =>
           ITE (decide (n_29 ≥ 6)) (
            J_1 [.bool ((↑l_7 : Int) == 0)] w_14) (
            J_1 [.bool false] w_14))) (
          LDi .i64 w_14 ⟨b_3, 0, none⟩ fun n_30 =>
          ITE (n_30 == 5) (
           ITE ((↑l_7 : Int) == 1) (
            J_1 [.bool true] w_14) (
            LDi .i64 w_14 ⟨b_3, 0, none⟩ fun n_31 =>
            ITE (decide (n_31 ≥ 6)) (
             J_1 [.bool ((↑l_7 : Int) == 0)] w_14) (
             J_1 [.bool false] w_14))) (
           LDi .i64 w_14 ⟨b_3, 0, none⟩ fun n_32 =>
           ITE (decide (n_32 ≥ 6)) (
            J_1 [.bool ((↑l_7 : Int) == 0)] w_14) (
            J_1 [.bool false] w_14))))) (
        LDi .i64 w_14 ⟨b_3, 0, none⟩ fun n_33 =>
        ITE (n_33 == 4) (
         ITE ((↑l_7 : Int) == 1) (
          J_1 [.bool true] w_14) (
          LDi .i64 w_14 ⟨b_3, 0, none⟩ fun n_34 =>
          ITE (decide (n_34 ≥ 6)) (
           J_1 [.bool ((↑l_7 : Int) == 0)] w_14) (
           J_1 [.bool false] w_14))) (
         LDi .i64 w_14 ⟨b_3, 0, none⟩ fun n_35 =>
         ITE (n_35 == 5) (
          ITE ((↑l_7 : Int) == 1) (
           J_1 [.bool true] w_14) (
           LDi .i64 w_14 ⟨b_3, 0, none⟩ fun n_36 =>
           ITE (decide (n_36 ≥ 6)) (
            J_1 [.bool ((↑l_7 : Int) == 0)] w_14) (
            J_1 [.bool false] w_14))) (
          LDi .i64 w_14 ⟨b_3, 0, none⟩ fun n_37 =>
          ITE (decide (n_37 ≥ 6)) (
           J_1 [.bool ((↑l_7 : Int) == 0)] w_14) (
           J_1 [.bool false] w_14)))))) (
      LDi .i64 w_14 ⟨b_3, 0, none⟩ fun n_38 =>
      ITE (n_38 == 3) (
       ITE ((↑l_7 : Int) == 2) (
        J_1 [.bool true] w_14) (
        LDi .i64 w_14 ⟨b_3, 0, none⟩ fun n_39 =>
        ITE (n_39 == 4) (
         ITE ((↑l_7 : Int) == 1) (
          J_1 [.bool true] w_14) (
          LDi .i64 w_14 ⟨b_3, 0, none⟩ fun n_40 =>
          ITE (decide (n_40 ≥ 6)) (
           J_1 [.bool ((↑l_7 : Int) == 0)] w_14) (
           J_1 [.bool false] w_14))) (
         LDi .i64 w_14 ⟨b_3, 0, none⟩ fun n_41 =>
         ITE (n_41 == 5) (
          ITE ((↑l_7 : Int) == 1) (
           J_1 [.bool true] w_14) (
           LDi .i64 w_14 ⟨b_3, 0, none⟩ fun n_42 =>
           ITE (decide (n_42 ≥ 6)) (
            J_1 [.bool ((↑l_7 : Int) == 0)] w_14) (
            J_1 [.bool false] w_14))) (
          LDi .i64 w_14 ⟨b_3, 0, none⟩ fun n_43 =>
          ITE (decide (n_43 ≥ 6)) (
           J_1 [.bool ((↑l_7 : Int) == 0)] w_14) (
           J_1 [.bool false] w_14))))) (
       LDi .i64 w_14 ⟨b_3, 0, none⟩ fun n_44 =>
       ITE (n_44 == 4) (
        ITE ((↑l_7 : Int) == 1) (
         J_1 [.bool true] w_14) (
         LDi .i64 w_14 ⟨b_3, 0, none⟩ fun n_45 =>
         ITE (decide (n_45 ≥ 6)) (
          J_1 [.bool ((↑l_7 : Int) == 0)] w_14) (
          J_1 [.bool false] w_14))) (
        LDi .i64 w_14 ⟨b_3, 0, none⟩ fun n_46 =>
        ITE (n_46 == 5) (
         ITE ((↑l_7 : Int) == 1) (
          J_1 [.bool true] w_14) (
          LDi .i64 w_14 ⟨b_3, 0, none⟩ fun n_47 =>
          ITE (decide (n_47 ≥ 6)) (
           J_1 [.bool ((↑l_7 : Int) == 0)] w_14) (
           J_1 [.bool false] w_14))) (
         LDi .i64 w_14 ⟨b_3, 0, none⟩ fun n_48 =>
         ITE (decide (n_48 ≥ 6)) (
          J_1 [.bool ((↑l_7 : Int) == 0)] w_14) (
          J_1 [.bool false] w_14)))))) ∧
     ∀ w_23 : World,
     ∀ v_16 : Value,
     (J_1 [v_16] w_23 →
     BOOLV v_16 fun t_4 =>
     ITE (!t_4) (
      ST1 w_23 ⟨b_1, 0, none⟩ (.int .i64 0) fun w_24 =>
      ST1 w_24 ⟨b_1, 1, none⟩ (.int .i64 0) fun w_25 =>
      ST1 w_25 ⟨b_1, 2, none⟩ (.int .i64 0) fun w_26 =>
      ST1 w_26 ⟨b_1, 3, none⟩ (.slice none 0 0) fun w_27 =>
      LDi .i64 w_27 ⟨b_1, 0, none⟩ fun n_49 =>
      LDi .i64 w_27 ⟨b_1, 1, none⟩ fun n_50 =>
      LDi .i64 w_27 ⟨b_1, 2, none⟩ fun n_51 =>
      LDl w_27 ⟨b_1, 3, none⟩ fun a_8 l_8 c_8 =>
      K (.tuple #[.agg #[.int .i64 n_49, .int .i64 n_50, .int .i64 n_51, .slice a_8 l_8 c_8], .bool false]) w_27) (
      LDi .i64 w_23 ⟨b_3, 0, none⟩ fun n_52 =>
      LDi .i64 w_23 ⟨b_3, 1, none⟩ fun n_53 =>
      LDi .i64 w_23 ⟨b_3, 2, none⟩ fun n_54 =>
      LDl w_23 ⟨b_3, 3, none⟩ fun a_9 l_9 c_9 =>
      ST1 w_23 ⟨b_1, 0, none⟩ (.int .i64 n_52) fun w_28 =>
      ST1 w_28 ⟨b_1, 1, none⟩ (.int .i64 n_53) fun w_29 =>
      ST1 w_29 ⟨b_1, 2, none⟩ (.int .i64 n_54) fun w_30 =>
      ST1 w_30 ⟨b_1, 3, none⟩ (.slice a_9 l_9 c_9) fun w_31 =>
      LDi .i64 w_31 ⟨b_1, 0, none⟩ fun n_55 =>
      LDi .i64 w_31 ⟨b_1, 1, none⟩ fun n_56 =>
      LDi .i64 w_31 ⟨b_1, 2, none⟩ fun n_57 =>
      LDl w_31 ⟨b_1, 3, none⟩ fun a_10 l_10 c_10 =>
      K (.tuple #[.agg #[.int .i64 n_55, .int .i64 n_56, .int .i64 n_57, .slice a_10 l_10 c_10], .bool true]) w_31))))))
theorem E_r25_Parse (s : ByteArray) (w : World) (K : Value → World → Prop) :
    D_r25_Parse s w K = vcFn Pg Tryd.f10 [13] [.string s] w K := by kernel_rfl
theorem C_r25_Parse {s : ByteArray} {w : World} {K : Value → World → Prop} (h : D_r25_Parse s w K) :
    CALL Pg F_r25_Parse [.string s] w K :=
  call_of_vc [13] Tryd.func10 rfl (Nat.le_of_ble_eq_true (by kernel_rfl)) ((E_r25_Parse s w K) ▸ h)
def D_l25_of (w_0 : Int) (w_1 : Int) (w_2 : Int) (w_3a : Option Addr) (w_3l : Nat) (w_3c : Nat) (w : World) (K : Value → World → Prop) : Prop :=
  NEW w [.int .i64 w_0, .int .i64 w_1, .int .i64 w_2, .slice w_3a w_3l w_3c] T_chandleryref25_Line_r25_Line fun b_1 w_1 =>
  NEW w_1 [.int .i64 0, .int .i64 0, .int .i64 0, .int .i64 0, .int .i64 0, .int .i64 0, .int .i64 0, .slice none 0 0, .int .i64 0, .int .i64 0, .int .i64 0] T_text_Line_text_Line fun b_2 w_2 =>
  DRAW w_2 fun w_3 =>
  LDi .i64 w_3 ⟨b_1, 0, none⟩ fun n_1 =>
  LDi .i64 w_3 ⟨b_1, 2, none⟩ fun n_2 =>
  LDl w_3 ⟨b_1, 3, none⟩ fun a_1 l_1 c_1 =>
  NEW w_3 [.int .i64 0, .int .i64 0, .int .i64 0, .int .i64 0, .int .i64 0, .int .i64 0, .int .i64 0, .slice none 0 0, .int .i64 0, .int .i64 0, .int .i64 0] T_text_Line_text_Line fun b_3 w_4 =>
  ((
   KEEP w_4 [Fact.cell ⟨b_1, 0, none⟩ (.int .i64 n_1), Fact.cell ⟨b_1, 2, none⟩ (.int .i64 n_2), Fact.cell ⟨b_1, 3, none⟩ (.slice a_1 l_1 c_1)]) ∧
   ST1 w_4 ⟨b_3, 0, none⟩ (.int .i64 n_1) fun w_5 =>
   ST1 w_5 ⟨b_3, 1, none⟩ (.int .i64 0) fun w_6 =>
   ST1 w_6 ⟨b_3, 2, none⟩ (.int .i64 0) fun w_7 =>
   ST1 w_7 ⟨b_3, 3, none⟩ (.int .i64 0) fun w_8 =>
   ST1 w_8 ⟨b_3, 4, none⟩ (.int .i64 0) fun w_9 =>
   ST1 w_9 ⟨b_3, 5, none⟩ (.int .i64 0) fun w_10 =>
   ST1 w_10 ⟨b_3, 6, none⟩ (.int .i64 0) fun w_11 =>
   ST1 w_11 ⟨b_3, 7, none⟩ (.slice none 0 0) fun w_12 =>
   ST1 w_12 ⟨b_3, 8, none⟩ (.int .i64 0) fun w_13 =>
   ST1 w_13 ⟨b_3, 9, none⟩ (.int .i64 0) fun w_14 =>
   ST1 w_14 ⟨b_3, 10, none⟩ (.int .i64 n_2) fun w_15 =>
   ((
    KEEP w_15 [Fact.cell ⟨b_1, 3, none⟩ (.slice a_1 l_1 c_1)]) ∧
    JOIN fun J_1 =>
    ((
     JOIN fun J_2 =>
     ((
      LDi .i64 w_15 ⟨b_1, 0, none⟩ fun n_3 =>
      J_2 [.int .i64 n_3] w_15) ∧
      ∀ w_16 : World,
      ∀ v_1 : Value,
      (J_2 [v_1] w_16 →
      INTV .i64 v_1 fun n_4 =>
      ITE (n_4 == 1) (
       DRAW w_16 fun w_17 =>
       IDX a_1 l_1 0 1 fun b_4 o_1 =>
       LDi .i64 w_17 ⟨b_4, o_1, none⟩ fun n_5 =>
       IDX a_1 l_1 1 1 fun b_5 o_2 =>
       LDi .i64 w_17 ⟨b_5, o_2, none⟩ fun n_6 =>
       IDX a_1 l_1 2 1 fun b_6 o_3 =>
       LDi .i64 w_17 ⟨b_6, o_3, none⟩ fun n_7 =>
       IDX a_1 l_1 3 1 fun b_7 o_4 =>
       LDi .i64 w_17 ⟨b_7, o_4, none⟩ fun n_8 =>
       SILN Pg (Instr.sliceAt T_Lint (.slice a_1 l_1 c_1) (some (.int .i64 4)) none none) fun v_2 =>
       SLV v_2 fun a_2 l_2 c_2 =>
       ST1 w_17 ⟨b_3, 3, none⟩ (.int .i64 n_5) fun w_18 =>
       ST1 w_18 ⟨b_3, 4, none⟩ (.int .i64 n_6) fun w_19 =>
       ST1 w_19 ⟨b_3, 5, none⟩ (.int .i64 n_7) fun w_20 =>
       ST1 w_20 ⟨b_3, 6, none⟩ (.int .i64 n_8) fun w_21 =>
       ST1 w_21 ⟨b_3, 7, none⟩ (.slice a_2 l_2 c_2) fun w_22 =>
       ((
        KEEP w_22 []) ∧
        J_1 [] w_22)) (
       ITE (n_4 == 2) (
        DRAW w_16 fun w_23 =>
        IDX a_1 l_1 0 1 fun b_8 o_5 =>
        LDi .i64 w_23 ⟨b_8, o_5, none⟩ fun n_9 =>
        LDi .i64 w_23 ⟨b_1, 1, none⟩ fun n_10 =>
        IDX a_1 l_1 1 1 fun b_9 o_6 =>
        LDi .i64 w_23 ⟨b_9, o_6, none⟩ fun n_11 =>
        ST1 w_23 ⟨b_3, 1, none⟩ (.int .i64 n_9) fun w_24 =>
        ((
         KEEP w_24 [Fact.cell ⟨b_1, 1, none⟩ (.int .i64 n_10), Fact.cell ⟨b_9, o_6, none⟩ (.int .i64 n_11)]) ∧
         ST1 w_24 ⟨b_3, 8, none⟩ (.int .i64 n_10) fun w_25 =>
         ST1 w_25 ⟨b_3, 9, none⟩ (.int .i64 n_11) fun w_26 =>
         ((
          KEEP w_26 []) ∧
          J_1 [] w_26))) (
        ITE (n_4 == 3) (
         DRAW w_16 fun w_27 =>
         IDX a_1 l_1 0 1 fun b_10 o_7 =>
         LDi .i64 w_27 ⟨b_10, o_7, none⟩ fun n_12 =>
         IDX a_1 l_1 1 1 fun b_11 o_8 =>
         LDi .i64 w_27 ⟨b_11, o_8, none⟩ fun n_13 =>
         ST1 w_27 ⟨b_3, 1, none⟩ (.int .i64 n_12) fun w_28 =>
         ((
          KEEP w_28 [Fact.cell ⟨b_11, o_8, none⟩ (.int .i64 n_13)]) ∧
          ST1 w_28 ⟨b_3, 2, none⟩ (.int .i64 n_13) fun w_29 =>
          ((
           KEEP w_29 []) ∧
           J_1 [] w_29))) (
         ITE (n_4 == 4) (
          IDX a_1 l_1 0 1 fun b_12 o_9 =>
          LDi .i64 w_16 ⟨b_12, o_9, none⟩ fun n_14 =>
          ST1 w_16 ⟨b_3, 2, none⟩ (.int .i64 n_14) fun w_30 =>
          J_1 [] w_30) (
          ITE (n_4 == 5) (
           IDX a_1 l_1 0 1 fun b_13 o_10 =>
           LDi .i64 w_16 ⟨b_13, o_10, none⟩ fun n_15 =>
           ST1 w_16 ⟨b_3, 1, none⟩ (.int .i64 n_15) fun w_31 =>
           J_1 [] w_31) (
           J_1 [] w_16)))))))) ∧
     ∀ w_32 : World,
     (J_1 [] w_32 →
     LDi .i64 w_32 ⟨b_3, 0, none⟩ fun n_16 =>
     LDi .i64 w_32 ⟨b_3, 1, none⟩ fun n_17 =>
     LDi .i64 w_32 ⟨b_3, 2, none⟩ fun n_18 =>
     LDi .i64 w_32 ⟨b_3, 3, none⟩ fun n_19 =>
     LDi .i64 w_32 ⟨b_3, 4, none⟩ fun n_20 =>
     LDi .i64 w_32 ⟨b_3, 5, none⟩ fun n_21 =>
     LDi .i64 w_32 ⟨b_3, 6, none⟩ fun n_22 =>
     LDl w_32 ⟨b_3, 7, none⟩ fun a_3 l_3 c_3 =>
     LDi .i64 w_32 ⟨b_3, 8, none⟩ fun n_23 =>
     LDi .i64 w_32 ⟨b_3, 9, none⟩ fun n_24 =>
     LDi .i64 w_32 ⟨b_3, 10, none⟩ fun n_25 =>
     ST1 w_32 ⟨b_2, 0, none⟩ (.int .i64 n_16) fun w_33 =>
     ST1 w_33 ⟨b_2, 1, none⟩ (.int .i64 n_17) fun w_34 =>
     ST1 w_34 ⟨b_2, 2, none⟩ (.int .i64 n_18) fun w_35 =>
     ST1 w_35 ⟨b_2, 3, none⟩ (.int .i64 n_19) fun w_36 =>
     ST1 w_36 ⟨b_2, 4, none⟩ (.int .i64 n_20) fun w_37 =>
     ST1 w_37 ⟨b_2, 5, none⟩ (.int .i64 n_21) fun w_38 =>
     ST1 w_38 ⟨b_2, 6, none⟩ (.int .i64 n_22) fun w_39 =>
     ST1 w_39 ⟨b_2, 7, none⟩ (.slice a_3 l_3 c_3) fun w_40 =>
     ST1 w_40 ⟨b_2, 8, none⟩ (.int .i64 n_23) fun w_41 =>
     ST1 w_41 ⟨b_2, 9, none⟩ (.int .i64 n_24) fun w_42 =>
     ST1 w_42 ⟨b_2, 10, none⟩ (.int .i64 n_25) fun w_43 =>
     LDi .i64 w_43 ⟨b_2, 0, none⟩ fun n_26 =>
     LDi .i64 w_43 ⟨b_2, 1, none⟩ fun n_27 =>
     LDi .i64 w_43 ⟨b_2, 2, none⟩ fun n_28 =>
     LDi .i64 w_43 ⟨b_2, 3, none⟩ fun n_29 =>
     LDi .i64 w_43 ⟨b_2, 4, none⟩ fun n_30 =>
     LDi .i64 w_43 ⟨b_2, 5, none⟩ fun n_31 =>
     LDi .i64 w_43 ⟨b_2, 6, none⟩ fun n_32 =>
     LDl w_43 ⟨b_2, 7, none⟩ fun a_4 l_4 c_4 =>
     LDi .i64 w_43 ⟨b_2, 8, none⟩ fun n_33 =>
     LDi .i64 w_43 ⟨b_2, 9, none⟩ fun n_34 =>
     LDi .i64 w_43 ⟨b_2, 10, none⟩ fun n_35 =>
     K (.agg #[.int .i64 n_26, .int .i64 n_27, .int .i64 n_28, .int .i64 n_29, .int .i64 n_30, .int .i64 n_31, .int .i64 n_32, .slice a_4 l_4 c_4, .int .i64 n_33, .int .i64 n_34, .int .i64 n_35]) w_43))))
theorem E_l25_of (w_0 : Int) (w_1 : Int) (w_2 : Int) (w_3a : Option Addr) (w_3l : Nat) (w_3c : Nat) (w : World) (K : Value → World → Prop) :
    D_l25_of w_0 w_1 w_2 w_3a w_3l w_3c w K = vcFn Pg Tryd.f12 [2] [.agg #[.int .i64 w_0, .int .i64 w_1, .int .i64 w_2, .slice w_3a w_3l w_3c]] w K := by kernel_rfl
theorem C_l25_of {w_0 : Int} {w_1 : Int} {w_2 : Int} {w_3a : Option Addr} {w_3l : Nat} {w_3c : Nat} {w : World} {K : Value → World → Prop} (h : D_l25_of w_0 w_1 w_2 w_3a w_3l w_3c w K) :
    CALL Pg F_l25_of [.agg #[.int .i64 w_0, .int .i64 w_1, .int .i64 w_2, .slice w_3a w_3l w_3c]] w K :=
  call_of_vc [2] Tryd.func12 rfl (Nat.le_of_ble_eq_true (by kernel_rfl)) ((E_l25_of w_0 w_1 w_2 w_3a w_3l w_3c w K) ▸ h)

end Go.Proofs.YtmanfmpdmmhbfaaDoor
