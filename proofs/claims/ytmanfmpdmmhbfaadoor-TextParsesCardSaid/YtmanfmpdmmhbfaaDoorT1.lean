/- What the evaluator asks of each function, in readable form: printed by a program of this claim's own. -/
import Derived.Test.YtmanfmpdmmhbfaaDoorN
import Derived.Test.YtmanfmpdmmhbfaaDoorDen
namespace Go.Proofs.YtmanfmpdmmhbfaaDoor
open Go.Den
set_option linter.unusedVariables false
set_option maxRecDepth 1000000
def D_text_names (w : World) (K : Value → World → Prop) : Prop :=
  NEW w [.string { data := #[] }, .string { data := #[] }, .string { data := #[] }, .string { data := #[] }, .string { data := #[] }, .string { data := #[] }, .string { data := #[] }, .string { data := #[] }, .string { data := #[] }, .string { data := #[] }, .string { data := #[] }] T_11_string fun b_1 w_1 =>
  ST1 w_1 ⟨b_1, 0, none⟩ (.string { data := #[] }) fun w_2 =>
  ST1 w_2 ⟨b_1, 1, none⟩ (.string { data := #[99, 111, 110, 102, 105, 103] }) fun w_3 =>
  ST1 w_3 ⟨b_1, 2, none⟩ (.string { data := #[97, 115, 107] }) fun w_4 =>
  ST1 w_4 ⟨b_1, 3, none⟩ (.string { data := #[112, 105, 99, 107] }) fun w_5 =>
  ST1 w_5 ⟨b_1, 4, none⟩ (.string { data := #[116, 117, 114, 110, 115] }) fun w_6 =>
  ST1 w_6 ⟨b_1, 5, none⟩ (.string { data := #[97, 108, 111, 110, 101] }) fun w_7 =>
  ST1 w_7 ⟨b_1, 6, none⟩ (.string { data := #[102, 105, 110, 105, 115, 104] }) fun w_8 =>
  ST1 w_8 ⟨b_1, 7, none⟩ (.string { data := #[101, 118, 101, 110, 116, 115] }) fun w_9 =>
  ST1 w_9 ⟨b_1, 8, none⟩ (.string { data := #[115, 116, 97, 116, 115] }) fun w_10 =>
  ST1 w_10 ⟨b_1, 9, none⟩ (.string { data := #[108, 105, 118, 101] }) fun w_11 =>
  ST1 w_11 ⟨b_1, 10, none⟩ (.string { data := #[99, 104, 101, 99, 107] }) fun w_12 =>
  LDs w_12 ⟨b_1, 0, none⟩ fun s_1 =>
  LDs w_12 ⟨b_1, 1, none⟩ fun s_2 =>
  LDs w_12 ⟨b_1, 2, none⟩ fun s_3 =>
  LDs w_12 ⟨b_1, 3, none⟩ fun s_4 =>
  LDs w_12 ⟨b_1, 4, none⟩ fun s_5 =>
  LDs w_12 ⟨b_1, 5, none⟩ fun s_6 =>
  LDs w_12 ⟨b_1, 6, none⟩ fun s_7 =>
  LDs w_12 ⟨b_1, 7, none⟩ fun s_8 =>
  LDs w_12 ⟨b_1, 8, none⟩ fun s_9 =>
  LDs w_12 ⟨b_1, 9, none⟩ fun s_10 =>
  LDs w_12 ⟨b_1, 10, none⟩ fun s_11 =>
  K (.agg #[.string s_1, .string s_2, .string s_3, .string s_4, .string s_5, .string s_6, .string s_7, .string s_8, .string s_9, .string s_10, .string s_11]) w_12
theorem E_text_names (w : World) (K : Value → World → Prop) :
    D_text_names w K = vcFn Pg Tryd.f17 [] [] w K := by kernel_rfl
theorem C_text_names {w : World} {K : Value → World → Prop} (h : D_text_names w K) :
    CALL Pg F_text_names [] w K :=
  call_of_vc [] Tryd.func17 rfl (Nat.le_of_ble_eq_true (by kernel_rfl)) ((E_text_names w K) ▸ h)
def D_text_kinds (w : World) (K : Value → World → Prop) : Prop :=
  NEW w [.string { data := #[] }, .string { data := #[] }, .string { data := #[] }, .string { data := #[] }] T_4_string fun b_1 w_1 =>
  ST1 w_1 ⟨b_1, 0, none⟩ (.string { data := #[] }) fun w_2 =>
  ST1 w_2 ⟨b_1, 1, none⟩ (.string { data := #[97, 108, 108, 111, 99] }) fun w_3 =>
  ST1 w_3 ⟨b_1, 2, none⟩ (.string { data := #[102, 114, 101, 101] }) fun w_4 =>
  ST1 w_4 ⟨b_1, 3, none⟩ (.string { data := #[117, 115, 97, 98, 108, 101] }) fun w_5 =>
  LDs w_5 ⟨b_1, 0, none⟩ fun s_1 =>
  LDs w_5 ⟨b_1, 1, none⟩ fun s_2 =>
  LDs w_5 ⟨b_1, 2, none⟩ fun s_3 =>
  LDs w_5 ⟨b_1, 3, none⟩ fun s_4 =>
  K (.agg #[.string s_1, .string s_2, .string s_3, .string s_4]) w_5
theorem E_text_kinds (w : World) (K : Value → World → Prop) :
    D_text_kinds w K = vcFn Pg Tryd.f25 [] [] w K := by kernel_rfl
theorem C_text_kinds {w : World} {K : Value → World → Prop} (h : D_text_kinds w K) :
    CALL Pg F_text_kinds [] w K :=
  call_of_vc [] Tryd.func25 rfl (Nat.le_of_ble_eq_true (by kernel_rfl)) ((E_text_kinds w K) ▸ h)
def D_text_number (w_ : ByteArray) (w : World) (K : Value → World → Prop) : Prop :=
  CALL Pg F_strconv_Atoi [.string w_] w fun v_1 w_1 =>
  TUPV v_1 fun cs_1 =>
  GETV cs_1 0 fun v_2 =>
  INTV .i64 v_2 fun n_1 =>
  GETV cs_1 1 fun v_3 =>
  LEN cs_1 2 (
  SILN Pg (binE BinOp.eql T_error (Operand.tmp 12) (Operand.const Value.nilIface) v_3 Value.nilIface) fun v_4 =>
  BOOLV v_4 fun t_1 =>
  ITE (t_1) (
   CALL Pg F_strconv_Itoa [.int .i64 n_1] w_1 fun v_5 w_2 =>
   STRV v_5 fun s_1 =>
   K (.tuple #[.int .i64 n_1, .bool (s_1 == w_)]) w_2) (
   K (.tuple #[.int .i64 n_1, .bool false]) w_1))
theorem E_text_number (w_ : ByteArray) (w : World) (K : Value → World → Prop) :
    D_text_number w_ w K = vcFn Pg Tryd.f28 [] [.string w_] w K := by kernel_rfl
theorem C_text_number {w_ : ByteArray} {w : World} {K : Value → World → Prop} (h : D_text_number w_ w K) :
    CALL Pg F_text_number [.string w_] w K :=
  call_of_vc [] Tryd.func28 rfl (Nat.le_of_ble_eq_true (by kernel_rfl)) ((E_text_number w_ w K) ▸ h)
def D_text_numbers (la : Option Addr) (ll : Nat) (lc : Nat) (w : World) (K : Value → World → Prop) : Prop :=
  LOOP [.slice none 0 0, .bool false, .slice none 0 0, .int .i64 0] w fun I_1 N_1 =>
  ∀ w_1 : World,
  ∀ v_1 : Value,
  ∀ v_2 : Value,
  ∀ v_3 : Value,
  ∀ v_4 : Value,
  (I_1 [v_1, v_2, v_3, v_4] w_1 →
  INTV .i64 v_4 fun n_1 =>
  SLV v_3 fun a_1 l_1 c_1 =>
  BOOLV v_2 fun t_1 =>
  SLV v_1 fun a_2 l_2 c_2 =>
  ITE (decide (n_1 < (↑ll : Int))) (
   IDX la ll n_1 1 fun b_1 o_1 =>
   LDs w_1 ⟨b_1, o_1, none⟩ fun s_1 =>
   CALL Pg F_text_number [.string s_1] w_1 fun v_5 w_2 =>
   TUPV v_5 fun cs_1 =>
   GETV cs_1 0 fun v_6 =>
   INTV .i64 v_6 fun n_2 =>
   GETV cs_1 1 fun v_7 =>
   BOOLV v_7 fun t_2 =>
   LEN cs_1 2 (
   ITE (!t_2) (
    K (.tuple #[.slice none 0 0, .bool false]) w_2) (
    NEW w_2 [.int .i64 n_2] T_int fun b_2 w_3 =>
    SEML Pg w_3 (Builtin.append_ #[T_Lint, T_Lint] T_Lint #[.slice a_1 l_1 c_1, .slice (some ⟨b_2, 0, none⟩) 1 1]) fun v_8 w_4 =>
    SLV v_8 fun a_3 l_3 c_3 =>
    BIND (IntKind.i64.wrap (n_1 + 1)) fun n_3 =>
    N_1 [v_1, v_2, v_3, v_4] w_1 [.slice a_2 l_2 c_2, .bool t_1, .slice a_3 l_3 c_3, .int .i64 n_3] w_4))) (
   K (.tuple #[.slice a_1 l_1 c_1, .bool (decide ((↑ll : Int) ≤ 32))]) w_1))
theorem E_text_numbers (la : Option Addr) (ll : Nat) (lc : Nat) (w : World) (K : Value → World → Prop) :
    D_text_numbers la ll lc w K = vcFn Pg Tryd.f19 [] [.slice la ll lc] w K := by kernel_rfl
theorem C_text_numbers {la : Option Addr} {ll : Nat} {lc : Nat} {w : World} {K : Value → World → Prop} (h : D_text_numbers la ll lc w K) :
    CALL Pg F_text_numbers [.slice la ll lc] w K :=
  call_of_vc [] Tryd.func19 rfl (Nat.le_of_ble_eq_true (by kernel_rfl)) ((E_text_numbers la ll lc w K) ▸ h)
def D_text_request (la : Option Addr) (ll : Nat) (lc : Nat) (w : World) (K : Value → World → Prop) : Prop :=
  NEW w [.int .i64 0, .int .i64 0] T_api_Request_api_Request fun b_1 w_1 =>
  ITE ((↑ll : Int) != 2) (
   ST1 w_1 ⟨b_1, 0, none⟩ (.int .i64 0) fun w_2 =>
   ST1 w_2 ⟨b_1, 1, none⟩ (.int .i64 0) fun w_3 =>
   LDi .i64 w_3 ⟨b_1, 0, none⟩ fun n_1 =>
   LDi .i64 w_3 ⟨b_1, 1, none⟩ fun n_2 =>
   K (.tuple #[.agg #[.int .i64 n_1, .int .i64 n_2], .int .i64 0, .bool false]) w_3) (
   CALL Pg F_text_kinds [] w_1 fun v_1 w_4 =>
   AGGV v_1 fun cs_1 =>
   GETV cs_1 0 fun v_2 =>
   STRV v_2 fun s_1 =>
   GETV cs_1 1 fun v_3 =>
   STRV v_3 fun s_2 =>
   GETV cs_1 2 fun v_4 =>
   STRV v_4 fun s_3 =>
   GETV cs_1 3 fun v_5 =>
   STRV v_5 fun s_4 =>
   LEN cs_1 4 (
   LOOP [.int .i64 0, .int .i64 0] w_4 fun I_1 N_1 =>
   ∀ w_5 : World,
   ∀ v_6 : Value,
   ∀ v_7 : Value,
   (I_1 [v_6, v_7] w_5 →
   INTV .i64 v_7 fun n_3 =>
   INTV .i64 v_6 fun n_4 =>
   ITE (decide (n_3 < 4)) (
    SILN Pg (Instr.index T_4_string (.agg #[.string s_1, .string s_2, .string s_3, .string s_4]) (.int .i64 n_3)) fun v_8 =>
    STRV v_8 fun s_5 =>
    JOIN fun J_1 =>
    ((
     ITE (decide (n_3 > 0)) (
      IDX la ll 0 1 fun b_2 o_1 =>
      LDs w_5 ⟨b_2, o_1, none⟩ fun s_6 =>
      J_1 [.bool (s_5 == s_6)] w_5) (
      J_1 [.bool false] w_5)) ∧
     ∀ w_6 : World,
     ∀ v_9 : Value,
     (J_1 [v_9] w_6 →
     BOOLV v_9 fun t_1 =>
     ITE (t_1) (
      BIND (IntKind.i64.wrap (n_3 + 1)) fun n_5 =>
      N_1 [v_6, v_7] w_5 [.int .i64 n_3, .int .i64 n_5] w_6) (
      BIND (IntKind.i64.wrap (n_3 + 1)) fun n_6 =>
      N_1 [v_6, v_7] w_5 [.int .i64 n_4, .int .i64 n_6] w_6)))) (
    IDX la ll 1 1 fun b_3 o_2 =>
    LDs w_5 ⟨b_3, o_2, none⟩ fun s_7 =>
    CALL Pg F_strings_CutPrefix [.string s_7, .string { data := #[35] }] w_5 fun v_10 w_7 =>
    TUPV v_10 fun cs_2 =>
    GETV cs_2 0 fun v_11 =>
    STRV v_11 fun s_8 =>
    GETV cs_2 1 fun v_12 =>
    BOOLV v_12 fun t_2 =>
    LEN cs_2 2 (
    CALL Pg F_text_number [.string s_8] w_7 fun v_13 w_8 =>
    TUPV v_13 fun cs_3 =>
    GETV cs_3 0 fun v_14 =>
    INTV .i64 v_14 fun n_7 =>
    GETV cs_3 1 fun v_15 =>
    BOOLV v_15 fun t_3 =>
    LEN cs_3 2 (
    JOIN fun J_2 =>
    ((
     JOIN fun J_3 =>
     ((
      ITE (n_4 == 0) (
       J_3 [.bool true] w_8) (
       ITE (!t_3) (
        J_3 [.bool true] w_8) (
        ITE (t_2) (
         J_3 [.bool (decide (n_7 < 1))] w_8) (
         J_3 [.bool false] w_8)))) ∧
      ∀ w_9 : World,
      ∀ v_16 : Value,
      (J_3 [v_16] w_9 →
      BOOLV v_16 fun t_4 =>
      ITE (t_4) (
       ST1 w_9 ⟨b_1, 0, none⟩ (.int .i64 0) fun w_10 =>
       ST1 w_10 ⟨b_1, 1, none⟩ (.int .i64 0) fun w_11 =>
       LDi .i64 w_11 ⟨b_1, 0, none⟩ fun n_8 =>
       LDi .i64 w_11 ⟨b_1, 1, none⟩ fun n_9 =>
       K (.tuple #[.agg #[.int .i64 n_8, .int .i64 n_9], .int .i64 0, .bool false]) w_11) (
       J_2 [.int .i64 0, .bool false] w_9)))) ∧
     ∀ w_12 : World,
     ∀ v_17 : Value,
     ∀ v_18 : Value,
     (J_2 [v_17, v_18] w_12 →
     BOOLV v_18 fun _ =>
     INTV .i64 v_17 fun _ =>
     ITE (t_2) (
      ST1 w_12 ⟨b_1, 0, none⟩ (.int .i64 n_4) fun w_13 =>
      ST1 w_13 ⟨b_1, 1, none⟩ (.int .i64 0) fun w_14 =>
      LDi .i64 w_14 ⟨b_1, 0, none⟩ fun n_11 =>
      LDi .i64 w_14 ⟨b_1, 1, none⟩ fun n_12 =>
      K (.tuple #[.agg #[.int .i64 n_11, .int .i64 n_12], .int .i64 n_7, .bool true]) w_14) (
      ST1 w_12 ⟨b_1, 0, none⟩ (.int .i64 n_4) fun w_15 =>
      ST1 w_15 ⟨b_1, 1, none⟩ (.int .i64 n_7) fun w_16 =>
      LDi .i64 w_16 ⟨b_1, 0, none⟩ fun n_13 =>
      LDi .i64 w_16 ⟨b_1, 1, none⟩ fun n_14 =>
      K (.tuple #[.agg #[.int .i64 n_13, .int .i64 n_14], .int .i64 0, .bool true]) w_16)))))))))
theorem E_text_request (la : Option Addr) (ll : Nat) (lc : Nat) (w : World) (K : Value → World → Prop) :
    D_text_request la ll lc w K = vcFn Pg Tryd.f29 [7, 12] [.slice la ll lc] w K := by kernel_rfl
theorem C_text_request {la : Option Addr} {ll : Nat} {lc : Nat} {w : World} {K : Value → World → Prop} (h : D_text_request la ll lc w K) :
    CALL Pg F_text_request [.slice la ll lc] w K :=
  call_of_vc [7, 12] Tryd.func29 rfl (Nat.le_of_ble_eq_true (by kernel_rfl)) ((E_text_request la ll lc w K) ▸ h)
def D_text_Parse (s : ByteArray) (w : World) (K : Value → World → Prop) : Prop :=
  NEW w [.int .i64 0, .int .i64 0, .int .i64 0, .int .i64 0, .int .i64 0, .int .i64 0, .int .i64 0, .slice none 0 0, .int .i64 0, .int .i64 0, .int .i64 0] T_text_Line_text_Line fun b_1 w_1 =>
  CALL Pg F_strings_Split [.string s, .string { data := #[32] }] w_1 fun v_1 w_2 =>
  SLV v_1 fun a_1 l_1 c_1 =>
  NEW w_2 [.int .i64 0, .int .i64 0, .int .i64 0, .int .i64 0, .int .i64 0, .int .i64 0, .int .i64 0, .slice none 0 0, .int .i64 0, .int .i64 0, .int .i64 0] T_text_Line_text_Line fun b_2 w_3 =>
  ST1 w_3 ⟨b_2, 0, none⟩ (.int .i64 0) fun w_4 =>
  ST1 w_4 ⟨b_2, 1, none⟩ (.int .i64 0) fun w_5 =>
  ST1 w_5 ⟨b_2, 2, none⟩ (.int .i64 0) fun w_6 =>
  ST1 w_6 ⟨b_2, 3, none⟩ (.int .i64 0) fun w_7 =>
  ST1 w_7 ⟨b_2, 4, none⟩ (.int .i64 0) fun w_8 =>
  ST1 w_8 ⟨b_2, 5, none⟩ (.int .i64 0) fun w_9 =>
  ST1 w_9 ⟨b_2, 6, none⟩ (.int .i64 0) fun w_10 =>
  ST1 w_10 ⟨b_2, 7, none⟩ (.slice none 0 0) fun w_11 =>
  ST1 w_11 ⟨b_2, 8, none⟩ (.int .i64 0) fun w_12 =>
  ST1 w_12 ⟨b_2, 9, none⟩ (.int .i64 0) fun w_13 =>
  ST1 w_13 ⟨b_2, 10, none⟩ (.int .i64 0) fun w_14 =>
  CALL Pg F_text_names [] w_14 fun v_2 w_15 =>
  AGGV v_2 fun cs_1 =>
  GETV cs_1 0 fun v_3 =>
  STRV v_3 fun s_1 =>
  GETV cs_1 1 fun v_4 =>
  STRV v_4 fun s_2 =>
  GETV cs_1 2 fun v_5 =>
  STRV v_5 fun s_3 =>
  GETV cs_1 3 fun v_6 =>
  STRV v_6 fun s_4 =>
  GETV cs_1 4 fun v_7 =>
  STRV v_7 fun s_5 =>
  GETV cs_1 5 fun v_8 =>
  STRV v_8 fun s_6 =>
  GETV cs_1 6 fun v_9 =>
  STRV v_9 fun s_7 =>
  GETV cs_1 7 fun v_10 =>
  STRV v_10 fun s_8 =>
  GETV cs_1 8 fun v_11 =>
  STRV v_11 fun s_9 =>
  GETV cs_1 9 fun v_12 =>
  STRV v_12 fun s_10 =>
  GETV cs_1 10 fun v_13 =>
  STRV v_13 fun s_11 =>
  LEN cs_1 11 (
  LOOP [.int .i64 0] w_15 fun I_1 N_1 =>
  ∀ w_16 : World,
  ∀ v_14 : Value,
  (I_1 [v_14] w_16 →
  INTV .i64 v_14 fun n_1 =>
  ITE (decide (n_1 < 11)) (
   SILN Pg (Instr.index T_11_string (.agg #[.string s_1, .string s_2, .string s_3, .string s_4, .string s_5, .string s_6, .string s_7, .string s_8, .string s_9, .string s_10, .string s_11]) (.int .i64 n_1)) fun v_15 =>
   STRV v_15 fun s_12 =>
   JOIN fun J_1 =>
   ((
    ITE (decide (n_1 > 0)) (
     IDX a_1 l_1 0 1 fun b_3 o_1 =>
     LDs w_16 ⟨b_3, o_1, none⟩ fun s_13 =>
     J_1 [.bool (s_12 == s_13)] w_16) (
     J_1 [.bool false] w_16)) ∧
    ∀ w_17 : World,
    ∀ v_16 : Value,
    (J_1 [v_16] w_17 →
    BOOLV v_16 fun t_1 =>
    ITE (t_1) (
     ST1 w_17 ⟨b_2, 0, none⟩ (.int .i64 n_1) fun w_18 =>
     BIND (IntKind.i64.wrap (n_1 + 1)) fun n_2 =>
     N_1 [v_14] w_16 [.int .i64 n_2] w_18) (
     BIND (IntKind.i64.wrap (n_1 + 1)) fun n_3 =>
     N_1 [v_14] w_16 [.int .i64 n_3] w_17)))) (
   LDi .i64 w_16 ⟨b_2, 0, none⟩ fun n_4 =>
   ITE (n_4 == 2) (
    DRAW w_16 fun w_19 =>
    LDi .i64 w_19 ⟨b_2, 0, none⟩ fun n_5 =>
    LDi .i64 w_19 ⟨b_2, 1, none⟩ fun n_6 =>
    LDi .i64 w_19 ⟨b_2, 2, none⟩ fun n_7 =>
    LDi .i64 w_19 ⟨b_2, 3, none⟩ fun n_8 =>
    LDi .i64 w_19 ⟨b_2, 4, none⟩ fun n_9 =>
    LDi .i64 w_19 ⟨b_2, 5, none⟩ fun n_10 =>
    LDi .i64 w_19 ⟨b_2, 6, none⟩ fun n_11 =>
    LDl w_19 ⟨b_2, 7, none⟩ fun a_2 l_2 c_2 =>
    LDi .i64 w_19 ⟨b_2, 8, none⟩ fun n_12 =>
    LDi .i64 w_19 ⟨b_2, 9, none⟩ fun n_13 =>
    LDi .i64 w_19 ⟨b_2, 10, none⟩ fun n_14 =>
    SILN Pg (Instr.sliceAt T_Lstring (.slice a_1 l_1 c_1) (some (.int .i64 1)) none none) fun v_17 =>
    SLV v_17 fun a_3 l_3 c_3 =>
    CALL Pg F_text_ask [.agg #[.int .i64 n_5, .int .i64 n_6, .int .i64 n_7, .int .i64 n_8, .int .i64 n_9, .int .i64 n_10, .int .i64 n_11, .slice a_2 l_2 c_2, .int .i64 n_12, .int .i64 n_13, .int .i64 n_14], .slice a_3 l_3 c_3] w_19 fun v_18 w_20 =>
    TUPV v_18 fun cs_2 =>
    GETV cs_2 0 fun v_19 =>
    AGGV v_19 fun cs_3 =>
    GETV cs_3 0 fun v_20 =>
    INTV .i64 v_20 fun n_15 =>
    GETV cs_3 1 fun v_21 =>
    INTV .i64 v_21 fun n_16 =>
    GETV cs_3 2 fun v_22 =>
    INTV .i64 v_22 fun n_17 =>
    GETV cs_3 3 fun v_23 =>
    INTV .i64 v_23 fun n_18 =>
    GETV cs_3 4 fun v_24 =>
    INTV .i64 v_24 fun n_19 =>
    GETV cs_3 5 fun v_25 =>
    INTV .i64 v_25 fun n_20 =>
    GETV cs_3 6 fun v_26 =>
    INTV .i64 v_26 fun n_21 =>
    GETV cs_3 7 fun v_27 =>
    SLV v_27 fun a_4 l_4 c_4 =>
    GETV cs_3 8 fun v_28 =>
    INTV .i64 v_28 fun n_22 =>
    GETV cs_3 9 fun v_29 =>
    INTV .i64 v_29 fun n_23 =>
    GETV cs_3 10 fun v_30 =>
    INTV .i64 v_30 fun n_24 =>
    LEN cs_3 11 (
    GETV cs_2 1 fun v_31 =>
    BOOLV v_31 fun t_2 =>
    LEN cs_2 2 (
    ((
     KEEP w_20 []) ∧
     ST1 w_20 ⟨b_1, 0, none⟩ (.int .i64 n_15) fun w_21 =>
     ST1 w_21 ⟨b_1, 1, none⟩ (.int .i64 n_16) fun w_22 =>
     ST1 w_22 ⟨b_1, 2, none⟩ (.int .i64 n_17) fun w_23 =>
     ST1 w_23 ⟨b_1, 3, none⟩ (.int .i64 n_18) fun w_24 =>
     ST1 w_24 ⟨b_1, 4, none⟩ (.int .i64 n_19) fun w_25 =>
     ST1 w_25 ⟨b_1, 5, none⟩ (.int .i64 n_20) fun w_26 =>
     ST1 w_26 ⟨b_1, 6, none⟩ (.int .i64 n_21) fun w_27 =>
     ST1 w_27 ⟨b_1, 7, none⟩ (.slice a_4 l_4 c_4) fun w_28 =>
     ST1 w_28 ⟨b_1, 8, none⟩ (.int .i64 n_22) fun w_29 =>
     ST1 w_29 ⟨b_1, 9, none⟩ (.int .i64 n_23) fun w_30 =>
     ST1 w_30 ⟨b_1, 10, none⟩ (.int .i64 n_24) fun w_31 =>
     ((
      KEEP w_31 []) ∧
      LDi .i64 w_31 ⟨b_1, 0, none⟩ fun n_25 =>
      LDi .i64 w_31 ⟨b_1, 1, none⟩ fun n_26 =>
      LDi .i64 w_31 ⟨b_1, 2, none⟩ fun n_27 =>
      LDi .i64 w_31 ⟨b_1, 3, none⟩ fun n_28 =>
      LDi .i64 w_31 ⟨b_1, 4, none⟩ fun n_29 =>
      LDi .i64 w_31 ⟨b_1, 5, none⟩ fun n_30 =>
      LDi .i64 w_31 ⟨b_1, 6, none⟩ fun n_31 =>
      LDl w_31 ⟨b_1, 7, none⟩ fun a_5 l_5 c_5 =>
      LDi .i64 w_31 ⟨b_1, 8, none⟩ fun n_32 =>
      LDi .i64 w_31 ⟨b_1, 9, none⟩ fun n_33 =>
      LDi .i64 w_31 ⟨b_1, 10, none⟩ fun n_34 =>
      K (.tuple #[.agg #[.int .i64 n_25, .int .i64 n_26, .int .i64 n_27, .int .i64 n_28, .int .i64 n_29, .int .i64 n_30, .int .i64 n_31, .slice a_5 l_5 c_5, .int .i64 n_32, .int .i64 n_33, .int .i64 n_34], .bool t_2]) w_31))))) (
    SILN Pg (Instr.sliceAt T_Lstring (.slice a_1 l_1 c_1) (some (.int .i64 1)) none none) fun v_32 =>
    SLV v_32 fun a_6 l_6 c_6 =>
    CALL Pg F_text_numbers [.slice a_6 l_6 c_6] w_16 fun v_33 w_32 =>
    TUPV v_33 fun cs_4 =>
    GETV cs_4 0 fun v_34 =>
    SLV v_34 fun a_7 l_7 c_7 =>
    GETV cs_4 1 fun v_35 =>
    BOOLV v_35 fun t_3 =>
    LEN cs_4 2 (
    JOIN fun J_2 =>
    ((
     JOIN fun J_3 =>
     ((
      ITE (!t_3) (
       J_3 [.bool true] w_32) (
       LDi .i64 w_32 ⟨b_2, 0, none⟩ fun n_35 =>
       J_3 [.bool (n_35 == 0)] w_32)) ∧
      ∀ w_33 : World,
      ∀ v_36 : Value,
      (J_3 [v_36] w_33 →
      BOOLV v_36 fun t_4 =>
      ITE (t_4) (
       ST1 w_33 ⟨b_1, 0, none⟩ (.int .i64 0) fun w_34 =>
       ST1 w_34 ⟨b_1, 1, none⟩ (.int .i64 0) fun w_35 =>
       ST1 w_35 ⟨b_1, 2, none⟩ (.int .i64 0) fun w_36 =>
       ST1 w_36 ⟨b_1, 3, none⟩ (.int .i64 0) fun w_37 =>
       ST1 w_37 ⟨b_1, 4, none⟩ (.int .i64 0) fun w_38 =>
       ST1 w_38 ⟨b_1, 5, none⟩ (.int .i64 0) fun w_39 =>
       ST1 w_39 ⟨b_1, 6, none⟩ (.int .i64 0) fun w_40 =>
       ST1 w_40 ⟨b_1, 7, none⟩ (.slice none 0 0) fun w_41 =>
       ST1 w_41 ⟨b_1, 8, none⟩ (.int .i64 0) fun w_42 =>
       ST1 w_42 ⟨b_1, 9, none⟩ (.int .i64 0) fun w_43 =>
       ST1 w_43 ⟨b_1, 10, none⟩ (.int .i64 0) fun w_44 =>
       LDi .i64 w_44 ⟨b_1, 0, none⟩ fun n_36 =>
       LDi .i64 w_44 ⟨b_1, 1, none⟩ fun n_37 =>
       LDi .i64 w_44 ⟨b_1, 2, none⟩ fun n_38 =>
       LDi .i64 w_44 ⟨b_1, 3, none⟩ fun n_39 =>
       LDi .i64 w_44 ⟨b_1, 4, none⟩ fun n_40 =>
       LDi .i64 w_44 ⟨b_1, 5, none⟩ fun n_41 =>
       LDi .i64 w_44 ⟨b_1, 6, none⟩ fun n_42 =>
       LDl w_44 ⟨b_1, 7, none⟩ fun a_8 l_8 c_8 =>
       LDi .i64 w_44 ⟨b_1, 8, none⟩ fun n_43 =>
       LDi .i64 w_44 ⟨b_1, 9, none⟩ fun n_44 =>
       LDi .i64 w_44 ⟨b_1, 10, none⟩ fun n_45 =>
       K (.tuple #[.agg #[.int .i64 n_36, .int .i64 n_37, .int .i64 n_38, .int .i64 n_39, .int .i64 n_40, .int .i64 n_41, .int .i64 n_42, .slice a_8 l_8 c_8, .int .i64 n_43, .int .i64 n_44, .int .i64 n_45], .bool false]) w_44) (
       J_2 [.bool false] w_33)))) ∧
     ∀ w_45 : World,
     ∀ v_37 : Value,
     (J_2 [v_37] w_45 →
     BOOLV v_37 fun _ =>
     JOIN fun J_4 =>
     ((
      LDi .i64 w_45 ⟨b_2, 0, none⟩ fun n_46 =>
      ITE (n_46 == 1) (
       J_4 [.bool (decide ((↑l_7 : Int) ≥ 4))] w_45) (
       J_4 [.bool false] w_45)) ∧
      ∀ w_46 : World,
      ∀ v_38 : Value,
      (J_4 [v_38] w_46 →
      BOOLV v_38 fun t_6 =>
      ITE (t_6) (
       DRAW w_46 fun w_47 =>
       IDX a_7 l_7 0 1 fun b_4 o_2 =>
       LDi .i64 w_47 ⟨b_4, o_2, none⟩ fun n_47 =>
       IDX a_7 l_7 1 1 fun b_5 o_3 =>
       LDi .i64 w_47 ⟨b_5, o_3, none⟩ fun n_48 =>
       IDX a_7 l_7 2 1 fun b_6 o_4 =>
       LDi .i64 w_47 ⟨b_6, o_4, none⟩ fun n_49 =>
       IDX a_7 l_7 3 1 fun b_7 o_5 =>
       LDi .i64 w_47 ⟨b_7, o_5, none⟩ fun n_50 =>
       SILN Pg (Instr.sliceAt T_Lint (.slice a_7 l_7 c_7) (some (.int .i64 4)) none none) fun v_39 =>
       SLV v_39 fun a_9 l_9 c_9 =>
       ST1 w_47 ⟨b_2, 3, none⟩ (.int .i64 n_47) fun w_48 =>
       ST1 w_48 ⟨b_2, 4, none⟩ (.int .i64 n_48) fun w_49 =>
       ST1 w_49 ⟨b_2, 5, none⟩ (.int .i64 n_49) fun w_50 =>
       ST1 w_50 ⟨b_2, 6, none⟩ (.int .i64 n_50) fun w_51 =>
       ST1 w_51 ⟨b_2, 7, none⟩ (.slice a_9 l_9 c_9) fun w_52 =>
       ((
        KEEP w_52 []) ∧
        LDi .i64 w_52 ⟨b_2, 0, none⟩ fun n_51 =>
        LDi .i64 w_52 ⟨b_2, 1, none⟩ fun n_52 =>
        LDi .i64 w_52 ⟨b_2, 2, none⟩ fun n_53 =>
        LDi .i64 w_52 ⟨b_2, 3, none⟩ fun n_54 =>
        LDi .i64 w_52 ⟨b_2, 4, none⟩ fun n_55 =>
        LDi .i64 w_52 ⟨b_2, 5, none⟩ fun n_56 =>
        LDi .i64 w_52 ⟨b_2, 6, none⟩ fun n_57 =>
        LDl w_52 ⟨b_2, 7, none⟩ fun a_10 l_10 c_10 =>
        LDi .i64 w_52 ⟨b_2, 8, none⟩ fun n_58 =>
        LDi .i64 w_52 ⟨b_2, 9, none⟩ fun n_59 =>
        LDi .i64 w_52 ⟨b_2, 10, none⟩ fun n_60 =>
        ST1 w_52 ⟨b_1, 0, none⟩ (.int .i64 n_51) fun w_53 =>
        ST1 w_53 ⟨b_1, 1, none⟩ (.int .i64 n_52) fun w_54 =>
        ST1 w_54 ⟨b_1, 2, none⟩ (.int .i64 n_53) fun w_55 =>
        ST1 w_55 ⟨b_1, 3, none⟩ (.int .i64 n_54) fun w_56 =>
        ST1 w_56 ⟨b_1, 4, none⟩ (.int .i64 n_55) fun w_57 =>
        ST1 w_57 ⟨b_1, 5, none⟩ (.int .i64 n_56) fun w_58 =>
        ST1 w_58 ⟨b_1, 6, none⟩ (.int .i64 n_57) fun w_59 =>
        ST1 w_59 ⟨b_1, 7, none⟩ (.slice a_10 l_10 c_10) fun w_60 =>
        ST1 w_60 ⟨b_1, 8, none⟩ (.int .i64 n_58) fun w_61 =>
        ST1 w_61 ⟨b_1, 9, none⟩ (.int .i64 n_59) fun w_62 =>
        ST1 w_62 ⟨b_1, 10, none⟩ (.int .i64 n_60) fun w_63 =>
        LDi .i64 w_63 ⟨b_1, 0, none⟩ fun n_61 =>
        LDi .i64 w_63 ⟨b_1, 1, none⟩ fun n_62 =>
        LDi .i64 w_63 ⟨b_1, 2, none⟩ fun n_63 =>
        LDi .i64 w_63 ⟨b_1, 3, none⟩ fun n_64 =>
        LDi .i64 w_63 ⟨b_1, 4, none⟩ fun n_65 =>
        LDi .i64 w_63 ⟨b_1, 5, none⟩ fun n_66 =>
        LDi .i64 w_63 ⟨b_1, 6, none⟩ fun n_67 =>
        LDl w_63 ⟨b_1, 7, none⟩ fun a_11 l_11 c_11 =>
        LDi .i64 w_63 ⟨b_1, 8, none⟩ fun n_68 =>
        LDi .i64 w_63 ⟨b_1, 9, none⟩ fun n_69 =>
        LDi .i64 w_63 ⟨b_1, 10, none⟩ fun n_70 =>
        K (.tuple #[.agg #[.int .i64 n_61, .int .i64 n_62, .int .i64 n_63, .int .i64 n_64, .int .i64 n_65, .int .i64 n_66, .int .i64 n_67, .slice a_11 l_11 c_11, .int .i64 n_68, .int .i64 n_69, .int .i64 n_70], .bool true]) w_63)) (
       JOIN fun J_5 =>
       ((
        LDi .i64 w_46 ⟨b_2, 0, none⟩ fun n_71 =>
        ITE (n_71 == 3) (
         J_5 [.bool ((↑l_7 : Int) == 2)] w_46) (
         J_5 [.bool false] w_46)) ∧
        ∀ w_64 : World,
        ∀ v_40 : Value,
        (J_5 [v_40] w_64 →
        BOOLV v_40 fun t_7 =>
        ITE (t_7) (
         DRAW w_64 fun w_65 =>
         IDX a_7 l_7 0 1 fun b_8 o_6 =>
         LDi .i64 w_65 ⟨b_8, o_6, none⟩ fun n_72 =>
         IDX a_7 l_7 1 1 fun b_9 o_7 =>
         LDi .i64 w_65 ⟨b_9, o_7, none⟩ fun n_73 =>
         ST1 w_65 ⟨b_2, 1, none⟩ (.int .i64 n_72) fun w_66 =>
         ((
          KEEP w_66 [Fact.cell ⟨b_9, o_7, none⟩ (.int .i64 n_73)]) ∧
          ST1 w_66 ⟨b_2, 2, none⟩ (.int .i64 n_73) fun w_67 =>
          ((
           KEEP w_67 []) ∧
           LDi .i64 w_67 ⟨b_2, 0, none⟩ fun n_74 =>
           LDi .i64 w_67 ⟨b_2, 1, none⟩ fun n_75 =>
           LDi .i64 w_67 ⟨b_2, 2, none⟩ fun n_76 =>
           LDi .i64 w_67 ⟨b_2, 3, none⟩ fun n_77 =>
           LDi .i64 w_67 ⟨b_2, 4, none⟩ fun n_78 =>
           LDi .i64 w_67 ⟨b_2, 5, none⟩ fun n_79 =>
           LDi .i64 w_67 ⟨b_2, 6, none⟩ fun n_80 =>
           LDl w_67 ⟨b_2, 7, none⟩ fun a_12 l_12 c_12 =>
           LDi .i64 w_67 ⟨b_2, 8, none⟩ fun n_81 =>
           LDi .i64 w_67 ⟨b_2, 9, none⟩ fun n_82 =>
           LDi .i64 w_67 ⟨b_2, 10, none⟩ fun n_83 =>
           ST1 w_67 ⟨b_1, 0, none⟩ (.int .i64 n_74) fun w_68 =>
           ST1 w_68 ⟨b_1, 1, none⟩ (.int .i64 n_75) fun w_69 =>
           ST1 w_69 ⟨b_1, 2, none⟩ (.int .i64 n_76) fun w_70 =>
           ST1 w_70 ⟨b_1, 3, none⟩ (.int .i64 n_77) fun w_71 =>
           ST1 w_71 ⟨b_1, 4, none⟩ (.int .i64 n_78) fun w_72 =>
           ST1 w_72 ⟨b_1, 5, none⟩ (.int .i64 n_79) fun w_73 =>
           ST1 w_73 ⟨b_1, 6, none⟩ (.int .i64 n_80) fun w_74 =>
           ST1 w_74 ⟨b_1, 7, none⟩ (.slice a_12 l_12 c_12) fun w_75 =>
           ST1 w_75 ⟨b_1, 8, none⟩ (.int .i64 n_81) fun w_76 =>
           ST1 w_76 ⟨b_1, 9, none⟩ (.int .i64 n_82) fun w_77 =>
           ST1 w_77 ⟨b_1, 10, none⟩ (.int .i64 n_83) fun w_78 =>
           LDi .i64 w_78 ⟨b_1, 0, none⟩ fun n_84 =>
           LDi .i64 w_78 ⟨b_1, 1, none⟩ fun n_85 =>
           LDi .i64 w_78 ⟨b_1, 2, none⟩ fun n_86 =>
           LDi .i64 w_78 ⟨b_1, 3, none⟩ fun n_87 =>
           LDi .i64 w_78 ⟨b_1, 4, none⟩ fun n_88 =>
           LDi .i64 w_78 ⟨b_1, 5, none⟩ fun n_89 =>
           LDi .i64 w_78 ⟨b_1, 6, none⟩ fun n_90 =>
           LDl w_78 ⟨b_1, 7, none⟩ fun a_13 l_13 c_13 =>
           LDi .i64 w_78 ⟨b_1, 8, none⟩ fun n_91 =>
           LDi .i64 w_78 ⟨b_1, 9, none⟩ fun n_92 =>
           LDi .i64 w_78 ⟨b_1, 10, none⟩ fun n_93 =>
           K (.tuple #[.agg #[.int .i64 n_84, .int .i64 n_85, .int .i64 n_86, .int .i64 n_87, .int .i64 n_88, .int .i64 n_89, .int .i64 n_90, .slice a_13 l_13 c_13, .int .i64 n_91, .int .i64 n_92, .int .i64 n_93], .bool true]) w_78))) (
         JOIN fun J_6 =>
         ((
          LDi .i64 w_64 ⟨b_2, 0, none⟩ fun n_94 =>
          ITE (n_94 == 4) (
           J_6 [.bool ((↑l_7 : Int) == 1)] w_64) (
           J_6 [.bool false] w_64)) ∧
          ∀ w_79 : World,
          ∀ v_41 : Value,
          (J_6 [v_41] w_79 →
          BOOLV v_41 fun t_8 =>
          ITE (t_8) (
           IDX a_7 l_7 0 1 fun b_10 o_8 =>
           LDi .i64 w_79 ⟨b_10, o_8, none⟩ fun n_95 =>
           ST1 w_79 ⟨b_2, 2, none⟩ (.int .i64 n_95) fun w_80 =>
           LDi .i64 w_80 ⟨b_2, 0, none⟩ fun n_96 =>
           LDi .i64 w_80 ⟨b_2, 1, none⟩ fun n_97 =>
           LDi .i64 w_80 ⟨b_2, 2, none⟩ fun n_98 =>
           LDi .i64 w_80 ⟨b_2, 3, none⟩ fun n_99 =>
           LDi .i64 w_80 ⟨b_2, 4, none⟩ fun n_100 =>
           LDi .i64 w_80 ⟨b_2, 5, none⟩ fun n_101 =>
           LDi .i64 w_80 ⟨b_2, 6, none⟩ fun n_102 =>
           LDl w_80 ⟨b_2, 7, none⟩ fun a_14 l_14 c_14 =>
           LDi .i64 w_80 ⟨b_2, 8, none⟩ fun n_103 =>
           LDi .i64 w_80 ⟨b_2, 9, none⟩ fun n_104 =>
           LDi .i64 w_80 ⟨b_2, 10, none⟩ fun n_105 =>
           ST1 w_80 ⟨b_1, 0, none⟩ (.int .i64 n_96) fun w_81 =>
           ST1 w_81 ⟨b_1, 1, none⟩ (.int .i64 n_97) fun w_82 =>
           ST1 w_82 ⟨b_1, 2, none⟩ (.int .i64 n_98) fun w_83 =>
           ST1 w_83 ⟨b_1, 3, none⟩ (.int .i64 n_99) fun w_84 =>
           ST1 w_84 ⟨b_1, 4, none⟩ (.int .i64 n_100) fun w_85 =>
           ST1 w_85 ⟨b_1, 5, none⟩ (.int .i64 n_101) fun w_86 =>
           ST1 w_86 ⟨b_1, 6, none⟩ (.int .i64 n_102) fun w_87 =>
           ST1 w_87 ⟨b_1, 7, none⟩ (.slice a_14 l_14 c_14) fun w_88 =>
           ST1 w_88 ⟨b_1, 8, none⟩ (.int .i64 n_103) fun w_89 =>
           ST1 w_89 ⟨b_1, 9, none⟩ (.int .i64 n_104) fun w_90 =>
           ST1 w_90 ⟨b_1, 10, none⟩ (.int .i64 n_105) fun w_91 =>
           LDi .i64 w_91 ⟨b_1, 0, none⟩ fun n_106 =>
           LDi .i64 w_91 ⟨b_1, 1, none⟩ fun n_107 =>
           LDi .i64 w_91 ⟨b_1, 2, none⟩ fun n_108 =>
           LDi .i64 w_91 ⟨b_1, 3, none⟩ fun n_109 =>
           LDi .i64 w_91 ⟨b_1, 4, none⟩ fun n_110 =>
           LDi .i64 w_91 ⟨b_1, 5, none⟩ fun n_111 =>
           LDi .i64 w_91 ⟨b_1, 6, none⟩ fun n_112 =>
           LDl w_91 ⟨b_1, 7, none⟩ fun a_15 l_15 c_15 =>
           LDi .i64 w_91 ⟨b_1, 8, none⟩ fun n_113 =>
           LDi .i64 w_91 ⟨b_1, 9, none⟩ fun n_114 =>
           LDi .i64 w_91 ⟨b_1, 10, none⟩ fun n_115 =>
           K (.tuple #[.agg #[.int .i64 n_106, .int .i64 n_107, .int .i64 n_108, .int .i64 n_109, .int .i64 n_110, .int .i64 n_111, .int .i64 n_112, .slice a_15 l_15 c_15, .int .i64 n_113, .int .i64 n_114, .int .i64 n_115], .bool true]) w_91) (
           JOIN fun J_7 =>
           ((
            LDi .i64 w_79 ⟨b_2, 0, none⟩ fun n_116 =>
            ITE (n_116 == 5) (
             J_7 [.bool ((↑l_7 : Int) == 1)] w_79) (
             J_7 [.bool false] w_79)) ∧
            ∀ w_92 : World,
            ∀ v_42 : Value,
            (J_7 [v_42] w_92 →
            BOOLV v_42 fun t_9 =>
            ITE (t_9) (
             IDX a_7 l_7 0 1 fun b_11 o_9 =>
             LDi .i64 w_92 ⟨b_11, o_9, none⟩ fun n_117 =>
             ST1 w_92 ⟨b_2, 1, none⟩ (.int .i64 n_117) fun w_93 =>
             LDi .i64 w_93 ⟨b_2, 0, none⟩ fun n_118 =>
             LDi .i64 w_93 ⟨b_2, 1, none⟩ fun n_119 =>
             LDi .i64 w_93 ⟨b_2, 2, none⟩ fun n_120 =>
             LDi .i64 w_93 ⟨b_2, 3, none⟩ fun n_121 =>
             LDi .i64 w_93 ⟨b_2, 4, none⟩ fun n_122 =>
             LDi .i64 w_93 ⟨b_2, 5, none⟩ fun n_123 =>
             LDi .i64 w_93 ⟨b_2, 6, none⟩ fun n_124 =>
             LDl w_93 ⟨b_2, 7, none⟩ fun a_16 l_16 c_16 =>
             LDi .i64 w_93 ⟨b_2, 8, none⟩ fun n_125 =>
             LDi .i64 w_93 ⟨b_2, 9, none⟩ fun n_126 =>
             LDi .i64 w_93 ⟨b_2, 10, none⟩ fun n_127 =>
             ST1 w_93 ⟨b_1, 0, none⟩ (.int .i64 n_118) fun w_94 =>
             ST1 w_94 ⟨b_1, 1, none⟩ (.int .i64 n_119) fun w_95 =>
             ST1 w_95 ⟨b_1, 2, none⟩ (.int .i64 n_120) fun w_96 =>
             ST1 w_96 ⟨b_1, 3, none⟩ (.int .i64 n_121) fun w_97 =>
             ST1 w_97 ⟨b_1, 4, none⟩ (.int .i64 n_122) fun w_98 =>
             ST1 w_98 ⟨b_1, 5, none⟩ (.int .i64 n_123) fun w_99 =>
             ST1 w_99 ⟨b_1, 6, none⟩ (.int .i64 n_124) fun w_100 =>
             ST1 w_100 ⟨b_1, 7, none⟩ (.slice a_16 l_16 c_16) fun w_101 =>
             ST1 w_101 ⟨b_1, 8, none⟩ (.int .i64 n_125) fun w_102 =>
             ST1 w_102 ⟨b_1, 9, none⟩ (.int .i64 n_126) fun w_103 =>
             ST1 w_103 ⟨b_1, 10, none⟩ (.int .i64 n_127) fun w_104 =>
             LDi .i64 w_104 ⟨b_1, 0, none⟩ fun n_128 =>
             LDi .i64 w_104 ⟨b_1, 1, none⟩ fun n_129 =>
             LDi .i64 w_104 ⟨b_1, 2, none⟩ fun n_130 =>
             LDi .i64 w_104 ⟨b_1, 3, none⟩ fun n_131 =>
             LDi .i64 w_104 ⟨b_1, 4, none⟩ fun n_132 =>
             LDi .i64 w_104 ⟨b_1, 5, none⟩ fun n_133 =>
             LDi .i64 w_104 ⟨b_1, 6, none⟩ fun n_134 =>
             LDl w_104 ⟨b_1, 7, none⟩ fun a_17 l_17 c_17 =>
             LDi .i64 w_104 ⟨b_1, 8, none⟩ fun n_135 =>
             LDi .i64 w_104 ⟨b_1, 9, none⟩ fun n_136 =>
             LDi .i64 w_104 ⟨b_1, 10, none⟩ fun n_137 =>
             K (.tuple #[.agg #[.int .i64 n_128, .int .i64 n_129, .int .i64 n_130, .int .i64 n_131, .int .i64 n_132, .int .i64 n_133, .int .i64 n_134, .slice a_17 l_17 c_17, .int .i64 n_135, .int .i64 n_136, .int .i64 n_137], .bool true]) w_104) (
             JOIN fun J_8 =>
             ((
              LDi .i64 w_92 ⟨b_2, 0, none⟩ fun n_138 =>
              ITE (decide (n_138 ≥ 6)) (
               J_8 [.bool ((↑l_7 : Int) == 0)] w_92) (
               J_8 [.bool false] w_92)) ∧
              ∀ w_105 : World,
              ∀ v_43 : Value,
              (J_8 [v_43] w_105 →
              BOOLV v_43 fun t_10 =>
              ITE (t_10) (
               LDi .i64 w_105 ⟨b_2, 0, none⟩ fun n_139 =>
               LDi .i64 w_105 ⟨b_2, 1, none⟩ fun n_140 =>
               LDi .i64 w_105 ⟨b_2, 2, none⟩ fun n_141 =>
               LDi .i64 w_105 ⟨b_2, 3, none⟩ fun n_142 =>
               LDi .i64 w_105 ⟨b_2, 4, none⟩ fun n_143 =>
               LDi .i64 w_105 ⟨b_2, 5, none⟩ fun n_144 =>
               LDi .i64 w_105 ⟨b_2, 6, none⟩ fun n_145 =>
               LDl w_105 ⟨b_2, 7, none⟩ fun a_18 l_18 c_18 =>
               LDi .i64 w_105 ⟨b_2, 8, none⟩ fun n_146 =>
               LDi .i64 w_105 ⟨b_2, 9, none⟩ fun n_147 =>
               LDi .i64 w_105 ⟨b_2, 10, none⟩ fun n_148 =>
               ST1 w_105 ⟨b_1, 0, none⟩ (.int .i64 n_139) fun w_106 =>
               ST1 w_106 ⟨b_1, 1, none⟩ (.int .i64 n_140) fun w_107 =>
               ST1 w_107 ⟨b_1, 2, none⟩ (.int .i64 n_141) fun w_108 =>
               ST1 w_108 ⟨b_1, 3, none⟩ (.int .i64 n_142) fun w_109 =>
               ST1 w_109 ⟨b_1, 4, none⟩ (.int .i64 n_143) fun w_110 =>
               ST1 w_110 ⟨b_1, 5, none⟩ (.int .i64 n_144) fun w_111 =>
               ST1 w_111 ⟨b_1, 6, none⟩ (.int .i64 n_145) fun w_112 =>
               ST1 w_112 ⟨b_1, 7, none⟩ (.slice a_18 l_18 c_18) fun w_113 =>
               ST1 w_113 ⟨b_1, 8, none⟩ (.int .i64 n_146) fun w_114 =>
               ST1 w_114 ⟨b_1, 9, none⟩ (.int .i64 n_147) fun w_115 =>
               ST1 w_115 ⟨b_1, 10, none⟩ (.int .i64 n_148) fun w_116 =>
               LDi .i64 w_116 ⟨b_1, 0, none⟩ fun n_149 =>
               LDi .i64 w_116 ⟨b_1, 1, none⟩ fun n_150 =>
               LDi .i64 w_116 ⟨b_1, 2, none⟩ fun n_151 =>
               LDi .i64 w_116 ⟨b_1, 3, none⟩ fun n_152 =>
               LDi .i64 w_116 ⟨b_1, 4, none⟩ fun n_153 =>
               LDi .i64 w_116 ⟨b_1, 5, none⟩ fun n_154 =>
               LDi .i64 w_116 ⟨b_1, 6, none⟩ fun n_155 =>
               LDl w_116 ⟨b_1, 7, none⟩ fun a_19 l_19 c_19 =>
               LDi .i64 w_116 ⟨b_1, 8, none⟩ fun n_156 =>
               LDi .i64 w_116 ⟨b_1, 9, none⟩ fun n_157 =>
               LDi .i64 w_116 ⟨b_1, 10, none⟩ fun n_158 =>
               K (.tuple #[.agg #[.int .i64 n_149, .int .i64 n_150, .int .i64 n_151, .int .i64 n_152, .int .i64 n_153, .int .i64 n_154, .int .i64 n_155, .slice a_19 l_19 c_19, .int .i64 n_156, .int .i64 n_157, .int .i64 n_158], .bool true]) w_116) (
               ST1 w_105 ⟨b_1, 0, none⟩ (.int .i64 0) fun w_117 =>
               ST1 w_117 ⟨b_1, 1, none⟩ (.int .i64 0) fun w_118 =>
               ST1 w_118 ⟨b_1, 2, none⟩ (.int .i64 0) fun w_119 =>
               ST1 w_119 ⟨b_1, 3, none⟩ (.int .i64 0) fun w_120 =>
               ST1 w_120 ⟨b_1, 4, none⟩ (.int .i64 0) fun w_121 =>
               ST1 w_121 ⟨b_1, 5, none⟩ (.int .i64 0) fun w_122 =>
               ST1 w_122 ⟨b_1, 6, none⟩ (.int .i64 0) fun w_123 =>
               ST1 w_123 ⟨b_1, 7, none⟩ (.slice none 0 0) fun w_124 =>
               ST1 w_124 ⟨b_1, 8, none⟩ (.int .i64 0) fun w_125 =>
               ST1 w_125 ⟨b_1, 9, none⟩ (.int .i64 0) fun w_126 =>
               ST1 w_126 ⟨b_1, 10, none⟩ (.int .i64 0) fun w_127 =>
               LDi .i64 w_127 ⟨b_1, 0, none⟩ fun n_159 =>
               LDi .i64 w_127 ⟨b_1, 1, none⟩ fun n_160 =>
               LDi .i64 w_127 ⟨b_1, 2, none⟩ fun n_161 =>
               LDi .i64 w_127 ⟨b_1, 3, none⟩ fun n_162 =>
               LDi .i64 w_127 ⟨b_1, 4, none⟩ fun n_163 =>
               LDi .i64 w_127 ⟨b_1, 5, none⟩ fun n_164 =>
               LDi .i64 w_127 ⟨b_1, 6, none⟩ fun n_165 =>
               LDl w_127 ⟨b_1, 7, none⟩ fun a_20 l_20 c_20 =>
               LDi .i64 w_127 ⟨b_1, 8, none⟩ fun n_166 =>
               LDi .i64 w_127 ⟨b_1, 9, none⟩ fun n_167 =>
               LDi .i64 w_127 ⟨b_1, 10, none⟩ fun n_168 =>
               K (.tuple #[.agg #[.int .i64 n_159, .int .i64 n_160, .int .i64 n_161, .int .i64 n_162, .int .i64 n_163, .int .i64 n_164, .int .i64 n_165, .slice a_20 l_20 c_20, .int .i64 n_166, .int .i64 n_167, .int .i64 n_168], .bool false]) w_127))))))))))))))))))))))
theorem E_text_Parse (s : ByteArray) (w : World) (K : Value → World → Prop) :
    D_text_Parse s w K = vcFn Pg Tryd.f9 [6, 12, 15, 17, 19, 21, 23] [.string s] w K := by kernel_rfl
theorem C_text_Parse {s : ByteArray} {w : World} {K : Value → World → Prop} (h : D_text_Parse s w K) :
    CALL Pg F_text_Parse [.string s] w K :=
  call_of_vc [6, 12, 15, 17, 19, 21, 23] Tryd.func9 rfl (Nat.le_of_ble_eq_true (by kernel_rfl)) ((E_text_Parse s w K) ▸ h)
def D_text_ask (x0 : Int) (x1 : Int) (x2 : Int) (x3 : Int) (x4 : Int) (x5 : Int) (x6 : Int) (x7a : Option Addr) (x7l : Nat) (x7c : Nat) (x8 : Int) (x9 : Int) (x10 : Int) (la : Option Addr) (ll : Nat) (lc : Nat) (w : World) (K : Value → World → Prop) : Prop :=
  NEW w [.int .i64 x0, .int .i64 x1, .int .i64 x2, .int .i64 x3, .int .i64 x4, .int .i64 x5, .int .i64 x6, .slice x7a x7l x7c, .int .i64 x8, .int .i64 x9, .int .i64 x10] T_text_Line_text_Line fun b_1 w_1 =>
  NEW w_1 [.int .i64 0, .int .i64 0, .int .i64 0, .int .i64 0, .int .i64 0, .int .i64 0, .int .i64 0, .slice none 0 0, .int .i64 0, .int .i64 0, .int .i64 0] T_text_Line_text_Line fun b_2 w_2 =>
  ITE ((↑ll : Int) != 3) (
   ST1 w_2 ⟨b_2, 0, none⟩ (.int .i64 0) fun w_3 =>
   ST1 w_3 ⟨b_2, 1, none⟩ (.int .i64 0) fun w_4 =>
   ST1 w_4 ⟨b_2, 2, none⟩ (.int .i64 0) fun w_5 =>
   ST1 w_5 ⟨b_2, 3, none⟩ (.int .i64 0) fun w_6 =>
   ST1 w_6 ⟨b_2, 4, none⟩ (.int .i64 0) fun w_7 =>
   ST1 w_7 ⟨b_2, 5, none⟩ (.int .i64 0) fun w_8 =>
   ST1 w_8 ⟨b_2, 6, none⟩ (.int .i64 0) fun w_9 =>
   ST1 w_9 ⟨b_2, 7, none⟩ (.slice none 0 0) fun w_10 =>
   ST1 w_10 ⟨b_2, 8, none⟩ (.int .i64 0) fun w_11 =>
   ST1 w_11 ⟨b_2, 9, none⟩ (.int .i64 0) fun w_12 =>
   ST1 w_12 ⟨b_2, 10, none⟩ (.int .i64 0) fun w_13 =>
   LDi .i64 w_13 ⟨b_2, 0, none⟩ fun n_1 =>
   LDi .i64 w_13 ⟨b_2, 1, none⟩ fun n_2 =>
   LDi .i64 w_13 ⟨b_2, 2, none⟩ fun n_3 =>
   LDi .i64 w_13 ⟨b_2, 3, none⟩ fun n_4 =>
   LDi .i64 w_13 ⟨b_2, 4, none⟩ fun n_5 =>
   LDi .i64 w_13 ⟨b_2, 5, none⟩ fun n_6 =>
   LDi .i64 w_13 ⟨b_2, 6, none⟩ fun n_7 =>
   LDl w_13 ⟨b_2, 7, none⟩ fun a_1 l_1 c_1 =>
   LDi .i64 w_13 ⟨b_2, 8, none⟩ fun n_8 =>
   LDi .i64 w_13 ⟨b_2, 9, none⟩ fun n_9 =>
   LDi .i64 w_13 ⟨b_2, 10, none⟩ fun n_10 =>
   K (.tuple #[.agg #[.int .i64 n_1, .int .i64 n_2, .int .i64 n_3, .int .i64 n_4, .int .i64 n_5, .int .i64 n_6, .int .i64 n_7, .slice a_1 l_1 c_1, .int .i64 n_8, .int .i64 n_9, .int .i64 n_10], .bool false]) w_13) (
   IDX la ll 0 1 fun b_3 o_1 =>
   LDs w_2 ⟨b_3, o_1, none⟩ fun s_1 =>
   CALL Pg F_text_number [.string s_1] w_2 fun v_1 w_14 =>
   TUPV v_1 fun cs_1 =>
   GETV cs_1 0 fun v_2 =>
   INTV .i64 v_2 fun n_11 =>
   GETV cs_1 1 fun v_3 =>
   BOOLV v_3 fun t_1 =>
   LEN cs_1 2 (
   SILN Pg (Instr.sliceAt T_Lstring (.slice la ll lc) (some (.int .i64 1)) none none) fun v_4 =>
   SLV v_4 fun a_2 l_2 c_2 =>
   CALL Pg F_text_request [.slice a_2 l_2 c_2] w_14 fun v_5 w_15 =>
   TUPV v_5 fun cs_2 =>
   GETV cs_2 0 fun v_6 =>
   AGGV v_6 fun cs_3 =>
   GETV cs_3 0 fun v_7 =>
   INTV .i64 v_7 fun n_12 =>
   GETV cs_3 1 fun v_8 =>
   INTV .i64 v_8 fun n_13 =>
   LEN cs_3 2 (
   GETV cs_2 1 fun v_9 =>
   INTV .i64 v_9 fun n_14 =>
   GETV cs_2 2 fun v_10 =>
   BOOLV v_10 fun t_2 =>
   LEN cs_2 3 (
   NEW w_15 [.int .i64 0, .int .i64 0] T_api_Request_api_Request fun b_4 w_16 =>
   ST1 w_16 ⟨b_4, 0, none⟩ (.int .i64 n_12) fun w_17 =>
   ST1 w_17 ⟨b_4, 1, none⟩ (.int .i64 n_13) fun w_18 =>
   ITE (!t_1) (
    ST1 w_18 ⟨b_2, 0, none⟩ (.int .i64 0) fun w_19 =>
    ST1 w_19 ⟨b_2, 1, none⟩ (.int .i64 0) fun w_20 =>
    ST1 w_20 ⟨b_2, 2, none⟩ (.int .i64 0) fun w_21 =>
    ST1 w_21 ⟨b_2, 3, none⟩ (.int .i64 0) fun w_22 =>
    ST1 w_22 ⟨b_2, 4, none⟩ (.int .i64 0) fun w_23 =>
    ST1 w_23 ⟨b_2, 5, none⟩ (.int .i64 0) fun w_24 =>
    ST1 w_24 ⟨b_2, 6, none⟩ (.int .i64 0) fun w_25 =>
    ST1 w_25 ⟨b_2, 7, none⟩ (.slice none 0 0) fun w_26 =>
    ST1 w_26 ⟨b_2, 8, none⟩ (.int .i64 0) fun w_27 =>
    ST1 w_27 ⟨b_2, 9, none⟩ (.int .i64 0) fun w_28 =>
    ST1 w_28 ⟨b_2, 10, none⟩ (.int .i64 0) fun w_29 =>
    LDi .i64 w_29 ⟨b_2, 0, none⟩ fun n_15 =>
    LDi .i64 w_29 ⟨b_2, 1, none⟩ fun n_16 =>
    LDi .i64 w_29 ⟨b_2, 2, none⟩ fun n_17 =>
    LDi .i64 w_29 ⟨b_2, 3, none⟩ fun n_18 =>
    LDi .i64 w_29 ⟨b_2, 4, none⟩ fun n_19 =>
    LDi .i64 w_29 ⟨b_2, 5, none⟩ fun n_20 =>
    LDi .i64 w_29 ⟨b_2, 6, none⟩ fun n_21 =>
    LDl w_29 ⟨b_2, 7, none⟩ fun a_3 l_3 c_3 =>
    LDi .i64 w_29 ⟨b_2, 8, none⟩ fun n_22 =>
    LDi .i64 w_29 ⟨b_2, 9, none⟩ fun n_23 =>
    LDi .i64 w_29 ⟨b_2, 10, none⟩ fun n_24 =>
    K (.tuple #[.agg #[.int .i64 n_15, .int .i64 n_16, .int .i64 n_17, .int .i64 n_18, .int .i64 n_19, .int .i64 n_20, .int .i64 n_21, .slice a_3 l_3 c_3, .int .i64 n_22, .int .i64 n_23, .int .i64 n_24], .bool false]) w_29) (
    ITE (!t_2) (
     ST1 w_18 ⟨b_2, 0, none⟩ (.int .i64 0) fun w_30 =>
     ST1 w_30 ⟨b_2, 1, none⟩ (.int .i64 0) fun w_31 =>
     ST1 w_31 ⟨b_2, 2, none⟩ (.int .i64 0) fun w_32 =>
     ST1 w_32 ⟨b_2, 3, none⟩ (.int .i64 0) fun w_33 =>
     ST1 w_33 ⟨b_2, 4, none⟩ (.int .i64 0) fun w_34 =>
     ST1 w_34 ⟨b_2, 5, none⟩ (.int .i64 0) fun w_35 =>
     ST1 w_35 ⟨b_2, 6, none⟩ (.int .i64 0) fun w_36 =>
     ST1 w_36 ⟨b_2, 7, none⟩ (.slice none 0 0) fun w_37 =>
     ST1 w_37 ⟨b_2, 8, none⟩ (.int .i64 0) fun w_38 =>
     ST1 w_38 ⟨b_2, 9, none⟩ (.int .i64 0) fun w_39 =>
     ST1 w_39 ⟨b_2, 10, none⟩ (.int .i64 0) fun w_40 =>
     LDi .i64 w_40 ⟨b_2, 0, none⟩ fun n_25 =>
     LDi .i64 w_40 ⟨b_2, 1, none⟩ fun n_26 =>
     LDi .i64 w_40 ⟨b_2, 2, none⟩ fun n_27 =>
     LDi .i64 w_40 ⟨b_2, 3, none⟩ fun n_28 =>
     LDi .i64 w_40 ⟨b_2, 4, none⟩ fun n_29 =>
     LDi .i64 w_40 ⟨b_2, 5, none⟩ fun n_30 =>
     LDi .i64 w_40 ⟨b_2, 6, none⟩ fun n_31 =>
     LDl w_40 ⟨b_2, 7, none⟩ fun a_4 l_4 c_4 =>
     LDi .i64 w_40 ⟨b_2, 8, none⟩ fun n_32 =>
     LDi .i64 w_40 ⟨b_2, 9, none⟩ fun n_33 =>
     LDi .i64 w_40 ⟨b_2, 10, none⟩ fun n_34 =>
     K (.tuple #[.agg #[.int .i64 n_25, .int .i64 n_26, .int .i64 n_27, .int .i64 n_28, .int .i64 n_29, .int .i64 n_30, .int .i64 n_31, .slice a_4 l_4 c_4, .int .i64 n_32, .int .i64 n_33, .int .i64 n_34], .bool false]) w_40) (
     DRAW w_18 fun w_41 =>
     LDi .i64 w_41 ⟨b_4, 0, none⟩ fun n_35 =>
     LDi .i64 w_41 ⟨b_4, 1, none⟩ fun n_36 =>
     ST1 w_41 ⟨b_1, 1, none⟩ (.int .i64 n_11) fun w_42 =>
     ((
      KEEP w_42 [Fact.cell ⟨b_4, 0, none⟩ (.int .i64 n_35), Fact.cell ⟨b_4, 1, none⟩ (.int .i64 n_36)]) ∧
      ST1 w_42 ⟨b_1, 8, none⟩ (.int .i64 n_35) fun w_43 =>
      ST1 w_43 ⟨b_1, 9, none⟩ (.int .i64 n_36) fun w_44 =>
      ((
       KEEP w_44 []) ∧
       ST1 w_44 ⟨b_1, 10, none⟩ (.int .i64 n_14) fun w_45 =>
       ((
        KEEP w_45 []) ∧
        LDi .i64 w_45 ⟨b_1, 0, none⟩ fun n_37 =>
        LDi .i64 w_45 ⟨b_1, 1, none⟩ fun n_38 =>
        LDi .i64 w_45 ⟨b_1, 2, none⟩ fun n_39 =>
        LDi .i64 w_45 ⟨b_1, 3, none⟩ fun n_40 =>
        LDi .i64 w_45 ⟨b_1, 4, none⟩ fun n_41 =>
        LDi .i64 w_45 ⟨b_1, 5, none⟩ fun n_42 =>
        LDi .i64 w_45 ⟨b_1, 6, none⟩ fun n_43 =>
        LDl w_45 ⟨b_1, 7, none⟩ fun a_5 l_5 c_5 =>
        LDi .i64 w_45 ⟨b_1, 8, none⟩ fun n_44 =>
        LDi .i64 w_45 ⟨b_1, 9, none⟩ fun n_45 =>
        LDi .i64 w_45 ⟨b_1, 10, none⟩ fun n_46 =>
        ST1 w_45 ⟨b_2, 0, none⟩ (.int .i64 n_37) fun w_46 =>
        ST1 w_46 ⟨b_2, 1, none⟩ (.int .i64 n_38) fun w_47 =>
        ST1 w_47 ⟨b_2, 2, none⟩ (.int .i64 n_39) fun w_48 =>
        ST1 w_48 ⟨b_2, 3, none⟩ (.int .i64 n_40) fun w_49 =>
        ST1 w_49 ⟨b_2, 4, none⟩ (.int .i64 n_41) fun w_50 =>
        ST1 w_50 ⟨b_2, 5, none⟩ (.int .i64 n_42) fun w_51 =>
        ST1 w_51 ⟨b_2, 6, none⟩ (.int .i64 n_43) fun w_52 =>
        ST1 w_52 ⟨b_2, 7, none⟩ (.slice a_5 l_5 c_5) fun w_53 =>
        ST1 w_53 ⟨b_2, 8, none⟩ (.int .i64 n_44) fun w_54 =>
        ST1 w_54 ⟨b_2, 9, none⟩ (.int .i64 n_45) fun w_55 =>
        ST1 w_55 ⟨b_2, 10, none⟩ (.int .i64 n_46) fun w_56 =>
        LDi .i64 w_56 ⟨b_2, 0, none⟩ fun n_47 =>
        LDi .i64 w_56 ⟨b_2, 1, none⟩ fun n_48 =>
        LDi .i64 w_56 ⟨b_2, 2, none⟩ fun n_49 =>
        LDi .i64 w_56 ⟨b_2, 3, none⟩ fun n_50 =>
        LDi .i64 w_56 ⟨b_2, 4, none⟩ fun n_51 =>
        LDi .i64 w_56 ⟨b_2, 5, none⟩ fun n_52 =>
        LDi .i64 w_56 ⟨b_2, 6, none⟩ fun n_53 =>
        LDl w_56 ⟨b_2, 7, none⟩ fun a_6 l_6 c_6 =>
        LDi .i64 w_56 ⟨b_2, 8, none⟩ fun n_54 =>
        LDi .i64 w_56 ⟨b_2, 9, none⟩ fun n_55 =>
        LDi .i64 w_56 ⟨b_2, 10, none⟩ fun n_56 =>
        K (.tuple #[.agg #[.int .i64 n_47, .int .i64 n_48, .int .i64 n_49, .int .i64 n_50, .int .i64 n_51, .int .i64 n_52, .int .i64 n_53, .slice a_6 l_6 c_6, .int .i64 n_54, .int .i64 n_55, .int .i64 n_56], .bool true]) w_56)))))))))
theorem E_text_ask (x0 : Int) (x1 : Int) (x2 : Int) (x3 : Int) (x4 : Int) (x5 : Int) (x6 : Int) (x7a : Option Addr) (x7l : Nat) (x7c : Nat) (x8 : Int) (x9 : Int) (x10 : Int) (la : Option Addr) (ll : Nat) (lc : Nat) (w : World) (K : Value → World → Prop) :
    D_text_ask x0 x1 x2 x3 x4 x5 x6 x7a x7l x7c x8 x9 x10 la ll lc w K = vcFn Pg Tryd.f18 [] [.agg #[.int .i64 x0, .int .i64 x1, .int .i64 x2, .int .i64 x3, .int .i64 x4, .int .i64 x5, .int .i64 x6, .slice x7a x7l x7c, .int .i64 x8, .int .i64 x9, .int .i64 x10], .slice la ll lc] w K := by kernel_rfl
theorem C_text_ask {x0 : Int} {x1 : Int} {x2 : Int} {x3 : Int} {x4 : Int} {x5 : Int} {x6 : Int} {x7a : Option Addr} {x7l : Nat} {x7c : Nat} {x8 : Int} {x9 : Int} {x10 : Int} {la : Option Addr} {ll : Nat} {lc : Nat} {w : World} {K : Value → World → Prop} (h : D_text_ask x0 x1 x2 x3 x4 x5 x6 x7a x7l x7c x8 x9 x10 la ll lc w K) :
    CALL Pg F_text_ask [.agg #[.int .i64 x0, .int .i64 x1, .int .i64 x2, .int .i64 x3, .int .i64 x4, .int .i64 x5, .int .i64 x6, .slice x7a x7l x7c, .int .i64 x8, .int .i64 x9, .int .i64 x10], .slice la ll lc] w K :=
  call_of_vc [] Tryd.func18 rfl (Nat.le_of_ble_eq_true (by kernel_rfl)) ((E_text_ask x0 x1 x2 x3 x4 x5 x6 x7a x7l x7c x8 x9 x10 la ll lc w K) ▸ h)
def D_text_row (la : Option Addr) (ll : Nat) (lc : Nat) (w : World) (K : Value → World → Prop) : Prop :=
  NEW w [.pointer none, .slice none 0 0] T_strings_Builder fun b_1 w_1 =>
  LOOP [.int .i64 0] w_1 fun I_1 N_1 =>
  ∀ w_2 : World,
  ∀ v_1 : Value,
  (I_1 [v_1] w_2 →
  INTV .i64 v_1 fun n_1 =>
  ITE (decide (n_1 < (↑ll : Int))) (
   IDX la ll n_1 1 fun b_2 o_1 =>
   LDi .i64 w_2 ⟨b_2, o_1, none⟩ fun n_2 =>
   CALL Pg F_pstrings_Builder_WriteByte [.pointer (some ⟨b_1, 0, none⟩), .int .u8 32] w_2 fun _ w_3 =>
   CALL Pg F_strconv_Itoa [.int .i64 n_2] w_3 fun v_3 w_4 =>
   STRV v_3 fun s_1 =>
   CALL Pg F_pstrings_Builder_WriteString [.pointer (some ⟨b_1, 0, none⟩), .string s_1] w_4 fun v_4 w_5 =>
   TUPV v_4 fun cs_1 =>
   GETV cs_1 0 fun v_5 =>
   INTV .i64 v_5 fun _ =>
   GETV cs_1 1 fun _ =>
   LEN cs_1 2 (
   BIND (IntKind.i64.wrap (n_1 + 1)) fun n_4 =>
   N_1 [v_1] w_2 [.int .i64 n_4] w_5)) (
   CALL Pg F_pstrings_Builder_String [.pointer (some ⟨b_1, 0, none⟩)] w_2 fun v_7 w_6 =>
   STRV v_7 fun s_2 =>
   K (.string s_2) w_6))
theorem E_text_row (la : Option Addr) (ll : Nat) (lc : Nat) (w : World) (K : Value → World → Prop) :
    D_text_row la ll lc w K = vcFn Pg Tryd.f24 [] [.slice la ll lc] w K := by kernel_rfl
theorem C_text_row {la : Option Addr} {ll : Nat} {lc : Nat} {w : World} {K : Value → World → Prop} (h : D_text_row la ll lc w K) :
    CALL Pg F_text_row [.slice la ll lc] w K :=
  call_of_vc [] Tryd.func24 rfl (Nat.le_of_ble_eq_true (by kernel_rfl)) ((E_text_row la ll lc w K) ▸ h)
def D_text_Same (x0 : Int) (x1 : Int) (x2 : Int) (x3 : Int) (x4 : Int) (x5 : Int) (x6 : Int) (x7a : Option Addr) (x7l : Nat) (x7c : Nat) (x8 : Int) (x9 : Int) (x10 : Int) (y0 : Int) (y1 : Int) (y2 : Int) (y3 : Int) (y4 : Int) (y5 : Int) (y6 : Int) (y7a : Option Addr) (y7l : Nat) (y7c : Nat) (y8 : Int) (y9 : Int) (y10 : Int) (w : World) (K : Value → World → Prop) : Prop :=
  NEW w [.int .i64 x0, .int .i64 x1, .int .i64 x2, .int .i64 x3, .int .i64 x4, .int .i64 x5, .int .i64 x6, .slice x7a x7l x7c, .int .i64 x8, .int .i64 x9, .int .i64 x10] T_text_Line_text_Line fun b_1 w_1 =>
  NEW w_1 [.int .i64 y0, .int .i64 y1, .int .i64 y2, .int .i64 y3, .int .i64 y4, .int .i64 y5, .int .i64 y6, .slice y7a y7l y7c, .int .i64 y8, .int .i64 y9, .int .i64 y10] T_text_Line_text_Line fun b_2 w_2 =>
  DRAW w_2 fun w_3 =>
  LDi .i64 w_3 ⟨b_1, 3, none⟩ fun n_1 =>
  LDi .i64 w_3 ⟨b_1, 4, none⟩ fun n_2 =>
  LDi .i64 w_3 ⟨b_1, 5, none⟩ fun n_3 =>
  LDi .i64 w_3 ⟨b_1, 6, none⟩ fun n_4 =>
  LDl w_3 ⟨b_1, 7, none⟩ fun a_1 l_1 c_1 =>
  LDi .i64 w_3 ⟨b_2, 3, none⟩ fun n_5 =>
  LDi .i64 w_3 ⟨b_2, 4, none⟩ fun n_6 =>
  LDi .i64 w_3 ⟨b_2, 5, none⟩ fun n_7 =>
  LDi .i64 w_3 ⟨b_2, 6, none⟩ fun n_8 =>
  LDl w_3 ⟨b_2, 7, none⟩ fun a_2 l_2 c_2 =>
  ((
   NEW w_3 [.int .i64 0, .int .i64 0, .int .i64 0, .int .i64 0, .slice none 0 0] T_api_Config_api_Config fun b_3 w_4 =>
   ((
    KEEP w_4 [Fact.cell ⟨b_1, 3, none⟩ (.int .i64 n_1), Fact.cell ⟨b_1, 4, none⟩ (.int .i64 n_2), Fact.cell ⟨b_1, 5, none⟩ (.int .i64 n_3), Fact.cell ⟨b_1, 6, none⟩ (.int .i64 n_4), Fact.cell ⟨b_1, 7, none⟩ (.slice a_1 l_1 c_1), Fact.cell ⟨b_2, 3, none⟩ (.int .i64 n_5), Fact.cell ⟨b_2, 4, none⟩ (.int .i64 n_6), Fact.cell ⟨b_2, 5, none⟩ (.int .i64 n_7), Fact.cell ⟨b_2, 6, none⟩ (.int .i64 n_8), Fact.cell ⟨b_2, 7, none⟩ (.slice a_2 l_2 c_2)]) ∧
    NEW w_4 [.int .i64 0, .int .i64 0, .int .i64 0, .int .i64 0, .slice none 0 0] T_api_Config_api_Config fun b_4 w_5 =>
    ((
     KEEP w_5 [Fact.cell ⟨b_1, 3, none⟩ (.int .i64 n_1), Fact.cell ⟨b_1, 4, none⟩ (.int .i64 n_2), Fact.cell ⟨b_1, 5, none⟩ (.int .i64 n_3), Fact.cell ⟨b_1, 6, none⟩ (.int .i64 n_4), Fact.cell ⟨b_1, 7, none⟩ (.slice a_1 l_1 c_1), Fact.cell ⟨b_2, 3, none⟩ (.int .i64 n_5), Fact.cell ⟨b_2, 4, none⟩ (.int .i64 n_6), Fact.cell ⟨b_2, 5, none⟩ (.int .i64 n_7), Fact.cell ⟨b_2, 6, none⟩ (.int .i64 n_8), Fact.cell ⟨b_2, 7, none⟩ (.slice a_2 l_2 c_2)]) ∧
     ST1 w_5 ⟨b_3, 0, none⟩ (.int .i64 n_1) fun w_6 =>
     ST1 w_6 ⟨b_3, 1, none⟩ (.int .i64 n_2) fun w_7 =>
     ST1 w_7 ⟨b_3, 2, none⟩ (.int .i64 n_3) fun w_8 =>
     ST1 w_8 ⟨b_3, 3, none⟩ (.int .i64 n_4) fun w_9 =>
     ST1 w_9 ⟨b_3, 4, none⟩ (.slice a_1 l_1 c_1) fun w_10 =>
     ((
      KEEP w_10 [Fact.cell ⟨b_2, 3, none⟩ (.int .i64 n_5), Fact.cell ⟨b_2, 4, none⟩ (.int .i64 n_6), Fact.cell ⟨b_2, 5, none⟩ (.int .i64 n_7), Fact.cell ⟨b_2, 6, none⟩ (.int .i64 n_8), Fact.cell ⟨b_2, 7, none⟩ (.slice a_2 l_2 c_2)]) ∧
      ST1 w_10 ⟨b_4, 0, none⟩ (.int .i64 n_5) fun w_11 =>
      ST1 w_11 ⟨b_4, 1, none⟩ (.int .i64 n_6) fun w_12 =>
      ST1 w_12 ⟨b_4, 2, none⟩ (.int .i64 n_7) fun w_13 =>
      ST1 w_13 ⟨b_4, 3, none⟩ (.int .i64 n_8) fun w_14 =>
      ST1 w_14 ⟨b_4, 4, none⟩ (.slice a_2 l_2 c_2) fun w_15 =>
      ((
       KEEP w_15 []) ∧
       JOIN fun J_1 =>
       ((
        LDi .i64 w_15 ⟨b_1, 0, none⟩ fun n_9 =>
        LDi .i64 w_15 ⟨b_2, 0, none⟩ fun n_10 =>
        ITE (n_9 == n_10) (
         LDi .i64 w_15 ⟨b_1, 1, none⟩ fun n_11 =>
         LDi .i64 w_15 ⟨b_2, 1, none⟩ fun n_12 =>
         ITE (n_11 == n_12) (
          LDi .i64 w_15 ⟨b_1, 2, none⟩ fun n_13 =>
          LDi .i64 w_15 ⟨b_2, 2, none⟩ fun n_14 =>
          ITE (n_13 == n_14) (
           LDi .i64 w_15 ⟨b_1, 8, none⟩ fun n_15 =>
           LDi .i64 w_15 ⟨b_1, 9, none⟩ fun n_16 =>
           LDi .i64 w_15 ⟨b_2, 8, none⟩ fun n_17 =>
           LDi .i64 w_15 ⟨b_2, 9, none⟩ fun n_18 =>
           ITE (n_15 == n_17 && (n_16 == n_18 && true)) (
            LDi .i64 w_15 ⟨b_1, 10, none⟩ fun n_19 =>
            LDi .i64 w_15 ⟨b_2, 10, none⟩ fun n_20 =>
            J_1 [.bool (n_19 == n_20)] w_15) (
            J_1 [.bool false] w_15)) (
           J_1 [.bool false] w_15)) (
          J_1 [.bool false] w_15)) (
         J_1 [.bool false] w_15)) ∧
        ∀ w_16 : World,
        ∀ v_1 : Value,
        (J_1 [v_1] w_16 →
        BOOLV v_1 fun t_1 =>
        JOIN fun J_2 =>
        ((
         ITE (t_1) (
          LDi .i64 w_16 ⟨b_3, 0, none⟩ fun n_21 =>
          LDi .i64 w_16 ⟨b_4, 0, none⟩ fun n_22 =>
          ITE (n_21 == n_22) (
           LDi .i64 w_16 ⟨b_3, 1, none⟩ fun n_23 =>
           LDi .i64 w_16 ⟨b_4, 1, none⟩ fun n_24 =>
           ITE (n_23 == n_24) (
            LDi .i64 w_16 ⟨b_3, 2, none⟩ fun n_25 =>
            LDi .i64 w_16 ⟨b_4, 2, none⟩ fun n_26 =>
            ITE (n_25 == n_26) (
             LDi .i64 w_16 ⟨b_3, 3, none⟩ fun n_27 =>
             LDi .i64 w_16 ⟨b_4, 3, none⟩ fun n_28 =>
             ITE (n_27 == n_28) (
              LDl w_16 ⟨b_3, 4, none⟩ fun _ l_3 _ =>
              LDl w_16 ⟨b_4, 4, none⟩ fun _ l_4 _ =>
              J_2 [.bool ((↑l_3 : Int) == (↑l_4 : Int))] w_16) (
              J_2 [.bool false] w_16)) (
             J_2 [.bool false] w_16)) (
            J_2 [.bool false] w_16)) (
           J_2 [.bool false] w_16)) (
          J_2 [.bool false] w_16)) ∧
         ∀ w_17 : World,
         ∀ v_2 : Value,
         (J_2 [v_2] w_17 →
         BOOLV v_2 fun t_2 =>
         LDl w_17 ⟨b_3, 4, none⟩ fun _ l_5 _ =>
         LOOP [.bool t_2, .int .i64 0] w_17 fun I_1 N_1 =>
         ∀ w_18 : World,
         ∀ v_3 : Value,
         ∀ v_4 : Value,
         (I_1 [v_3, v_4] w_18 →
         INTV .i64 v_4 fun n_29 =>
         BOOLV v_3 fun t_3 =>
         ITE (decide (n_29 < (↑l_5 : Int))) (
          DRAW w_18 fun w_19 =>
          ITE (t_3) (
           LDl w_19 ⟨b_3, 4, none⟩ fun a_6 l_6 _ =>
           IDX a_6 l_6 n_29 1 fun b_5 o_1 =>
           LDi .i64 w_19 ⟨b_5, o_1, none⟩ fun n_30 =>
           LDl w_19 ⟨b_4, 4, none⟩ fun a_7 l_7 _ =>
           IDX a_7 l_7 n_29 1 fun b_6 o_2 =>
           LDi .i64 w_19 ⟨b_6, o_2, none⟩ fun n_31 =>
           BIND (IntKind.i64.wrap (n_29 + 1)) fun n_32 =>
           N_1 [v_3, v_4] w_18 [.bool (n_30 == n_31), .int .i64 n_32] w_19) (
           BIND (IntKind.i64.wrap (n_29 + 1)) fun n_33 =>
           N_1 [v_3, v_4] w_18 [.bool false, .int .i64 n_33] w_19)) (
          K (.bool t_3) w_18))))))))))) ∧
   NEW w_3 [.int .i64 0, .int .i64 0, .int .i64 0, .int .i64 0, .slice none 0 0] T_api_Config_api_Config fun b_7 w_20 =>
   ((
    KEEP w_20 [Fact.cell ⟨b_1, 3, none⟩ (.int .i64 n_1), Fact.cell ⟨b_1, 4, none⟩ (.int .i64 n_2), Fact.cell ⟨b_1, 5, none⟩ (.int .i64 n_3), Fact.cell ⟨b_1, 6, none⟩ (.int .i64 n_4), Fact.cell ⟨b_1, 7, none⟩ (.slice a_1 l_1 c_1), Fact.cell ⟨b_2, 3, none⟩ (.int .i64 n_5), Fact.cell ⟨b_2, 4, none⟩ (.int .i64 n_6), Fact.cell ⟨b_2, 5, none⟩ (.int .i64 n_7), Fact.cell ⟨b_2, 6, none⟩ (.int .i64 n_8), Fact.cell ⟨b_2, 7, none⟩ (.slice a_2 l_2 c_2)]) ∧
    NEW w_20 [.int .i64 0, .int .i64 0, .int .i64 0, .int .i64 0, .slice none 0 0] T_api_Config_api_Config fun b_8 w_21 =>
    ((
     KEEP w_21 [Fact.cell ⟨b_1, 3, none⟩ (.int .i64 n_1), Fact.cell ⟨b_1, 4, none⟩ (.int .i64 n_2), Fact.cell ⟨b_1, 5, none⟩ (.int .i64 n_3), Fact.cell ⟨b_1, 6, none⟩ (.int .i64 n_4), Fact.cell ⟨b_1, 7, none⟩ (.slice a_1 l_1 c_1), Fact.cell ⟨b_2, 3, none⟩ (.int .i64 n_5), Fact.cell ⟨b_2, 4, none⟩ (.int .i64 n_6), Fact.cell ⟨b_2, 5, none⟩ (.int .i64 n_7), Fact.cell ⟨b_2, 6, none⟩ (.int .i64 n_8), Fact.cell ⟨b_2, 7, none⟩ (.slice a_2 l_2 c_2)]) ∧
     ST1 w_21 ⟨b_8, 0, none⟩ (.int .i64 n_1) fun w_22 =>
     ST1 w_22 ⟨b_8, 1, none⟩ (.int .i64 n_2) fun w_23 =>
     ST1 w_23 ⟨b_8, 2, none⟩ (.int .i64 n_3) fun w_24 =>
     ST1 w_24 ⟨b_8, 3, none⟩ (.int .i64 n_4) fun w_25 =>
     ST1 w_25 ⟨b_8, 4, none⟩ (.slice a_1 l_1 c_1) fun w_26 =>
     ((
      KEEP w_26 [Fact.cell ⟨b_2, 3, none⟩ (.int .i64 n_5), Fact.cell ⟨b_2, 4, none⟩ (.int .i64 n_6), Fact.cell ⟨b_2, 5, none⟩ (.int .i64 n_7), Fact.cell ⟨b_2, 6, none⟩ (.int .i64 n_8), Fact.cell ⟨b_2, 7, none⟩ (.slice a_2 l_2 c_2)]) ∧
      ST1 w_26 ⟨b_7, 0, none⟩ (.int .i64 n_5) fun w_27 =>
      ST1 w_27 ⟨b_7, 1, none⟩ (.int .i64 n_6) fun w_28 =>
      ST1 w_28 ⟨b_7, 2, none⟩ (.int .i64 n_7) fun w_29 =>
      ST1 w_29 ⟨b_7, 3, none⟩ (.int .i64 n_8) fun w_30 =>
      ST1 w_30 ⟨b_7, 4, none⟩ (.slice a_2 l_2 c_2) fun w_31 =>
      ((
       KEEP w_31 []) ∧
       JOIN fun J_3 =>
       ((
        LDi .i64 w_31 ⟨b_1, 0, none⟩ fun n_34 =>
        LDi .i64 w_31 ⟨b_2, 0, none⟩ fun n_35 =>
        ITE (n_34 == n_35) (
         LDi .i64 w_31 ⟨b_1, 1, none⟩ fun n_36 =>
         LDi .i64 w_31 ⟨b_2, 1, none⟩ fun n_37 =>
         ITE (n_36 == n_37) (
          LDi .i64 w_31 ⟨b_1, 2, none⟩ fun n_38 =>
          LDi .i64 w_31 ⟨b_2, 2, none⟩ fun n_39 =>
          ITE (n_38 == n_39) (
           LDi .i64 w_31 ⟨b_1, 8, none⟩ fun n_40 =>
           LDi .i64 w_31 ⟨b_1, 9, none⟩ fun n_41 =>
           LDi .i64 w_31 ⟨b_2, 8, none⟩ fun n_42 =>
           LDi .i64 w_31 ⟨b_2, 9, none⟩ fun n_43 =>
           ITE (n_40 == n_42 && (n_41 == n_43 && true)) (
            LDi .i64 w_31 ⟨b_1, 10, none⟩ fun n_44 =>
            LDi .i64 w_31 ⟨b_2, 10, none⟩ fun n_45 =>
            J_3 [.bool (n_44 == n_45)] w_31) (
            J_3 [.bool false] w_31)) (
           J_3 [.bool false] w_31)) (
          J_3 [.bool false] w_31)) (
         J_3 [.bool false] w_31)) ∧
        ∀ w_32 : World,
        ∀ v_5 : Value,
        (J_3 [v_5] w_32 →
        BOOLV v_5 fun t_4 =>
        JOIN fun J_4 =>
        ((
         ITE (t_4) (
          LDi .i64 w_32 ⟨b_8, 0, none⟩ fun n_46 =>
          LDi .i64 w_32 ⟨b_7, 0, none⟩ fun n_47 =>
          ITE (n_46 == n_47) (
           LDi .i64 w_32 ⟨b_8, 1, none⟩ fun n_48 =>
           LDi .i64 w_32 ⟨b_7, 1, none⟩ fun n_49 =>
           ITE (n_48 == n_49) (
            LDi .i64 w_32 ⟨b_8, 2, none⟩ fun n_50 =>
            LDi .i64 w_32 ⟨b_7, 2, none⟩ fun n_51 =>
            ITE (n_50 == n_51) (
             LDi .i64 w_32 ⟨b_8, 3, none⟩ fun n_52 =>
             LDi .i64 w_32 ⟨b_7, 3, none⟩ fun n_53 =>
             ITE (n_52 == n_53) (
              LDl w_32 ⟨b_8, 4, none⟩ fun _ l_8 _ =>
              LDl w_32 ⟨b_7, 4, none⟩ fun _ l_9 _ =>
              J_4 [.bool ((↑l_8 : Int) == (↑l_9 : Int))] w_32) (
              J_4 [.bool false] w_32)) (
             J_4 [.bool false] w_32)) (
            J_4 [.bool false] w_32)) (
           J_4 [.bool false] w_32)) (
          J_4 [.bool false] w_32)) ∧
         ∀ w_33 : World,
         ∀ v_6 : Value,
         (J_4 [v_6] w_33 →
         BOOLV v_6 fun t_5 =>
         LDl w_33 ⟨b_8, 4, none⟩ fun _ l_10 _ =>
         LOOP [.bool t_5, .int .i64 0] w_33 fun I_2 N_2 =>
         ∀ w_34 : World,
         ∀ v_7 : Value,
         ∀ v_8 : Value,
         (I_2 [v_7, v_8] w_34 →
         INTV .i64 v_8 fun n_54 =>
         BOOLV v_7 fun t_6 =>
         ITE (decide (n_54 < (↑l_10 : Int))) (
          DRAW w_34 fun w_35 =>
          ITE (t_6) (
           LDl w_35 ⟨b_8, 4, none⟩ fun a_11 l_11 _ =>
           IDX a_11 l_11 n_54 1 fun b_9 o_3 =>
           LDi .i64 w_35 ⟨b_9, o_3, none⟩ fun n_55 =>
           LDl w_35 ⟨b_7, 4, none⟩ fun a_12 l_12 _ =>
           IDX a_12 l_12 n_54 1 fun b_10 o_4 =>
           LDi .i64 w_35 ⟨b_10, o_4, none⟩ fun n_56 =>
           BIND (IntKind.i64.wrap (n_54 + 1)) fun n_57 =>
           N_2 [v_7, v_8] w_34 [.bool (n_55 == n_56), .int .i64 n_57] w_35) (
           BIND (IntKind.i64.wrap (n_54 + 1)) fun n_58 =>
           N_2 [v_7, v_8] w_34 [.bool false, .int .i64 n_58] w_35)) (
          K (.bool t_6) w_34)))))))))))
theorem E_text_Same (x0 : Int) (x1 : Int) (x2 : Int) (x3 : Int) (x4 : Int) (x5 : Int) (x6 : Int) (x7a : Option Addr) (x7l : Nat) (x7c : Nat) (x8 : Int) (x9 : Int) (x10 : Int) (y0 : Int) (y1 : Int) (y2 : Int) (y3 : Int) (y4 : Int) (y5 : Int) (y6 : Int) (y7a : Option Addr) (y7l : Nat) (y7c : Nat) (y8 : Int) (y9 : Int) (y10 : Int) (w : World) (K : Value → World → Prop) :
    D_text_Same x0 x1 x2 x3 x4 x5 x6 x7a x7l x7c x8 x9 x10 y0 y1 y2 y3 y4 y5 y6 y7a y7l y7c y8 y9 y10 w K = vcFn Pg Tryd.f15 [2, 3, 7] [.agg #[.int .i64 x0, .int .i64 x1, .int .i64 x2, .int .i64 x3, .int .i64 x4, .int .i64 x5, .int .i64 x6, .slice x7a x7l x7c, .int .i64 x8, .int .i64 x9, .int .i64 x10], .agg #[.int .i64 y0, .int .i64 y1, .int .i64 y2, .int .i64 y3, .int .i64 y4, .int .i64 y5, .int .i64 y6, .slice y7a y7l y7c, .int .i64 y8, .int .i64 y9, .int .i64 y10]] w K := by kernel_rfl
theorem C_text_Same {x0 : Int} {x1 : Int} {x2 : Int} {x3 : Int} {x4 : Int} {x5 : Int} {x6 : Int} {x7a : Option Addr} {x7l : Nat} {x7c : Nat} {x8 : Int} {x9 : Int} {x10 : Int} {y0 : Int} {y1 : Int} {y2 : Int} {y3 : Int} {y4 : Int} {y5 : Int} {y6 : Int} {y7a : Option Addr} {y7l : Nat} {y7c : Nat} {y8 : Int} {y9 : Int} {y10 : Int} {w : World} {K : Value → World → Prop} (h : D_text_Same x0 x1 x2 x3 x4 x5 x6 x7a x7l x7c x8 x9 x10 y0 y1 y2 y3 y4 y5 y6 y7a y7l y7c y8 y9 y10 w K) :
    CALL Pg F_text_Same [.agg #[.int .i64 x0, .int .i64 x1, .int .i64 x2, .int .i64 x3, .int .i64 x4, .int .i64 x5, .int .i64 x6, .slice x7a x7l x7c, .int .i64 x8, .int .i64 x9, .int .i64 x10], .agg #[.int .i64 y0, .int .i64 y1, .int .i64 y2, .int .i64 y3, .int .i64 y4, .int .i64 y5, .int .i64 y6, .slice y7a y7l y7c, .int .i64 y8, .int .i64 y9, .int .i64 y10]] w K :=
  call_of_vc [2, 3, 7] Tryd.func15 rfl (Nat.le_of_ble_eq_true (by kernel_rfl)) ((E_text_Same x0 x1 x2 x3 x4 x5 x6 x7a x7l x7c x8 x9 x10 y0 y1 y2 y3 y4 y5 y6 y7a y7l y7c y8 y9 y10 w K) ▸ h)
def D_pstrings_Builder_WriteByte (b : Option Addr) (c : Int) (w : World) (K : Value → World → Prop) : Prop :=
  CALL Pg F_pstrings_Builder_copyCheck [.pointer b] w fun v_1 w_1 =>
  TUPV v_1 fun cs_1 =>
  LEN cs_1 0 (
  NN b fun b_1 o_1 =>
  LDl w_1 ⟨b_1, o_1 + 1, none⟩ fun a_1 l_1 c_1 =>
  NEW w_1 [.int .u8 c] T_uint8 fun b_2 w_2 =>
  SEML Pg w_2 (Builtin.append_ #[T_Luint8, T_Luint8] T_Luint8 #[.slice a_1 l_1 c_1, .slice (some ⟨b_2, 0, none⟩) 1 1]) fun v_2 w_3 =>
  SLV v_2 fun a_2 l_2 c_2 =>
  NN b fun b_3 o_2 =>
  ST1 w_3 ⟨b_3, o_2 + 1, none⟩ (.slice a_2 l_2 c_2) fun w_4 =>
  K Value.nilIface w_4)
theorem E_pstrings_Builder_WriteByte (b : Option Addr) (c : Int) (w : World) (K : Value → World → Prop) :
    D_pstrings_Builder_WriteByte b c w K = vcFn Pg Tryd.f32 [] [.pointer b, .int .u8 c] w K := by kernel_rfl
theorem C_pstrings_Builder_WriteByte {b : Option Addr} {c : Int} {w : World} {K : Value → World → Prop} (h : D_pstrings_Builder_WriteByte b c w K) :
    CALL Pg F_pstrings_Builder_WriteByte [.pointer b, .int .u8 c] w K :=
  call_of_vc [] Tryd.func32 rfl (Nat.le_of_ble_eq_true (by kernel_rfl)) ((E_pstrings_Builder_WriteByte b c w K) ▸ h)
def D_pstrings_Builder_WriteString (b : Option Addr) (s : ByteArray) (w : World) (K : Value → World → Prop) : Prop :=
  CALL Pg F_pstrings_Builder_copyCheck [.pointer b] w fun v_1 w_1 =>
  TUPV v_1 fun cs_1 =>
  LEN cs_1 0 (
  NN b fun b_1 o_1 =>
  LDl w_1 ⟨b_1, o_1 + 1, none⟩ fun a_1 l_1 c_1 =>
  SEML Pg w_1 (Builtin.append_ #[T_Luint8, T_string] T_Luint8 #[.slice a_1 l_1 c_1, .string s]) fun v_2 w_2 =>
  SLV v_2 fun a_2 l_2 c_2 =>
  NN b fun b_2 o_2 =>
  ST1 w_2 ⟨b_2, o_2 + 1, none⟩ (.slice a_2 l_2 c_2) fun w_3 =>
  K (.tuple #[.int .i64 (↑s.size : Int), .nilIface]) w_3)
theorem E_pstrings_Builder_WriteString (b : Option Addr) (s : ByteArray) (w : World) (K : Value → World → Prop) :
    D_pstrings_Builder_WriteString b s w K = vcFn Pg Tryd.f33 [] [.pointer b, .string s] w K := by kernel_rfl
theorem C_pstrings_Builder_WriteString {b : Option Addr} {s : ByteArray} {w : World} {K : Value → World → Prop} (h : D_pstrings_Builder_WriteString b s w K) :
    CALL Pg F_pstrings_Builder_WriteString [.pointer b, .string s] w K :=
  call_of_vc [] Tryd.func33 rfl (Nat.le_of_ble_eq_true (by kernel_rfl)) ((E_pstrings_Builder_WriteString b s w K) ▸ h)
def D_pstrings_Builder_copyCheck (b : Option Addr) (w : World) (K : Value → World → Prop) : Prop :=
  NN b fun b_1 o_1 =>
  LDp w ⟨b_1, o_1, none⟩ fun q_1 =>
  SILN Pg (binE BinOp.eql T_pstrings_Builder (Operand.tmp 5) (Operand.const (.pointer none)) (.pointer q_1) (.pointer none)) fun v_1 =>
  BOOLV v_1 fun t_1 =>
  ITE (t_1) (
   SILX Pg w (convert 63 83 (.pointer b)) fun v_2 _ =>
   EXT Pg F_internal_abi_NoEscape [v_2] w fun v_3 w_1 =>
   SILX Pg w_1 (convert 83 63 v_3) fun v_4 _ =>
   PTRV v_4 fun q_2 =>
   NN b fun b_2 o_2 =>
   ST1 w_1 ⟨b_2, o_2, none⟩ (.pointer q_2) fun w_2 =>
   K (.tuple #[]) w_2) (
   NN b fun b_3 o_3 =>
   LDp w ⟨b_3, o_3, none⟩ fun q_3 =>
   SILN Pg (binE BinOp.neq T_pstrings_Builder (Operand.tmp 17) (Operand.tmp 18) (.pointer q_3) (.pointer b)) fun v_5 =>
   BOOLV v_5 fun t_2 =>
   ITE (t_2) (
    False) (
    K (.tuple #[]) w))
theorem E_pstrings_Builder_copyCheck (b : Option Addr) (w : World) (K : Value → World → Prop) :
    D_pstrings_Builder_copyCheck b w K = vcFn Pg Tryd.f41 [] [.pointer b] w K := by kernel_rfl
theorem C_pstrings_Builder_copyCheck {b : Option Addr} {w : World} {K : Value → World → Prop} (h : D_pstrings_Builder_copyCheck b w K) :
    CALL Pg F_pstrings_Builder_copyCheck [.pointer b] w K :=
  call_of_vc [] Tryd.func41 rfl (Nat.le_of_ble_eq_true (by kernel_rfl)) ((E_pstrings_Builder_copyCheck b w K) ▸ h)

end Go.Proofs.YtmanfmpdmmhbfaaDoor
