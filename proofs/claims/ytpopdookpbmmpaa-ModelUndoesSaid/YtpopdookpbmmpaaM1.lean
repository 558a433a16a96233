/- What the evaluator asks of each function, in readable form: printed by a program of this claim's own. -/
import Derived.Test.YtpopdookpbmmpaaN
import Derived.Test.YtpopdookpbmmpaaDen
namespace Go.Proofs.Ytpopdookpbmmpaa
open Go.Den
set_option linter.unusedVariables false
set_option maxRecDepth 1000000
def D_arena_Class (c0 : Int) (c1 : Int) (c2 : Int) (c3 : Int) (c4a : Option Addr) (c4l : Nat) (c4c : Nat) (size : Int) (w : World) (K : Value → World → Prop) : Prop :=
  NEW w [.int .i64 c0, .int .i64 c1, .int .i64 c2, .int .i64 c3, .slice c4a c4l c4c] T_api_Config_api_Config fun b_1 w_1 =>
  ITE (decide (size < 1)) (
   K (.tuple #[.int .i64 0, .bool false]) w_1) (
   LDl w_1 ⟨b_1, 4, none⟩ fun a_1 l_1 _ =>
   LOOP [.int .i64 0, .bool false, .int .i64 0] w_1 fun I_1 N_1 =>
   ∀ w_2 : World,
   ∀ v_1 : Value,
   ∀ v_2 : Value,
   ∀ v_3 : Value,
   (I_1 [v_1, v_2, v_3] w_2 →
   INTV .i64 v_3 fun n_1 =>
   BOOLV v_2 fun t_1 =>
   INTV .i64 v_1 fun n_2 =>
   ITE (decide (n_1 < (↑l_1 : Int))) (
    IDX a_1 l_1 n_1 1 fun b_2 o_1 =>
    LDi .i64 w_2 ⟨b_2, o_1, none⟩ fun n_3 =>
    ITE (decide (size ≤ n_3)) (
     K (.tuple #[.int .i64 n_1, .bool true]) w_2) (
     BIND (IntKind.i64.wrap (n_1 + 1)) fun n_4 =>
     N_1 [v_1, v_2, v_3] w_2 [.int .i64 n_2, .bool t_1, .int .i64 n_4] w_2)) (
    K (.tuple #[.int .i64 0, .bool false]) w_2)))
theorem E_arena_Class (c0 : Int) (c1 : Int) (c2 : Int) (c3 : Int) (c4a : Option Addr) (c4l : Nat) (c4c : Nat) (size : Int) (w : World) (K : Value → World → Prop) :
    D_arena_Class c0 c1 c2 c3 c4a c4l c4c size w K = vcFn Pg Try.f70 [] [.agg #[.int .i64 c0, .int .i64 c1, .int .i64 c2, .int .i64 c3, .slice c4a c4l c4c], .int .i64 size] w K := by kernel_rfl
theorem C_arena_Class {c0 : Int} {c1 : Int} {c2 : Int} {c3 : Int} {c4a : Option Addr} {c4l : Nat} {c4c : Nat} {size : Int} {w : World} {K : Value → World → Prop} (h : D_arena_Class c0 c1 c2 c3 c4a c4l c4c size w K) :
    CALL Pg F_arena_Class [.agg #[.int .i64 c0, .int .i64 c1, .int .i64 c2, .int .i64 c3, .slice c4a c4l c4c], .int .i64 size] w K :=
  call_of_vc [] Try.func70 rfl (Nat.le_of_ble_eq_true (by kernel_rfl)) ((E_arena_Class c0 c1 c2 c3 c4a c4l c4c size w K) ▸ h)
def D_arena_Most (c0 : Int) (c1 : Int) (c2 : Int) (c3 : Int) (c4a : Option Addr) (c4l : Nat) (c4c : Nat) (w : World) (K : Value → World → Prop) : Prop :=
  NEW w [.int .i64 c0, .int .i64 c1, .int .i64 c2, .int .i64 c3, .slice c4a c4l c4c] T_api_Config_api_Config fun b_1 w_1 =>
  LDi .i64 w_1 ⟨b_1, 1, none⟩ fun n_1 =>
  BIND (IntKind.i64.wrap (n_1 * 1024)) fun n_2 =>
  K (.int .i64 n_2) w_1
theorem E_arena_Most (c0 : Int) (c1 : Int) (c2 : Int) (c3 : Int) (c4a : Option Addr) (c4l : Nat) (c4c : Nat) (w : World) (K : Value → World → Prop) :
    D_arena_Most c0 c1 c2 c3 c4a c4l c4c w K = vcFn Pg Try.f80 [] [.agg #[.int .i64 c0, .int .i64 c1, .int .i64 c2, .int .i64 c3, .slice c4a c4l c4c]] w K := by kernel_rfl
theorem C_arena_Most {c0 : Int} {c1 : Int} {c2 : Int} {c3 : Int} {c4a : Option Addr} {c4l : Nat} {c4c : Nat} {w : World} {K : Value → World → Prop} (h : D_arena_Most c0 c1 c2 c3 c4a c4l c4c w K) :
    CALL Pg F_arena_Most [.agg #[.int .i64 c0, .int .i64 c1, .int .i64 c2, .int .i64 c3, .slice c4a c4l c4c]] w K :=
  call_of_vc [] Try.func80 rfl (Nat.le_of_ble_eq_true (by kernel_rfl)) ((E_arena_Most c0 c1 c2 c3 c4a c4l c4c w K) ▸ h)
def D_arena_End (c0 : Int) (c1 : Int) (c2 : Int) (c3 : Int) (c4a : Option Addr) (c4l : Nat) (c4c : Nat) (w : World) (K : Value → World → Prop) : Prop :=
  NEW w [.int .i64 c0, .int .i64 c1, .int .i64 c2, .int .i64 c3, .slice c4a c4l c4c] T_api_Config_api_Config fun b_1 w_1 =>
  LDi .i64 w_1 ⟨b_1, 0, none⟩ fun n_1 =>
  LDi .i64 w_1 ⟨b_1, 1, none⟩ fun n_2 =>
  LDi .i64 w_1 ⟨b_1, 2, none⟩ fun n_3 =>
  LDi .i64 w_1 ⟨b_1, 3, none⟩ fun n_4 =>
  LDl w_1 ⟨b_1, 4, none⟩ fun a_1 l_1 c_1 =>
  CALL Pg F_arena_Most [.agg #[.int .i64 n_1, .int .i64 n_2, .int .i64 n_3, .int .i64 n_4, .slice a_1 l_1 c_1]] w_1 fun v_1 w_2 =>
  INTV .i64 v_1 fun n_5 =>
  BIND (IntKind.i64.wrap (65536 + n_5)) fun n_6 =>
  K (.int .i64 n_6) w_2
theorem E_arena_End (c0 : Int) (c1 : Int) (c2 : Int) (c3 : Int) (c4a : Option Addr) (c4l : Nat) (c4c : Nat) (w : World) (K : Value → World → Prop) :
    D_arena_End c0 c1 c2 c3 c4a c4l c4c w K = vcFn Pg Try.f76 [] [.agg #[.int .i64 c0, .int .i64 c1, .int .i64 c2, .int .i64 c3, .slice c4a c4l c4c]] w K := by kernel_rfl
theorem C_arena_End {c0 : Int} {c1 : Int} {c2 : Int} {c3 : Int} {c4a : Option Addr} {c4l : Nat} {c4c : Nat} {w : World} {K : Value → World → Prop} (h : D_arena_End c0 c1 c2 c3 c4a c4l c4c w K) :
    CALL Pg F_arena_End [.agg #[.int .i64 c0, .int .i64 c1, .int .i64 c2, .int .i64 c3, .slice c4a c4l c4c]] w K :=
  call_of_vc [] Try.func76 rfl (Nat.le_of_ble_eq_true (by kernel_rfl)) ((E_arena_End c0 c1 c2 c3 c4a c4l c4c w K) ▸ h)
def D_arena_Run (c0 : Int) (c1 : Int) (c2 : Int) (c3 : Int) (c4a : Option Addr) (c4l : Nat) (c4c : Nat) (size : Int) (w : World) (K : Value → World → Prop) : Prop :=
  NEW w [.int .i64 c0, .int .i64 c1, .int .i64 c2, .int .i64 c3, .slice c4a c4l c4c] T_api_Config_api_Config fun b_1 w_1 =>
  LDi .i64 w_1 ⟨b_1, 0, none⟩ fun n_1 =>
  LDi .i64 w_1 ⟨b_1, 1, none⟩ fun n_2 =>
  LDi .i64 w_1 ⟨b_1, 2, none⟩ fun n_3 =>
  LDi .i64 w_1 ⟨b_1, 3, none⟩ fun n_4 =>
  LDl w_1 ⟨b_1, 4, none⟩ fun a_1 l_1 c_1 =>
  CALL Pg F_arena_Class [.agg #[.int .i64 n_1, .int .i64 n_2, .int .i64 n_3, .int .i64 n_4, .slice a_1 l_1 c_1], .int .i64 size] w_1 fun v_1 w_2 =>
  TUPV v_1 fun cs_1 =>
  GETV cs_1 0 fun v_2 =>
  INTV .i64 v_2 fun _ =>
  GETV cs_1 1 fun v_3 =>
  BOOLV v_3 fun t_1 =>
  LEN cs_1 2 (
  ITE (t_1) (
   K (.int .i64 0) w_2) (
   ITE (decide (size < 1)) (
    K (.int .i64 0) w_2) (
    LDi .i64 w_2 ⟨b_1, 0, none⟩ fun n_6 =>
    LDi .i64 w_2 ⟨b_1, 1, none⟩ fun n_7 =>
    LDi .i64 w_2 ⟨b_1, 2, none⟩ fun n_8 =>
    LDi .i64 w_2 ⟨b_1, 3, none⟩ fun n_9 =>
    LDl w_2 ⟨b_1, 4, none⟩ fun a_2 l_2 c_2 =>
    CALL Pg F_arena_Most [.agg #[.int .i64 n_6, .int .i64 n_7, .int .i64 n_8, .int .i64 n_9, .slice a_2 l_2 c_2]] w_2 fun v_4 w_3 =>
    INTV .i64 v_4 fun n_10 =>
    ITE (decide (size > n_10)) (
     K (.int .i64 0) w_3) (
     BIND (IntKind.i64.wrap (size + 1024)) fun n_11 =>
     BIND (IntKind.i64.wrap (n_11 - 1)) fun n_12 =>
     NZ 1024 (
     BIND (IntKind.i64.wrap (n_12.tdiv 1024)) fun n_13 =>
     K (.int .i64 n_13) w_3)))))
theorem E_arena_Run (c0 : Int) (c1 : Int) (c2 : Int) (c3 : Int) (c4a : Option Addr) (c4l : Nat) (c4c : Nat) (size : Int) (w : World) (K : Value → World → Prop) :
    D_arena_Run c0 c1 c2 c3 c4a c4l c4c size w K = vcFn Pg Try.f72 [] [.agg #[.int .i64 c0, .int .i64 c1, .int .i64 c2, .int .i64 c3, .slice c4a c4l c4c], .int .i64 size] w K := by kernel_rfl
theorem C_arena_Run {c0 : Int} {c1 : Int} {c2 : Int} {c3 : Int} {c4a : Option Addr} {c4l : Nat} {c4c : Nat} {size : Int} {w : World} {K : Value → World → Prop} (h : D_arena_Run c0 c1 c2 c3 c4a c4l c4c size w K) :
    CALL Pg F_arena_Run [.agg #[.int .i64 c0, .int .i64 c1, .int .i64 c2, .int .i64 c3, .slice c4a c4l c4c], .int .i64 size] w K :=
  call_of_vc [] Try.func72 rfl (Nat.le_of_ble_eq_true (by kernel_rfl)) ((E_arena_Run c0 c1 c2 c3 c4a c4l c4c size w K) ▸ h)
def D_arena_Place (c0 : Int) (c1 : Int) (c2 : Int) (c3 : Int) (c4a : Option Addr) (c4l : Nat) (c4c : Nat) (at_ : Int) (w : World) (K : Value → World → Prop) : Prop :=
  NEW w [.int .i64 c0, .int .i64 c1, .int .i64 c2, .int .i64 c3, .slice c4a c4l c4c] T_api_Config_api_Config fun b_1 w_1 =>
  ITE (decide (at_ < 65536)) (
   K (.tuple #[.int .i64 0, .int .i64 0, .bool false]) w_1) (
   LDi .i64 w_1 ⟨b_1, 0, none⟩ fun n_1 =>
   LDi .i64 w_1 ⟨b_1, 1, none⟩ fun n_2 =>
   LDi .i64 w_1 ⟨b_1, 2, none⟩ fun n_3 =>
   LDi .i64 w_1 ⟨b_1, 3, none⟩ fun n_4 =>
   LDl w_1 ⟨b_1, 4, none⟩ fun a_1 l_1 c_1 =>
   CALL Pg F_arena_End [.agg #[.int .i64 n_1, .int .i64 n_2, .int .i64 n_3, .int .i64 n_4, .slice a_1 l_1 c_1]] w_1 fun v_1 w_2 =>
   INTV .i64 v_1 fun n_5 =>
   ITE (decide (at_ ≥ n_5)) (
    K (.tuple #[.int .i64 0, .int .i64 0, .bool false]) w_2) (
    NZ 16 (
    BIND (at_.tmod 16) fun n_6 =>
    ITE (n_6 != 0) (
     K (.tuple #[.int .i64 0, .int .i64 0, .bool false]) w_2) (
     BIND (IntKind.i64.wrap (at_ - 65536)) fun n_7 =>
     NZ 16 (
     BIND (IntKind.i64.wrap (n_7.tdiv 16)) fun n_8 =>
     NZ 64 (
     BIND (IntKind.i64.wrap (n_8.tdiv 64)) fun n_9 =>
     NZ 64 (
     BIND (n_8.tmod 64) fun n_10 =>
     K (.tuple #[.int .i64 n_9, .int .i64 n_10, .bool true]) w_2)))))))
theorem E_arena_Place (c0 : Int) (c1 : Int) (c2 : Int) (c3 : Int) (c4a : Option Addr) (c4l : Nat) (c4c : Nat) (at_ : Int) (w : World) (K : Value → World → Prop) :
    D_arena_Place c0 c1 c2 c3 c4a c4l c4c at_ w K = vcFn Pg Try.f74 [] [.agg #[.int .i64 c0, .int .i64 c1, .int .i64 c2, .int .i64 c3, .slice c4a c4l c4c], .int .i64 at_] w K := by kernel_rfl
theorem C_arena_Place {c0 : Int} {c1 : Int} {c2 : Int} {c3 : Int} {c4a : Option Addr} {c4l : Nat} {c4c : Nat} {at_ : Int} {w : World} {K : Value → World → Prop} (h : D_arena_Place c0 c1 c2 c3 c4a c4l c4c at_ w K) :
    CALL Pg F_arena_Place [.agg #[.int .i64 c0, .int .i64 c1, .int .i64 c2, .int .i64 c3, .slice c4a c4l c4c], .int .i64 at_] w K :=
  call_of_vc [] Try.func74 rfl (Nat.le_of_ble_eq_true (by kernel_rfl)) ((E_arena_Place c0 c1 c2 c3 c4a c4l c4c at_ w K) ▸ h)
def D_r04_May (c0 : Int) (c1 : Int) (c2 : Int) (c3 : Int) (c4a : Option Addr) (c4l : Nat) (c4c : Nat) (w : World) (K : Value → World → Prop) : Prop :=
  NEW w [.int .i64 c0, .int .i64 c1, .int .i64 c2, .int .i64 c3, .slice c4a c4l c4c] T_api_Config_api_Config fun b_1 w_1 =>
  JOIN fun J_1 =>
  ((
   LDi .i64 w_1 ⟨b_1, 0, none⟩ fun n_1 =>
   ITE (decide (n_1 ≥ 1)) (
    LDi .i64 w_1 ⟨b_1, 0, none⟩ fun n_2 =>
    ITE (decide (n_2 ≤ 64)) (
     LDi .i64 w_1 ⟨b_1, 1, none⟩ fun n_3 =>
     ITE (decide (n_3 ≥ 1)) (
      LDi .i64 w_1 ⟨b_1, 1, none⟩ fun n_4 =>
      ITE (decide (n_4 ≤ 64)) (
       LDi .i64 w_1 ⟨b_1, 2, none⟩ fun n_5 =>
       ITE (decide (n_5 ≥ 1)) (
        LDi .i64 w_1 ⟨b_1, 2, none⟩ fun n_6 =>
        ITE (decide (n_6 ≤ 64)) (
         LDi .i64 w_1 ⟨b_1, 3, none⟩ fun n_7 =>
         ITE (decide (n_7 ≥ 0)) (
          LDi .i64 w_1 ⟨b_1, 3, none⟩ fun n_8 =>
          J_1 [.bool (decide (n_8 ≤ 8))] w_1) (
          J_1 [.bool false] w_1)) (
         J_1 [.bool false] w_1)) (
        J_1 [.bool false] w_1)) (
       J_1 [.bool false] w_1)) (
      J_1 [.bool false] w_1)) (
     J_1 [.bool false] w_1)) (
    J_1 [.bool false] w_1)) ∧
   ∀ w_2 : World,
   ∀ v_1 : Value,
   (J_1 [v_1] w_2 →
   BOOLV v_1 fun t_1 =>
   JOIN fun J_2 =>
   ((
    ITE (t_1) (
     LDl w_2 ⟨b_1, 4, none⟩ fun _ l_1 _ =>
     ITE (decide ((↑l_1 : Int) ≥ 1)) (
      LDl w_2 ⟨b_1, 4, none⟩ fun _ l_2 _ =>
      J_2 [.bool (decide ((↑l_2 : Int) ≤ 16))] w_2) (
      J_2 [.bool false] w_2)) (
     J_2 [.bool false] w_2)) ∧
    ∀ w_3 : World,
    ∀ v_2 : Value,
    (J_2 [v_2] w_3 →
    BOOLV v_2 fun t_2 =>
    LOOP [.bool t_2, .int .i64 0] w_3 fun I_1 N_1 =>
    ∀ w_4 : World,
    ∀ v_3 : Value,
    ∀ v_4 : Value,
    (I_1 [v_3, v_4] w_4 →
    INTV .i64 v_4 fun n_9 =>
    BOOLV v_3 fun t_3 =>
    LDl w_4 ⟨b_1, 4, none⟩ fun _ l_3 _ =>
    ITE (decide (n_9 < (↑l_3 : Int))) (
     LDl w_4 ⟨b_1, 4, none⟩ fun a_4 l_4 _ =>
     IDX a_4 l_4 n_9 1 fun b_2 o_1 =>
     LDi .i64 w_4 ⟨b_2, o_1, none⟩ fun n_10 =>
     ITE (t_3) (
      ITE (decide (n_10 ≥ 16)) (
       ITE (decide (n_10 ≤ 512)) (
        NZ 16 (
        BIND (n_10.tmod 16) fun n_11 =>
        ITE (n_11 == 0) (
         ITE (n_9 == 0) (
          BIND (IntKind.i64.wrap (n_9 + 1)) fun n_12 =>
          N_1 [v_3, v_4] w_4 [.bool true, .int .i64 n_12] w_4) (
          LDl w_4 ⟨b_1, 4, none⟩ fun a_5 l_5 _ =>
          BIND (IntKind.i64.wrap (n_9 - 1)) fun n_13 =>
          IDX a_5 l_5 n_13 1 fun b_3 o_2 =>
          LDi .i64 w_4 ⟨b_3, o_2, none⟩ fun n_14 =>
          BIND (IntKind.i64.wrap (n_9 + 1)) fun n_15 =>
          N_1 [v_3, v_4] w_4 [.bool (decide (n_14 < n_10)), .int .i64 n_15] w_4)) (
         BIND (IntKind.i64.wrap (n_9 + 1)) fun n_16 =>
         N_1 [v_3, v_4] w_4 [.bool false, .int .i64 n_16] w_4))) (
        BIND (IntKind.i64.wrap (n_9 + 1)) fun n_17 =>
        N_1 [v_3, v_4] w_4 [.bool false, .int .i64 n_17] w_4)) (
       BIND (IntKind.i64.wrap (n_9 + 1)) fun n_18 =>
       N_1 [v_3, v_4] w_4 [.bool false, .int .i64 n_18] w_4)) (
      BIND (IntKind.i64.wrap (n_9 + 1)) fun n_19 =>
      N_1 [v_3, v_4] w_4 [.bool false, .int .i64 n_19] w_4)) (
     K (.bool t_3) w_4))))))
theorem E_r04_May (c0 : Int) (c1 : Int) (c2 : Int) (c3 : Int) (c4a : Option Addr) (c4l : Nat) (c4c : Nat) (w : World) (K : Value → World → Prop) :
    D_r04_May c0 c1 c2 c3 c4a c4l c4c w K = vcFn Pg Try.f39 [1, 2] [.agg #[.int .i64 c0, .int .i64 c1, .int .i64 c2, .int .i64 c3, .slice c4a c4l c4c]] w K := by kernel_rfl
theorem C_r04_May {c0 : Int} {c1 : Int} {c2 : Int} {c3 : Int} {c4a : Option Addr} {c4l : Nat} {c4c : Nat} {w : World} {K : Value → World → Prop} (h : D_r04_May c0 c1 c2 c3 c4a c4l c4c w K) :
    CALL Pg F_r04_May [.agg #[.int .i64 c0, .int .i64 c1, .int .i64 c2, .int .i64 c3, .slice c4a c4l c4c]] w K :=
  call_of_vc [1, 2] Try.func39 rfl (Nat.le_of_ble_eq_true (by kernel_rfl)) ((E_r04_May c0 c1 c2 c3 c4a c4l c4c w K) ▸ h)
def D_r05_Class (c0 : Int) (c1 : Int) (c2 : Int) (c3 : Int) (c4a : Option Addr) (c4l : Nat) (c4c : Nat) (size : Int) (w : World) (K : Value → World → Prop) : Prop :=
  NEW w [.int .i64 c0, .int .i64 c1, .int .i64 c2, .int .i64 c3, .slice c4a c4l c4c] T_api_Config_api_Config fun b_1 w_1 =>
  LDl w_1 ⟨b_1, 4, none⟩ fun _ l_1 _ =>
  BIND (IntKind.i64.wrap ((↑l_1 : Int) - 1)) fun n_1 =>
  LOOP [.int .i64 (-1), .int .i64 n_1] w_1 fun I_1 N_1 =>
  ∀ w_2 : World,
  ∀ v_1 : Value,
  ∀ v_2 : Value,
  (I_1 [v_1, v_2] w_2 →
  INTV .i64 v_2 fun n_2 =>
  INTV .i64 v_1 fun n_3 =>
  ITE (decide (n_2 ≥ 0)) (
   ITE (decide (size ≥ 1)) (
    LDl w_2 ⟨b_1, 4, none⟩ fun a_2 l_2 _ =>
    IDX a_2 l_2 n_2 1 fun b_2 o_1 =>
    LDi .i64 w_2 ⟨b_2, o_1, none⟩ fun n_4 =>
    ITE (decide (size ≤ n_4)) (
     BIND (IntKind.i64.wrap (n_2 - 1)) fun n_5 =>
     N_1 [v_1, v_2] w_2 [.int .i64 n_2, .int .i64 n_5] w_2) (
     BIND (IntKind.i64.wrap (n_2 - 1)) fun n_6 =>
     N_1 [v_1, v_2] w_2 [.int .i64 n_3, .int .i64 n_6] w_2)) (
    BIND (IntKind.i64.wrap (n_2 - 1)) fun n_7 =>
    N_1 [v_1, v_2] w_2 [.int .i64 n_3, .int .i64 n_7] w_2)) (
   K (.int .i64 n_3) w_2))
theorem E_r05_Class (c0 : Int) (c1 : Int) (c2 : Int) (c3 : Int) (c4a : Option Addr) (c4l : Nat) (c4c : Nat) (size : Int) (w : World) (K : Value → World → Prop) :
    D_r05_Class c0 c1 c2 c3 c4a c4l c4c size w K = vcFn Pg Try.f61 [] [.agg #[.int .i64 c0, .int .i64 c1, .int .i64 c2, .int .i64 c3, .slice c4a c4l c4c], .int .i64 size] w K := by kernel_rfl
theorem C_r05_Class {c0 : Int} {c1 : Int} {c2 : Int} {c3 : Int} {c4a : Option Addr} {c4l : Nat} {c4c : Nat} {size : Int} {w : World} {K : Value → World → Prop} (h : D_r05_Class c0 c1 c2 c3 c4a c4l c4c size w K) :
    CALL Pg F_r05_Class [.agg #[.int .i64 c0, .int .i64 c1, .int .i64 c2, .int .i64 c3, .slice c4a c4l c4c], .int .i64 size] w K :=
  call_of_vc [] Try.func61 rfl (Nat.le_of_ble_eq_true (by kernel_rfl)) ((E_r05_Class c0 c1 c2 c3 c4a c4l c4c size w K) ▸ h)
def D_r05_Run (c0 : Int) (c1 : Int) (c2 : Int) (c3 : Int) (c4a : Option Addr) (c4l : Nat) (c4c : Nat) (size : Int) (w : World) (K : Value → World → Prop) : Prop :=
  NEW w [.int .i64 c0, .int .i64 c1, .int .i64 c2, .int .i64 c3, .slice c4a c4l c4c] T_api_Config_api_Config fun b_1 w_1 =>
  ITE (decide (size < 1)) (
   K (.int .i64 0) w_1) (
   LDi .i64 w_1 ⟨b_1, 0, none⟩ fun n_1 =>
   LDi .i64 w_1 ⟨b_1, 1, none⟩ fun n_2 =>
   LDi .i64 w_1 ⟨b_1, 2, none⟩ fun n_3 =>
   LDi .i64 w_1 ⟨b_1, 3, none⟩ fun n_4 =>
   LDl w_1 ⟨b_1, 4, none⟩ fun a_1 l_1 c_1 =>
   CALL Pg F_r05_Class [.agg #[.int .i64 n_1, .int .i64 n_2, .int .i64 n_3, .int .i64 n_4, .slice a_1 l_1 c_1], .int .i64 size] w_1 fun v_1 w_2 =>
   INTV .i64 v_1 fun n_5 =>
   ITE (decide (n_5 ≥ 0)) (
    K (.int .i64 0) w_2) (
    LOOP [.int .i64 0, .int .i64 1] w_2 fun I_1 N_1 =>
    ∀ w_3 : World,
    ∀ v_2 : Value,
    ∀ v_3 : Value,
    (I_1 [v_2, v_3] w_3 →
    INTV .i64 v_3 fun n_6 =>
    INTV .i64 v_2 fun n_7 =>
    LDi .i64 w_3 ⟨b_1, 1, none⟩ fun n_8 =>
    ITE (decide (n_6 ≤ n_8)) (
     BIND (IntKind.i64.wrap (1024 * n_6)) fun n_9 =>
     ITE (decide (size ≤ n_9)) (
      K (.int .i64 n_6) w_3) (
      BIND (IntKind.i64.wrap (n_6 + 1)) fun n_10 =>
      N_1 [v_2, v_3] w_3 [.int .i64 n_7, .int .i64 n_10] w_3)) (
     K (.int .i64 0) w_3))))
theorem E_r05_Run (c0 : Int) (c1 : Int) (c2 : Int) (c3 : Int) (c4a : Option Addr) (c4l : Nat) (c4c : Nat) (size : Int) (w : World) (K : Value → World → Prop) :
    D_r05_Run c0 c1 c2 c3 c4a c4l c4c size w K = vcFn Pg Try.f62 [] [.agg #[.int .i64 c0, .int .i64 c1, .int .i64 c2, .int .i64 c3, .slice c4a c4l c4c], .int .i64 size] w K := by kernel_rfl
theorem C_r05_Run {c0 : Int} {c1 : Int} {c2 : Int} {c3 : Int} {c4a : Option Addr} {c4l : Nat} {c4c : Nat} {size : Int} {w : World} {K : Value → World → Prop} (h : D_r05_Run c0 c1 c2 c3 c4a c4l c4c size w K) :
    CALL Pg F_r05_Run [.agg #[.int .i64 c0, .int .i64 c1, .int .i64 c2, .int .i64 c3, .slice c4a c4l c4c], .int .i64 size] w K :=
  call_of_vc [] Try.func62 rfl (Nat.le_of_ble_eq_true (by kernel_rfl)) ((E_r05_Run c0 c1 c2 c3 c4a c4l c4c size w K) ▸ h)

end Go.Proofs.Ytpopdookpbmmpaa
