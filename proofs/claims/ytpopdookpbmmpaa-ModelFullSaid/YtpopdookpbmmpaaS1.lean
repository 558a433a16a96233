/- What the evaluator asks of each function, in readable form: printed by a program of this claim's own. -/
import Derived.Test.YtpopdookpbmmpaaN
import Derived.Test.YtpopdookpbmmpaaDen
namespace Go.Proofs.Ytpopdookpbmmpaa
open Go.Den
set_option linter.unusedVariables false
set_option maxRecDepth 1000000
def D_l06_far (i0 : Int) (i1 : Int) (w : World) (K : Value → World → Prop) : Prop :=
  NEW w [.int .i64 i0, .int .i64 i1] T_api_Interval_api_Interval fun b_1 w_1 =>
  LDi .i64 w_1 ⟨b_1, 0, none⟩ fun n_1 =>
  ITE (decide (n_1 > 1099511627776)) (
   K (.bool true) w_1) (
   LDi .i64 w_1 ⟨b_1, 0, none⟩ fun n_2 =>
   K (.bool (decide (n_2 < -1099511627776))) w_1)
theorem E_l06_far (i0 : Int) (i1 : Int) (w : World) (K : Value → World → Prop) :
    D_l06_far i0 i1 w K = vcFn Pg Try.f17 [] [.agg #[.int .i64 i0, .int .i64 i1]] w K := by kernel_rfl
theorem C_l06_far {i0 : Int} {i1 : Int} {w : World} {K : Value → World → Prop} (h : D_l06_far i0 i1 w K) :
    CALL Pg F_l06_far [.agg #[.int .i64 i0, .int .i64 i1]] w K :=
  call_of_vc [] Try.func17 rfl (Nat.le_of_ble_eq_true (by kernel_rfl)) ((E_l06_far i0 i1 w K) ▸ h)
def D_r06_Find (la : Option Addr) (ll : Nat) (lc : Nat) (at_ : Int) (w : World) (K : Value → World → Prop) : Prop :=
  LOOP [.int .i64 0, .int .i64 0] w fun I_1 N_1 =>
  ∀ w_1 : World,
  ∀ v_1 : Value,
  ∀ v_2 : Value,
  (I_1 [v_1, v_2] w_1 →
  INTV .i64 v_2 fun n_1 =>
  INTV .i64 v_1 fun n_2 =>
  ITE (decide (n_1 < (↑ll : Int))) (
   IDX la ll n_1 2 fun b_1 o_1 =>
   LDi .i64 w_1 ⟨b_1, o_1, none⟩ fun n_3 =>
   ITE (n_3 == at_) (
    K (.int .i64 n_1) w_1) (
    BIND (IntKind.i64.wrap (n_1 + 1)) fun n_4 =>
    N_1 [v_1, v_2] w_1 [.int .i64 n_2, .int .i64 n_4] w_1)) (
   K (.int .i64 (-1)) w_1))
theorem E_r06_Find (la : Option Addr) (ll : Nat) (lc : Nat) (at_ : Int) (w : World) (K : Value → World → Prop) :
    D_r06_Find la ll lc at_ w K = vcFn Pg Try.f32 [] [.slice la ll lc, .int .i64 at_] w K := by kernel_rfl
theorem C_r06_Find {la : Option Addr} {ll : Nat} {lc : Nat} {at_ : Int} {w : World} {K : Value → World → Prop} (h : D_r06_Find la ll lc at_ w K) :
    CALL Pg F_r06_Find [.slice la ll lc, .int .i64 at_] w K :=
  call_of_vc [] Try.func32 rfl (Nat.le_of_ble_eq_true (by kernel_rfl)) ((E_r06_Find la ll lc at_ w K) ▸ h)
def D_r06_Put (la : Option Addr) (ll : Nat) (lc : Nat) (i0 : Int) (i1 : Int) (w : World) (K : Value → World → Prop) : Prop :=
  NEW w [.int .i64 i0, .int .i64 i1] T_api_Interval_api_Interval fun b_1 w_1 =>
  LDi .i64 w_1 ⟨b_1, 0, none⟩ fun n_1 =>
  ITE (decide (n_1 < 0)) (
   K (.tuple #[.slice la ll lc, .bool false]) w_1) (
   LDi .i64 w_1 ⟨b_1, 1, none⟩ fun n_2 =>
   ITE (decide (n_2 < 1)) (
    K (.tuple #[.slice la ll lc, .bool false]) w_1) (
    LDi .i64 w_1 ⟨b_1, 0, none⟩ fun n_3 =>
    ITE (decide (n_3 > 1099511627776)) (
     K (.tuple #[.slice la ll lc, .bool false]) w_1) (
     LDi .i64 w_1 ⟨b_1, 1, none⟩ fun n_4 =>
     ITE (decide (n_4 > 1099511627776)) (
      K (.tuple #[.slice la ll lc, .bool false]) w_1) (
      LDi .i64 w_1 ⟨b_1, 0, none⟩ fun n_5 =>
      LDi .i64 w_1 ⟨b_1, 1, none⟩ fun n_6 =>
      CALL Pg F_r06_Any [.slice la ll lc, .agg #[.int .i64 n_5, .int .i64 n_6]] w_1 fun v_1 w_2 =>
      BOOLV v_1 fun t_1 =>
      ITE (t_1) (
       K (.tuple #[.slice la ll lc, .bool false]) w_2) (
       DRAW w_2 fun w_3 =>
       LDi .i64 w_3 ⟨b_1, 0, none⟩ fun n_7 =>
       LDi .i64 w_3 ⟨b_1, 1, none⟩ fun n_8 =>
       ((
        NEW w_3 [] T_api_Interval_api_Interval fun b_2 w_4 =>
        ((
         KEEP w_4 [Fact.cell ⟨b_1, 0, none⟩ (.int .i64 n_7), Fact.cell ⟨b_1, 1, none⟩ (.int .i64 n_8)]) ∧
         ((
          SEML Pg w_4 (Builtin.append_ #[T_Lapi_Interval, T_Lapi_Interval] T_Lapi_Interval #[.slice (some ⟨b_2, 0, none⟩) 0 0, .slice la ll lc]) fun v_2 w_5 =>
          SLV v_2 fun a_1 l_1 c_1 =>
          ((
           KEEP w_5 [Fact.cell ⟨b_1, 0, none⟩ (.int .i64 n_7), Fact.cell ⟨b_1, 1, none⟩ (.int .i64 n_8)]) ∧
           NEW w_5 [.int .i64 n_7, .int .i64 n_8] T_api_Interval_api_Interval fun b_3 w_6 =>
           ((
            KEEP w_6 []) ∧
            SEML Pg w_6 (Builtin.append_ #[T_Lapi_Interval, T_Lapi_Interval] T_Lapi_Interval #[.slice a_1 l_1 c_1, .slice (some ⟨b_3, 0, none⟩) 1 1]) fun v_3 w_7 =>
            SLV v_3 fun a_2 l_2 c_2 =>
            ((
             KEEP w_7 []) ∧
             K (.tuple #[.slice a_2 l_2 c_2, .bool true]) w_7)))) ∧
          NEW w_4 [.int .i64 n_7, .int .i64 n_8] T_api_Interval_api_Interval fun b_4 w_8 =>
          ((
           KEEP w_8 []) ∧
           SEML Pg w_8 (Builtin.append_ #[T_Lapi_Interval, T_Lapi_Interval] T_Lapi_Interval #[.slice (some ⟨b_2, 0, none⟩) 0 0, .slice la ll lc]) fun v_4 w_9 =>
           SLV v_4 fun a_3 l_3 c_3 =>
           ((
            KEEP w_9 []) ∧
            SEML Pg w_9 (Builtin.append_ #[T_Lapi_Interval, T_Lapi_Interval] T_Lapi_Interval #[.slice a_3 l_3 c_3, .slice (some ⟨b_4, 0, none⟩) 1 1]) fun v_5 w_10 =>
            SLV v_5 fun a_4 l_4 c_4 =>
            ((
             KEEP w_10 []) ∧
             K (.tuple #[.slice a_4 l_4 c_4, .bool true]) w_10)))))) ∧
        NEW w_3 [.int .i64 n_7, .int .i64 n_8] T_api_Interval_api_Interval fun b_5 w_11 =>
        ((
         KEEP w_11 []) ∧
         NEW w_11 [] T_api_Interval_api_Interval fun b_6 w_12 =>
         ((
          KEEP w_12 []) ∧
          SEML Pg w_12 (Builtin.append_ #[T_Lapi_Interval, T_Lapi_Interval] T_Lapi_Interval #[.slice (some ⟨b_6, 0, none⟩) 0 0, .slice la ll lc]) fun v_6 w_13 =>
          SLV v_6 fun a_5 l_5 c_5 =>
          ((
           KEEP w_13 []) ∧
           SEML Pg w_13 (Builtin.append_ #[T_Lapi_Interval, T_Lapi_Interval] T_Lapi_Interval #[.slice a_5 l_5 c_5, .slice (some ⟨b_5, 0, none⟩) 1 1]) fun v_7 w_14 =>
           SLV v_7 fun a_6 l_6 c_6 =>
           ((
            KEEP w_14 []) ∧
            K (.tuple #[.slice a_6 l_6 c_6, .bool true]) w_14))))))))))
theorem E_r06_Put (la : Option Addr) (ll : Nat) (lc : Nat) (i0 : Int) (i1 : Int) (w : World) (K : Value → World → Prop) :
    D_r06_Put la ll lc i0 i1 w K = vcFn Pg Try.f33 [] [.slice la ll lc, .agg #[.int .i64 i0, .int .i64 i1]] w K := by kernel_rfl
theorem C_r06_Put {la : Option Addr} {ll : Nat} {lc : Nat} {i0 : Int} {i1 : Int} {w : World} {K : Value → World → Prop} (h : D_r06_Put la ll lc i0 i1 w K) :
    CALL Pg F_r06_Put [.slice la ll lc, .agg #[.int .i64 i0, .int .i64 i1]] w K :=
  call_of_vc [] Try.func33 rfl (Nat.le_of_ble_eq_true (by kernel_rfl)) ((E_r06_Put la ll lc i0 i1 w K) ▸ h)
def D_r06_Drop (la : Option Addr) (ll : Nat) (lc : Nat) (at_ : Int) (w : World) (K : Value → World → Prop) : Prop :=
  NEW w [] T_api_Interval_api_Interval fun b_1 w_1 =>
  LOOP [.slice (some ⟨b_1, 0, none⟩) 0 0, .int .i64 0] w_1 fun I_1 N_1 =>
  ∀ w_2 : World,
  ∀ v_1 : Value,
  ∀ v_2 : Value,
  (I_1 [v_1, v_2] w_2 →
  INTV .i64 v_2 fun n_1 =>
  SLV v_1 fun a_1 l_1 c_1 =>
  ITE (decide (n_1 < (↑ll : Int))) (
   IDX la ll n_1 2 fun b_2 o_1 =>
   LDi .i64 w_2 ⟨b_2, o_1, none⟩ fun n_2 =>
   ITE (n_2 != at_) (
    IDX la ll n_1 2 fun b_3 o_2 =>
    LDi .i64 w_2 ⟨b_3, o_2, none⟩ fun n_3 =>
    LDi .i64 w_2 ⟨b_3, o_2 + 1, none⟩ fun n_4 =>
    NEW w_2 [.int .i64 n_3, .int .i64 n_4] T_api_Interval_api_Interval fun b_4 w_3 =>
    SEML Pg w_3 (Builtin.append_ #[T_Lapi_Interval, T_Lapi_Interval] T_Lapi_Interval #[.slice a_1 l_1 c_1, .slice (some ⟨b_4, 0, none⟩) 1 1]) fun v_3 w_4 =>
    SLV v_3 fun a_2 l_2 c_2 =>
    BIND (IntKind.i64.wrap (n_1 + 1)) fun n_5 =>
    N_1 [v_1, v_2] w_2 [.slice a_2 l_2 c_2, .int .i64 n_5] w_4) (
    BIND (IntKind.i64.wrap (n_1 + 1)) fun n_6 =>
    N_1 [v_1, v_2] w_2 [.slice a_1 l_1 c_1, .int .i64 n_6] w_2)) (
   K (.slice a_1 l_1 c_1) w_2))
theorem E_r06_Drop (la : Option Addr) (ll : Nat) (lc : Nat) (at_ : Int) (w : World) (K : Value → World → Prop) :
    D_r06_Drop la ll lc at_ w K = vcFn Pg Try.f35 [] [.slice la ll lc, .int .i64 at_] w K := by kernel_rfl
theorem C_r06_Drop {la : Option Addr} {ll : Nat} {lc : Nat} {at_ : Int} {w : World} {K : Value → World → Prop} (h : D_r06_Drop la ll lc at_ w K) :
    CALL Pg F_r06_Drop [.slice la ll lc, .int .i64 at_] w K :=
  call_of_vc [] Try.func35 rfl (Nat.le_of_ble_eq_true (by kernel_rfl)) ((E_r06_Drop la ll lc at_ w K) ▸ h)
def D_r06_Any (la : Option Addr) (ll : Nat) (lc : Nat) (i0 : Int) (i1 : Int) (w : World) (K : Value → World → Prop) : Prop :=
  NEW w [.int .i64 i0, .int .i64 i1] T_api_Interval_api_Interval fun b_1 w_1 =>
  LOOP [.bool false, .int .i64 0] w_1 fun I_1 N_1 =>
  ∀ w_2 : World,
  ∀ v_1 : Value,
  ∀ v_2 : Value,
  (I_1 [v_1, v_2] w_2 →
  INTV .i64 v_2 fun n_1 =>
  BOOLV v_1 fun t_1 =>
  ITE (decide (n_1 < (↑ll : Int))) (
   DRAW w_2 fun w_3 =>
   IDX la ll n_1 2 fun b_2 o_1 =>
   LDi .i64 w_3 ⟨b_2, o_1, none⟩ fun n_2 =>
   LDi .i64 w_3 ⟨b_2, o_1 + 1, none⟩ fun n_3 =>
   LDi .i64 w_3 ⟨b_1, 0, none⟩ fun n_4 =>
   LDi .i64 w_3 ⟨b_1, 1, none⟩ fun n_5 =>
   CALL Pg F_r06_Over [.agg #[.int .i64 n_2, .int .i64 n_3], .agg #[.int .i64 n_4, .int .i64 n_5]] w_3 fun v_3 w_4 =>
   BOOLV v_3 fun t_2 =>
   ((
    KEEP w_4 []) ∧
    ITE (t_2) (
     K (.bool true) w_4) (
     BIND (IntKind.i64.wrap (n_1 + 1)) fun n_6 =>
     N_1 [v_1, v_2] w_2 [.bool t_1, .int .i64 n_6] w_4))) (
   K (.bool false) w_2))
theorem E_r06_Any (la : Option Addr) (ll : Nat) (lc : Nat) (i0 : Int) (i1 : Int) (w : World) (K : Value → World → Prop) :
    D_r06_Any la ll lc i0 i1 w K = vcFn Pg Try.f36 [] [.slice la ll lc, .agg #[.int .i64 i0, .int .i64 i1]] w K := by kernel_rfl
theorem C_r06_Any {la : Option Addr} {ll : Nat} {lc : Nat} {i0 : Int} {i1 : Int} {w : World} {K : Value → World → Prop} (h : D_r06_Any la ll lc i0 i1 w K) :
    CALL Pg F_r06_Any [.slice la ll lc, .agg #[.int .i64 i0, .int .i64 i1]] w K :=
  call_of_vc [] Try.func36 rfl (Nat.le_of_ble_eq_true (by kernel_rfl)) ((E_r06_Any la ll lc i0 i1 w K) ▸ h)
def D_r06_Over (a0 : Int) (a1 : Int) (b0 : Int) (b1 : Int) (w : World) (K : Value → World → Prop) : Prop :=
  NEW w [.int .i64 a0, .int .i64 a1] T_api_Interval_api_Interval fun b_1 w_1 =>
  NEW w_1 [.int .i64 b0, .int .i64 b1] T_api_Interval_api_Interval fun b_2 w_2 =>
  LDi .i64 w_2 ⟨b_1, 1, none⟩ fun n_1 =>
  ITE (decide (n_1 ≥ 1)) (
   LDi .i64 w_2 ⟨b_2, 1, none⟩ fun n_2 =>
   ITE (decide (n_2 ≥ 1)) (
    LDi .i64 w_2 ⟨b_1, 0, none⟩ fun n_3 =>
    LDi .i64 w_2 ⟨b_2, 0, none⟩ fun n_4 =>
    ITE (decide (n_3 ≤ n_4)) (
     LDi .i64 w_2 ⟨b_2, 0, none⟩ fun n_5 =>
     LDi .i64 w_2 ⟨b_1, 0, none⟩ fun n_6 =>
     BIND (IntKind.i64.wrap (n_5 - n_6)) fun n_7 =>
     LDi .i64 w_2 ⟨b_1, 1, none⟩ fun n_8 =>
     ITE (decide (n_7 < n_8)) (
      K (.bool true) w_2) (
      LDi .i64 w_2 ⟨b_2, 0, none⟩ fun n_9 =>
      LDi .i64 w_2 ⟨b_1, 0, none⟩ fun n_10 =>
      ITE (decide (n_9 ≤ n_10)) (
       LDi .i64 w_2 ⟨b_1, 0, none⟩ fun n_11 =>
       LDi .i64 w_2 ⟨b_2, 0, none⟩ fun n_12 =>
       BIND (IntKind.i64.wrap (n_11 - n_12)) fun n_13 =>
       LDi .i64 w_2 ⟨b_2, 1, none⟩ fun n_14 =>
       K (.bool (decide (n_13 < n_14))) w_2) (
       K (.bool false) w_2))) (
     LDi .i64 w_2 ⟨b_2, 0, none⟩ fun n_15 =>
     LDi .i64 w_2 ⟨b_1, 0, none⟩ fun n_16 =>
     ITE (decide (n_15 ≤ n_16)) (
      LDi .i64 w_2 ⟨b_1, 0, none⟩ fun n_17 =>
      LDi .i64 w_2 ⟨b_2, 0, none⟩ fun n_18 =>
      BIND (IntKind.i64.wrap (n_17 - n_18)) fun n_19 =>
      LDi .i64 w_2 ⟨b_2, 1, none⟩ fun n_20 =>
      K (.bool (decide (n_19 < n_20))) w_2) (
      K (.bool false) w_2))) (
    K (.bool false) w_2)) (
   K (.bool false) w_2)
theorem E_r06_Over (a0 : Int) (a1 : Int) (b0 : Int) (b1 : Int) (w : World) (K : Value → World → Prop) :
    D_r06_Over a0 a1 b0 b1 w K = vcFn Pg Try.f37 [] [.agg #[.int .i64 a0, .int .i64 a1], .agg #[.int .i64 b0, .int .i64 b1]] w K := by kernel_rfl
theorem C_r06_Over {a0 : Int} {a1 : Int} {b0 : Int} {b1 : Int} {w : World} {K : Value → World → Prop} (h : D_r06_Over a0 a1 b0 b1 w K) :
    CALL Pg F_r06_Over [.agg #[.int .i64 a0, .int .i64 a1], .agg #[.int .i64 b0, .int .i64 b1]] w K :=
  call_of_vc [] Try.func37 rfl (Nat.le_of_ble_eq_true (by kernel_rfl)) ((E_r06_Over a0 a1 b0 b1 w K) ▸ h)
def D_pspan_Map_Put (m : Option Addr) (i0 : Int) (i1 : Int) (w : World) (K : Value → World → Prop) : Prop :=
  NEW w [.int .i64 i0, .int .i64 i1] T_api_Interval_api_Interval fun b_1 w_1 =>
  LDi .i64 w_1 ⟨b_1, 0, none⟩ fun n_1 =>
  ITE (decide (n_1 < 0)) (
   K (.bool false) w_1) (
   LDi .i64 w_1 ⟨b_1, 1, none⟩ fun n_2 =>
   ITE (decide (n_2 < 1)) (
    K (.bool false) w_1) (
    LDi .i64 w_1 ⟨b_1, 1, none⟩ fun n_3 =>
    ITE (decide (n_3 > 1099511627776)) (
     K (.bool false) w_1) (
     LDi .i64 w_1 ⟨b_1, 0, none⟩ fun n_4 =>
     ITE (decide (n_4 > 1099511627776)) (
      K (.bool false) w_1) (
      LDi .i64 w_1 ⟨b_1, 0, none⟩ fun n_5 =>
      LDi .i64 w_1 ⟨b_1, 1, none⟩ fun n_6 =>
      CALL Pg F_pspan_Map_Over [.pointer m, .agg #[.int .i64 n_5, .int .i64 n_6]] w_1 fun v_1 w_2 =>
      BOOLV v_1 fun t_1 =>
      ITE (t_1) (
       K (.bool false) w_2) (
       LDi .i64 w_2 ⟨b_1, 0, none⟩ fun n_7 =>
       CALL Pg F_pspan_Map_find [.pointer m, .int .i64 n_7] w_2 fun v_2 w_3 =>
       TUPV v_2 fun cs_1 =>
       GETV cs_1 0 fun v_3 =>
       INTV .i64 v_3 fun n_8 =>
       GETV cs_1 1 fun v_4 =>
       BOOLV v_4 fun _ =>
       LEN cs_1 2 (
       DRAW w_3 fun w_4 =>
       NN m fun b_2 o_1 =>
       LDl w_4 ⟨b_2, o_1, none⟩ fun a_1 l_1 c_1 =>
       LDi .i64 w_4 ⟨b_1, 0, none⟩ fun n_9 =>
       LDi .i64 w_4 ⟨b_1, 1, none⟩ fun n_10 =>
       NEW w_4 [.int .i64 n_9, .int .i64 n_10] T_api_Interval_api_Interval fun b_3 w_5 =>
       ((
        KEEP w_5 [Fact.cell ⟨b_2, o_1, none⟩ (.slice a_1 l_1 c_1)]) ∧
        CALL Pg F_slices_Insert_Lapi_Interval_api_Interval [.slice a_1 l_1 c_1, .int .i64 n_8, .slice (some ⟨b_3, 0, none⟩) 1 1] w_5 fun v_5 w_6 =>
        SLV v_5 fun a_2 l_2 c_2 =>
        ((
         KEEP w_6 []) ∧
         NN m fun b_4 o_2 =>
         ST1 w_6 ⟨b_4, o_2, none⟩ (.slice a_2 l_2 c_2) fun w_7 =>
         ((
          KEEP w_7 []) ∧
          K (.bool true) w_7)))))))))
theorem E_pspan_Map_Put (m : Option Addr) (i0 : Int) (i1 : Int) (w : World) (K : Value → World → Prop) :
    D_pspan_Map_Put m i0 i1 w K = vcFn Pg Try.f18 [] [.pointer m, .agg #[.int .i64 i0, .int .i64 i1]] w K := by kernel_rfl
theorem C_pspan_Map_Put {m : Option Addr} {i0 : Int} {i1 : Int} {w : World} {K : Value → World → Prop} (h : D_pspan_Map_Put m i0 i1 w K) :
    CALL Pg F_pspan_Map_Put [.pointer m, .agg #[.int .i64 i0, .int .i64 i1]] w K :=
  call_of_vc [] Try.func18 rfl (Nat.le_of_ble_eq_true (by kernel_rfl)) ((E_pspan_Map_Put m i0 i1 w K) ▸ h)
def D_pspan_Map_All (m : Option Addr) (w : World) (K : Value → World → Prop) : Prop :=
  NN m fun b_1 o_1 =>
  LDl w ⟨b_1, o_1, none⟩ fun a_1 l_1 c_1 =>
  CALL Pg F_slices_Clone_Lapi_Interval_api_Interval [.slice a_1 l_1 c_1] w fun v_1 w_1 =>
  SLV v_1 fun a_2 l_2 c_2 =>
  K (.slice a_2 l_2 c_2) w_1
theorem E_pspan_Map_All (m : Option Addr) (w : World) (K : Value → World → Prop) :
    D_pspan_Map_All m w K = vcFn Pg Try.f19 [] [.pointer m] w K := by kernel_rfl
theorem C_pspan_Map_All {m : Option Addr} {w : World} {K : Value → World → Prop} (h : D_pspan_Map_All m w K) :
    CALL Pg F_pspan_Map_All [.pointer m] w K :=
  call_of_vc [] Try.func19 rfl (Nat.le_of_ble_eq_true (by kernel_rfl)) ((E_pspan_Map_All m w K) ▸ h)
def D_pspan_Map_Over (m : Option Addr) (i0 : Int) (i1 : Int) (w : World) (K : Value → World → Prop) : Prop :=
  NEW w [.int .i64 i0, .int .i64 i1] T_api_Interval_api_Interval fun b_1 w_1 =>
  LDi .i64 w_1 ⟨b_1, 1, none⟩ fun n_1 =>
  ITE (decide (n_1 < 1)) (
   K (.bool false) w_1) (
   LDi .i64 w_1 ⟨b_1, 0, none⟩ fun n_2 =>
   CALL Pg F_pspan_Map_find [.pointer m, .int .i64 n_2] w_1 fun v_1 w_2 =>
   TUPV v_1 fun cs_1 =>
   GETV cs_1 0 fun v_2 =>
   INTV .i64 v_2 fun n_3 =>
   GETV cs_1 1 fun v_3 =>
   BOOLV v_3 fun _ =>
   LEN cs_1 2 (
   DRAW w_2 fun w_3 =>
   ITE (decide (n_3 > 0)) (
    NN m fun b_2 o_1 =>
    LDl w_3 ⟨b_2, o_1, none⟩ fun a_1 l_1 _ =>
    BIND (IntKind.i64.wrap (n_3 - 1)) fun n_4 =>
    IDX a_1 l_1 n_4 2 fun b_3 o_2 =>
    LDi .i64 w_3 ⟨b_3, o_2 + 1, none⟩ fun n_5 =>
    LDi .i64 w_3 ⟨b_1, 0, none⟩ fun n_6 =>
    NN m fun b_4 o_3 =>
    LDl w_3 ⟨b_4, o_3, none⟩ fun a_2 l_2 _ =>
    BIND (IntKind.i64.wrap (n_3 - 1)) fun n_7 =>
    IDX a_2 l_2 n_7 2 fun b_5 o_4 =>
    LDi .i64 w_3 ⟨b_5, o_4, none⟩ fun n_8 =>
    BIND (IntKind.i64.wrap (n_6 - n_8)) fun n_9 =>
    ITE (decide (n_5 > n_9)) (
     K (.bool true) w_3) (
     DRAW w_3 fun w_4 =>
     NN m fun b_6 o_5 =>
     LDl w_4 ⟨b_6, o_5, none⟩ fun _ l_3 _ =>
     ITE (decide (n_3 < (↑l_3 : Int))) (
      LDi .i64 w_4 ⟨b_1, 1, none⟩ fun n_10 =>
      NN m fun b_7 o_6 =>
      LDl w_4 ⟨b_7, o_6, none⟩ fun a_4 l_4 _ =>
      IDX a_4 l_4 n_3 2 fun b_8 o_7 =>
      LDi .i64 w_4 ⟨b_8, o_7, none⟩ fun n_11 =>
      LDi .i64 w_4 ⟨b_1, 0, none⟩ fun n_12 =>
      BIND (IntKind.i64.wrap (n_11 - n_12)) fun n_13 =>
      K (.bool (decide (n_10 > n_13))) w_4) (
      K (.bool false) w_4))) (
    DRAW w_3 fun w_5 =>
    NN m fun b_9 o_8 =>
    LDl w_5 ⟨b_9, o_8, none⟩ fun _ l_5 _ =>
    ITE (decide (n_3 < (↑l_5 : Int))) (
     LDi .i64 w_5 ⟨b_1, 1, none⟩ fun n_14 =>
     NN m fun b_10 o_9 =>
     LDl w_5 ⟨b_10, o_9, none⟩ fun a_6 l_6 _ =>
     IDX a_6 l_6 n_3 2 fun b_11 o_10 =>
     LDi .i64 w_5 ⟨b_11, o_10, none⟩ fun n_15 =>
     LDi .i64 w_5 ⟨b_1, 0, none⟩ fun n_16 =>
     BIND (IntKind.i64.wrap (n_15 - n_16)) fun n_17 =>
     K (.bool (decide (n_14 > n_17))) w_5) (
     K (.bool false) w_5))))
theorem E_pspan_Map_Over (m : Option Addr) (i0 : Int) (i1 : Int) (w : World) (K : Value → World → Prop) :
    D_pspan_Map_Over m i0 i1 w K = vcFn Pg Try.f20 [] [.pointer m, .agg #[.int .i64 i0, .int .i64 i1]] w K := by kernel_rfl
theorem C_pspan_Map_Over {m : Option Addr} {i0 : Int} {i1 : Int} {w : World} {K : Value → World → Prop} (h : D_pspan_Map_Over m i0 i1 w K) :
    CALL Pg F_pspan_Map_Over [.pointer m, .agg #[.int .i64 i0, .int .i64 i1]] w K :=
  call_of_vc [] Try.func20 rfl (Nat.le_of_ble_eq_true (by kernel_rfl)) ((E_pspan_Map_Over m i0 i1 w K) ▸ h)
def D_pspan_Map_Get (m : Option Addr) (at_ : Int) (w : World) (K : Value → World → Prop) : Prop :=
  NEW w [.int .i64 0, .int .i64 0] T_api_Interval_api_Interval fun b_1 w_1 =>
  CALL Pg F_pspan_Map_find [.pointer m, .int .i64 at_] w_1 fun v_1 w_2 =>
  TUPV v_1 fun cs_1 =>
  GETV cs_1 0 fun v_2 =>
  INTV .i64 v_2 fun n_1 =>
  GETV cs_1 1 fun v_3 =>
  BOOLV v_3 fun t_1 =>
  LEN cs_1 2 (
  ITE (!t_1) (
   ST1 w_2 ⟨b_1, 0, none⟩ (.int .i64 0) fun w_3 =>
   ST1 w_3 ⟨b_1, 1, none⟩ (.int .i64 0) fun w_4 =>
   LDi .i64 w_4 ⟨b_1, 0, none⟩ fun n_2 =>
   LDi .i64 w_4 ⟨b_1, 1, none⟩ fun n_3 =>
   K (.tuple #[.agg #[.int .i64 n_2, .int .i64 n_3], .bool false]) w_4) (
   NN m fun b_2 o_1 =>
   LDl w_2 ⟨b_2, o_1, none⟩ fun a_1 l_1 _ =>
   IDX a_1 l_1 n_1 2 fun b_3 o_2 =>
   LDi .i64 w_2 ⟨b_3, o_2, none⟩ fun n_4 =>
   LDi .i64 w_2 ⟨b_3, o_2 + 1, none⟩ fun n_5 =>
   ST1 w_2 ⟨b_1, 0, none⟩ (.int .i64 n_4) fun w_5 =>
   ST1 w_5 ⟨b_1, 1, none⟩ (.int .i64 n_5) fun w_6 =>
   LDi .i64 w_6 ⟨b_1, 0, none⟩ fun n_6 =>
   LDi .i64 w_6 ⟨b_1, 1, none⟩ fun n_7 =>
   K (.tuple #[.agg #[.int .i64 n_6, .int .i64 n_7], .bool true]) w_6))
theorem E_pspan_Map_Get (m : Option Addr) (at_ : Int) (w : World) (K : Value → World → Prop) :
    D_pspan_Map_Get m at_ w K = vcFn Pg Try.f21 [] [.pointer m, .int .i64 at_] w K := by kernel_rfl
theorem C_pspan_Map_Get {m : Option Addr} {at_ : Int} {w : World} {K : Value → World → Prop} (h : D_pspan_Map_Get m at_ w K) :
    CALL Pg F_pspan_Map_Get [.pointer m, .int .i64 at_] w K :=
  call_of_vc [] Try.func21 rfl (Nat.le_of_ble_eq_true (by kernel_rfl)) ((E_pspan_Map_Get m at_ w K) ▸ h)
def D_pspan_Map_Bytes (m : Option Addr) (w : World) (K : Value → World → Prop) : Prop :=
  NN m fun b_1 o_1 =>
  LDl w ⟨b_1, o_1, none⟩ fun a_1 l_1 _ =>
  LOOP [.int .i64 0, .int .i64 0] w fun I_1 N_1 =>
  ∀ w_1 : World,
  ∀ v_1 : Value,
  ∀ v_2 : Value,
  (I_1 [v_1, v_2] w_1 →
  INTV .i64 v_2 fun n_1 =>
  INTV .i64 v_1 fun n_2 =>
  ITE (decide (n_1 < (↑l_1 : Int))) (
   IDX a_1 l_1 n_1 2 fun b_2 o_2 =>
   LDi .i64 w_1 ⟨b_2, o_2, none⟩ fun n_3 =>
   LDi .i64 w_1 ⟨b_2, o_2 + 1, none⟩ fun n_4 =>
   NEW w_1 [.int .i64 0, .int .i64 0] T_api_Interval_api_Interval fun b_3 w_2 =>
   ST1 w_2 ⟨b_3, 0, none⟩ (.int .i64 n_3) fun w_3 =>
   ST1 w_3 ⟨b_3, 1, none⟩ (.int .i64 n_4) fun w_4 =>
   LDi .i64 w_4 ⟨b_3, 1, none⟩ fun n_5 =>
   BIND (IntKind.i64.wrap (n_2 + n_5)) fun n_6 =>
   BIND (IntKind.i64.wrap (n_1 + 1)) fun n_7 =>
   N_1 [v_1, v_2] w_1 [.int .i64 n_6, .int .i64 n_7] w_4) (
   K (.int .i64 n_2) w_1))
theorem E_pspan_Map_Bytes (m : Option Addr) (w : World) (K : Value → World → Prop) :
    D_pspan_Map_Bytes m w K = vcFn Pg Try.f22 [] [.pointer m] w K := by kernel_rfl
theorem C_pspan_Map_Bytes {m : Option Addr} {w : World} {K : Value → World → Prop} (h : D_pspan_Map_Bytes m w K) :
    CALL Pg F_pspan_Map_Bytes [.pointer m] w K :=
  call_of_vc [] Try.func22 rfl (Nat.le_of_ble_eq_true (by kernel_rfl)) ((E_pspan_Map_Bytes m w K) ▸ h)
def D_pspan_Map_Drop (m : Option Addr) (at_ : Int) (w : World) (K : Value → World → Prop) : Prop :=
  NEW w [.int .i64 0, .int .i64 0] T_api_Interval_api_Interval fun b_1 w_1 =>
  CALL Pg F_pspan_Map_find [.pointer m, .int .i64 at_] w_1 fun v_1 w_2 =>
  TUPV v_1 fun cs_1 =>
  GETV cs_1 0 fun v_2 =>
  INTV .i64 v_2 fun n_1 =>
  GETV cs_1 1 fun v_3 =>
  BOOLV v_3 fun t_1 =>
  LEN cs_1 2 (
  ITE (!t_1) (
   ST1 w_2 ⟨b_1, 0, none⟩ (.int .i64 0) fun w_3 =>
   ST1 w_3 ⟨b_1, 1, none⟩ (.int .i64 0) fun w_4 =>
   LDi .i64 w_4 ⟨b_1, 0, none⟩ fun n_2 =>
   LDi .i64 w_4 ⟨b_1, 1, none⟩ fun n_3 =>
   K (.tuple #[.agg #[.int .i64 n_2, .int .i64 n_3], .bool false]) w_4) (
   NN m fun b_2 o_1 =>
   LDl w_2 ⟨b_2, o_1, none⟩ fun a_1 l_1 _ =>
   IDX a_1 l_1 n_1 2 fun b_3 o_2 =>
   LDi .i64 w_2 ⟨b_3, o_2, none⟩ fun n_4 =>
   LDi .i64 w_2 ⟨b_3, o_2 + 1, none⟩ fun n_5 =>
   NEW w_2 [.int .i64 0, .int .i64 0] T_api_Interval_api_Interval fun b_4 w_5 =>
   ST1 w_5 ⟨b_4, 0, none⟩ (.int .i64 n_4) fun w_6 =>
   ST1 w_6 ⟨b_4, 1, none⟩ (.int .i64 n_5) fun w_7 =>
   NN m fun b_5 o_3 =>
   LDl w_7 ⟨b_5, o_3, none⟩ fun a_2 l_2 c_2 =>
   BIND (IntKind.i64.wrap (n_1 + 1)) fun n_6 =>
   CALL Pg F_slices_Delete_Lapi_Interval_api_Interval [.slice a_2 l_2 c_2, .int .i64 n_1, .int .i64 n_6] w_7 fun v_4 w_8 =>
   SLV v_4 fun a_3 l_3 c_3 =>
   NN m fun b_6 o_4 =>
   ST1 w_8 ⟨b_6, o_4, none⟩ (.slice a_3 l_3 c_3) fun w_9 =>
   LDi .i64 w_9 ⟨b_4, 0, none⟩ fun n_7 =>
   LDi .i64 w_9 ⟨b_4, 1, none⟩ fun n_8 =>
   ST1 w_9 ⟨b_1, 0, none⟩ (.int .i64 n_7) fun w_10 =>
   ST1 w_10 ⟨b_1, 1, none⟩ (.int .i64 n_8) fun w_11 =>
   LDi .i64 w_11 ⟨b_1, 0, none⟩ fun n_9 =>
   LDi .i64 w_11 ⟨b_1, 1, none⟩ fun n_10 =>
   K (.tuple #[.agg #[.int .i64 n_9, .int .i64 n_10], .bool true]) w_11))
theorem E_pspan_Map_Drop (m : Option Addr) (at_ : Int) (w : World) (K : Value → World → Prop) :
    D_pspan_Map_Drop m at_ w K = vcFn Pg Try.f34 [] [.pointer m, .int .i64 at_] w K := by kernel_rfl
theorem C_pspan_Map_Drop {m : Option Addr} {at_ : Int} {w : World} {K : Value → World → Prop} (h : D_pspan_Map_Drop m at_ w K) :
    CALL Pg F_pspan_Map_Drop [.pointer m, .int .i64 at_] w K :=
  call_of_vc [] Try.func34 rfl (Nat.le_of_ble_eq_true (by kernel_rfl)) ((E_pspan_Map_Drop m at_ w K) ▸ h)
def D_pspan_Map_find (m : Option Addr) (at_ : Int) (w : World) (K : Value → World → Prop) : Prop :=
  NN m fun b_1 o_1 =>
  LDl w ⟨b_1, o_1, none⟩ fun a_1 l_1 c_1 =>
  CALL Pg F_slices_BinarySearchFunc_Lapi_Interval_api_Interval_int [.slice a_1 l_1 c_1, .int .i64 at_, .func (Fn.func F_pspan_Map_find_1) #[] #[]] w fun v_1 w_1 =>
  TUPV v_1 fun cs_1 =>
  GETV cs_1 0 fun v_2 =>
  INTV .i64 v_2 fun n_1 =>
  GETV cs_1 1 fun v_3 =>
  BOOLV v_3 fun t_1 =>
  LEN cs_1 2 (
  K (.tuple #[.int .i64 n_1, .bool t_1]) w_1)
theorem E_pspan_Map_find (m : Option Addr) (at_ : Int) (w : World) (K : Value → World → Prop) :
    D_pspan_Map_find m at_ w K = vcFn Pg Try.f49 [] [.pointer m, .int .i64 at_] w K := by kernel_rfl
theorem C_pspan_Map_find {m : Option Addr} {at_ : Int} {w : World} {K : Value → World → Prop} (h : D_pspan_Map_find m at_ w K) :
    CALL Pg F_pspan_Map_find [.pointer m, .int .i64 at_] w K :=
  call_of_vc [] Try.func49 rfl (Nat.le_of_ble_eq_true (by kernel_rfl)) ((E_pspan_Map_find m at_ w K) ▸ h)
def D_pspan_Map_find_1 (i0 : Int) (i1 : Int) (at_ : Int) (w : World) (K : Value → World → Prop) : Prop :=
  NEW w [.int .i64 i0, .int .i64 i1] T_api_Interval_api_Interval fun b_1 w_1 =>
  LDi .i64 w_1 ⟨b_1, 0, none⟩ fun n_1 =>
  CALL Pg F_cmp_Compare_int [.int .i64 n_1, .int .i64 at_] w_1 fun v_1 w_2 =>
  INTV .i64 v_1 fun n_2 =>
  K (.int .i64 n_2) w_2
theorem E_pspan_Map_find_1 (i0 : Int) (i1 : Int) (at_ : Int) (w : World) (K : Value → World → Prop) :
    D_pspan_Map_find_1 i0 i1 at_ w K = vcFn Pg Try.f64 [] [.agg #[.int .i64 i0, .int .i64 i1], .int .i64 at_] w K := by kernel_rfl
theorem C_pspan_Map_find_1 {i0 : Int} {i1 : Int} {at_ : Int} {w : World} {K : Value → World → Prop} (h : D_pspan_Map_find_1 i0 i1 at_ w K) :
    CALL Pg F_pspan_Map_find_1 [.agg #[.int .i64 i0, .int .i64 i1], .int .i64 at_] w K :=
  call_of_vc [] Try.func64 rfl (Nat.le_of_ble_eq_true (by kernel_rfl)) ((E_pspan_Map_find_1 i0 i1 at_ w K) ▸ h)
def D_cmp_Compare_int (x : Int) (y : Int) (w : World) (K : Value → World → Prop) : Prop :=
  CALL Pg F_cmp_isNaN_int [.int .i64 x] w fun v_1 w_1 =>
  BOOLV v_1 fun t_1 =>
  CALL Pg F_cmp_isNaN_int [.int .i64 y] w_1 fun v_2 w_2 =>
  BOOLV v_2 fun t_2 =>
  ITE (t_1) (
   ITE (t_2) (
    K (.int .i64 0) w_2) (
    K (.int .i64 (-1)) w_2)) (
   ITE (t_2) (
    K (.int .i64 1) w_2) (
    ITE (decide (x < y)) (
     K (.int .i64 (-1)) w_2) (
     ITE (decide (x > y)) (
      K (.int .i64 1) w_2) (
      K (.int .i64 0) w_2))))
theorem E_cmp_Compare_int (x : Int) (y : Int) (w : World) (K : Value → World → Prop) :
    D_cmp_Compare_int x y w K = vcFn Pg Try.f54 [] [.int .i64 x, .int .i64 y] w K := by kernel_rfl
theorem C_cmp_Compare_int {x : Int} {y : Int} {w : World} {K : Value → World → Prop} (h : D_cmp_Compare_int x y w K) :
    CALL Pg F_cmp_Compare_int [.int .i64 x, .int .i64 y] w K :=
  call_of_vc [] Try.func54 rfl (Nat.le_of_ble_eq_true (by kernel_rfl)) ((E_cmp_Compare_int x y w K) ▸ h)
def D_cmp_isNaN_int (x : Int) (w : World) (K : Value → World → Prop) : Prop :=
  K (.bool (x != x)) w
theorem E_cmp_isNaN_int (x : Int) (w : World) (K : Value → World → Prop) :
    D_cmp_isNaN_int x w K = vcFn Pg Try.f68 [] [.int .i64 x] w K := by kernel_rfl
theorem C_cmp_isNaN_int {x : Int} {w : World} {K : Value → World → Prop} (h : D_cmp_isNaN_int x w K) :
    CALL Pg F_cmp_isNaN_int [.int .i64 x] w K :=
  call_of_vc [] Try.func68 rfl (Nat.le_of_ble_eq_true (by kernel_rfl)) ((E_cmp_isNaN_int x w K) ▸ h)
def D_slices_BinarySearchFunc_Lapi_Interval_api_Interval_int (xa : Option Addr) (xl : Nat) (xc : Nat) (target : Int) (cmp : Value) (w : World) (K : Value → World → Prop) : Prop :=
  LOOP [.int .i64 0, .int .i64 (↑xl : Int)] w fun I_1 N_1 =>
  ∀ w_1 : World,
  ∀ v_1 : Value,
  ∀ v_2 : Value,
  (I_1 [v_1, v_2] w_1 →
  INTV .i64 v_2 fun n_1 =>
  INTV .i64 v_1 fun n_2 =>
  ITE (decide (n_2 < n_1)) (
   BIND (IntKind.i64.wrap (n_2 + n_1)) fun n_3 =>
   BIND (IntKind.u64.wrap n_3) fun n_4 =>
   GE0 1 (
   BIND (shI BinOp.shr IntKind.u64 n_4 1) fun n_5 =>
   BIND (IntKind.i64.wrap n_5) fun n_6 =>
   IDX xa xl n_6 2 fun b_1 o_1 =>
   LDi .i64 w_1 ⟨b_1, o_1, none⟩ fun n_7 =>
   LDi .i64 w_1 ⟨b_1, o_1 + 1, none⟩ fun n_8 =>
   FCALL Pg cmp [.agg #[.int .i64 n_7, .int .i64 n_8], .int .i64 target] w_1 fun v_3 w_2 =>
   INTV .i64 v_3 fun n_9 =>
   ITE (decide (n_9 < 0)) (
    BIND (IntKind.i64.wrap (n_6 + 1)) fun n_10 =>
    N_1 [v_1, v_2] w_1 [.int .i64 n_10, .int .i64 n_1] w_2) (
    N_1 [v_1, v_2] w_1 [.int .i64 n_2, .int .i64 n_6] w_2))) (
   ITE (decide (n_2 < (↑xl : Int))) (
    IDX xa xl n_2 2 fun b_2 o_2 =>
    LDi .i64 w_1 ⟨b_2, o_2, none⟩ fun n_11 =>
    LDi .i64 w_1 ⟨b_2, o_2 + 1, none⟩ fun n_12 =>
    FCALL Pg cmp [.agg #[.int .i64 n_11, .int .i64 n_12], .int .i64 target] w_1 fun v_4 w_3 =>
    INTV .i64 v_4 fun n_13 =>
    K (.tuple #[.int .i64 n_2, .bool (n_13 == 0)]) w_3) (
    K (.tuple #[.int .i64 n_2, .bool false]) w_1)))
theorem E_slices_BinarySearchFunc_Lapi_Interval_api_Interval_int (xa : Option Addr) (xl : Nat) (xc : Nat) (target : Int) (cmp : Value) (w : World) (K : Value → World → Prop) :
    D_slices_BinarySearchFunc_Lapi_Interval_api_Interval_int xa xl xc target cmp w K = vcFn Pg Try.f63 [] [.slice xa xl xc, .int .i64 target, cmp] w K := by kernel_rfl
theorem C_slices_BinarySearchFunc_Lapi_Interval_api_Interval_int {xa : Option Addr} {xl : Nat} {xc : Nat} {target : Int} {cmp : Value} {w : World} {K : Value → World → Prop} (h : D_slices_BinarySearchFunc_Lapi_Interval_api_Interval_int xa xl xc target cmp w K) :
    CALL Pg F_slices_BinarySearchFunc_Lapi_Interval_api_Interval_int [.slice xa xl xc, .int .i64 target, cmp] w K :=
  call_of_vc [] Try.func63 rfl (Nat.le_of_ble_eq_true (by kernel_rfl)) ((E_slices_BinarySearchFunc_Lapi_Interval_api_Interval_int xa xl xc target cmp w K) ▸ h)
def D_slices_Clone_Lapi_Interval_api_Interval (sa : Option Addr) (sl : Nat) (sc : Nat) (w : World) (K : Value → World → Prop) : Prop :=
  SILN Pg (binE BinOp.eql T_Lapi_Interval (Operand.tmp 3) (Operand.const (.slice none 0 0)) (.slice sa sl sc) (.slice none 0 0)) fun v_1 =>
  BOOLV v_1 fun t_1 =>
  ITE (t_1) (
   K (.slice none 0 0) w) (
   NEW w [] T_api_Interval_api_Interval fun b_1 w_1 =>
   SEML Pg w_1 (Builtin.append_ #[T_Lapi_Interval, T_Lapi_Interval] T_Lapi_Interval #[.slice (some ⟨b_1, 0, none⟩) 0 0, .slice sa sl sc]) fun v_2 w_2 =>
   SLV v_2 fun a_1 l_1 c_1 =>
   K (.slice a_1 l_1 c_1) w_2)
theorem E_slices_Clone_Lapi_Interval_api_Interval (sa : Option Addr) (sl : Nat) (sc : Nat) (w : World) (K : Value → World → Prop) :
    D_slices_Clone_Lapi_Interval_api_Interval sa sl sc w K = vcFn Pg Try.f51 [] [.slice sa sl sc] w K := by kernel_rfl
theorem C_slices_Clone_Lapi_Interval_api_Interval {sa : Option Addr} {sl : Nat} {sc : Nat} {w : World} {K : Value → World → Prop} (h : D_slices_Clone_Lapi_Interval_api_Interval sa sl sc w K) :
    CALL Pg F_slices_Clone_Lapi_Interval_api_Interval [.slice sa sl sc] w K :=
  call_of_vc [] Try.func51 rfl (Nat.le_of_ble_eq_true (by kernel_rfl)) ((E_slices_Clone_Lapi_Interval_api_Interval sa sl sc w K) ▸ h)
def D_slices_Delete_Lapi_Interval_api_Interval (sa : Option Addr) (sl : Nat) (sc : Nat) (i : Int) (j : Int) (w : World) (K : Value → World → Prop) : Prop :=
  SILN Pg (Instr.sliceAt T_Lapi_Interval (.slice sa sl sc) (some (.int .i64 i)) (some (.int .i64 j)) (some (.int .i64 (↑sl : Int)))) fun v_1 =>
  SLV v_1 fun _ _ _ =>
  ITE (i == j) (
   K (.slice sa sl sc) w) (
   DRAW w fun w_1 =>
   SILN Pg (Instr.sliceAt T_Lapi_Interval (.slice sa sl sc) none (some (.int .i64 i)) none) fun v_2 =>
   SLV v_2 fun a_2 l_2 c_2 =>
   SILN Pg (Instr.sliceAt T_Lapi_Interval (.slice sa sl sc) (some (.int .i64 j)) none none) fun v_3 =>
   SLV v_3 fun a_3 l_3 c_3 =>
   SEML Pg w_1 (Builtin.append_ #[T_Lapi_Interval, T_Lapi_Interval] T_Lapi_Interval #[.slice a_2 l_2 c_2, .slice a_3 l_3 c_3]) fun v_4 w_2 =>
   SLV v_4 fun a_4 l_4 c_4 =>
   ((
    KEEP w_2 []) ∧
    SILN Pg (Instr.sliceAt T_Lapi_Interval (.slice a_4 l_4 c_4) (some (.int .i64 (↑l_4 : Int))) (some (.int .i64 (↑sl : Int))) none) fun v_5 =>
    SLV v_5 fun a_5 l_5 c_5 =>
    SEML Pg w_2 (Builtin.clear_ #[T_Lapi_Interval] 0 #[.slice a_5 l_5 c_5]) fun _ w_3 =>
    K (.slice a_4 l_4 c_4) w_3))
theorem E_slices_Delete_Lapi_Interval_api_Interval (sa : Option Addr) (sl : Nat) (sc : Nat) (i : Int) (j : Int) (w : World) (K : Value → World → Prop) :
    D_slices_Delete_Lapi_Interval_api_Interval sa sl sc i j w K = vcFn Pg Try.f55 [] [.slice sa sl sc, .int .i64 i, .int .i64 j] w K := by kernel_rfl
theorem C_slices_Delete_Lapi_Interval_api_Interval {sa : Option Addr} {sl : Nat} {sc : Nat} {i : Int} {j : Int} {w : World} {K : Value → World → Prop} (h : D_slices_Delete_Lapi_Interval_api_Interval sa sl sc i j w K) :
    CALL Pg F_slices_Delete_Lapi_Interval_api_Interval [.slice sa sl sc, .int .i64 i, .int .i64 j] w K :=
  call_of_vc [] Try.func55 rfl (Nat.le_of_ble_eq_true (by kernel_rfl)) ((E_slices_Delete_Lapi_Interval_api_Interval sa sl sc i j w K) ▸ h)
def D_slices_Insert_Lapi_Interval_api_Interval (sa : Option Addr) (sl : Nat) (sc : Nat) (i : Int) (va : Option Addr) (vl : Nat) (vc : Nat) (w : World) (K : Value → World → Prop) : Prop :=
  SILN Pg (Instr.sliceAt T_Lapi_Interval (.slice sa sl sc) (some (.int .i64 i)) none none) fun v_1 =>
  SLV v_1 fun _ _ _ =>
  ITE ((↑vl : Int) == 0) (
   K (.slice sa sl sc) w) (
   ITE (i == (↑sl : Int)) (
    SEML Pg w (Builtin.append_ #[T_Lapi_Interval, T_Lapi_Interval] T_Lapi_Interval #[.slice sa sl sc, .slice va vl vc]) fun v_2 w_1 =>
    SLV v_2 fun a_2 l_2 c_2 =>
    K (.slice a_2 l_2 c_2) w_1) (
    BIND (IntKind.i64.wrap ((↑sl : Int) + (↑vl : Int))) fun n_1 =>
    SILN Pg (Builtin.cap_ #[T_Lapi_Interval] T_int #[.slice sa sl sc]) fun v_3 =>
    INTV .i64 v_3 fun n_2 =>
    ITE (decide (n_1 > n_2)) (
     SILN Pg (Instr.sliceAt T_Lapi_Interval (.slice sa sl sc) none (some (.int .i64 i)) none) fun v_4 =>
     SLV v_4 fun a_3 l_3 c_3 =>
     BIND (IntKind.i64.wrap ((↑sl : Int) + (↑vl : Int))) fun n_3 =>
     BIND (IntKind.i64.wrap (n_3 - i)) fun n_4 =>
     SEML Pg w (Builtin.append_ #[T_Lapi_Interval, T_int] T_Lapi_Interval #[.slice a_3 l_3 c_3, .int .i64 n_4]) fun v_5 w_2 =>
     SLV v_5 fun a_4 l_4 c_4 =>
     SILN Pg (Instr.sliceAt T_Lapi_Interval (.slice a_4 l_4 c_4) (some (.int .i64 i)) none none) fun v_6 =>
     SLV v_6 fun a_5 l_5 c_5 =>
     SEML Pg w_2 (Builtin.copy_ #[T_Lapi_Interval, T_Lapi_Interval] T_int #[.slice a_5 l_5 c_5, .slice va vl vc]) fun v_7 w_3 =>
     INTV .i64 v_7 fun _ =>
     DRAW w_3 fun w_4 =>
     BIND (IntKind.i64.wrap (i + (↑vl : Int))) fun n_6 =>
     SILN Pg (Instr.sliceAt T_Lapi_Interval (.slice a_4 l_4 c_4) (some (.int .i64 n_6)) none none) fun v_8 =>
     SLV v_8 fun a_6 l_6 c_6 =>
     SILN Pg (Instr.sliceAt T_Lapi_Interval (.slice sa sl sc) (some (.int .i64 i)) none none) fun v_9 =>
     SLV v_9 fun a_7 l_7 c_7 =>
     SEML Pg w_4 (Builtin.copy_ #[T_Lapi_Interval, T_Lapi_Interval] T_int #[.slice a_6 l_6 c_6, .slice a_7 l_7 c_7]) fun v_10 w_5 =>
     INTV .i64 v_10 fun _ =>
     ((
      KEEP w_5 []) ∧
      K (.slice a_4 l_4 c_4) w_5)) (
     BIND (IntKind.i64.wrap ((↑sl : Int) + (↑vl : Int))) fun n_8 =>
     SILN Pg (Instr.sliceAt T_Lapi_Interval (.slice sa sl sc) none (some (.int .i64 n_8)) none) fun v_11 =>
     SLV v_11 fun a_8 l_8 c_8 =>
     BIND (IntKind.i64.wrap (i + (↑vl : Int))) fun n_9 =>
     SILN Pg (Instr.sliceAt T_Lapi_Interval (.slice a_8 l_8 c_8) (some (.int .i64 n_9)) none none) fun v_12 =>
     SLV v_12 fun a_9 l_9 c_9 =>
     EXT Pg F_slices_overlaps_api_Interval [.slice va vl vc, .slice a_9 l_9 c_9] w fun v_13 w_6 =>
     BOOLV v_13 fun t_1 =>
     ITE (!t_1) (
      DRAW w_6 fun w_7 =>
      BIND (IntKind.i64.wrap (i + (↑vl : Int))) fun n_10 =>
      SILN Pg (Instr.sliceAt T_Lapi_Interval (.slice a_8 l_8 c_8) (some (.int .i64 n_10)) none none) fun v_14 =>
      SLV v_14 fun a_10 l_10 c_10 =>
      SILN Pg (Instr.sliceAt T_Lapi_Interval (.slice a_8 l_8 c_8) (some (.int .i64 i)) none none) fun v_15 =>
      SLV v_15 fun a_11 l_11 c_11 =>
      SEML Pg w_7 (Builtin.copy_ #[T_Lapi_Interval, T_Lapi_Interval] T_int #[.slice a_10 l_10 c_10, .slice a_11 l_11 c_11]) fun v_16 w_8 =>
      INTV .i64 v_16 fun _ =>
      ((
       KEEP w_8 []) ∧
       SILN Pg (Instr.sliceAt T_Lapi_Interval (.slice a_8 l_8 c_8) (some (.int .i64 i)) none none) fun v_17 =>
       SLV v_17 fun a_12 l_12 c_12 =>
       SEML Pg w_8 (Builtin.copy_ #[T_Lapi_Interval, T_Lapi_Interval] T_int #[.slice a_12 l_12 c_12, .slice va vl vc]) fun v_18 w_9 =>
       INTV .i64 v_18 fun _ =>
       K (.slice a_8 l_8 c_8) w_9)) (
      SILN Pg (Instr.sliceAt T_Lapi_Interval (.slice a_8 l_8 c_8) (some (.int .i64 (↑sl : Int))) none none) fun v_19 =>
      SLV v_19 fun a_13 l_13 c_13 =>
      SEML Pg w_6 (Builtin.copy_ #[T_Lapi_Interval, T_Lapi_Interval] T_int #[.slice a_13 l_13 c_13, .slice va vl vc]) fun v_20 w_10 =>
      INTV .i64 v_20 fun _ =>
      SILN Pg (Instr.sliceAt T_Lapi_Interval (.slice a_8 l_8 c_8) (some (.int .i64 i)) none none) fun v_21 =>
      SLV v_21 fun a_14 l_14 c_14 =>
      CALL Pg F_slices_rotateRight_api_Interval [.slice a_14 l_14 c_14, .int .i64 (↑vl : Int)] w_10 fun v_22 w_11 =>
      TUPV v_22 fun cs_1 =>
      LEN cs_1 0 (
      K (.slice a_8 l_8 c_8) w_11)))))
theorem E_slices_Insert_Lapi_Interval_api_Interval (sa : Option Addr) (sl : Nat) (sc : Nat) (i : Int) (va : Option Addr) (vl : Nat) (vc : Nat) (w : World) (K : Value → World → Prop) :
    D_slices_Insert_Lapi_Interval_api_Interval sa sl sc i va vl vc w K = vcFn Pg Try.f50 [] [.slice sa sl sc, .int .i64 i, .slice va vl vc] w K := by kernel_rfl
theorem C_slices_Insert_Lapi_Interval_api_Interval {sa : Option Addr} {sl : Nat} {sc : Nat} {i : Int} {va : Option Addr} {vl : Nat} {vc : Nat} {w : World} {K : Value → World → Prop} (h : D_slices_Insert_Lapi_Interval_api_Interval sa sl sc i va vl vc w K) :
    CALL Pg F_slices_Insert_Lapi_Interval_api_Interval [.slice sa sl sc, .int .i64 i, .slice va vl vc] w K :=
  call_of_vc [] Try.func50 rfl (Nat.le_of_ble_eq_true (by kernel_rfl)) ((E_slices_Insert_Lapi_Interval_api_Interval sa sl sc i va vl vc w K) ▸ h)
def D_slices_rotateRight_api_Interval (sa : Option Addr) (sl : Nat) (sc : Nat) (r : Int) (w : World) (K : Value → World → Prop) : Prop :=
  BIND (IntKind.i64.wrap ((↑sl : Int) - r)) fun n_1 =>
  CALL Pg F_slices_rotateLeft_api_Interval [.slice sa sl sc, .int .i64 n_1] w fun v_1 w_1 =>
  TUPV v_1 fun cs_1 =>
  LEN cs_1 0 (
  K (.tuple #[]) w_1)
theorem E_slices_rotateRight_api_Interval (sa : Option Addr) (sl : Nat) (sc : Nat) (r : Int) (w : World) (K : Value → World → Prop) :
    D_slices_rotateRight_api_Interval sa sl sc r w K = vcFn Pg Try.f66 [] [.slice sa sl sc, .int .i64 r] w K := by kernel_rfl
theorem C_slices_rotateRight_api_Interval {sa : Option Addr} {sl : Nat} {sc : Nat} {r : Int} {w : World} {K : Value → World → Prop} (h : D_slices_rotateRight_api_Interval sa sl sc r w K) :
    CALL Pg F_slices_rotateRight_api_Interval [.slice sa sl sc, .int .i64 r] w K :=
  call_of_vc [] Try.func66 rfl (Nat.le_of_ble_eq_true (by kernel_rfl)) ((E_slices_rotateRight_api_Interval sa sl sc r w K) ▸ h)
def D_slices_rotateLeft_api_Interval (sa : Option Addr) (sl : Nat) (sc : Nat) (r : Int) (w : World) (K : Value → World → Prop) : Prop :=
  SILN Pg (Instr.sliceAt T_Lapi_Interval (.slice sa sl sc) none (some (.int .i64 r)) none) fun v_1 =>
  SLV v_1 fun a_1 l_1 c_1 =>
  CALL Pg F_slices_Reverse_Lapi_Interval_api_Interval [.slice a_1 l_1 c_1] w fun v_2 w_1 =>
  TUPV v_2 fun cs_1 =>
  LEN cs_1 0 (
  SILN Pg (Instr.sliceAt T_Lapi_Interval (.slice sa sl sc) (some (.int .i64 r)) none none) fun v_3 =>
  SLV v_3 fun a_2 l_2 c_2 =>
  CALL Pg F_slices_Reverse_Lapi_Interval_api_Interval [.slice a_2 l_2 c_2] w_1 fun v_4 w_2 =>
  TUPV v_4 fun cs_2 =>
  LEN cs_2 0 (
  CALL Pg F_slices_Reverse_Lapi_Interval_api_Interval [.slice sa sl sc] w_2 fun v_5 w_3 =>
  TUPV v_5 fun cs_3 =>
  LEN cs_3 0 (
  K (.tuple #[]) w_3)))
theorem E_slices_rotateLeft_api_Interval (sa : Option Addr) (sl : Nat) (sc : Nat) (r : Int) (w : World) (K : Value → World → Prop) :
    D_slices_rotateLeft_api_Interval sa sl sc r w K = vcFn Pg Try.f77 [] [.slice sa sl sc, .int .i64 r] w K := by kernel_rfl
theorem C_slices_rotateLeft_api_Interval {sa : Option Addr} {sl : Nat} {sc : Nat} {r : Int} {w : World} {K : Value → World → Prop} (h : D_slices_rotateLeft_api_Interval sa sl sc r w K) :
    CALL Pg F_slices_rotateLeft_api_Interval [.slice sa sl sc, .int .i64 r] w K :=
  call_of_vc [] Try.func77 rfl (Nat.le_of_ble_eq_true (by kernel_rfl)) ((E_slices_rotateLeft_api_Interval sa sl sc r w K) ▸ h)
def D_slices_Reverse_Lapi_Interval_api_Interval (sa : Option Addr) (sl : Nat) (sc : Nat) (w : World) (K : Value → World → Prop) : Prop :=
  BIND (IntKind.i64.wrap ((↑sl : Int) - 1)) fun n_1 =>
  LOOP [.int .i64 0, .int .i64 n_1] w fun I_1 N_1 =>
  ∀ w_1 : World,
  ∀ v_1 : Value,
  ∀ v_2 : Value,
  (I_1 [v_1, v_2] w_1 →
  INTV .i64 v_2 fun n_2 =>
  INTV .i64 v_1 fun n_3 =>
  ITE (decide (n_3 < n_2)) (
   DRAW w_1 fun w_2 =>
   IDX sa sl n_2 2 fun b_1 o_1 =>
   LDi .i64 w_2 ⟨b_1, o_1, none⟩ fun n_4 =>
   LDi .i64 w_2 ⟨b_1, o_1 + 1, none⟩ fun n_5 =>
   IDX sa sl n_3 2 fun b_2 o_2 =>
   LDi .i64 w_2 ⟨b_2, o_2, none⟩ fun n_6 =>
   LDi .i64 w_2 ⟨b_2, o_2 + 1, none⟩ fun n_7 =>
   IDX sa sl n_3 2 fun b_3 o_3 =>
   ST1 w_2 ⟨b_3, o_3, none⟩ (.int .i64 n_4) fun w_3 =>
   ST1 w_3 ⟨b_3, o_3 + 1, none⟩ (.int .i64 n_5) fun w_4 =>
   ((
    KEEP w_4 []) ∧
    IDX sa sl n_2 2 fun b_4 o_4 =>
    ST1 w_4 ⟨b_4, o_4, none⟩ (.int .i64 n_6) fun w_5 =>
    ST1 w_5 ⟨b_4, o_4 + 1, none⟩ (.int .i64 n_7) fun w_6 =>
    ((
     KEEP w_6 []) ∧
     BIND (IntKind.i64.wrap (n_3 + 1)) fun n_8 =>
     BIND (IntKind.i64.wrap (n_2 - 1)) fun n_9 =>
     N_1 [v_1, v_2] w_1 [.int .i64 n_8, .int .i64 n_9] w_6))) (
   K (.tuple #[]) w_1))
theorem E_slices_Reverse_Lapi_Interval_api_Interval (sa : Option Addr) (sl : Nat) (sc : Nat) (w : World) (K : Value → World → Prop) :
    D_slices_Reverse_Lapi_Interval_api_Interval sa sl sc w K = vcFn Pg Try.f81 [] [.slice sa sl sc] w K := by kernel_rfl
theorem C_slices_Reverse_Lapi_Interval_api_Interval {sa : Option Addr} {sl : Nat} {sc : Nat} {w : World} {K : Value → World → Prop} (h : D_slices_Reverse_Lapi_Interval_api_Interval sa sl sc w K) :
    CALL Pg F_slices_Reverse_Lapi_Interval_api_Interval [.slice sa sl sc] w K :=
  call_of_vc [] Try.func81 rfl (Nat.le_of_ble_eq_true (by kernel_rfl)) ((E_slices_Reverse_Lapi_Interval_api_Interval sa sl sc w K) ▸ h)
def D_l06_speaks (w : World) (K : Value → World → Prop) : Prop :=
  NEW w [.slice none 0 0] T_span_Map_span_Map fun b_1 w_1 =>
  CALL Pg F_pspan_Map_Put [.pointer (some ⟨b_1, 0, none⟩), .agg #[.int .i64 16, .int .i64 16]] w_1 fun v_1 w_2 =>
  BOOLV v_1 fun t_1 =>
  CALL Pg F_pspan_Map_Put [.pointer (some ⟨b_1, 0, none⟩), .agg #[.int .i64 31, .int .i64 4]] w_2 fun v_2 w_3 =>
  BOOLV v_2 fun t_2 =>
  CALL Pg F_pspan_Map_Put [.pointer (some ⟨b_1, 0, none⟩), .agg #[.int .i64 32, .int .i64 4]] w_3 fun v_3 w_4 =>
  BOOLV v_3 fun t_3 =>
  CALL Pg F_pspan_Map_Get [.pointer (some ⟨b_1, 0, none⟩), .int .i64 32] w_4 fun v_4 w_5 =>
  TUPV v_4 fun cs_1 =>
  GETV cs_1 0 fun v_5 =>
  AGGV v_5 fun cs_2 =>
  GETV cs_2 0 fun v_6 =>
  INTV .i64 v_6 fun n_1 =>
  GETV cs_2 1 fun v_7 =>
  INTV .i64 v_7 fun n_2 =>
  LEN cs_2 2 (
  GETV cs_1 1 fun v_8 =>
  BOOLV v_8 fun t_4 =>
  LEN cs_1 2 (
  NEW w_5 [.int .i64 0, .int .i64 0] T_api_Interval_api_Interval fun b_2 w_6 =>
  ST1 w_6 ⟨b_2, 0, none⟩ (.int .i64 n_1) fun w_7 =>
  ST1 w_7 ⟨b_2, 1, none⟩ (.int .i64 n_2) fun w_8 =>
  ITE (t_1) (
   ITE (!t_2) (
    ITE (t_3) (
     ITE (t_4) (
      LDi .i64 w_8 ⟨b_2, 1, none⟩ fun n_3 =>
      ITE (n_3 == 4) (
       CALL Pg F_pspan_Map_Bytes [.pointer (some ⟨b_1, 0, none⟩)] w_8 fun v_9 w_9 =>
       INTV .i64 v_9 fun n_4 =>
       ITE (n_4 == 20) (
        CALL Pg F_pspan_Map_All [.pointer (some ⟨b_1, 0, none⟩)] w_9 fun v_10 w_10 =>
        SLV v_10 fun _ l_1 _ =>
        K (.bool ((↑l_1 : Int) == 2)) w_10) (
        K (.bool false) w_9)) (
       K (.bool false) w_8)) (
      K (.bool false) w_8)) (
     K (.bool false) w_8)) (
    K (.bool false) w_8)) (
   K (.bool false) w_8)))
theorem E_l06_speaks (w : World) (K : Value → World → Prop) :
    D_l06_speaks w K = vcFn Pg Try.f16 [] [] w K := by kernel_rfl
theorem C_l06_speaks {w : World} {K : Value → World → Prop} (h : D_l06_speaks w K) :
    CALL Pg F_l06_speaks [] w K :=
  call_of_vc [] Try.func16 rfl (Nat.le_of_ble_eq_true (by kernel_rfl)) ((E_l06_speaks w K) ▸ h)

end Go.Proofs.Ytpopdookpbmmpaa
