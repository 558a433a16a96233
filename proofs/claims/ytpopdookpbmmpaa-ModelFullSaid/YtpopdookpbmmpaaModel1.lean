/- What a model is, and the small functions that it asks. -/
import Derived.Test.YtpopdookpbmmpaaModel0
import Derived.Test.YtpopdookpbmmpaaMspan
import Derived.Test.YtpopdookpbmmpaaLine8
import Derived.Test.YtpopdookpbmmpaaM2
namespace Go.Proofs.Ytpopdookpbmmpaa
open Go.Den
set_option maxRecDepth 100000
set_option maxHeartbeats 4000000

/-! ### Plain laws -/
/-- How many bytes who asks for some is to have. -/
def sizeF (c1 : Int) (cl : List Int) (n : Int) : Int := if (classF cl n).2 = true then cl.getD (classF cl n).1.toNat 0 else 1024 * runF c1 cl n
/-- Does a grain begin there? -/
def grainP (c1 at_ : Int) : Prop := 65536 ≤ at_ ∧ at_ < 65536 + 1024 * c1 ∧ at_ % 16 = 0
instance (c1 at_ : Int) : Decidable (grainP c1 at_) := by unfold grainP; infer_instance
instance (xs : List Iv) (i : Iv) : Decidable (Fit xs i) := by unfold Fit; infer_instance

theorem placeF_grain (c1 at_ : Int) : (placeF c1 at_).2.2 = decide (grainP c1 at_) := by
  unfold placeF
  split
  · rename_i h
    rw [decide_eq_false (by unfold grainP; omega)]
  · rename_i h
    rw [decide_eq_true (by unfold grainP; omega)]

/-- Whether something may be answered, and what is done then: 1 an interval more, 2 one less. -/
def verdict (c1 : Int) (cl : List Int) (zs : List Iv) (rk rn ac an : Int) : Bool × Nat :=
  if rk = 1 then
    if sizeF c1 cl rn = 0 then (decide (ac = 3 ∧ an = 0), 0)
    else if ac ≠ 0 then (decide (ac = 5 ∧ an = 0), 0)
    else if grainP c1 an ∧ an + sizeF c1 cl rn ≤ 65536 + 1024 * c1 ∧ Fit zs (an, sizeF c1 cl rn) then (true, 1) else (false, 0)
  else if rk = 2 ∨ rk = 3 then
    match getF zs rn with
    | none => (decide (ac = 4 ∧ an = 0), 0)
    | some i => if ac = 0 ∧ an = i.2 then (true, if rk = 2 then 2 else 0) else (false, 0)
  else (decide (ac = 2 ∧ an = 0), 0)

theorem verdict_perm {c1 : Int} {cl : List Int} {xs ys : List Iv} (hp : xs.Perm ys) (rk rn ac an : Int) : getF xs rn = getF ys rn → verdict c1 cl xs rk rn ac an = verdict c1 cl ys rk rn ac an := by
  intro hg
  unfold verdict
  rw [hg]
  simp only [perm_fit hp]

section
variable {c0 c1 c2 c3 : Int} {cl : List Int}

theorem runF_le (h : mayP c0 c1 c2 c3 cl) (n : Int) : 0 ≤ runF c1 cl n ∧ runF c1 cl n ≤ c1 := by
  have := h.sup
  unfold runF
  split
  · omega
  · split
    · omega
    · split <;> omega

theorem sizeF_le (h : mayP c0 c1 c2 c3 cl) (n : Int) : 0 ≤ sizeF c1 cl n ∧ sizeF c1 cl n ≤ 65536 ∧ (sizeF c1 cl n ≠ 0 → 16 ≤ sizeF c1 cl n) ∧ sizeF c1 cl n % 16 = 0 := by
  have hr := runF_le h n
  have hs := h.sup
  unfold sizeF
  rcases classF_cases cl n with ⟨h1, _⟩ | ⟨k, h1, h2, _, _, _⟩
  · rw [h1, if_neg (by simp)]
    omega
  · rw [h1, if_pos rfl]
    have := h.cls16 h2
    rw [show ((k : Int)).toNat = k by omega]
    omega

/-- What a request is found to be. -/
def chkF (c1 : Int) (cl : List Int) (rk rn : Int) : (Int × Int) × Int :=
  if rk = 1 then if (classF cl rn).2 = true then (((classF cl rn).1, 0), 0) else if runF c1 cl rn > 0 then ((-1, runF c1 cl rn), 0) else ((0, 0), 3)
  else if rk = 2 ∨ rk = 3 then if grainP c1 rn then ((0, 0), 0) else ((0, 0), 4)
  else ((0, 0), 2)
def thingF (c1 : Int) (cl : List Int) (x : Int × Int) : Int := if 0 ≤ x.1 ∧ x.1 < cl.length ∧ x.2 = 0 then cl.getD x.1.toNat 0 else if x.1 = -1 ∧ 1 ≤ x.2 ∧ x.2 ≤ c1 then x.2 * 1024 else 0

theorem chk_size (h : mayP c0 c1 c2 c3 cl) (rn : Int) : (chkF c1 cl 1 rn).2 = 0 ∧ thingF c1 cl (chkF c1 cl 1 rn).1 = sizeF c1 cl rn ∧ sizeF c1 cl rn ≠ 0 ∨ (chkF c1 cl 1 rn).2 = 3 ∧ sizeF c1 cl rn = 0 := by
  have hr := runF_le h rn
  rcases classF_cases cl rn with ⟨h1, _⟩ | ⟨k, h1, h2, _, _, _⟩
  · have hn : ¬ (classF cl rn).2 = true := by rw [h1]; simp
    have e1 : sizeF c1 cl rn = 1024 * runF c1 cl rn := by unfold sizeF; rw [if_neg hn]
    have e2 : chkF c1 cl 1 rn = if runF c1 cl rn > 0 then ((-1, runF c1 cl rn), 0) else ((0, 0), 3) := by unfold chkF; rw [if_pos rfl, if_neg hn]
    rw [e1, e2]
    by_cases h3 : runF c1 cl rn > 0
    · rw [if_pos h3]
      refine .inl ⟨rfl, ?_, by omega⟩
      unfold thingF
      dsimp only
      rw [if_neg (by omega), if_pos (by omega)]
      omega
    · rw [if_neg h3]
      exact .inr ⟨rfl, by omega⟩
  · have hn : (classF cl rn).2 = true := by rw [h1]
    have h16 := h.cls16 h2
    have e1 : sizeF c1 cl rn = cl.getD k 0 := by unfold sizeF; rw [if_pos hn, h1]; simp
    have e2 : chkF c1 cl 1 rn = (((k : Int), 0), 0) := by unfold chkF; rw [if_pos rfl, if_pos hn, h1]
    rw [e1, e2]
    refine .inl ⟨rfl, ?_, by omega⟩
    unfold thingF
    dsimp only
    rw [if_pos (by omega)]
    simp
end

section
variable {w : World} {c0 c1 c2 c3 : Int} {ca : Option Addr} {cl cc : Nat} {cls : List Int}

theorem TUP_iic {x y z : Int} {K : Int → Int → Int → Prop} :
    (TUPV (.tuple #[.agg #[.int .i64 x, .int .i64 y], .int .i64 z]) fun cs => GETV cs 0 fun a => AGGV a fun ds => GETV ds 0 fun v => INTV .i64 v fun n => GETV ds 1 fun v2 => INTV .i64 v2 fun m => LEN ds 2 (GETV cs 1 fun u => INTV .i64 u fun t => LEN cs 2 (K n m t))) = K x y z := rfl
theorem AGG_ii {x y : Int} {K : Int → Int → Prop} : (AGGV (.agg #[.int .i64 x, .int .i64 y]) fun ds => GETV ds 0 fun v => INTV .i64 v fun n => GETV ds 1 fun v2 => INTV .i64 v2 fun m => LEN ds 2 (K n m)) = K x y := rfl

theorem live_Of_spec (x : Int) : CALL Pg F_live_Of [.int .i64 x] w fun v w' => Eff w w' [] ∧ v = .agg #[.int .i64 x, .int .i64 0] := by
  apply C_live_Of
  unfold D_live_Of
  intro b1 w1 hE1 hs1 hb1
  refine ST2_of trivial trivial hE1 hs1 hb1 fun w3 hE3 hb3 _ => ?_
  rw [LDi_of (cellH_of hb3 0), LDi_of (cellH_of hb3 1)]
  exact ⟨hE3, rfl⟩

theorem live_Run_spec (x : Int) : CALL Pg F_live_Run [.int .i64 x] w fun v w' => Eff w w' [] ∧ v = .agg #[.int .i64 (-1), .int .i64 x] := by
  apply C_live_Run
  unfold D_live_Run
  intro b1 w1 hE1 hs1 hb1
  refine ST2_of trivial trivial hE1 hs1 hb1 fun w3 hE3 hb3 _ => ?_
  rw [LDi_of (cellH_of hb3 0), LDi_of (cellH_of hb3 1)]
  exact ⟨hE3, rfl⟩

theorem ask_Check_spec (hc : Cfg w.heap ca cl cls) (hm : mayP c0 c1 c2 c3 cls) (rk rn : Int) :
    CALL Pg F_ask_Check [cfgV c0 c1 c2 c3 ca cl cc, .agg #[.int .i64 rk, .int .i64 rn]] w fun v w' => Eff w w' [] ∧ v = .tuple #[.agg #[.int .i64 (chkF c1 cls rk rn).1.1, .int .i64 (chkF c1 cls rk rn).1.2], .int .i64 (chkF c1 cls rk rn).2] := by
  apply C_ask_Check
  unfold D_ask_Check
  have hsup := hm.sup
  intro b1 w1 hE1 hs1 hb1 b2 w2 hE2 hs2 hb2 b3 w3 hE3 hs3 hb3
  have hb13 := (hE2.trans0 hE3).obj0 hb1
  have hb23 := hE3.obj0 hb2
  have hE03 := (hE1.trans0 hE2).trans0 hE3
  have hge3 : w.heap.size ≤ b3 := Nat.le_trans (hE1.trans0 hE2).size hs3
  -- the result's variable is set, and read
  have fin : ∀ (w' : World) (x y e : Int), Eff w3 w' [] → ((x, y), e) = chkF c1 cls rk rn → ST1 w' ⟨b3, 0, none⟩ (.int .i64 x) fun w6 => ST1 w6 ⟨b3, 1, none⟩ (.int .i64 y) fun w7 => LDi .i64 w7 ⟨b3, 0, none⟩ fun n_10 => LDi .i64 w7 ⟨b3, 1, none⟩ fun n_11 =>
      (Eff w w7 [] ∧ Value.tuple #[.agg #[.int .i64 n_10, .int .i64 n_11], .int .i64 e] = .tuple #[.agg #[.int .i64 (chkF c1 cls rk rn).1.1, .int .i64 (chkF c1 cls rk rn).1.2], .int .i64 (chkF c1 cls rk rn).2]) := by
    intro w' x y e hE' h
    refine ST2_of (w₀ := w) trivial trivial (hE03.trans0 hE') hge3 (hE'.obj0 hb3) fun w7 hE7 hb7 _ => ?_
    rw [LDi_of (cellH_of hb7 0), LDi_of (cellH_of hb7 1), ← h]
    exact ⟨hE7, rfl⟩
  have place : (rk = 2 ∨ rk = 3) → LDi .i64 w3 ⟨b1, 0, none⟩ fun n_24 => LDi .i64 w3 ⟨b1, 1, none⟩ fun n_25 => LDi .i64 w3 ⟨b1, 2, none⟩ fun n_26 => LDi .i64 w3 ⟨b1, 3, none⟩ fun n_27 => LDl w3 ⟨b1, 4, none⟩ fun a_3 l_3 c_3 => LDi .i64 w3 ⟨b2, 1, none⟩ fun n_28 =>
      CALL Pg F_arena_Place [.agg #[.int .i64 n_24, .int .i64 n_25, .int .i64 n_26, .int .i64 n_27, .slice a_3 l_3 c_3], .int .i64 n_28] w3 fun v_11 w_14 =>
      TUPV v_11 fun cs_4 => GETV cs_4 0 fun v_12 => INTV .i64 v_12 fun _ => GETV cs_4 1 fun v_13 => INTV .i64 v_13 fun _ => GETV cs_4 2 fun v_14 => BOOLV v_14 fun t_2 => LEN cs_4 3 (
      ITE (!t_2) (ST1 w_14 ⟨b3, 0, none⟩ (.int .i64 0) fun w_15 => ST1 w_15 ⟨b3, 1, none⟩ (.int .i64 0) fun w_16 => LDi .i64 w_16 ⟨b3, 0, none⟩ fun n_31 => LDi .i64 w_16 ⟨b3, 1, none⟩ fun n_32 =>
        (Eff w w_16 [] ∧ Value.tuple #[.agg #[.int .i64 n_31, .int .i64 n_32], .int .i64 4] = .tuple #[.agg #[.int .i64 (chkF c1 cls rk rn).1.1, .int .i64 (chkF c1 cls rk rn).1.2], .int .i64 (chkF c1 cls rk rn).2]))
       (ST1 w_14 ⟨b3, 0, none⟩ (.int .i64 0) fun w_17 => ST1 w_17 ⟨b3, 1, none⟩ (.int .i64 0) fun w_18 => LDi .i64 w_18 ⟨b3, 0, none⟩ fun n_33 => LDi .i64 w_18 ⟨b3, 1, none⟩ fun n_34 =>
        (Eff w w_18 [] ∧ Value.tuple #[.agg #[.int .i64 n_33, .int .i64 n_34], .int .i64 0] = .tuple #[.agg #[.int .i64 (chkF c1 cls rk rn).1.1, .int .i64 (chkF c1 cls rk rn).1.2], .int .i64 (chkF c1 cls rk rn).2]))) := by
    intro hk
    rw [LDi_of (cellH_of hb13 0), LDi_of (cellH_of hb13 1), LDi_of (cellH_of hb13 2), LDi_of (cellH_of hb13 3), LDl_of (cellH_of hb13 4), LDi_of (cellH_of hb23 1)]
    refine (arena_Place_spec (c0 := c0) (c2 := c2) (c3 := c3) (a := ca) (l := cl) (c := cc) (by omega) (by omega) rn).mono fun v w14 ⟨hE14, hv⟩ => ?_
    subst hv
    rw [TUP_iib, placeF_grain]
    refine ITE_intro (fun h => fin _ _ _ _ hE14 ?_) (fun h => fin _ _ _ _ hE14 ?_)
    · unfold chkF
      rw [if_neg (by omega), if_pos hk, if_neg (by simpa using h)]
    · unfold chkF
      rw [if_neg (by omega), if_pos hk, if_pos (by simpa using h)]
  rw [LDi_of (cellH_of hb23 0)]
  refine ITE_eq (fun h1 => ?_) (fun h1 => ?_)
  · rw [LDi_of (cellH_of hb13 0), LDi_of (cellH_of hb13 1), LDi_of (cellH_of hb13 2), LDi_of (cellH_of hb13 3), LDl_of (cellH_of hb13 4), LDi_of (cellH_of hb23 1)]
    refine (arena_Class_spec (hc.eff hE03) rn).mono fun v w4 ⟨hE4, hv⟩ => ?_
    subst hv
    rw [TUP_ib]
    refine ITE_intro (fun h2 => ?_) (fun h2 => ?_)
    · refine (live_Of_spec _).mono fun v w5 ⟨hE5, hv⟩ => ?_
      subst hv
      rw [AGG_ii]
      refine fin _ _ _ _ (hE4.trans0 hE5) ?_
      unfold chkF
      rw [if_pos h1, if_pos h2]
    · have hb14 := hE4.obj0 hb13
      rw [LDi_of (cellH_of hb14 0), LDi_of (cellH_of hb14 1), LDi_of (cellH_of hb14 2), LDi_of (cellH_of hb14 3), LDl_of (cellH_of hb14 4), LDi_of (cellH_of (hE4.obj0 hb23) 1)]
      refine (arena_Run_spec (hc.eff (hE03.trans0 hE4)) (by omega) (by omega) rn).mono fun v w8 ⟨hE8, hv⟩ => ?_
      subst hv
      rw [INTV_int]
      refine ITE_d (fun h3 => ?_) (fun h3 => ?_)
      · refine (live_Run_spec _).mono fun v w9 ⟨hE9, hv⟩ => ?_
        subst hv
        rw [AGG_ii]
        refine fin _ _ _ _ ((hE4.trans0 hE8).trans0 hE9) ?_
        unfold chkF
        rw [if_pos h1, if_neg (by rw [h2]; simp), if_pos h3]
      · refine fin _ _ _ _ (hE4.trans0 hE8) ?_
        unfold chkF
        rw [if_pos h1, if_neg (by rw [h2]; simp), if_neg h3]
  refine ITE_eq (fun h2 => ?_) (fun h2 => ?_)
  · exact ITE_eq (fun _ => place (.inl h2)) (fun h => absurd h2 h)
  refine ITE_eq (fun h3 => place (.inr h3)) (fun h3 => fin _ _ _ _ (Eff.refl _) ?_)
  unfold chkF
  rw [if_neg h1, if_neg (by omega)]

theorem live_Size_spec (hc : Cfg w.heap ca cl cls) (hm : mayP c0 c1 c2 c3 cls) (x : Int × Int) :
    CALL Pg F_live_Thing_Size [.agg #[.int .i64 x.1, .int .i64 x.2], cfgV c0 c1 c2 c3 ca cl cc] w fun v w' => Eff w w' [] ∧ v = .int .i64 (thingF c1 cls x) := by
  apply C_live_Thing_Size
  unfold D_live_Thing_Size
  have hsup := hm.sup
  have hl := hc.l_eq
  intro b1 w1 hE1 hs1 hb1 b2 w2 hE2 hs2 hb2
  have hb12 := hE2.obj0 hb1
  have hE02 := hE1.trans0 hE2
  refine ⟨fun vs w' => w' = w2 ∧ vs = [.bool (decide (0 ≤ x.1 ∧ x.1 < cls.length ∧ x.2 = 0))], ?_, ?_⟩
  · rw [LDi_of (cellH_of hb12 0)]
    refine ITE_d (fun h1 => ?_) (fun h1 => ⟨rfl, by rw [decide_eq_false (by omega)]⟩)
    rw [LDi_of (cellH_of hb12 0), LDl_of (cellH_of hb2 4)]
    refine ITE_d (fun h2 => ?_) (fun h2 => ⟨rfl, by rw [decide_eq_false (by omega)]⟩)
    rw [LDi_of (cellH_of hb12 1)]
    exact ⟨rfl, by rw [show (x.2 == 0) = decide (0 ≤ x.1 ∧ x.1 < cls.length ∧ x.2 = 0) from by rw [Bool.eq_iff_iff]; simp; omega]⟩
  intro w3 v1 ⟨hw, hv⟩
  subst hw
  cases hv
  rw [BOOLV_bool]
  refine ITE_d (fun h1 => ?_) (fun h1 => ?_)
  · rw [LDl_of (cellH_of hb2 4), LDi_of (cellH_of hb12 0)]
    refine IDX_i (hc.eff hE02).sl h1.1 (by omega) fun b o hcell => ?_
    rw [LDi_of hcell]
    exact ⟨hE02, by unfold thingF; rw [if_pos h1]⟩
  refine ⟨fun vs w' => w' = w3 ∧ vs = [.bool (decide (x.1 = -1 ∧ 1 ≤ x.2 ∧ x.2 ≤ c1))], ?_, ?_⟩
  · rw [LDi_of (cellH_of hb12 0)]
    refine ITE_eq (fun h2 => ?_) (fun h2 => ⟨rfl, by rw [decide_eq_false (by omega)]⟩)
    rw [LDi_of (cellH_of hb12 1)]
    refine ITE_d (fun h3 => ?_) (fun h3 => ⟨rfl, by rw [decide_eq_false (by omega)]⟩)
    rw [LDi_of (cellH_of hb12 1), LDi_of (cellH_of hb2 1)]
    exact ⟨rfl, by rw [decide_eq_decide.2 (show x.2 ≤ c1 ↔ (x.1 = -1 ∧ 1 ≤ x.2 ∧ x.2 ≤ c1) by omega)]⟩
  intro w4 v2 ⟨hw, hv⟩
  subst hw
  cases hv
  rw [BOOLV_bool]
  refine ITE_d (fun h2 => ?_) (fun h2 => ⟨hE02, by unfold thingF; rw [if_neg h1, if_neg h2]⟩)
  rw [LDi_of (cellH_of hb12 1)]
  exact BINDw (by omega) (by omega) ⟨hE02, by unfold thingF; rw [if_neg h1, if_pos h2]⟩

theorem CloneI_spec {a : Option Addr} {l c : Nat} {xs : List Int} (hs : SlI w.heap a l xs) (hl : xs.length ≤ 1000000000000) :
    CALL Pg F_slices_Clone_Lint_int [.slice a l c] w fun v w' => Eff w w' [] ∧ (∃ a' c', v = .slice a' xs.length c') ∧ OwI w' v xs ∧ ∀ b ∈ ownL v, w.heap.size ≤ b := by
  apply C_slices_Clone_Lint_int
  unfold D_slices_Clone_Lint_int
  have hll := hs.1
  refine SILN_eqnil (e := T_int) (by kernel_rfl) ?_
  rw [BOOLV_bool]
  refine ITE_intro (fun h => ?_) (fun _ => ?_)
  · have ha : a = none := by simpa using h
    have : xs = [] := by
      rcases hs.2 with h | ⟨b, o, h, _⟩
      · exact h
      · rw [ha] at h; cases h
    subst this
    exact ⟨Eff.refl w, ⟨none, 0, rfl⟩, ⟨rfl, .inl ⟨rfl, rfl⟩⟩, by simp [ownL, Value.ownBlock]⟩
  · intro b1 w1 hE1 hs1 hb1
    have hown : w1.ownsRow 0 T_int 1 (.slice (some ⟨b1, 0, none⟩) 0 0) 0 [] := own_mk hb1 rfl (Nat.le_refl _) (by simp) rfl rfl (Nat.zero_le _)
    have hsrc : xs.map (Value.int .i64) = [] ∨ ∃ b p, a = some ⟨b, p, none⟩ ∧ ∀ j u, (xs.map (Value.int .i64))[j]? = some u → cellH w1.heap b (p + j) = some u := by
      rcases (hs.eff hE1).2 with rfl | ⟨b, p, rfl, hc⟩
      · left; rfl
      · right
        refine ⟨b, p, rfl, fun j u hj => ?_⟩
        rw [List.getElem?_map] at hj
        rcases hx : xs[j]? with _ | x
        · rw [hx] at hj; cases hj
        · rw [hx] at hj
          have := hc j x hx 0 (.int .i64 x) rfl
          rw [Nat.mul_one, Nat.add_zero] at this
          rw [this]; exact hj
    refine SEML_app (m := l) (news := xs.map (Value.int .i64)) elem_int hown (by rw [List.length_map, hll, Nat.mul_one]) hsrc (fun u hu => by
      obtain ⟨x, _, rfl⟩ := List.mem_map.1 hu
      trivial) (by omega) (by omega) (Nat.zero_le _) fun a' c' w2 hown2 hE2 hn => ?_
    rw [SLV_slice]
    have hb0 : ∀ b ∈ ownL (.slice (some ⟨b1, 0, none⟩) 0 0), w.heap.size ≤ b := by simpa [ownL, Value.ownBlock] using hs1
    refine ⟨hE1.own hE2 hb0, ⟨a', c', by rw [Nat.zero_add, hll]⟩, ?_, fun b hb => ?_⟩
    · rw [Nat.zero_add, List.nil_append, hll] at hown2
      rw [Nat.zero_add, hll]
      exact hown2
    · rcases hn b hb with h | h
      · exact hb0 b h
      · rw [h]; exact hE1.size

theorem AGG_cfg {x0 x1 x2 x3 : Int} {a : Option Addr} {l c : Nat} {K : Int → Int → Int → Int → Option Addr → Nat → Nat → Prop} :
    (AGGV (cfgV x0 x1 x2 x3 a l c) fun cs => GETV cs 0 fun v => INTV .i64 v fun n0 => GETV cs 1 fun v => INTV .i64 v fun n1 => GETV cs 2 fun v => INTV .i64 v fun n2 => GETV cs 3 fun v => INTV .i64 v fun n3 => GETV cs 4 fun v => SLV v fun a l c => LEN cs 5 (K n0 n1 n2 n3 a l c)) = K x0 x1 x2 x3 a l c := rfl

theorem conf_Copy_spec (hc : Cfg w.heap ca cl cls) (hl : cls.length ≤ 1000000) :
    CALL Pg F_conf_Copy [cfgV c0 c1 c2 c3 ca cl cc] w fun v w' => Eff w w' [] ∧ ∃ a' c', v = cfgV c0 c1 c2 c3 a' cls.length c' ∧ OwI w' (.slice a' cls.length c') cls ∧ ∀ b ∈ ownL (.slice a' cls.length c'), w.heap.size ≤ b := by
  apply C_conf_Copy
  unfold D_conf_Copy
  intro b1 w1 hE1 hs1 hb1 b2 w2 hE2 hs2 hb2
  have hb12 := hE2.obj0 hb1
  have hE02 := hE1.trans0 hE2
  have hne : b1 ≠ b2 := by have := obj_lt hb1; omega
  rw [LDl_of (cellH_of hb12 4)]
  refine (CloneI_spec (hc.eff hE02).sl (by omega)).mono fun v w3 ⟨hE3, ⟨a', c', hv⟩, ho, hn⟩ => ?_
  subst hv
  rw [SLV_slice]
  have hE03 := hE02.trans0 hE3
  have hb13 := hE3.obj0 hb12
  have hb23 := hE3.obj0 hb2
  have hs20 : w.heap.size ≤ b2 := Nat.le_trans hE1.size hs2
  have hnot : ∀ b ∈ ownL (.slice a' cls.length c'), b ≠ b1 ∧ b ≠ b2 := fun b hb => by
    have h1 := hn b hb
    have h2 := obj_lt hb12
    have h3 := obj_lt hb2
    omega
  refine ST1_of trivial hb13 (by simp) fun w4 hb14 hE4 => ?_
  have hE04 : Eff w w4 [] := hE03.own hE4 (by simpa using hs1)
  rw [LDi_of (cellH_of hb14 0), LDi_of (cellH_of hb14 1), LDi_of (cellH_of hb14 2), LDi_of (cellH_of hb14 3), LDl_of (cellH_of hb14 4)]
  have hb24 := hE4.obj hb23 (by simpa using hne.symm)
  refine ST1_of trivial hb24 (by simp) fun w5 h5 e5 => ST1_of trivial h5 (by simp) fun w6 h6 e6 => ST1_of trivial h6 (by simp) fun w7 h7 e7 => ST1_of trivial h7 (by simp) fun w8 h8 e8 => ST1_of trivial h8 (by simp) fun w9 h9 e9 => ?_
  have eall := effg (effg (effg (effg e5 e6) e7) e8) e9
  rw [LDi_of (cellH_of h9 0), LDi_of (cellH_of h9 1), LDi_of (cellH_of h9 2), LDi_of (cellH_of h9 3), LDl_of (cellH_of h9 4)]
  refine ⟨hE04.own eall (by simpa using hs20), a', c', rfl, ?_, fun b hb => Nat.le_trans hE02.size (hn b hb)⟩
  exact own_eff (own_eff ho hE4 (fun b hb => by simpa using (hnot b hb).1)) eall (fun b hb => by simpa using (hnot b hb).2)
end

/-! ### The model -/
theorem Sl.same {α : Type} {enc : α → List Value} {size : Nat} {h h' : Array Obj} {a : Option Addr} {l : Nat} {xs : List α} (hs : Sl enc size h a l xs) (hb : ∀ b o, a = some ⟨b, o, none⟩ → h'[b]? = h[b]?) : Sl enc size h' a l xs := by
  refine ⟨hs.1, hs.2.imp id ?_⟩
  rintro ⟨b, o, ha, hc⟩
  refine ⟨b, o, ha, fun i x hx j v hv => ?_⟩
  have := hc i x hx j v hv
  unfold cellH at this ⊢
  rw [hb b o ha]; exact this

/-- A model of one's own in block m: its system, and what is live. -/
structure Mod (c0 c1 c2 c3 : Int) (ca : Option Addr) (cl cc : Nat) (cls : List Int) (w₀ w : World) (m : Nat) (xs : List Iv) : Prop where
  mg : Mg (cfgL c0 c1 c2 c3 ca cl cc) T_model_Model_model_Model 5 w₀ w m xs
  sl : SlI w.heap ca cl cls
  away : ∀ b o, ca = some ⟨b, o, none⟩ → AwayG (cfgL c0 c1 c2 c3 ca cl cc) T_model_Model_model_Model w m b
  may : mayP c0 c1 c2 c3 cls
  grains : ∀ x ∈ xs, grainP c1 x.1 ∧ x.1 + x.2 ≤ 65536 + 1024 * c1

section
variable {c0 c1 c2 c3 : Int} {ca : Option Addr} {cl cc : Nat} {cls : List Int} {w₀ w : World} {m : Nat} {xs : List Iv}

theorem Mod.cfg (h : Mod c0 c1 c2 c3 ca cl cc cls w₀ w m xs) : Cfg w.heap ca cl cls := ⟨h.sl, by have := h.may.1.2.2; omega⟩
theorem Mod.eff0 {w' : World} (h : Mod c0 c1 c2 c3 ca cl cc cls w₀ w m xs) (hE : Eff w w' []) : Mod c0 c1 c2 c3 ca cl cc cls w₀ w' m xs :=
  ⟨h.mg.eff0 hE, h.sl.eff hE, fun b o hb => (h.away b o hb).eff0 hE, h.may, h.grains⟩
theorem Mod.turn {w' : World} {xs' : List Iv} (h : Mod c0 c1 c2 c3 ca cl cc cls w₀ w m xs) (hm : Mg (cfgL c0 c1 c2 c3 ca cl cc) T_model_Model_model_Model 5 w₀ w' m xs')
    (hk : ∀ b, AwayG (cfgL c0 c1 c2 c3 ca cl cc) T_model_Model_model_Model w m b → AwayG (cfgL c0 c1 c2 c3 ca cl cc) T_model_Model_model_Model w' m b ∧ w'.heap[b]? = w.heap[b]?)
    (hg : ∀ x ∈ xs', grainP c1 x.1 ∧ x.1 + x.2 ≤ 65536 + 1024 * c1) : Mod c0 c1 c2 c3 ca cl cc cls w₀ w' m xs' :=
  ⟨hm, Sl.same h.sl fun b o hb => (hk b (h.away b o hb)).2, fun b o hb => (hk b (h.away b o hb)).1, h.may, hg⟩

theorem Mod.ld {K : Nat → Nat → Int → Int → Int → Int → Option Addr → Nat → Nat → Prop} (h : Mod c0 c1 c2 c3 ca cl cc cls w₀ w m xs) (hK : K m 0 c0 c1 c2 c3 ca cl cc) :
    NN (some ⟨m, 0, none⟩) fun b o => LDi .i64 w ⟨b, o, none⟩ fun n1 => LDi .i64 w ⟨b, o + 1, none⟩ fun n2 => LDi .i64 w ⟨b, o + 2, none⟩ fun n3 => LDi .i64 w ⟨b, o + 3, none⟩ fun n4 => LDl w ⟨b, o + 4, none⟩ fun a l c => K b o n1 n2 n3 n4 a l c := by
  obtain ⟨v, hs, _⟩ := h.mg.ex
  have hb : w.heap[m]? = some (.cells [.int .i64 c0, .int .i64 c1, .int .i64 c2, .int .i64 c3, .slice ca cl cc, v].toArray T_model_Model_model_Model (0, 0)) := hs.cell
  show LDi .i64 w ⟨m, 0, none⟩ _
  rw [LDi_of (n := c0) (cellH_of hb 0)]
  show LDi .i64 w ⟨m, 1, none⟩ _
  rw [LDi_of (n := c1) (cellH_of hb 1)]
  show LDi .i64 w ⟨m, 2, none⟩ _
  rw [LDi_of (n := c2) (cellH_of hb 2)]
  show LDi .i64 w ⟨m, 3, none⟩ _
  rw [LDi_of (n := c3) (cellH_of hb 3)]
  show LDl w ⟨m, 4, none⟩ _
  rw [LDl_of (a := ca) (l := cl) (c := cc) (cellH_of hb 4)]
  exact hK

theorem Mod.keep (h : Mod c0 c1 c2 c3 ca cl cc cls w₀ w m xs) {r : List Fact} (hr : KEEP w r) : KEEP w (Fact.cell ⟨m, 0, none⟩ (.int .i64 c0) :: Fact.cell ⟨m, 0 + 1, none⟩ (.int .i64 c1) :: Fact.cell ⟨m, 0 + 2, none⟩ (.int .i64 c2) :: Fact.cell ⟨m, 0 + 3, none⟩ (.int .i64 c3) :: Fact.cell ⟨m, 0 + 4, none⟩ (.slice ca cl cc) :: r) := by
  obtain ⟨v, hs, _⟩ := h.mg.ex
  have hb : w.heap[m]? = some (.cells [.int .i64 c0, .int .i64 c1, .int .i64 c2, .int .i64 c3, .slice ca cl cc, v].toArray T_model_Model_model_Model (0, 0)) := hs.cell
  exact KEEP_cell (cellH_of hb 0) (KEEP_cell (cellH_of hb 1) (KEEP_cell (cellH_of hb 2) (KEEP_cell (cellH_of hb 3) (KEEP_cell (cellH_of hb 4) hr))))

theorem model_New_spec {ca0 : Option Addr} {cl0 cc0 : Nat} (hc : Cfg w.heap ca0 cl0 cls) (hm : mayP c0 c1 c2 c3 cls) :
    CALL Pg F_model_New [cfgV c0 c1 c2 c3 ca0 cl0 cc0] w fun v w' => ∃ m ca cl cc, v = .pointer (some ⟨m, 0, none⟩) ∧ Mod c0 c1 c2 c3 ca cl cc cls w w' m [] := by
  apply C_model_New
  unfold D_model_New
  have hlen := hm.1.2.2
  intro b1 w1 hE1 hs1 hb1
  rw [LDi_of (cellH_of hb1 0), LDi_of (cellH_of hb1 1), LDi_of (cellH_of hb1 2), LDi_of (cellH_of hb1 3), LDl_of (cellH_of hb1 4)]
  refine (conf_Copy_spec (hc.eff hE1) (by omega)).mono fun v w2 ⟨hE2, a', c', hv, ho, hn⟩ => ?_
  subst hv
  rw [AGG_cfg]
  intro b2 w3 hE3 hs3 hb3
  have hE03 := (hE1.trans0 hE2).trans0 hE3
  have hge : w.heap.size ≤ b2 := Nat.le_trans (hE1.trans0 hE2).size hs3
  refine ⟨b2, a', cls.length, c', rfl, ⟨hE03, ⟨.slice none 0 0, ⟨hb3, nil_ow, by simp [ownL, Value.ownBlock], ?_, by simp, rfl⟩, by simp [ownL, Value.ownBlock]⟩, hge, ?_, ?_⟩, (ho.eff hE3).sl.2, fun b o hb => ?_, hm, by simp⟩
  · intro i j _ hj; simp at hj
  · intro x hx; cases hx
  · intro i j _ hj; simp at hj
  · have hbl : b < w2.heap.size := by
      rcases ho.2 with ⟨h6, _⟩ | ⟨g, cap, cur, h6, _, hg, _⟩
      · injection h6 with q1
        rw [q1] at hb; cases hb
      · injection h6 with q1
        rw [q1] at hb
        simp only [Option.some.injEq, Addr.mk.injEq] at hb
        rw [← hb.1]; exact obj_lt hg
    refine ⟨Nat.lt_of_lt_of_le hbl hE3.size, by omega, .slice none 0 0, hb3, by simp [ownL, Value.ownBlock]⟩
end
end Go.Proofs.Ytpopdookpbmmpaa
