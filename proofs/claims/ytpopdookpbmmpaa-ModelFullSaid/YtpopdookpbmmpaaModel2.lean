/- What a model's functions do. -/
import Derived.Test.YtpopdookpbmmpaaModel1
namespace Go.Proofs.Ytpopdookpbmmpaa
open Go.Den
set_option maxRecDepth 100000
set_option maxHeartbeats 4000000

/-- What is done: 1 an interval more, 2 one less. -/
def Acts (xs : List Iv) (i : Iv) (at_ : Int) : Nat → List Iv → Prop
  | 1, xs' => Fit xs i ∧ ∃ k, Low xs i.1 k ∧ xs' = insL xs i k
  | 2, xs' => ∃ k, k < xs.length ∧ (xs.getD k (0, 0)).1 = at_ ∧ xs' = dropL xs k
  | _, xs' => xs' = xs

def allocV (c1 : Int) (zs : List Iv) (s ac an : Int) : Bool × Nat :=
  if ac ≠ 0 then (decide (ac = 5 ∧ an = 0), 0) else if grainP c1 an ∧ an + s ≤ 65536 + 1024 * c1 ∧ Fit zs (an, s) then (true, 1) else (false, 0)
def freeV (zs : List Iv) (rk rn ac an : Int) : Bool × Nat := match getF zs rn with
  | none => (decide (ac = 4 ∧ an = 0), 0)
  | some i => if ac = 0 ∧ an = i.2 then (true, if rk = 2 then 2 else 0) else (false, 0)

theorem Acts.at_any {xs xs' : List Iv} {i : Iv} {a a' : Int} : ∀ {n : Nat}, n ≤ 1 → Acts xs i a n xs' → Acts xs i a' n xs'
  | 0, _, h => h
  | 1, _, h => h
  | _ + 2, hn, _ => by omega
theorem Acts.iv_any {xs xs' : List Iv} {i i' : Iv} {a : Int} : ∀ {n : Nat}, n ≠ 1 → Acts xs i a n xs' → Acts xs i' a n xs'
  | 0, _, h => h
  | 1, hn, _ => absurd rfl hn
  | 2, _, h => h
  | _ + 3, _, h => h
theorem allocV_le {c1 s ac an : Int} {zs : List Iv} : (allocV c1 zs s ac an).2 ≤ 1 := by
  unfold allocV
  split
  · simp
  · split <;> simp
theorem freeV_ne {zs : List Iv} {rk rn ac an : Int} : (freeV zs rk rn ac an).2 ≠ 1 := by
  unfold freeV
  split
  · simp
  · split
    · split <;> simp
    · simp

theorem pair_eq {a b : Int} {x y : Int} : (a == x && (b == y && true)) = decide (a = x ∧ b = y) := by
  rw [Bool.eq_iff_iff]; simp

section
variable {c0 c1 c2 c3 : Int} {ca : Option Addr} {cl cc : Nat} {cls : List Int} {w₀ w : World} {m : Nat} {xs : List Iv}

/-- Blocks that the model has nothing to do with stay. -/
def Keeps (c0 c1 c2 c3 : Int) (ca : Option Addr) (cl cc : Nat) (w w' : World) (m : Nat) : Prop :=
  ∀ b, AwayG (cfgL c0 c1 c2 c3 ca cl cc) T_model_Model_model_Model w m b → AwayG (cfgL c0 c1 c2 c3 ca cl cc) T_model_Model_model_Model w' m b ∧ w'.heap[b]? = w.heap[b]?

theorem Keeps.of_eff {w' : World} (hE : Eff w w' []) : Keeps c0 c1 c2 c3 ca cl cc w w' m := fun b hb => ⟨hb.eff0 hE, hE.keep b hb.1 (by simp)⟩
theorem Keeps.trans {a b d : World} (h : Keeps c0 c1 c2 c3 ca cl cc a b m) (k : Keeps c0 c1 c2 c3 ca cl cc b d m) : Keeps c0 c1 c2 c3 ca cl cc a d m := fun x hx => by
  obtain ⟨h1, h2⟩ := h x hx
  obtain ⟨h3, h4⟩ := k x h1
  exact ⟨h3, by rw [h4, h2]⟩

theorem alloc_spec (h : Mod c0 c1 c2 c3 ca cl cc cls w₀ w m xs) (hlen : xs.length < 100000000) (x : Int × Int) (ac an : Int) (hs : 0 ≤ thingF c1 cls x ∧ thingF c1 cls x ≤ 65536) :
    CALL Pg F_pmodel_Model_alloc [.pointer (some ⟨m, 0, none⟩), .agg #[.int .i64 x.1, .int .i64 x.2], .agg #[.int .i64 ac, .int .i64 an]] w fun v w' =>
      ∃ xs', v = .bool (allocV c1 xs (thingF c1 cls x) ac an).1 ∧ Mod c0 c1 c2 c3 ca cl cc cls w₀ w' m xs' ∧ Keeps c0 c1 c2 c3 ca cl cc w w' m ∧ Acts xs (an, thingF c1 cls x) 0 (allocV c1 xs (thingF c1 cls x) ac an).2 xs' := by
  apply C_pmodel_Model_alloc
  unfold D_pmodel_Model_alloc
  have hsup := h.may.sup
  generalize hsz : thingF c1 cls x = s at *
  intro b1 w1 hE1 hs1 hb1 b2 w2 hE2 hs2 hb2
  have hE02 := hE1.trans0 hE2
  have hb12 := hE2.obj0 hb1
  have stay : ∀ (w' : World) (t : Bool), Eff w w' [] → allocV c1 xs s ac an = (t, 0) → ∃ xs', Value.bool t = .bool (allocV c1 xs s ac an).1 ∧ Mod c0 c1 c2 c3 ca cl cc cls w₀ w' m xs' ∧ Keeps c0 c1 c2 c3 ca cl cc w w' m ∧ Acts xs (an, s) 0 (allocV c1 xs s ac an).2 xs' :=
    fun w' t hE' ht => ⟨xs, by rw [ht], h.eff0 hE', .of_eff hE', by rw [ht]; rfl⟩
  rw [LDi_of (cellH_of hb2 0)]
  refine ITE_eq (fun h1 => ?_) (fun h1 => ?_)
  · rw [LDi_of (cellH_of hb2 1)]
    refine stay w2 _ hE02 ?_
    unfold allocV
    rw [if_pos (by omega)]
    congr 1
    rw [Bool.eq_iff_iff]; simp [h1]
  rw [LDi_of (cellH_of hb2 0)]
  refine ITE_ne (fun h2 => stay w2 _ hE02 ?_) (fun h2 => ?_)
  · unfold allocV
    rw [if_pos h2, decide_eq_false (by omega)]
  subst h2
  refine ⟨fun vs w' => ∃ b4, vs = [.pointer (some ⟨b4, 0, none⟩)] ∧ Eff w w' [] ∧ w'.heap[b4]? = some (.cells [.int .i64 an, .int .i64 s].toArray T_api_Interval_api_Interval (0, 0)), ?_, ?_⟩
  · intro w3 hE3 _
    have hE03 := hE02.trans0 hE3
    have hb13 := hE3.obj0 hb12
    have hb23 := hE3.obj0 hb2
    have h3 := h.eff0 hE03
    rw [LDi_of (cellH_of hb23 1), LDi_of (cellH_of hb13 0), LDi_of (cellH_of hb13 1)]
    refine h3.ld ?_
    refine ⟨?_, fun b5 w8 hE8 hs8 hb8 => ⟨?_, ?_⟩⟩
    · refine (live_Size_spec h3.cfg h3.may x).mono fun v w4 ⟨hE4, hv⟩ => ?_
      subst hv
      rw [INTV_int, hsz]
      have hE04 := hE03.trans0 hE4
      refine ⟨KEEP_cell (cellH_of (hE4.obj0 hb23) 1) KEEP_nil, fun b4 w5 hE5 hs5 hb5 => ⟨KEEP_cell (cellH_of (hE5.obj0 (hE4.obj0 hb23)) 1) KEEP_nil, ?_⟩⟩
      exact ST2_of trivial trivial hE5 hs5 hb5 fun w7 hE7 hb7 _ => ⟨KEEP_nil, b4, rfl, hE04.trans0 hE7, hb7⟩
    · exact KEEP_cell (cellH_of (hE8.obj0 hb23) 1) (KEEP_cell (cellH_of (hE8.obj0 hb13) 0) (KEEP_cell (cellH_of (hE8.obj0 hb13) 1) ((h3.eff0 hE8).keep KEEP_nil)))
    · have h8 := h3.eff0 hE8
      refine (live_Size_spec h8.cfg h8.may x).mono fun v w9 ⟨hE9, hv⟩ => ?_
      subst hv
      rw [INTV_int, hsz]
      refine ⟨KEEP_cell (cellH_of (hE9.obj0 (hE8.obj0 hb23)) 1) KEEP_nil, ?_⟩
      exact ST2_of (hE8.trans0 hE9 |> fun hE => trivial) trivial (hE8.trans0 hE9) hs8 (hE9.obj0 hb8) fun w11 hE11 hb11 _ => ⟨KEEP_nil, b5, rfl, hE03.trans0 hE11, hb11⟩
  intro w12 v3 ⟨b4, hv, hE12, hb4⟩
  cases hv
  rw [PTRV_pointer]
  intro w13 hE13 _
  have hE013 := hE12.trans0 hE13
  have h13 := h.eff0 hE013
  refine h13.ld ?_
  have hb413 := hE13.obj0 hb4
  rw [NNp, LDi_of (cellH_of hb413 0)]
  refine (arena_Place_spec (c0 := c0) (c2 := c2) (c3 := c3) (a := ca) (l := cl) (c := cc) (by omega) (by omega) an).mono fun v w14 ⟨hE14, hv⟩ => ?_
  subst hv
  rw [TUP_iib, placeF_grain]
  have hE014 := hE013.trans0 hE14
  have hb414 := hE14.obj0 hb413
  refine ⟨KEEP_nil, fun vs w' => vs = [.bool (decide (¬ (grainP c1 an ∧ an + s ≤ 65536 + 1024 * c1)))] ∧ Eff w w' [] ∧ w'.heap[b4]? = some (.cells [.int .i64 an, .int .i64 s].toArray T_api_Interval_api_Interval (0, 0)), ?_, ?_⟩
  · intro w15 hE15 _
    have hE015 := hE014.trans0 hE15
    have hb415 := hE15.obj0 hb414
    refine ITE_intro (fun h5 => ?_) (fun h5 => ?_)
    · have hg : ¬ grainP c1 an := by simpa using h5
      exact ⟨by rw [decide_eq_true (show ¬ (grainP c1 an ∧ an + s ≤ 65536 + 1024 * c1) from fun h => hg h.1)], hE015, hb415⟩
    · have hg : grainP c1 an := by simpa using h5
      have hg2 := hg
      unfold grainP at hg2
      rw [NNp, LDi_of (cellH_of hb415 0), NNp]
      rw [LDi_of (n := s) (cellH_of hb415 1)]
      refine BINDw (by omega) (by omega) ((h.eff0 hE015).ld ?_)
      refine (arena_End_spec (c0 := c0) (c1 := c1) (c2 := c2) (c3 := c3) (a := ca) (l := cl) (c := cc)).mono fun v w16 ⟨hE16, hv⟩ => ?_
      subst hv
      rw [INTV_int, wrap_i64 (x := c1 * 1024) (by omega) (by omega), wrap_i64 (by omega) (by omega)]
      have hb416 := hE16.obj0 hb415
      refine ⟨KEEP_cell (cellH_of hb416 0) (KEEP_cell (cellH_of hb416 1) KEEP_nil), ?_, hE015.trans0 hE16, hb416⟩
      rw [decide_eq_decide.2 (show an + s > 65536 + c1 * 1024 ↔ ¬ (grainP c1 an ∧ an + s ≤ 65536 + 1024 * c1) from ⟨fun h1 h2 => by omega, fun h1 => by
        by_cases h2 : an + s > 65536 + c1 * 1024
        · exact h2
        · exact absurd ⟨hg, by omega⟩ h1⟩)]
  · intro w17 v9 ⟨hv, hE17, hb417⟩
    cases hv
    rw [BOOLV_bool]
    refine ITE_d (fun h5 => stay w17 _ hE17 ?_) (fun h5 => ?_)
    · unfold allocV
      rw [if_neg (by simp), if_neg (fun h => h5 ⟨h.1, h.2.1⟩)]
    have h5 : grainP c1 an ∧ an + s ≤ 65536 + 1024 * c1 := by
      by_cases h6 : grainP c1 an ∧ an + s ≤ 65536 + 1024 * c1
      · exact h6
      · exact absurd h6 h5
    intro w18 hE18 _
    have hE018 := hE17.trans0 hE18
    have h18 := h.eff0 hE018
    have hb418 := hE18.obj0 hb417
    rw [NNp, NNp, LDi_of (cellH_of hb418 0), LDi_of (n := s) (cellH_of hb418 1)]
    refine (Mg.putA (i := (an, s)) h18.mg (by omega)).mono fun u w19 ⟨xs', hm19, hk19, hr⟩ => ?_
    have hK : Keeps c0 c1 c2 c3 ca cl cc w w19 m := (Keeps.of_eff hE018).trans hk19
    rcases hr with ⟨hf, rfl, rfl⟩ | ⟨hf, rfl, k, hk, rfl⟩
    · rw [BOOLV_bool]
      have e : allocV c1 xs' s 0 an = (false, 0) := by
        unfold allocV
        rw [if_neg (by simp), if_neg (fun h => hf h.2.2)]
      exact ⟨KEEP_nil, xs', by rw [e], h18.turn hm19 hk19 h18.grains, hK, by rw [e]; rfl⟩
    · rw [BOOLV_bool]
      have e : allocV c1 xs s 0 an = (true, 1) := by
        unfold allocV
        rw [if_neg (by simp), if_pos ⟨h5.1, h5.2, hf⟩]
      refine ⟨KEEP_nil, _, by rw [e], h18.turn hm19 hk19 (fun y hy => ?_), hK, by rw [e]; exact ⟨hf, k, hk, rfl⟩⟩
      unfold insL at hy
      rw [List.mem_append, List.mem_cons] at hy
      rcases hy with h6 | rfl | h6
      · exact h.grains y (List.mem_of_mem_take h6)
      · exact ⟨h5.1, h5.2⟩
      · exact h.grains y (List.mem_of_mem_drop h6)

theorem free_spec (h : Mod c0 c1 c2 c3 ca cl cc cls w₀ w m xs) (rk rn ac an : Int) :
    CALL Pg F_pmodel_Model_free [.pointer (some ⟨m, 0, none⟩), .agg #[.int .i64 rk, .int .i64 rn], .agg #[.int .i64 ac, .int .i64 an]] w fun v w' =>
      ∃ xs', v = .bool (freeV xs rk rn ac an).1 ∧ Mod c0 c1 c2 c3 ca cl cc cls w₀ w' m xs' ∧ Keeps c0 c1 c2 c3 ca cl cc w w' m ∧ Acts xs (0, 0) rn (freeV xs rk rn ac an).2 xs' := by
  apply C_pmodel_Model_free
  unfold D_pmodel_Model_free
  intro b1 w1 hE1 hs1 hb1 b2 w2 hE2 hs2 hb2
  have hE02 := hE1.trans0 hE2
  have hb12 := hE2.obj0 hb1
  have stay : ∀ (w' : World) (t : Bool), Eff w w' [] → freeV xs rk rn ac an = (t, 0) → ∃ xs', Value.bool t = .bool (freeV xs rk rn ac an).1 ∧ Mod c0 c1 c2 c3 ca cl cc cls w₀ w' m xs' ∧ Keeps c0 c1 c2 c3 ca cl cc w w' m ∧ Acts xs (0, 0) rn (freeV xs rk rn ac an).2 xs' :=
    fun w' t hE' ht => ⟨xs, by rw [ht], h.eff0 hE', .of_eff hE', by rw [ht]; rfl⟩
  refine ⟨fun vs w' => ∃ b4, vs = [.pointer (some ⟨b4, 0, none⟩), .bool (getF xs rn).isSome] ∧ Eff w2 w' [] ∧ w'.heap[b4]? = some (.cells [.int .i64 ((getF xs rn).getD (0, 0)).1, .int .i64 ((getF xs rn).getD (0, 0)).2].toArray T_api_Interval_api_Interval (0, 0)), ?_, ?_⟩
  · intro w3 hE3 _
    have h3 := h.eff0 (hE02.trans0 hE3)
    have hb13 := hE3.obj0 hb12
    rw [NNp, LDi_of (cellH_of hb13 1)]
    refine ⟨?_, fun b5 w8 hE8 hs8 hb8 => ⟨KEEP_cell (cellH_of (hE8.obj0 hb13) 1) KEEP_nil, ?_⟩⟩
    · obtain ⟨v, hs, _⟩ := h3.mg.ex
      refine (Get_specG hs rn).mono fun v w4 ⟨hE4, hv⟩ => ?_
      subst hv
      rw [TUP_aiib]
      refine ⟨KEEP_nil, fun b4 w5 hE5 hs5 hb5 => ⟨KEEP_nil, ?_⟩⟩
      exact ST2_of trivial trivial hE5 hs5 hb5 fun w7 hE7 hb7 _ => ⟨KEEP_nil, b4, rfl, (hE3.trans0 hE4).trans0 hE7, hb7⟩
    · obtain ⟨v, hs, _⟩ := (h3.eff0 hE8).mg.ex
      refine (Get_specG hs rn).mono fun v w9 ⟨hE9, hv⟩ => ?_
      subst hv
      rw [TUP_aiib]
      refine ⟨KEEP_nil, ?_⟩
      exact ST2_of trivial trivial (hE8.trans0 hE9) hs8 (hE9.obj0 hb8) fun w11 hE11 hb11 _ => ⟨KEEP_nil, b5, rfl, hE3.trans0 hE11, hb11⟩
  intro w12 v11 v12 ⟨b4, hv, hE12, hb4⟩
  simp only [List.cons.injEq, and_true] at hv
  obtain ⟨rfl, rfl⟩ := hv
  rw [BOOLV_bool, PTRV_pointer]
  have hE012 := hE02.trans0 hE12
  have hb112 := hE12.obj0 hb12
  have hb212 := hE12.obj0 hb2
  rcases hg : getF xs rn with _ | i
  · refine ITE_intro (fun _ => ?_) (fun h => by cases h)
    rw [LDi_of (cellH_of hb212 0), LDi_of (cellH_of hb212 1), pair_eq]
    refine stay w12 _ hE012 ?_
    unfold freeV
    rw [hg]
  · rw [hg] at hb4
    refine ITE_intro (fun h => by cases h) (fun _ => ?_)
    rw [LDi_of (cellH_of hb212 0), LDi_of (cellH_of hb212 1), NNp, LDi_of (n := i.2) (cellH_of hb4 1), pair_eq]
    by_cases hok : ac = 0 ∧ an = i.2
    · have e : freeV xs rk rn ac an = (true, if rk = 2 then 2 else 0) := by
        unfold freeV
        rw [hg]
        dsimp only
        rw [if_pos hok]
      refine ITE_intro (fun h => by simp [hok] at h) (fun _ => ?_)
      rw [LDi_of (cellH_of hb112 0)]
      refine ITE_eq (fun h2 => ?_) (fun h2 => ?_)
      · intro w13 hE13 _
        have hE013 := hE012.trans0 hE13
        have h13 := h.eff0 hE013
        rw [NNp, LDi_of (cellH_of (hE13.obj0 hb112) 1)]
        refine (Mg.dropA h13.mg rn).mono fun u w14 ⟨xs', hm14, hk14, hr⟩ => ?_
        rcases hr with ⟨hn, _⟩ | ⟨k, hk, hk1, _, rfl, rfl⟩
        · rw [hg] at hn; cases hn
        · rw [TUP_aiib]
          refine ⟨KEEP_nil, _, by rw [e], h13.turn hm14 hk14 (fun y hy => ?_), (Keeps.of_eff hE013).trans hk14, by rw [e, if_pos h2]; exact ⟨k, hk, hk1, rfl⟩⟩
          unfold dropL at hy
          rcases List.mem_append.1 hy with h6 | h6
          · exact h.grains y (List.mem_of_mem_take h6)
          · exact h.grains y (List.mem_of_mem_drop h6)
      · exact stay w12 _ hE012 (by rw [e, if_neg h2])
    · refine ITE_intro (fun _ => stay w12 _ hE012 ?_) (fun h => by simp at h; exact absurd h hok)
      unfold freeV
      rw [hg]
      dsimp only
      rw [if_neg hok]

theorem Do_spec (h : Mod c0 c1 c2 c3 ca cl cc cls w₀ w m xs) (hlen : xs.length < 100000000) (rk rn ac an : Int) :
    CALL Pg F_pmodel_Model_Do [.pointer (some ⟨m, 0, none⟩), .agg #[.int .i64 rk, .int .i64 rn], .agg #[.int .i64 ac, .int .i64 an]] w fun v w' =>
      ∃ xs', v = .bool (verdict c1 cls xs rk rn ac an).1 ∧ Mod c0 c1 c2 c3 ca cl cc cls w₀ w' m xs' ∧ Keeps c0 c1 c2 c3 ca cl cc w w' m ∧ Acts xs (an, sizeF c1 cls rn) rn (verdict c1 cls xs rk rn ac an).2 xs' := by
  apply C_pmodel_Model_Do
  unfold D_pmodel_Model_Do
  intro b1 w1 hE1 hs1 hb1 b2 w2 hE2 hs2 hb2
  have hE02 := hE1.trans0 hE2
  have hb12 := hE2.obj0 hb1
  obtain ⟨X, hX⟩ : ∃ X, X = chkF c1 cls rk rn := ⟨_, rfl⟩
  refine ⟨fun vs w' => ∃ b4, vs = [.pointer (some ⟨b4, 0, none⟩), .int .i64 X.2] ∧ Eff w2 w' [] ∧ w'.heap[b4]? = some (.cells [.int .i64 X.1.1, .int .i64 X.1.2].toArray T_live_Thing_live_Thing (0, 0)), ?_, ?_⟩
  · intro w3 hE3 _
    have h3 := h.eff0 (hE02.trans0 hE3)
    have hb13 := hE3.obj0 hb12
    refine h3.ld ?_
    rw [LDi_of (cellH_of hb13 0), LDi_of (cellH_of hb13 1)]
    refine ⟨?_, fun b5 w8 hE8 hs8 hb8 => ⟨(h3.eff0 hE8).keep (KEEP_cell (cellH_of (hE8.obj0 hb13) 0) (KEEP_cell (cellH_of (hE8.obj0 hb13) 1) KEEP_nil)), ?_⟩⟩
    · refine (ask_Check_spec h3.cfg h3.may rk rn).mono fun v w4 ⟨hE4, hv⟩ => ?_
      subst hv
      rw [TUP_iic, ← hX]
      refine ⟨KEEP_nil, fun b4 w5 hE5 hs5 hb5 => ⟨KEEP_nil, ?_⟩⟩
      exact ST2_of trivial trivial hE5 hs5 hb5 fun w7 hE7 hb7 _ => ⟨KEEP_nil, b4, rfl, (hE3.trans0 hE4).trans0 hE7, hb7⟩
    · have h8 := h3.eff0 hE8
      refine (ask_Check_spec h8.cfg h8.may rk rn).mono fun v w9 ⟨hE9, hv⟩ => ?_
      subst hv
      rw [TUP_iic, ← hX]
      refine ⟨KEEP_nil, ?_⟩
      exact ST2_of trivial trivial (hE8.trans0 hE9) hs8 (hE9.obj0 hb8) fun w11 hE11 hb11 _ => ⟨KEEP_nil, b5, rfl, hE3.trans0 hE11, hb11⟩
  intro w12 v11 v12 ⟨b4, hv, hE12, hb4⟩
  simp only [List.cons.injEq, and_true] at hv
  obtain ⟨rfl, rfl⟩ := hv
  rw [INTV_int, PTRV_pointer]
  have hE012 := hE02.trans0 hE12
  have hb112 := hE12.obj0 hb12
  have hb212 := hE12.obj0 hb2
  have h12 := h.eff0 hE012
  have stay : ∀ t : Bool, verdict c1 cls xs rk rn ac an = (t, 0) → ∃ xs', Value.bool t = .bool (verdict c1 cls xs rk rn ac an).1 ∧ Mod c0 c1 c2 c3 ca cl cc cls w₀ w12 m xs' ∧ Keeps c0 c1 c2 c3 ca cl cc w w12 m ∧ Acts xs (an, sizeF c1 cls rn) rn (verdict c1 cls xs rk rn ac an).2 xs' :=
    fun t ht => ⟨xs, by rw [ht], h12, .of_eff hE012, by rw [ht]; rfl⟩
  have hszl := sizeF_le h.may rn
  refine ITE_ne (fun h1 => ?_) (fun h1 => ?_)
  · rw [LDi_of (cellH_of hb212 0), LDi_of (cellH_of hb212 1), pair_eq]
    refine stay _ ?_
    by_cases hk1 : rk = 1
    · subst hk1
      rcases chk_size h.may rn with ⟨q, _, _⟩ | ⟨q1, q2⟩
      · rw [hX] at h1; exact absurd q h1
      · unfold verdict
        rw [if_pos rfl, if_pos q2, hX, q1]
    · by_cases hk2 : rk = 2 ∨ rk = 3
      · have e : chkF c1 cls rk rn = if grainP c1 rn then ((0, 0), 0) else ((0, 0), 4) := by
          unfold chkF; rw [if_neg hk1, if_pos hk2]
        by_cases hg : grainP c1 rn
        · rw [hX, e, if_pos hg] at h1; exact absurd rfl h1
        · have hn : getF xs rn = none := by
            unfold getF
            rw [List.find?_eq_none]
            intro y hy
            have := (h.grains y hy).1
            simp only [beq_iff_eq]
            intro hy1
            rw [hy1] at this
            exact hg this
          unfold verdict
          rw [if_neg hk1, if_pos hk2, hn, hX, e, if_neg hg]
      · have e : chkF c1 cls rk rn = ((0, 0), 2) := by
          unfold chkF; rw [if_neg hk1, if_neg hk2]
        unfold verdict
        rw [if_neg hk1, if_neg hk2, hX, e]
  · rw [LDi_of (cellH_of hb112 0)]
    refine ITE_eq (fun h2 => ?_) (fun h2 => ?_)
    · subst h2
      rcases chk_size h.may rn with ⟨_, q1, q2⟩ | ⟨q1, q2⟩
      · rw [NNp, LDi_of (cellH_of hb4 0), LDi_of (n := X.1.2) (cellH_of hb4 1), LDi_of (cellH_of hb212 0), LDi_of (cellH_of hb212 1)]
        rw [← hX] at q1
        refine (alloc_spec h12 hlen X.1 ac an (by rw [q1]; omega)).mono fun v w13 ⟨xs', hv, hm, hk, ha⟩ => ?_
        subst hv
        rw [BOOLV_bool]
        have e : verdict c1 cls xs 1 rn ac an = allocV c1 xs (sizeF c1 cls rn) ac an := by
          unfold verdict allocV
          rw [if_pos rfl, if_neg q2]
        rw [q1] at ha ⊢
        rw [e]
        exact ⟨xs', rfl, hm, (Keeps.of_eff hE012).trans hk, ha.at_any allocV_le⟩
      · rw [hX, q1] at h1; cases h1
    · rw [LDi_of (cellH_of hb112 0), LDi_of (cellH_of hb112 1), LDi_of (cellH_of hb212 0), LDi_of (cellH_of hb212 1)]
      refine (free_spec h12 rk rn ac an).mono fun v w14 ⟨xs', hv, hm, hk, ha⟩ => ?_
      subst hv
      rw [BOOLV_bool]
      have hk2 : rk = 2 ∨ rk = 3 := by
        by_cases hk2 : rk = 2 ∨ rk = 3
        · exact hk2
        · have e : chkF c1 cls rk rn = ((0, 0), 2) := by
            unfold chkF; rw [if_neg h2, if_neg hk2]
          rw [hX, e] at h1; cases h1
      have e : verdict c1 cls xs rk rn ac an = freeV xs rk rn ac an := by
        unfold verdict freeV
        rw [if_neg h2, if_pos hk2]
        cases getF xs rn <;> rfl
      rw [e]
      exact ⟨xs', rfl, hm, (Keeps.of_eff hE012).trans hk, ha.iv_any freeV_ne⟩

theorem Live_spec (h : Mod c0 c1 c2 c3 ca cl cc cls w₀ w m xs) : CALL Pg F_pmodel_Model_Live [.pointer (some ⟨m, 0, none⟩)] w fun u w' => Eff w w' [] ∧ (∃ a' c', u = .slice a' xs.length c') ∧ Ow w' u xs ∧
    (∀ b ∈ ownL u, w.heap.size ≤ b) ∧ WasG (cfgL c0 c1 c2 c3 ca cl cc) T_model_Model_model_Model w' m u xs := by
  apply C_pmodel_Model_Live
  unfold D_pmodel_Model_Live
  obtain ⟨v, hs, _⟩ := h.mg.ex
  rw [NNp]
  refine (All_specG hs).mono fun u w1 ⟨hE, ⟨a', c', hu⟩, ho, hn⟩ => ?_
  subst hu
  rw [SLV_slice]
  exact ⟨hE, ⟨a', c', rfl⟩, ho, hn, ho, fun b hb => h.mg.away hE (hn b hb) (own_lt ho b hb)⟩

theorem Bytes_specM (h : Mod c0 c1 c2 c3 ca cl cc cls w₀ w m xs) (hn : xs.length ≤ 1000000) : CALL Pg F_pmodel_Model_Bytes [.pointer (some ⟨m, 0, none⟩)] w fun u w' => Eff w w' [] ∧ u = .int .i64 (sumF xs) := by
  apply C_pmodel_Model_Bytes
  unfold D_pmodel_Model_Bytes
  obtain ⟨v, hs, _⟩ := h.mg.ex
  rw [NNp]
  refine (Bytes_specG hs (fun x hx => (h.mg.rng x hx).2) hn).mono fun u w1 ⟨hE, hu⟩ => ?_
  subst hu
  rw [INTV_int]
  exact ⟨hE, rfl⟩
end
end Go.Proofs.Ytpopdookpbmmpaa
