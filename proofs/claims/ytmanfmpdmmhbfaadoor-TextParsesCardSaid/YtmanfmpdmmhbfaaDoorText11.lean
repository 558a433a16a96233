/- The text of a line: what Text answers. -/
import Derived.Test.YtmanfmpdmmhbfaaDoorText10
namespace Go.Proofs.YtmanfmpdmmhbfaaDoor
open Go.Den
set_option maxRecDepth 100000
set_option maxHeartbeats 4000000

theorem rowF_app (a b : List Int) : rowF (a ++ b) = rowF a ++ rowF b := by simp [rowF]
theorem names_len : ∀ k : Nat, k < 11 → (names.getD k []).length ≤ 6 := by decide
theorem kinds_len : ∀ k : Nat, k < 4 → (kinds.getD k []).length ≤ 6 := by decide

theorem raw_one {x : Ln} (h : x.k = 1) : raw x = names.getD 1 [] ++ (rowF [x.c0, x.c1, x.c2, x.c3] ++ rowF x.cls) := by
  unfold raw rawW
  rw [if_pos h, h, ← rowF_app, ← join_row]; rfl
theorem raw_two {x : Ln} (h : x.k = 2) : raw x = names.getD 2 [] ++ (((rowF [x.wk] ++ [32]) ++ kinds.getD x.rk.toNat []) ++ [32]) ++ (if 0 < x.of then [35] ++ Lib.itoa x.of else Lib.itoa x.rn) := by
  unfold raw rawW
  rw [if_neg (by omega), if_pos h, h]
  simp [join, rowF]
theorem raw_three {x : Ln} (h : x.k = 3) : raw x = names.getD 3 [] ++ rowF [x.wk, x.tm] := by
  unfold raw rawW
  rw [if_neg (by omega), if_neg (by omega), if_pos h, h, ← join_row]; rfl
theorem raw_four {x : Ln} (h : x.k = 4) : raw x = names.getD 4 [] ++ rowF [x.tm] := by
  unfold raw rawW
  rw [if_neg (by omega), if_neg (by omega), if_neg (by omega), if_pos h, h, ← join_row]; rfl
theorem raw_five {x : Ln} (h : x.k = 5) : raw x = names.getD 5 [] ++ rowF [x.wk] := by
  unfold raw rawW
  rw [if_neg (by omega), if_neg (by omega), if_neg (by omega), if_neg (by omega), if_pos h, h, ← join_row]; rfl
theorem raw_more {x : Ln} (h : 6 ≤ x.k) : raw x = names.getD x.k.toNat [] := by
  unfold raw rawW
  rw [if_neg (by omega), if_neg (by omega), if_neg (by omega), if_neg (by omega), if_neg (by omega)]; rfl

section
variable {w : World}

theorem ints_one {b : Nat} {t : TypeId} {xs : List Int} (hb : w.heap[b]? = some (.cells (xs.map (Value.int .i64)).toArray t (0, 0))) (hl : xs.length ≤ 1000) : SlI w.heap (some ⟨b, 0, none⟩) xs.length xs := by
  refine sl_one (enc := encI .i64) (t := t) (fun _ => rfl) (by omega) ?_ (by omega)
  rw [hb]
  have : xs.flatMap (encI .i64) = xs.map (Value.int .i64) := by
    clear hb hl
    induction xs with
    | nil => rfl
    | cons x r ih => rw [List.flatMap_cons, ih]; rfl
  rw [this]

theorem Text_spec (hg : Glo w) {x : Ln} {xa : Option Addr} {xl xc : Nat} (hx : LnAt w x xa xl) (hin : inL x) (hl : xl ≤ 60) :
    CALL Pg F_text_Text [lnV x xa xl xc] w fun v w' => Eff w w' [] ∧ v = .string (bs (textF x)) := by
  apply C_text_Text
  unfold D_text_Text
  obtain ⟨r1, r2, r3, r4, r5, r6, r7, r8, r9⟩ := hin
  have hxl := hx.1
  have nokind : ¬ kindP x → textF x = [] := fun h => by unfold textF; rw [if_neg (fun hh => h hh.1)]
  intro b1 w1 hE1 hs1 hb1 w2 hE2 _
  have hb12 := hE2.obj0 hb1
  have hE02 := hE1.trans0 hE2
  rw [LDi_of (cellH_of hb12 0)]
  refine ITE_d (fun h => ⟨hE02, by rw [nokind (fun hk => by unfold kindP at hk; omega)]⟩) (fun h1 => ?_)
  rw [LDi_of (cellH_of hb12 0)]
  refine names_spec.mono fun v w3 ⟨hE3, hv⟩ => ?_
  subst hv
  rw [AGG_names]
  have hE03 := hE02.trans0 hE3
  have hb13 := hE3.obj0 hb12
  refine ⟨KEEP_cell (cellH_of hb13 0) KEEP_nil, ?_⟩
  refine ITE_d (fun h => ⟨hE03, by rw [nokind (fun hk => by unfold kindP at hk; omega)]⟩) (fun h2 => ?_)
  intro w4 hE4 _
  have hb14 := hE4.obj0 hb13
  rw [LDi_of (cellH_of hb14 0)]
  refine names_spec.mono fun v w5 ⟨hE5, hv⟩ => ?_
  subst hv
  rw [AGG_names]
  have hE05 := (hE03.trans0 hE4).trans0 hE5
  have hb15 := hE5.obj0 hb14
  refine ⟨KEEP_cell (cellH_of hb15 0) KEEP_nil, ?_⟩
  refine SILN_name (by omega) (by omega) ?_
  rw [STRV_string]
  have hnl := names_len x.k.toNat (by omega)
  refine ⟨fun vs w' => vs = [.string (bs (raw x)), .string (bs [])] ∧ Eff w w' [] ∧ w'.heap[b1]? = some (.cells (lnL x xa xl xc).toArray T_text_Line_text_Line (0, 0)) ∧ kindP x ∧ (raw x).length ≤ 100000, ?_, ?_⟩
  · refine ⟨fun vs w' => w' = w5 ∧ vs = [.int .i64 x.k], ?_, ?_⟩
    · rw [LDi_of (cellH_of hb15 0)]
      exact ⟨rfl, rfl⟩
    intro w6 v26 ⟨hw, hv⟩
    subst hw
    cases hv
    rw [INTV_int]
    refine ITE_eq (fun hk => ?_) (fun hk1 => ?_)
    · intro w7 hE7 _
      have hb17 := hE7.obj0 hb15
      rw [LDi_of (cellH_of hb17 3), LDi_of (cellH_of hb17 4), LDi_of (cellH_of hb17 5), LDi_of (cellH_of hb17 6), LDl_of (cellH_of hb17 7)]
      intro b2 w8 hE8 hs8 hb8
      have hb18 := hE8.obj0 hb17
      refine ⟨KEEP_cell (cellH_of hb18 7) KEEP_nil, ?_⟩
      have hE08 := (hE05.trans0 hE7).trans0 hE8
      have hr4 : ∀ n ∈ [x.c0, x.c1, x.c2, x.c3], inR n := by
        simp only [List.mem_cons, List.not_mem_nil, or_false]
        rintro n (rfl | rfl | rfl | rfl) <;> assumption
      refine (row_spec (hg.eff hE08) (ints_one (xs := [x.c0, x.c1, x.c2, x.c3]) hb8 (by simp)) hr4 (by simp)).mono fun v w9 ⟨hE9, hv⟩ => ?_
      subst hv
      rw [STRV_string]
      have hb19 := hE9.obj0 hb18
      refine ⟨KEEP_cell (cellH_of hb19 7) KEEP_nil, ?_⟩
      have hE09 := hE08.trans0 hE9
      refine (row_spec (hg.eff hE09) (hx.eff hE09) r7 (by omega)).mono fun v w10 ⟨hE10, hv⟩ => ?_
      subst hv
      rw [STRV_string]
      refine ⟨KEEP_nil, ?_⟩
      have q1 := row_len hr4
      have q2 := row_len r7
      simp only [List.length_cons, List.length_nil] at q1
      refine SILN_sadd (by omega) ?_
      rw [STRV_string]
      refine SILN_sadd (by rw [List.length_append]; omega) ?_
      rw [STRV_string]
      have hraw := raw_one hk
      refine ⟨?_, hE09.trans0 hE10, hE10.obj0 hb19, ⟨by omega, by omega, fun h => by omega⟩, ?_⟩
      · rw [hraw, hk]; rfl
      · rw [hraw, List.length_append, List.length_append]
        have := names_len 1 (by omega)
        omega
    refine ITE_eq (fun hk => ?_) (fun hk2 => ?_)
    · rw [LDi_of (cellH_of hb15 8)]
      refine ITE_d (fun h => ⟨hE05, by rw [nokind (fun hh => by unfold kindP at hh; omega)]⟩) (fun h3 => ?_)
      rw [LDi_of (cellH_of hb15 8)]
      refine ITE_d (fun h => ⟨hE05, by rw [nokind (fun hh => by unfold kindP at hh; omega)]⟩) (fun h4 => ?_)
      intro w11 hE11 _
      have hb111 := hE11.obj0 hb15
      rw [LDi_of (cellH_of hb111 1), LDi_of (cellH_of hb111 8)]
      intro b3 w12 hE12 hs12 hb12'
      have hb112 := hE12.obj0 hb111
      refine ⟨KEEP_cell (cellH_of hb112 8) KEEP_nil, ?_⟩
      have hE012 := (hE05.trans0 hE11).trans0 hE12
      have hr1 : ∀ n ∈ [x.wk], inR n := by
        simp only [List.mem_cons, List.not_mem_nil, or_false]
        rintro n rfl; assumption
      refine (row_spec (hg.eff hE012) (ints_one (xs := [x.wk]) hb12' (by simp)) hr1 (by simp)).mono fun v w13 ⟨hE13, hv⟩ => ?_
      subst hv
      rw [STRV_string]
      have hb113 := hE13.obj0 hb112
      refine ⟨KEEP_cell (cellH_of hb113 8) KEEP_nil, ?_⟩
      have q1 := row_len hr1
      simp only [List.length_cons, List.length_nil] at q1
      refine SILN_sadd (b := [32]) (by simp only [List.length_cons, List.length_nil]; omega) ?_
      rw [STRV_string]
      refine kinds_spec.mono fun v w14 ⟨hE14, hv⟩ => ?_
      subst hv
      rw [AGG_kinds]
      have hb114 := hE14.obj0 hb113
      have hE014 := (hE012.trans0 hE13).trans0 hE14
      refine ⟨KEEP_cell (cellH_of hb114 8) KEEP_nil, ?_⟩
      refine SILN_kind (by omega) (by omega) ?_
      rw [STRV_string]
      have hkl := kinds_len x.rk.toNat (by omega)
      refine SILN_sadd (by simp only [List.length_append, List.length_cons, List.length_nil]; omega) ?_
      rw [STRV_string]
      refine SILN_sadd (b := [32]) (by simp only [List.length_append, List.length_cons, List.length_nil]; omega) ?_
      rw [STRV_string]
      refine SILN_sadd (by simp only [List.length_append, List.length_cons, List.length_nil]; omega) ?_
      rw [STRV_string, LDi_of (cellH_of hb114 10)]
      have hraw := raw_two hk
      have hnl2 := names_len 2 (by omega)
      have hkp : kindP x := ⟨by omega, by omega, fun _ => by omega⟩
      refine ITE_d (fun h5 => ?_) (fun h5 => ?_)
      · rw [LDi_of (cellH_of hb114 10)]
        refine (Itoa_spec (hg.eff hE014) r9).mono fun v w15 ⟨hE15, hv⟩ => ?_
        subst hv
        rw [STRV_string]
        have q2 := itoa_len r9
        refine SILN_sadd (a := [35]) (by simp only [List.length_cons, List.length_nil]; omega) ?_
        rw [STRV_string]
        refine SILN_sadd (by simp only [List.length_append, List.length_cons, List.length_nil]; omega) ?_
        rw [STRV_string]
        rw [if_pos h5] at hraw
        refine ⟨?_, hE014.trans0 hE15, hE15.obj0 hb114, hkp, ?_⟩
        · rw [hraw, hk]; rfl
        · rw [hraw]
          simp only [List.length_append, List.length_cons, List.length_nil]
          omega
      · rw [LDi_of (cellH_of hb114 9)]
        refine (Itoa_spec (hg.eff hE014) r8).mono fun v w16 ⟨hE16, hv⟩ => ?_
        subst hv
        rw [STRV_string]
        have q2 := itoa_len r8
        refine SILN_sadd (by simp only [List.length_append, List.length_cons, List.length_nil]; omega) ?_
        rw [STRV_string]
        rw [if_neg h5] at hraw
        refine ⟨?_, hE014.trans0 hE16, hE16.obj0 hb114, hkp, ?_⟩
        · rw [hraw, hk]; rfl
        · rw [hraw]
          simp only [List.length_append, List.length_cons, List.length_nil]
          omega
    have hkp : kindP x := ⟨by omega, by omega, fun h => absurd h hk2⟩
    refine ITE_eq (fun hk => ?_) (fun hk3 => ?_)
    · rw [LDi_of (cellH_of hb15 1), LDi_of (cellH_of hb15 2)]
      intro b4 w17 hE17 hs17 hb17
      have hE017 := hE05.trans0 hE17
      have hr2 : ∀ n ∈ [x.wk, x.tm], inR n := by
        simp only [List.mem_cons, List.not_mem_nil, or_false]
        rintro n (rfl | rfl) <;> assumption
      refine (row_spec (hg.eff hE017) (ints_one (xs := [x.wk, x.tm]) hb17 (by simp)) hr2 (by simp)).mono fun v w18 ⟨hE18, hv⟩ => ?_
      subst hv
      rw [STRV_string]
      have q1 := row_len hr2
      simp only [List.length_cons, List.length_nil] at q1
      refine SILN_sadd (by omega) ?_
      rw [STRV_string]
      have hraw := raw_three hk
      refine ⟨?_, hE017.trans0 hE18, hE18.obj0 (hE17.obj0 hb15), hkp, ?_⟩
      · rw [hraw, hk]; rfl
      · rw [hraw, List.length_append]
        have := names_len 3 (by omega)
        omega
    refine ITE_eq (fun hk => ?_) (fun hk4 => ?_)
    · rw [LDi_of (cellH_of hb15 2)]
      intro b4 w17 hE17 hs17 hb17
      have hE017 := hE05.trans0 hE17
      have hr2 : ∀ n ∈ [x.tm], inR n := by
        simp only [List.mem_cons, List.not_mem_nil, or_false]
        rintro n rfl; assumption
      refine (row_spec (hg.eff hE017) (ints_one (xs := [x.tm]) hb17 (by simp)) hr2 (by simp)).mono fun v w18 ⟨hE18, hv⟩ => ?_
      subst hv
      rw [STRV_string]
      have q1 := row_len hr2
      simp only [List.length_cons, List.length_nil] at q1
      refine SILN_sadd (by omega) ?_
      rw [STRV_string]
      have hraw := raw_four hk
      refine ⟨?_, hE017.trans0 hE18, hE18.obj0 (hE17.obj0 hb15), hkp, ?_⟩
      · rw [hraw, hk]; rfl
      · rw [hraw, List.length_append]
        have := names_len 4 (by omega)
        omega
    refine ITE_eq (fun hk => ?_) (fun hk5 => ?_)
    · rw [LDi_of (cellH_of hb15 1)]
      intro b4 w17 hE17 hs17 hb17
      have hE017 := hE05.trans0 hE17
      have hr2 : ∀ n ∈ [x.wk], inR n := by
        simp only [List.mem_cons, List.not_mem_nil, or_false]
        rintro n rfl; assumption
      refine (row_spec (hg.eff hE017) (ints_one (xs := [x.wk]) hb17 (by simp)) hr2 (by simp)).mono fun v w18 ⟨hE18, hv⟩ => ?_
      subst hv
      rw [STRV_string]
      have q1 := row_len hr2
      simp only [List.length_cons, List.length_nil] at q1
      refine SILN_sadd (by omega) ?_
      rw [STRV_string]
      have hraw := raw_five hk
      refine ⟨?_, hE017.trans0 hE18, hE18.obj0 (hE17.obj0 hb15), hkp, ?_⟩
      · rw [hraw, hk]; rfl
      · rw [hraw, List.length_append]
        have := names_len 5 (by omega)
        omega
    · have hraw := raw_more (x := x) (by omega)
      exact ⟨by rw [hraw], hE05, hb15, hkp, by rw [hraw]; omega⟩
  · intro w23 v53 v54 ⟨hv, hE23, hb123, hkp, hrl⟩
    simp only [List.cons.injEq, and_true] at hv
    obtain ⟨rfl, rfl⟩ := hv
    rw [STRV_string, STRV_string]
    refine (Parse_spec (hg.eff hE23) (s := bs (raw x)) (by rw [bs_size]; omega)).mono fun v w24 ⟨hE24, y, ya, yl, yc, t, hv, hy, hp⟩ => ?_
    subst hv
    rw [TUP_lnb]
    have hE024 := hE23.trans0 hE24
    intro b7 w25 hE25 hs25 hb25
    refine ST11_of ⟨trivial, trivial, trivial, trivial, trivial, trivial, trivial, trivial, trivial, trivial, trivial⟩ hE25 hs25 hb25 fun w36 hE36 hb736 _ => ?_
    have hE036 := hE024.trans0 hE36
    have hb136 := (hE24.trans0 hE36).obj0 hb123
    have hd : (bs (raw x)).data.toList = raw x := rfl
    unfold ParseP at hp
    rw [hd] at hp
    refine ITE_intro (fun ht => ?_) (fun ht => ?_)
    · refine ⟨hE036, ?_⟩
      rcases hp with ⟨h, _⟩ | ⟨_, h, _⟩
      · rw [h] at ht; cases ht
      · have : textF x = [] := by unfold textF; rw [if_neg (fun hh => by rw [h] at hh; cases hh.2)]
        rw [this]
    · have hpy : parseF (cut (raw x)) = some y := by
        rcases hp with ⟨_, h⟩ | ⟨h, _⟩
        · exact h
        · rw [h] at ht; cases ht
      refine LD11 (x := x) hb136 (LD11 (x := y) hb736 ?_)
      refine (Same_spec (hx.eff hE036) (hy.eff hE36) (by omega)).mono fun v w37 ⟨hE37, hv⟩ => ?_
      subst hv
      rw [BOOLV_bool]
      refine ITE_intro (fun h => ⟨hE036.trans0 hE37, ?_⟩) (fun h => ⟨hE036.trans0 hE37, ?_⟩)
      · have hne : x ≠ y := fun he => by rw [decide_eq_true he] at h; cases h
        have : textF x = [] := by unfold textF; rw [if_neg (fun hh => by rw [hpy] at hh; exact hne (Option.some.inj hh.2).symm)]
        rw [this]
      · have he : x = y := by
          by_cases he : x = y
          · exact he
          · rw [decide_eq_false he] at h; cases h
        have : textF x = raw x := by unfold textF; rw [if_pos ⟨hkp, by rw [hpy, he]⟩]
        rw [this]
end
end Go.Proofs.YtmanfmpdmmhbfaaDoor
