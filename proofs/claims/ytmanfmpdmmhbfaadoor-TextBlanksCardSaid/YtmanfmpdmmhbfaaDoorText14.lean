/- The laws TextBack and TextEnds. -/
import Derived.Test.YtmanfmpdmmhbfaaDoorText12
namespace Go.Proofs.YtmanfmpdmmhbfaaDoor
open Go.Den
set_option maxRecDepth 100000
set_option maxHeartbeats 4000000

theorem raw_len {x : Ln} (hin : inL x) (hl : x.cls.length ≤ 60) (hk : kindP x) : (raw x).length ≤ 100000 := by
  obtain ⟨r1, r2, r3, r4, r5, r6, r7, r8, r9⟩ := hin
  unfold kindP at hk
  have hn := names_len x.k.toNat (by omega)
  by_cases h1 : x.k = 1
  · rw [raw_one h1]
    have q1 := row_len (ns := [x.c0, x.c1, x.c2, x.c3]) (by simp only [List.mem_cons, List.not_mem_nil, or_false]; rintro n (rfl | rfl | rfl | rfl) <;> assumption)
    have q2 := row_len r7
    have q3 := names_len 1 (by omega)
    simp only [List.length_append, List.length_cons, List.length_nil] at *
    omega
  by_cases h2 : x.k = 2
  · rw [raw_two h2]
    have q1 := row_len (ns := [x.wk]) (by simp only [List.mem_cons, List.not_mem_nil, or_false]; rintro n rfl; assumption)
    have q2 := kinds_len x.rk.toNat (by omega)
    have q3 := names_len 2 (by omega)
    have q4 := itoa_len r8
    have q5 := itoa_len r9
    split
    · simp only [List.length_append, List.length_cons, List.length_nil] at *
      omega
    · simp only [List.length_append, List.length_cons, List.length_nil] at *
      omega
  by_cases h3 : x.k = 3
  · rw [raw_three h3]
    have q1 := row_len (ns := [x.wk, x.tm]) (by simp only [List.mem_cons, List.not_mem_nil, or_false]; rintro n (rfl | rfl) <;> assumption)
    have q3 := names_len 3 (by omega)
    simp only [List.length_append, List.length_cons, List.length_nil] at *
    omega
  by_cases h4 : x.k = 4
  · rw [raw_four h4]
    have q1 := row_len (ns := [x.tm]) (by simp only [List.mem_cons, List.not_mem_nil, or_false]; rintro n rfl; assumption)
    have q3 := names_len 4 (by omega)
    simp only [List.length_append, List.length_cons, List.length_nil] at *
    omega
  by_cases h5 : x.k = 5
  · rw [raw_five h5]
    have q1 := row_len (ns := [x.wk]) (by simp only [List.mem_cons, List.not_mem_nil, or_false]; rintro n rfl; assumption)
    have q3 := names_len 5 (by omega)
    simp only [List.length_append, List.length_cons, List.length_nil] at *
    omega
  · rw [raw_more (by omega)]
    omega

theorem text_len {x : Ln} (hin : inL x) (hl : x.cls.length ≤ 60) : (textF x).length ≤ 100000 := by
  unfold textF
  split
  · rename_i h
    exact raw_len hin hl h.1
  · simp

theorem bs_nil (l : Str) : (bs l == { data := #[] }) = decide (l = []) := bs_beq l _

section
variable {w : World} {x y : Ln} {xa ya : Option Addr} {xl yl xc yc : Nat}

theorem TextBack_spec (hg : Glo w) (hx : LnAt w x xa xl) (hin : inL x) : CALL Pg F_l25_TextBack [lnV x xa xl xc] w fun v w' => Eff w w' [] ∧ v = .bool true := by
  apply C_l25_TextBack
  unfold D_l25_TextBack
  have hxl := hx.1
  intro b1 w1 hE1 hs1 hb1
  refine (speaks_spec (hg.eff hE1)).mono fun v w2 ⟨hE2, hv⟩ => ?_
  subst hv
  have hE02 := hE1.trans0 hE2
  have hb12 := hE2.obj0 hb1
  rw [BOOLV_bool]
  refine ITE_intro (fun h => by cases h) (fun _ => ?_)
  rw [LDl_of (cellH_of hb12 7)]
  refine ITE_d (fun _ => ⟨hE02, rfl⟩) (fun hl => ?_)
  refine LD11 (x := x) hb12 ?_
  refine (Text_spec (hg.eff hE02) (hx.eff hE02) hin (by omega)).mono fun v w3 ⟨hE3, hv⟩ => ?_
  subst hv
  rw [STRV_string, bs_nil]
  have hE03 := hE02.trans0 hE3
  have hb13 := hE3.obj0 hb12
  refine ITE_d (fun h => ?_) (fun h => ?_)
  · refine LD11 (x := x) hb13 ?_
    refine (may_spec (hx.eff hE03) (by omega)).mono fun v w4 ⟨hE4, hv⟩ => ?_
    subst hv
    rw [BOOLV_bool]
    exact ⟨hE03.trans0 hE4, by rw [decide_eq_false (textF_nil hin h)]; rfl⟩
  · obtain ⟨_, hp0, hm⟩ := textF_some h
    have hlen := text_len hin (by omega)
    refine (Parse_spec (hg.eff hE03) (s := bs (textF x)) (by rw [bs_size]; omega)).mono fun v w5 ⟨hE5, y, ya, yl, yc, t, hv, hy, hp⟩ => ?_
    subst hv
    have hd : (bs (textF x)).data.toList = textF x := rfl
    unfold ParseP at hp
    rw [hd, hp0] at hp
    obtain ⟨rfl, rfl⟩ : t = true ∧ y = x := by
      rcases hp with ⟨h1, h2⟩ | ⟨_, h2, _⟩
      · exact ⟨h1, (Option.some.inj h2).symm⟩
      · cases h2
    rw [TUP_lnb]
    intro b2 w6 hE6 hs6 hb6
    refine ST11_of ⟨trivial, trivial, trivial, trivial, trivial, trivial, trivial, trivial, trivial, trivial, trivial⟩ hE6 hs6 hb6 fun w17 hE17 hb217 _ => ?_
    have hE017 := (hE03.trans0 hE5).trans0 hE17
    have hb117 := (hE5.trans0 hE17).obj0 hb13
    refine ⟨fun vs w' => Eff w w' [] ∧ vs = [.bool true], ?_, ?_⟩
    · refine ITE_intro (fun _ => ?_) (fun h => by cases h)
      refine LD11 (x := y) hb117 (LD11 (x := y) hb217 ?_)
      refine (same_spec (hx.eff hE017) (hy.eff hE17) (by omega)).mono fun v w18 ⟨hE18, hv⟩ => ?_
      subst hv
      rw [BOOLV_bool, decide_eq_true rfl, ITE_true]
      have hE018 := hE017.trans0 hE18
      refine LD11 (x := y) (hE18.obj0 hb117) ?_
      refine (may_spec (hx.eff hE018) (by omega)).mono fun v w19 ⟨hE19, hv⟩ => ?_
      subst hv
      rw [BOOLV_bool]
      exact ⟨hE018.trans0 hE19, by rw [decide_eq_true hm]⟩
    · intro w20 v20 ⟨hE, hv⟩
      cases hv
      rw [BOOLV_bool]
      exact ⟨hE, rfl⟩

theorem TextEnds_spec (hg : Glo w) (hx : LnAt w x xa xl) (hin : inL x) (more : ByteArray) : CALL Pg F_l25_TextEnds [lnV x xa xl xc, .string more] w fun v w' => Eff w w' [] ∧ v = .bool true := by
  apply C_l25_TextEnds
  unfold D_l25_TextEnds
  have hxl := hx.1
  intro b1 w1 hE1 hs1 hb1
  refine (speaks_spec (hg.eff hE1)).mono fun v w2 ⟨hE2, hv⟩ => ?_
  subst hv
  have hE02 := hE1.trans0 hE2
  have hb12 := hE2.obj0 hb1
  rw [BOOLV_bool]
  refine ITE_intro (fun h => by cases h) (fun _ => ?_)
  refine ⟨fun vs w' => w' = w2 ∧ vs = [.bool false] ∧ xl ≤ 60 ∧ more.size ≤ 100, ⟨fun vs w' => w' = w2 ∧ vs = [.bool (decide (60 < xl ∨ 100 < more.size))], ?_, ?_⟩, ?_⟩
  · rw [LDl_of (cellH_of hb12 7)]
    refine ITE_d (fun h => ⟨rfl, by rw [decide_eq_true (.inl (by omega))]⟩) (fun h => ⟨rfl, ?_⟩)
    rw [decide_eq_decide.2 (show (more.size : Int) > 100 ↔ (60 < xl ∨ 100 < more.size) by omega)]
  · intro w3 v2 ⟨hw, hv⟩
    subst hw
    cases hv
    rw [BOOLV_bool]
    exact ITE_d (fun _ => ⟨hE02, rfl⟩) (fun h => ⟨rfl, rfl, by omega, by omega⟩)
  intro w4 v3 ⟨hw, hv, hl, hml⟩
  subst hw
  cases hv
  rw [BOOLV_bool]
  refine LD11 (x := x) hb12 ?_
  refine (Text_spec (hg.eff hE02) (hx.eff hE02) hin (by omega)).mono fun v w5 ⟨hE5, hv⟩ => ?_
  subst hv
  rw [STRV_string]
  have hE05 := hE02.trans0 hE5
  have hb15 := hE5.obj0 hb12
  refine ⟨fun vs w' => w' = w5 ∧ vs = [.bool false] ∧ textF x ≠ [], ⟨fun vs w' => w' = w5 ∧ vs = [.bool (decide (textF x = [] ∨ more.data.toList = []))], ?_, ?_⟩, ?_⟩
  · rw [bs_nil]
    refine ITE_d (fun h => ⟨rfl, by rw [decide_eq_true (.inl h)]⟩) (fun h => ⟨rfl, ?_⟩)
    rw [beq_bs]
    rw [decide_eq_decide.2 (show more.data.toList = ({ data := #[] } : ByteArray).data.toList ↔ (textF x = [] ∨ more.data.toList = []) from ⟨fun h1 => .inr h1, fun h1 => h1.elim (fun h2 => absurd h2 h) id⟩)]
  · intro w6 v5 ⟨hw, hv⟩
    subst hw
    cases hv
    rw [BOOLV_bool]
    refine ITE_d (fun h => ?_) (fun h => ⟨rfl, rfl, fun h1 => h (.inl h1)⟩)
    refine ⟨fun vs w' => Eff w w' [] ∧ vs = [.bool true], ?_, ?_⟩
    · rw [bs_nil]
      refine ITE_d (fun _ => ⟨hE05, rfl⟩) (fun _ => ?_)
      refine LD11 (x := x) hb15 (LD11 (x := x) hb15 ?_)
      refine (same_spec (hx.eff hE05) (hx.eff hE05) (by omega)).mono fun v w7 ⟨hE7, hv⟩ => ?_
      subst hv
      rw [BOOLV_bool]
      exact ⟨hE05.trans0 hE7, by rw [decide_eq_true rfl]⟩
    · intro w8 v7 ⟨hE, hv⟩
      cases hv
      rw [BOOLV_bool]
      exact ⟨hE, rfl⟩
  intro w9 v8 ⟨hw, hv, hne⟩
  subst hw
  cases hv
  rw [BOOLV_bool]
  have hlen := text_len hin (by omega)
  have hmo : more = bs more.data.toList := (bs_list more).symm
  have hms : more.data.toList.length ≤ 100 := hml
  obtain ⟨_, hp0, _⟩ := textF_some hne
  refine SILN_sadd (b := [32]) (by simp only [List.length_cons, List.length_nil]; omega) ?_
  rw [STRV_string, hmo]
  refine SILN_sadd (by simp only [List.length_append, List.length_cons, List.length_nil]; omega) ?_
  rw [STRV_string]
  have hcat : textF x ++ [32] ++ more.data.toList = textF x ++ 32 :: more.data.toList := by simp
  rw [hcat]
  refine (Parse_spec (hg.eff hE05) (s := bs (textF x ++ 32 :: more.data.toList)) (by rw [bs_size, List.length_append, List.length_cons]; omega)).mono fun v w10 ⟨hE10, y, ya, yl, yc, t, hv, hy, hp⟩ => ?_
  subst hv
  have hd : (bs (textF x ++ 32 :: more.data.toList)).data.toList = textF x ++ 32 :: more.data.toList := rfl
  unfold ParseP at hp
  rw [hd] at hp
  rw [TUP_lnb]
  intro b2 w11 hE11 hs11 hb11
  refine ST11_of ⟨trivial, trivial, trivial, trivial, trivial, trivial, trivial, trivial, trivial, trivial, trivial⟩ hE11 hs11 hb11 fun w22 hE22 hb222 _ => ?_
  have hE022 := (hE05.trans0 hE10).trans0 hE22
  have hb122 := (hE10.trans0 hE22).obj0 hb15
  refine ⟨fun vs w' => Eff w w' [] ∧ vs = [.bool true], ?_, ?_⟩
  · refine ITE_intro (fun _ => ⟨hE022, rfl⟩) (fun ht => ?_)
    have hpy : parseF (cut (textF x ++ 32 :: more.data.toList)) = some y := by
      rcases hp with ⟨_, h⟩ | ⟨h, _⟩
      · exact h
      · rw [h] at ht; cases ht
    obtain ⟨hk1, hxy⟩ := words_more hp0 hpy
    rw [LDi_of (cellH_of hb122 0)]
    refine ITE_eq (fun _ => ?_) (fun h => absurd hk1 h)
    refine LD11 (x := x) hb122 (LD11 (x := y) hb222 ?_)
    refine (same_spec (hx.eff hE022) (hy.eff hE22) (by omega)).mono fun v w23 ⟨hE23, hv⟩ => ?_
    subst hv
    rw [BOOLV_bool]
    exact ⟨hE022.trans0 hE23, by rw [decide_eq_false hxy]; rfl⟩
  · intro w24 v26 ⟨hE, hv⟩
    cases hv
    rw [BOOLV_bool]
    exact ⟨hE, rfl⟩
end
end Go.Proofs.YtmanfmpdmmhbfaaDoor
