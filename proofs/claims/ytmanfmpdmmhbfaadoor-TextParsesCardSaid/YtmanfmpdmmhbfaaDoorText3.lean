/- The laws on lines and their texts: plain laws, with no program in sight. -/
import Derived.Test.YtmanfmpdmmhbfaaDoorText2
namespace Go.Proofs.YtmanfmpdmmhbfaaDoor
open Go.Lib Go.Den
set_option maxRecDepth 100000

theorem names_ne : ∀ k : Nat, k < 11 → 0 < k → names.getD k [] ≠ [] := by decide

/-- Is it what a text may say? -/
def mayL (x : Ln) : Prop :=
  x.k = 1 ∧ x = { k := 1, c0 := x.c0, c1 := x.c1, c2 := x.c2, c3 := x.c3, cls := x.cls } ∧ x.cls.length ≤ 28 ∨
  x.k = 2 ∧ x = { k := 2, wk := x.wk, rk := x.rk, rn := x.rn, of := x.of } ∧ 1 ≤ x.rk ∧ x.rk ≤ 3 ∧ 0 ≤ x.of ∧ (x.of = 0 ∨ x.rn = 0) ∨
  x.k = 3 ∧ x = { k := 3, wk := x.wk, tm := x.tm } ∨ x.k = 4 ∧ x = { k := 4, tm := x.tm } ∨ x.k = 5 ∧ x = { k := 5, wk := x.wk } ∨
  6 ≤ x.k ∧ x.k ≤ 10 ∧ x = { k := x.k }
instance (x : Ln) : Decidable (mayL x) := by unfold mayL; infer_instance

/-- Its numbers are numbers. -/
def inL (x : Ln) : Prop := inR x.wk ∧ inR x.tm ∧ inR x.c0 ∧ inR x.c1 ∧ inR x.c2 ∧ inR x.c3 ∧ (∀ c ∈ x.cls, inR c) ∧ inR x.rn ∧ inR x.of

theorem rawW_blank {x : Ln} (hk : kindP x) : ∀ w ∈ rawW x, (32 : UInt8) ∉ w := by
  intro w hw
  unfold kindP at hk
  unfold rawW at hw
  rcases List.mem_cons.1 hw with rfl | hw
  · exact names_blank _ (by omega)
  split at hw
  · simp only [List.mem_cons, List.mem_map] at hw
    rcases hw with rfl | rfl | rfl | rfl | ⟨c, _, rfl⟩ <;> exact itoa_blank _
  · split at hw
    · rename_i h2
      simp only [List.mem_cons, List.not_mem_nil, or_false] at hw
      rcases hw with rfl | rfl | rfl
      · exact itoa_blank _
      · exact kinds_blank _ (by omega)
      · split
        · rw [List.mem_cons, not_or]
          exact ⟨by decide, itoa_blank _⟩
        · exact itoa_blank _
    · split at hw
      · simp only [List.mem_cons, List.not_mem_nil, or_false] at hw
        rcases hw with rfl | rfl <;> exact itoa_blank _
      · split at hw
        · simp only [List.mem_cons, List.not_mem_nil, or_false] at hw
          subst hw; exact itoa_blank _
        · split at hw
          · simp only [List.mem_cons, List.not_mem_nil, or_false] at hw
            subst hw; exact itoa_blank _
          · cases hw

theorem cut_raw {x : Ln} (hk : kindP x) : cut (raw x) = rawW x := cut_join (by unfold rawW; simp) (rawW_blank hk)

theorem raw_ne {x : Ln} (hk : kindP x) : raw x ≠ [] := fun h => by
  have h1 := cut_raw hk
  rw [h] at h1
  have h2 := (List.cons.inj h1).1
  unfold kindP at hk
  exact names_ne x.k.toNat (by omega) (by omega) h2.symm

theorem may_kind {x : Ln} (h : mayL x) : kindP x := by
  unfold mayL at h
  unfold kindP
  rcases h with h | h | h | h | h | h <;> omega

theorem wordN_sign {n : Int} : wordN (35 :: itoa n) = itoa n := rfl
theorem wordN_itoa {n : Int} : wordN (itoa n) = itoa n := by unfold wordN; rw [if_neg (itoa_head n)]

/-- What a text may say its text says. -/
theorem may_parse {x : Ln} (h : mayL x) (hr : inL x) : parseF (cut (raw x)) = some x := by
  have hk := may_kind h
  rw [cut_raw hk]
  obtain ⟨r1, r2, r3, r4, r5, r6, r7, r8, r9⟩ := hr
  unfold rawW
  rw [parseF_cons]
  have hkk : kindF (names.getD x.k.toNat []) = x.k.toNat := by
    unfold kindP at hk
    exact kindF_name _ (by omega) (by omega)
  rw [hkk]
  rcases h with ⟨h1, h2, h3⟩ | ⟨h1, h2, h3, h4, h5, h6⟩ | ⟨h1, h2⟩ | ⟨h1, h2⟩ | ⟨h1, h2⟩ | ⟨h1, h1', h2⟩
  · rw [if_neg (by omega), if_pos h1]
    have : numsF (itoa x.c0 :: itoa x.c1 :: itoa x.c2 :: itoa x.c3 :: x.cls.map itoa) = some (x.c0 :: x.c1 :: x.c2 :: x.c3 :: x.cls) := numsF_spec.2 ⟨fun n hn => by
      simp only [List.mem_cons] at hn
      rcases hn with rfl | rfl | rfl | rfl | hn
      · exact r3
      · exact r4
      · exact r5
      · exact r6
      · exact r7 n hn, rfl⟩
    rw [this]
    dsimp only
    rw [show x.k.toNat = 1 by omega]
    unfold lineF
    rw [if_pos rfl]
    dsimp only
    rw [if_pos h3, ← h2]
  · rw [if_pos (by omega), if_neg (by omega), if_pos h1]
    unfold askF
    have hq : reqF (kinds.getD x.rk.toNat []) = x.rk.toNat := reqF_name _ (by omega) (by omega)
    dsimp only
    rw [numF_itoa r1, hq]
    by_cases ho : 0 < x.of
    · rw [if_pos ho, wordN_sign, numF_itoa r9]
      dsimp only
      rw [if_neg (by
        rintro (h | ⟨_, h⟩)
        · omega
        · omega), if_pos (show (35 :: itoa x.of).head? = some 35 from rfl)]
      refine congrArg some (Eq.trans ?_ h2.symm)
      rw [show x.rn = 0 by omega, show ((x.rk.toNat : Nat) : Int) = x.rk by omega]
    · rw [if_neg ho, wordN_itoa, numF_itoa r8]
      dsimp only
      rw [if_neg (by
        rintro (h | ⟨h, _⟩)
        · omega
        · exact itoa_head _ h), if_neg (itoa_head _)]
      refine congrArg some (Eq.trans ?_ h2.symm)
      rw [show x.of = 0 by omega, show ((x.rk.toNat : Nat) : Int) = x.rk by omega]
  · rw [if_neg (by omega), if_neg (by omega), if_neg (by omega), if_pos h1]
    have : numsF [itoa x.wk, itoa x.tm] = some [x.wk, x.tm] := numsF_spec.2 ⟨by simp [r1, r2], rfl⟩
    rw [this, show x.k.toNat = 3 by omega]
    dsimp only
    unfold lineF
    rw [if_neg (by decide), if_pos rfl]
    exact congrArg some h2.symm
  · rw [if_neg (by omega), if_neg (by omega), if_neg (by omega), if_neg (by omega), if_pos h1]
    have : numsF [itoa x.tm] = some [x.tm] := numsF_spec.2 ⟨by simp [r2], rfl⟩
    rw [this, show x.k.toNat = 4 by omega]
    dsimp only
    unfold lineF
    rw [if_neg (by decide), if_neg (by decide), if_pos rfl]
    exact congrArg some h2.symm
  · rw [if_neg (by omega), if_neg (by omega), if_neg (by omega), if_neg (by omega), if_neg (by omega), if_pos h1]
    have : numsF [itoa x.wk] = some [x.wk] := numsF_spec.2 ⟨by simp [r1], rfl⟩
    rw [this, show x.k.toNat = 5 by omega]
    dsimp only
    unfold lineF
    rw [if_neg (by decide), if_neg (by decide), if_neg (by decide), if_pos rfl]
    exact congrArg some h2.symm
  · rw [if_neg (by omega), if_neg (by omega), if_neg (by omega), if_neg (by omega), if_neg (by omega), if_neg (by omega)]
    dsimp only [numsF]
    unfold lineF
    rw [if_neg (by omega), if_neg (by omega), if_neg (by omega), if_neg (by omega), if_pos (by omega)]
    refine congrArg some (Eq.trans ?_ h2.symm)
    rw [show ((x.k.toNat : Nat) : Int) = x.k by omega]

theorem parse_may {ps : List Str} {x : Ln} (hne : ps ≠ []) (h : parseF ps = some x) : mayL x := by
  obtain ⟨p, t, rfl⟩ : ∃ p t, ps = p :: t := by
    cases ps with
    | nil => exact absurd rfl hne
    | cons p t => exact ⟨p, t, rfl⟩
  have hkp := (parseF_spec hne h).2.2.1
  unfold kindP at hkp
  rw [parseF_cons] at h
  by_cases hk : kindF p = 2
  · rw [if_pos hk] at h
    obtain ⟨_, _, r, _, _, n, _, _, _, h3, hx⟩ := askF_spec h
    have hr := reqF_some h3
    rcases hx with ⟨_, hn, rfl⟩ | ⟨_, rfl⟩
    · exact .inr (.inl ⟨rfl, rfl, by dsimp only; omega, by dsimp only; omega, by dsimp only; omega, .inr rfl⟩)
    · exact .inr (.inl ⟨rfl, rfl, by dsimp only; omega, by dsimp only; omega, by dsimp only; omega, .inl rfl⟩)
  · rw [if_neg hk] at h
    cases hns : numsF t with
    | none => rw [hns] at h; cases h
    | some ns =>
      rw [hns] at h
      obtain ⟨h0, hxk, hx⟩ := lineF_spec hk h
      rcases hx with ⟨h1, _, hl, hx⟩ | ⟨h1, _, hx⟩ | ⟨h1, _, hx⟩ | ⟨h1, _, hx⟩ | ⟨h6, _, hx⟩
      · exact .inl ⟨by omega, hx, hl⟩
      · exact .inr (.inr (.inl ⟨by omega, hx⟩))
      · exact .inr (.inr (.inr (.inl ⟨by omega, hx⟩)))
      · exact .inr (.inr (.inr (.inr (.inl ⟨by omega, hx⟩))))
      · refine .inr (.inr (.inr (.inr (.inr ⟨by omega, by omega, ?_⟩))))
        rw [hxk]; exact hx

/-- Of any line: its text says it, where it has one; where it has none it is none that a text may say. -/
theorem textF_nil {x : Ln} (hr : inL x) (h : textF x = []) : ¬ mayL x := fun hm => by
  unfold textF at h
  rw [if_pos ⟨may_kind hm, may_parse hm hr⟩] at h
  exact raw_ne (may_kind hm) h
theorem textF_some {x : Ln} (h : textF x ≠ []) : kindP x ∧ parseF (cut (textF x)) = some x ∧ mayL x := by
  unfold textF at h ⊢
  split
  · rename_i h1
    exact ⟨h1.1, h1.2, parse_may (cut_ne _) h1.2⟩
  · rename_i h1
    rw [if_neg h1] at h
    exact absurd rfl h

theorem head_none {p : Str} {t : List Str} (h : kindF p = 0) : parseF (p :: t) = none := by
  rcases hp : parseF (p :: t) with _ | x
  · rfl
  · exact absurd h (parseF_spec (by simp) hp).2.1

/-- Lines that begin with the same word have as many pieces, but the first kind. -/
theorem same_pieces {p : Str} {t t' : List Str} {x y : Ln} (hx : parseF (p :: t) = some x) (hy : parseF (p :: t') = some y) (hl : t.length ≠ t'.length) : x.k = 1 ∧ x ≠ y := by
  obtain ⟨h1, _, _, h4, _⟩ := parseF_spec (by simp) hx
  obtain ⟨g1, _, _, g4, _⟩ := parseF_spec (by simp) hy
  simp only [List.headD_cons, List.length_cons] at h1 g1 h4 g4
  have hk : x.k = y.k := by rw [← h1, ← g1]
  refine ⟨?_, fun h => ?_⟩
  · by_cases h : x.k = 1
    · exact h
    · unfold pieces at h4 g4
      rw [← hk] at g4
      rw [if_neg h] at h4 g4
      omega
  · rw [h] at h4; omega

/-- One blank more within a word. -/
theorem blank_more {a b : Str} {x y : Ln} (hb : b ≠ []) (hf : b.head? ≠ some 32) (hx : parseF (cut (a ++ b)) = some x) (hy : parseF (cut (a ++ 32 :: b)) = some y) : x.k = 1 ∧ y ≠ x := by
  rw [cut_mid] at hy
  obtain ⟨h, t, ht⟩ := cut_cons a
  obtain ⟨g, u, hu⟩ := cut_cons b
  have happ := cut_app a b
  by_cases htn : t = []
  · -- the first word is parted
    subst htn
    obtain ⟨h1, h2⟩ := cut_single ht
    subst h2
    rw [ht] at hy
    rw [cut_word_app h1 hu] at hx
    have hx1 := parseF_spec (by simp) hx
    have hy1 := parseF_spec (by simp) hy
    simp only [List.headD_cons, List.cons_append] at hx1 hy1
    have k1 := kindF_some hx1.2.1
    have k2 := kindF_some hy1.2.1
    have := names_pre _ k2.1 _ k1.1 (by omega) (by omega) (by rw [k1.2, k2.2]; simp)
    have e : a = a ++ g := by rw [← k1.2, ← this, k2.2]
    have hg : g = [] := by
      have := congrArg List.length e
      rw [List.length_append] at this
      exact List.length_eq_zero_iff.1 (by omega)
    subst hg
    -- the second text would begin with a blank, or be empty
    cases b with
    | nil => exact absurd rfl hb
    | cons c r =>
      by_cases hc : c = 32
      · subst hc; exact absurd rfl hf
      · obtain ⟨h', t', h2⟩ := cut_cons r
        rw [cut_other hc h2] at hu
        exact absurd (List.cons.inj hu).1 (by simp)
  · obtain ⟨t', h3⟩ := cut_app_head (b := b) ht htn
    rw [h3] at hx
    rw [h3, ht] at happ
    rw [ht, List.cons_append] at hy
    have := same_pieces hx hy (by simp only [List.length_append, List.length_cons] at happ ⊢; have := cut_ne b; have : 0 < (cut b).length := List.length_pos_iff.2 this; omega)
    exact ⟨this.1, fun h => this.2 h.symm⟩

theorem blank_front (s : Str) : parseF (cut (32 :: s)) = none := by
  rw [cut_blank]; exact head_none kindF_nil

theorem numsF_bad {ps : List Str} {w : Str} (h : w ∈ ps) (hw : numF w = none) : numsF ps = none := by
  rcases hn : numsF ps with _ | ns
  · rfl
  · obtain ⟨h1, h2⟩ := numsF_spec.1 hn
    rw [h2] at h
    obtain ⟨n, hn, rfl⟩ := List.mem_map.1 h
    rw [numF_itoa (h1 n hn)] at hw; cases hw

theorem blank_back {s : Str} {x : Ln} (hx : parseF (cut s) = some x) : parseF (cut (s ++ [32])) = none := by
  rw [show s ++ [32] = s ++ 32 :: [] from rfl, cut_mid]
  obtain ⟨p, t, ht⟩ := cut_cons s
  rw [ht] at hx ⊢
  rcases hy : parseF (p :: t ++ cut []) with _ | y
  · rfl
  · exfalso
    have h1 := same_pieces hx hy (by simp [cut])
    have hk := parseF_spec (by simp) hx
    rw [List.cons_append, parseF_cons] at hy
    rw [if_neg (by have := hk.1; rw [h1.1] at this; simp only [List.headD_cons] at this; omega), numsF_bad (w := []) (by simp [cut]) numF_nil] at hy
    cases hy

/-- A nought ahead of a number. -/
theorem nought_more {a b : Str} {c : UInt8} (hc : 48 ≤ c.toNat ∧ c.toNat ≤ 57) : parseF (cut (a ++ 32 :: 48 :: c :: b)) = none := by
  rw [cut_mid]
  obtain ⟨p, t, ht⟩ := cut_cons a
  have hne : c ≠ 32 := fun h => by
    rw [h] at hc
    exact absurd hc.1 (by decide)
  obtain ⟨h, u, hu⟩ := cut_cons b
  rw [ht, cut_other (by decide) (cut_other hne hu), List.cons_append]
  have hbad : numF (48 :: c :: h) = none := numF_nought (by simp)
  rcases hy : parseF (p :: (t ++ (48 :: c :: h) :: u)) with _ | y
  · rfl
  · exfalso
    rw [parseF_cons] at hy
    by_cases hk : kindF p = 2
    · rw [if_pos hk] at hy
      obtain ⟨_, a', r, y', w, n, hps, h1, h2, h3, _⟩ := askF_spec hy
      have hps := (List.cons.inj hps).2
      have hr : reqF (48 :: c :: h) = 0 := by
        by_cases h0 : reqF (48 :: c :: h) = 0
        · exact h0
        · have h5 := reqF_some h0
          have h6 := kinds_digit _ h5.1 (by omega)
          rw [h5.2] at h6
          exact absurd (Option.some.inj (show some (decide (48 ≤ (48 : UInt8).toNat ∧ (48 : UInt8).toNat ≤ 57)) = some false from h6)) (by decide)
      rcases t with _ | ⟨t1, _ | ⟨t2, _ | ⟨t3, t4⟩⟩⟩
      · obtain ⟨rfl, _⟩ := List.cons.inj hps
        rw [hbad] at h1; cases h1
      · obtain ⟨_, hps⟩ := List.cons.inj hps
        obtain ⟨rfl, _⟩ := List.cons.inj hps
        exact h3 hr
      · obtain ⟨_, hps⟩ := List.cons.inj hps
        obtain ⟨_, hps⟩ := List.cons.inj hps
        obtain ⟨rfl, _⟩ := List.cons.inj hps
        rw [show wordN (48 :: c :: h) = 48 :: c :: h from by unfold wordN; rw [if_neg (by simp)]] at h2
        rw [hbad] at h2; cases h2
      · have := congrArg List.length hps
        simp at this
    · rw [if_neg hk, numsF_bad (w := 48 :: c :: h) (by simp) hbad] at hy
      cases hy

/-- Any words more. -/
theorem words_more {s more : Str} {x y : Ln} (hx : parseF (cut s) = some x) (hy : parseF (cut (s ++ 32 :: more)) = some y) : x.k = 1 ∧ x ≠ y := by
  rw [cut_mid] at hy
  obtain ⟨p, t, ht⟩ := cut_cons s
  rw [ht] at hx hy
  rw [List.cons_append] at hy
  refine same_pieces hx hy ?_
  have : 0 < (cut more).length := List.length_pos_iff.2 (cut_ne more)
  rw [List.length_append]; omega
end Go.Proofs.YtmanfmpdmmhbfaaDoor
