/- Pieces, lines and their texts: plain laws, with no program in sight. -/
import Derived.Test.YtmanfmpdmmhbfaaDoorText1
namespace Go.Proofs.YtmanfmpdmmhbfaaDoor
open Go.Lib Go.Den
set_option maxRecDepth 100000

/-! ### Pieces -/
def cut : Str → List Str
  | [] => [[]]
  | c :: r => if c = 32 then [] :: cut r else match cut r with
    | [] => [[c]]
    | h :: t => (c :: h) :: t

theorem cut_ne (s : Str) : cut s ≠ [] := by
  cases s with
  | nil => simp [cut]
  | cons c r =>
    unfold cut
    split
    · simp
    · split <;> simp

theorem cut_cons (s : Str) : ∃ h t, cut s = h :: t := by
  rcases hc : cut s with _ | ⟨h, t⟩
  · exact absurd hc (cut_ne s)
  · exact ⟨h, t, rfl⟩

theorem cut_blank (b : Str) : cut (32 :: b) = [] :: cut b := by rw [cut, if_pos rfl]
theorem cut_other {c : UInt8} {r h : Str} {t : List Str} (hc : c ≠ 32) (hr : cut r = h :: t) : cut (c :: r) = (c :: h) :: t := by rw [cut, if_neg hc, hr]

theorem cut_mid (a b : Str) : cut (a ++ 32 :: b) = cut a ++ cut b := by
  induction a with
  | nil => rw [List.nil_append, cut_blank]; rfl
  | cons c a ih =>
    by_cases hc : c = 32
    · subst hc
      rw [List.cons_append, cut_blank, cut_blank, ih]; rfl
    · obtain ⟨h, t, ht⟩ := cut_cons a
      rw [ht] at ih
      rw [List.cons_append, cut_other hc ih, cut_other hc ht]; rfl

theorem cut_word {a : Str} (h : (32 : UInt8) ∉ a) : cut a = [a] := by
  induction a with
  | nil => rfl
  | cons c a ih =>
    rw [List.mem_cons, not_or] at h
    exact cut_other (fun hc => h.1 hc.symm) (ih h.2)

/-- Two texts, one behind the other: the last piece of the one and the first of the other are one. -/
theorem cut_app (a b : Str) : (cut (a ++ b)).length + 1 = (cut a).length + (cut b).length := by
  induction a with
  | nil => simp [cut]; omega
  | cons c a ih =>
    by_cases hc : c = 32
    · subst hc
      rw [List.cons_append, cut_blank, cut_blank]
      simp only [List.length_cons]; omega
    · obtain ⟨h, t, ht⟩ := cut_cons a
      obtain ⟨h', t', ht'⟩ := cut_cons (a ++ b)
      rw [ht, ht'] at ih
      rw [List.cons_append, cut_other hc ht, cut_other hc ht']
      simp only [List.length_cons] at ih ⊢; omega

theorem cut_word_app {a b h : Str} {t : List Str} (ha : (32 : UInt8) ∉ a) (hb : cut b = h :: t) : cut (a ++ b) = (a ++ h) :: t := by
  induction a with
  | nil => exact hb
  | cons c a ih =>
    rw [List.mem_cons, not_or] at ha
    rw [List.cons_append, cut_other (fun hc => ha.1 hc.symm) (ih ha.2)]; rfl

/-- Where the first text has a blank the first piece is its own. -/
theorem cut_app_head {a b h : Str} {t : List Str} (ha : cut a = h :: t) (ht : t ≠ []) : ∃ t', cut (a ++ b) = h :: t' := by
  induction a generalizing h t with
  | nil =>
    simp only [cut, List.cons.injEq] at ha
    exact absurd ha.2.symm ht
  | cons c a ih =>
    by_cases hc : c = 32
    · subst hc
      rw [cut_blank] at ha
      obtain ⟨rfl, _⟩ := List.cons.inj ha
      exact ⟨cut (a ++ b), by rw [List.cons_append, cut_blank]⟩
    · obtain ⟨h1, t1, h2⟩ := cut_cons a
      rw [cut_other hc h2] at ha
      obtain ⟨rfl, rfl⟩ := List.cons.inj ha
      obtain ⟨t', h3⟩ := ih h2 ht
      exact ⟨t', by rw [List.cons_append, cut_other hc h3]⟩

theorem cut_single {a h : Str} (ha : cut a = [h]) : (32 : UInt8) ∉ a ∧ a = h := by
  induction a generalizing h with
  | nil =>
    simp only [cut, List.cons.injEq, and_true] at ha
    exact ⟨by simp, ha⟩
  | cons c a ih =>
    by_cases hc : c = 32
    · subst hc
      rw [cut_blank] at ha
      exact absurd (List.cons.inj ha).2 (cut_ne a)
    · obtain ⟨h1, t1, h2⟩ := cut_cons a
      rw [cut_other hc h2] at ha
      obtain ⟨rfl, rfl⟩ := List.cons.inj ha
      obtain ⟨h3, h4⟩ := ih h2
      refine ⟨?_, by rw [← h4]⟩
      rw [List.mem_cons, not_or]
      exact ⟨fun h => hc h.symm, h3⟩

def join : List Str → Str
  | [] => []
  | [w] => w
  | w :: r => w ++ 32 :: join r

theorem join_cons {w : Str} {r : List Str} (h : r ≠ []) : join (w :: r) = w ++ 32 :: join r := by
  cases r with
  | nil => exact absurd rfl h
  | cons a r => rfl

theorem join_cut (s : Str) : join (cut s) = s := by
  induction s with
  | nil => rfl
  | cons c s ih =>
    by_cases hc : c = 32
    · subst hc
      rw [cut_blank, join_cons (cut_ne s), ih]; rfl
    · obtain ⟨h, t, ht⟩ := cut_cons s
      rw [ht] at ih
      rw [cut_other hc ht]
      cases t with
      | nil =>
        have : h = s := ih
        rw [this]; rfl
      | cons a t =>
        rw [join_cons (by simp)] at ih ⊢
        rw [← ih]; rfl

theorem cut_join : ∀ {ws : List Str}, ws ≠ [] → (∀ w ∈ ws, (32 : UInt8) ∉ w) → cut (join ws) = ws
  | [], h, _ => absurd rfl h
  | [w], _, h => cut_word (h w (by simp))
  | w :: a :: r, _, h => by
    rw [join_cons (by simp), cut_mid, cut_word (h w (by simp)), cut_join (by simp) (fun x hx => h x (List.mem_cons_of_mem _ hx))]
    rfl

/-! ### Words -/
def names : List Str := [[], [99, 111, 110, 102, 105, 103], [97, 115, 107], [112, 105, 99, 107], [116, 117, 114, 110, 115], [97, 108, 111, 110, 101], [102, 105, 110, 105, 115, 104], [101, 118, 101, 110, 116, 115], [115, 116, 97, 116, 115], [108, 105, 118, 101], [99, 104, 101, 99, 107]]
def kinds : List Str := [[], [97, 108, 108, 111, 99], [102, 114, 101, 101], [117, 115, 97, 98, 108, 101]]

/-- The last place but the first, among so many, at which a word stands. -/
def lastM (l : List Str) (w : Str) : Nat → Nat
  | 0 => 0
  | n + 1 => if 0 < n ∧ l.getD n [] = w then n else lastM l w n

theorem lastM_cases (l : List Str) (w : Str) (n : Nat) : lastM l w n = 0 ∧ (∀ j, 0 < j → j < n → l.getD j [] ≠ w) ∨ 0 < lastM l w n ∧ lastM l w n < n ∧ l.getD (lastM l w n) [] = w := by
  induction n with
  | zero => exact .inl ⟨rfl, fun j _ h => by omega⟩
  | succ n ih =>
    unfold lastM
    split
    · rename_i h
      exact .inr ⟨h.1, by omega, h.2⟩
    · rename_i h
      rcases ih with ⟨h1, h2⟩ | ⟨h1, h2, h3⟩
      · refine .inl ⟨h1, fun j hj hn => ?_⟩
        by_cases hjn : j = n
        · subst hjn; exact fun hw => h ⟨hj, hw⟩
        · exact h2 j hj (by omega)
      · exact .inr ⟨h1, by omega, h3⟩

def kindF (w : Str) : Nat := lastM names w 11
def reqF (w : Str) : Nat := lastM kinds w 4

theorem kindF_name : ∀ k : Nat, k < 11 → 0 < k → kindF (names.getD k []) = k := by decide
theorem reqF_name : ∀ k : Nat, k < 4 → 0 < k → reqF (kinds.getD k []) = k := by decide
theorem names_pre : ∀ j : Nat, j < 11 → ∀ k : Nat, k < 11 → 0 < j → 0 < k → (names.getD j []).isPrefixOf (names.getD k []) = true → j = k := by decide
theorem names_blank : ∀ k : Nat, k < 11 → (32 : UInt8) ∉ names.getD k [] := by decide
theorem kinds_blank : ∀ k : Nat, k < 4 → (32 : UInt8) ∉ kinds.getD k [] := by decide
theorem kinds_digit : ∀ k : Nat, k < 4 → 0 < k → ((kinds.getD k []).head?.map fun c => decide (48 ≤ c.toNat ∧ c.toNat ≤ 57)) = some false := by decide
theorem kindF_nil : kindF [] = 0 := by decide

theorem kindF_some {w : Str} (h : kindF w ≠ 0) : kindF w < 11 ∧ names.getD (kindF w) [] = w := by
  rcases lastM_cases names w 11 with ⟨h1, _⟩ | ⟨_, h2, h3⟩
  · exact absurd h1 h
  · exact ⟨h2, h3⟩
theorem reqF_some {w : Str} (h : reqF w ≠ 0) : reqF w < 4 ∧ kinds.getD (reqF w) [] = w := by
  rcases lastM_cases kinds w 4 with ⟨h1, _⟩ | ⟨_, h2, h3⟩
  · exact absurd h1 h
  · exact ⟨h2, h3⟩

/-! ### Lines -/
structure Ln where
  k : Int := 0
  wk : Int := 0
  tm : Int := 0
  c0 : Int := 0
  c1 : Int := 0
  c2 : Int := 0
  c3 : Int := 0
  cls : List Int := []
  rk : Int := 0
  rn : Int := 0
  of : Int := 0
deriving DecidableEq

def numsF : List Str → Option (List Int)
  | [] => some []
  | w :: r => match numF w, numsF r with
    | some n, some l => some (n :: l)
    | _, _ => none

/-- A number behind a sign is a meant event's. -/
def wordN (x : Str) : Str := if x.head? = some 35 then x.tail else x

def askF : List Str → Option Ln
  | [_, a, r, x] => match numF a, numF (wordN x) with
    | some w, some n => if reqF r = 0 ∨ x.head? = some 35 ∧ n < 1 then none
        else if x.head? = some 35 then some { k := 2, wk := w, rk := reqF r, of := n } else some { k := 2, wk := w, rk := reqF r, rn := n }
    | _, _ => none
  | _ => none

def lineF (k : Nat) (ns : List Int) : Option Ln :=
  if k = 1 then match ns with
    | a :: b :: c :: d :: r => if r.length ≤ 28 then some { k := 1, c0 := a, c1 := b, c2 := c, c3 := d, cls := r } else none
    | _ => none
  else if k = 3 then match ns with
    | [a, b] => some { k := 3, wk := a, tm := b }
    | _ => none
  else if k = 4 then match ns with
    | [a] => some { k := 4, tm := a }
    | _ => none
  else if k = 5 then match ns with
    | [a] => some { k := 5, wk := a }
    | _ => none
  else if 6 ≤ k then match ns with
    | [] => some { k := k }
    | _ => none
  else none

def parseF (ps : List Str) : Option Ln :=
  if kindF (ps.headD []) = 2 then askF ps
  else match numsF ps.tail with
    | none => none
    | some ns => lineF (kindF (ps.headD [])) ns

theorem parseF_cons (p : Str) (t : List Str) : parseF (p :: t) = if kindF p = 2 then askF (p :: t)
  else match numsF t with
    | none => none
    | some ns => lineF (kindF p) ns := rfl

/-! ### A line's words -/
def rawW (x : Ln) : List Str := names.getD x.k.toNat [] :: (
  if x.k = 1 then itoa x.c0 :: itoa x.c1 :: itoa x.c2 :: itoa x.c3 :: x.cls.map itoa
  else if x.k = 2 then [itoa x.wk, kinds.getD x.rk.toNat [], if 0 < x.of then 35 :: itoa x.of else itoa x.rn]
  else if x.k = 3 then [itoa x.wk, itoa x.tm]
  else if x.k = 4 then [itoa x.tm]
  else if x.k = 5 then [itoa x.wk]
  else [])
def raw (x : Ln) : Str := join (rawW x)
/-- Is it a kind of line, and a kind of request? -/
def kindP (x : Ln) : Prop := 1 ≤ x.k ∧ x.k ≤ 10 ∧ (x.k = 2 → 1 ≤ x.rk ∧ x.rk ≤ 3)
instance (x : Ln) : Decidable (kindP x) := by unfold kindP; infer_instance
def textF (x : Ln) : Str := if kindP x ∧ parseF (cut (raw x)) = some x then raw x else []

theorem numsF_spec : ∀ {ps : List Str} {ns : List Int}, numsF ps = some ns ↔ (∀ n ∈ ns, inR n) ∧ ps = ns.map itoa
  | [], ns => by
    simp only [numsF, Option.some.injEq]
    constructor
    · rintro rfl; simp
    · intro h
      have := h.2
      cases ns with
      | nil => rfl
      | cons a l => cases this
  | w :: r, ns => by
    have ih := fun l => numsF_spec (ps := r) (ns := l)
    rw [numsF]
    constructor
    · intro h
      split at h
      · rename_i n l h1 h2
        injection h with h
        subst h
        have h3 := (ih l).1 h2
        have h4 := numF_iff.1 h1
        refine ⟨fun m hm => ?_, by rw [List.map_cons, h4.2, ← h3.2]⟩
        rcases List.mem_cons.1 hm with rfl | hm
        · exact h4.1
        · exact h3.1 m hm
      · cases h
    · rintro ⟨h1, h2⟩
      cases ns with
      | nil => cases h2
      | cons n l =>
        obtain ⟨rfl, rfl⟩ := List.cons.inj h2
        rw [numF_itoa (h1 n (by simp)), (ih l).2 ⟨fun m hm => h1 m (List.mem_cons_of_mem _ hm), rfl⟩]

/-- What a line that is one says. -/
theorem lineF_spec {k : Nat} {ns : List Int} {x : Ln} (hk : k ≠ 2) (h : lineF k ns = some x) : k ≠ 0 ∧ x.k = k ∧
    (k = 1 ∧ ns = x.c0 :: x.c1 :: x.c2 :: x.c3 :: x.cls ∧ x.cls.length ≤ 28 ∧ x = { k := 1, c0 := x.c0, c1 := x.c1, c2 := x.c2, c3 := x.c3, cls := x.cls } ∨ k = 3 ∧ ns = [x.wk, x.tm] ∧ x = { k := 3, wk := x.wk, tm := x.tm } ∨
     k = 4 ∧ ns = [x.tm] ∧ x = { k := 4, tm := x.tm } ∨ k = 5 ∧ ns = [x.wk] ∧ x = { k := 5, wk := x.wk } ∨ 6 ≤ k ∧ ns = [] ∧ x = { k := k }) := by
  unfold lineF at h
  split at h
  · rename_i h1
    split at h
    · split at h
      · rename_i h2
        injection h with h
        subst h h1
        exact ⟨by omega, rfl, .inl ⟨rfl, rfl, h2, rfl⟩⟩
      · cases h
    · cases h
  · split at h
    · rename_i h1
      split at h
      · injection h with h
        subst h h1
        exact ⟨by omega, rfl, .inr (.inl ⟨rfl, rfl, rfl⟩)⟩
      · cases h
    · split at h
      · rename_i h1
        split at h
        · injection h with h
          subst h h1
          exact ⟨by omega, rfl, .inr (.inr (.inl ⟨rfl, rfl, rfl⟩))⟩
        · cases h
      · split at h
        · rename_i h1
          split at h
          · injection h with h
            subst h h1
            exact ⟨by omega, rfl, .inr (.inr (.inr (.inl ⟨rfl, rfl, rfl⟩)))⟩
          · cases h
        · split at h
          · rename_i h1
            split at h
            · injection h with h
              subst h
              exact ⟨by omega, rfl, .inr (.inr (.inr (.inr ⟨h1, rfl, rfl⟩)))⟩
            · cases h
          · cases h

theorem askF_spec {ps : List Str} {x : Ln} (h : askF ps = some x) : ∃ p a r y w n, ps = [p, a, r, y] ∧ numF a = some w ∧ numF (wordN y) = some n ∧ reqF r ≠ 0 ∧
    (y.head? = some 35 ∧ 1 ≤ n ∧ x = { k := 2, wk := w, rk := reqF r, of := n } ∨ y.head? ≠ some 35 ∧ x = { k := 2, wk := w, rk := reqF r, rn := n }) := by
  unfold askF at h
  split at h
  · rename_i p a r y
    split at h
    · rename_i w n h1 h2
      split at h
      · cases h
      · rename_i h3
        rw [not_or] at h3
        split at h
        · rename_i h4
          injection h with h
          have : ¬ n < 1 := fun hn => h3.2 ⟨h4, hn⟩
          exact ⟨p, a, r, y, w, n, rfl, h1, h2, h3.1, .inl ⟨h4, by omega, h.symm⟩⟩
        · rename_i h4
          injection h with h
          exact ⟨p, a, r, y, w, n, rfl, h1, h2, h3.1, .inr ⟨h4, h.symm⟩⟩
    · cases h
  · cases h

/-- How many pieces a line of each kind has. -/
def pieces (x : Ln) : Nat := if x.k = 1 then 5 + x.cls.length else if x.k = 2 then 4 else if x.k = 3 then 3 else if x.k = 4 then 2 else if x.k = 5 then 2 else 1

theorem word_back {y : Str} {n : Int} (h : y.head? = some 35) (hn : numF (wordN y) = some n) : y = 35 :: itoa n := by
  unfold wordN at hn
  rw [if_pos h] at hn
  rw [(numF_iff.1 hn).2]
  cases y with
  | nil => cases h
  | cons c r =>
    have : c = 35 := by simpa using h
    rw [this]; rfl

theorem parseF_spec {ps : List Str} {x : Ln} (hne : ps ≠ []) (h : parseF ps = some x) : (kindF (ps.headD []) : Int) = x.k ∧ kindF (ps.headD []) ≠ 0 ∧ kindP x ∧ ps.length = pieces x ∧ rawW x = ps := by
  obtain ⟨p, t, rfl⟩ : ∃ p t, ps = p :: t := by
    cases ps with
    | nil => exact absurd rfl hne
    | cons p t => exact ⟨p, t, rfl⟩
  rw [parseF_cons] at h
  rw [List.headD_cons]
  by_cases hk : kindF p = 2
  · rw [if_pos hk] at h
    obtain ⟨p', a, r, y, w, n, hps, h1, h2, h3, hx⟩ := askF_spec h
    obtain ⟨rfl, rfl⟩ := List.cons.inj hps
    have hr := reqF_some h3
    have hw := (kindF_some (w := p) (by omega)).2
    rw [hk] at hw ⊢
    have e1 := (numF_iff.1 h1).2
    rcases hx with ⟨hy, hn, rfl⟩ | ⟨hy, rfl⟩
    · refine ⟨rfl, by omega, ⟨by simp, by simp, fun _ => by dsimp only; omega⟩, rfl, ?_⟩
      have := word_back hy h2
      unfold rawW
      dsimp only
      rw [if_neg (by omega), if_pos rfl, if_pos (by omega), e1, ← this, Int.toNat_natCast, hr.2]
      exact congrArg (· :: _) hw
    · refine ⟨rfl, by omega, ⟨by simp, by simp, fun _ => by dsimp only; omega⟩, rfl, ?_⟩
      have e2 := (numF_iff.1 h2).2
      unfold wordN at e2
      rw [if_neg hy] at e2
      unfold rawW
      dsimp only
      rw [if_neg (by omega), if_pos rfl, if_neg (by omega), e1, e2, Int.toNat_natCast, hr.2]
      exact congrArg (· :: _) hw
  · rw [if_neg hk] at h
    cases hns : numsF t with
    | none => rw [hns] at h; cases h
    | some ns =>
      rw [hns] at h
      dsimp only at h
      have hns := (numsF_spec.1 hns).2
      obtain ⟨h0, hxk, hx⟩ := lineF_spec hk h
      have hw := kindF_some h0
      generalize kindF p = k at *
      refine ⟨hxk.symm, h0, ⟨by omega, by omega, fun h2 => by omega⟩, ?_⟩
      rcases hx with ⟨rfl, rfl, hl, hx⟩ | ⟨rfl, rfl, hx⟩ | ⟨rfl, rfl, hx⟩ | ⟨rfl, rfl, hx⟩ | ⟨h6, rfl, hx⟩
      · unfold pieces rawW
        rw [hxk, if_pos (show ((1 : Nat) : Int) = 1 from rfl), if_pos (show ((1 : Nat) : Int) = 1 from rfl), hns]
        exact ⟨by simp; omega, congrArg (· :: _) hw.2⟩
      · unfold pieces rawW
        rw [hxk, hns]
        exact ⟨rfl, congrArg (· :: _) hw.2⟩
      · unfold pieces rawW
        rw [hxk, hns]
        exact ⟨rfl, congrArg (· :: _) hw.2⟩
      · unfold pieces rawW
        rw [hxk, hns]
        exact ⟨rfl, congrArg (· :: _) hw.2⟩
      · unfold pieces rawW
        rw [hxk, hns]
        rw [if_neg (by omega), if_neg (by omega), if_neg (by omega), if_neg (by omega), if_neg (by omega), if_neg (by omega), if_neg (by omega), if_neg (by omega), if_neg (by omega), if_neg (by omega)]
        exact ⟨rfl, congrArg (· :: _) hw.2⟩

/-- A text that says something is the text of what it says. -/
theorem parse_text {s : Str} {x : Ln} (h : parseF (cut s) = some x) : kindP x ∧ raw x = s ∧ textF x = s := by
  obtain ⟨_, _, h3, _, h5⟩ := parseF_spec (cut_ne s) h
  have hr : raw x = s := by unfold raw; rw [h5, join_cut]
  refine ⟨h3, hr, ?_⟩
  unfold textF
  rw [hr, if_pos ⟨h3, h⟩]
end Go.Proofs.YtmanfmpdmmhbfaaDoor
