/- Numbers and their digits: plain laws, with no program in sight. -/
import Derived.Test.YtmanfmpdmmhbfaaDoorDen
import Derived.Lib.ItoaNum
import Derived.Lib.AtoiAll
namespace Go.Proofs.YtmanfmpdmmhbfaaDoor
open Go.Lib Go.Den
set_option maxRecDepth 100000

abbrev Str := List UInt8
def inR (n : Int) : Prop := -9223372036854775808 ≤ n ∧ n ≤ 9223372036854775807
instance (n : Int) : Decidable (inR n) := by unfold inR; infer_instance

theorem byte_toNat {k : Nat} (h : k < 256) : (UInt8.ofNat k).toNat = k := by
  rw [UInt8.toNat_ofNat']
  omega

theorem dig_small {u : Nat} (h : u < 10) : decDigits u = [UInt8.ofNat (48 + u)] := by rw [decDigits, dif_pos h]
theorem dig_big {u : Nat} (h : ¬ u < 10) : decDigits u = decDigits (u / 10) ++ [UInt8.ofNat (48 + u % 10)] := by rw [decDigits, dif_neg h]

theorem dig_ne (u : Nat) : decDigits u ≠ [] := by
  by_cases h : u < 10
  · rw [dig_small h]; simp
  · rw [dig_big h]; simp

theorem dig_all (u : Nat) : ∀ c ∈ decDigits u, 48 ≤ c.toNat ∧ c.toNat ≤ 57 := by
  induction u using Nat.strongRecOn with
  | ind u ih =>
    intro c hc
    by_cases h : u < 10
    · rw [dig_small h] at hc
      have : c = UInt8.ofNat (48 + u) := by simpa using hc
      rw [this, byte_toNat (by omega)]; omega
    · rw [dig_big h] at hc
      rcases List.mem_append.1 hc with hc | hc
      · exact ih (u / 10) (by omega) c hc
      · have : c = UInt8.ofNat (48 + u % 10) := by simpa using hc
        rw [this, byte_toNat (by omega)]; omega

theorem dig_head (u : Nat) : ∃ c r, decDigits u = c :: r ∧ 48 ≤ c.toNat ∧ c.toNat ≤ 57 := by
  rcases h : decDigits u with _ | ⟨c, r⟩
  · exact absurd h (dig_ne u)
  · exact ⟨c, r, rfl, dig_all u c (by rw [h]; simp)⟩

theorem dig_nought (u : Nat) : ∀ r, decDigits u = 48 :: r → u = 0 := by
  induction u using Nat.strongRecOn with
  | ind u ih =>
    intro r hr
    by_cases h : u < 10
    · rw [dig_small h] at hr
      have h1 : UInt8.ofNat (48 + u) = 48 := by simpa using (List.cons.inj hr).1
      have h2 := byte_toNat (k := 48 + u) (by omega)
      rw [h1] at h2
      have h3 : (48 : UInt8).toNat = 48 := rfl
      omega
    · rw [dig_big h] at hr
      obtain ⟨c, t, hc, _⟩ := dig_head (u / 10)
      rw [hc] at hr
      have h1 : c = 48 := by simpa using (List.cons.inj hr).1
      have := ih (u / 10) (by omega) t (by rw [hc, h1])
      omega

theorem dig_len {k : Nat} : ∀ {u : Nat}, u < 10 ^ (k + 1) → (decDigits u).length ≤ k + 1 := by
  induction k with
  | zero =>
    intro u h
    rw [dig_small (by omega)]; simp
  | succ k ih =>
    intro u h
    by_cases hs : u < 10
    · rw [dig_small hs]; simp
    · rw [dig_big hs, List.length_append]
      have := ih (u := u / 10) (by rw [Nat.pow_succ] at h; omega)
      simp only [List.length_cons, List.length_nil]
      omega

theorem parse_snoc (c : UInt8) : ∀ (l : Str) (acc v : Nat), parseUint10 acc l = .ok v → parseUint10 acc (l ++ [c]) = parseUint10 v [c]
  | [], acc, v, h => by
    simp only [parseUint10] at h
    injection h with h
    rw [h]; rfl
  | x :: l, acc, v, h => by
    rw [List.cons_append]
    rw [parseUint10] at h ⊢
    split at h
    · rename_i h1
      rw [if_pos h1]
      split at h
      · cases h
      · rename_i h2
        rw [if_neg h2]
        split at h
        · cases h
        · rename_i h3
          rw [if_neg h3]
          exact parse_snoc c l _ v h
    · cases h

theorem parse_one {v : Nat} {c : UInt8} (h : 48 ≤ c.toNat ∧ c.toNat ≤ 57) (h1 : v < 1844674407370955162) (h2 : v * 10 + (c.toNat - 48) < 18446744073709551616) : parseUint10 v [c] = .ok (v * 10 + (c.toNat - 48)) := by
  rw [parseUint10, if_pos h, if_neg (by omega), if_neg (by omega)]
  rfl

theorem parse_dig (u : Nat) : u < 18446744073709551616 → parseUint10 0 (decDigits u) = .ok u := by
  induction u using Nat.strongRecOn with
  | ind u ih =>
    intro hu
    by_cases h : u < 10
    · rw [dig_small h]
      have h2 := byte_toNat (k := 48 + u) (by omega)
      rw [parse_one (by omega) (by omega) (by omega), h2]
      congr 1; omega
    · rw [dig_big h, parse_snoc _ _ _ _ (ih (u / 10) (by omega) (by omega))]
      have h2 := byte_toNat (k := 48 + u % 10) (by omega)
      rw [parse_one (by omega) (by omega) (by omega), h2]
      congr 1; omega

theorem atoi_itoa {n : Int} (h : inR n) : atoiAll (itoa n) = .ok n := by
  unfold inR at h
  unfold itoa
  split
  · rename_i hn
    have hp : parseMag (decDigits n.natAbs) = .ok n.natAbs := by
      unfold parseMag
      rw [if_neg (dig_ne _)]
      exact parse_dig _ (by omega)
    unfold atoiAll
    simp only
    rw [if_pos (show (45 : UInt8).toNat = 43 ∨ (45 : UInt8).toNat = 45 from .inr rfl), hp]
    simp only
    rw [if_neg (fun hh => hh.1 rfl), if_neg (by omega), if_pos (show (45 : UInt8).toNat = 45 from rfl)]
    congr 1; omega
  · rename_i hn
    obtain ⟨c, r, hc, h1, h2⟩ := dig_head n.toNat
    have hp : parseMag (decDigits n.toNat) = .ok n.toNat := by
      unfold parseMag
      rw [if_neg (dig_ne _)]
      exact parse_dig _ (by omega)
    rw [hc] at hp ⊢
    unfold atoiAll
    simp only
    rw [if_neg (by omega), hp]
    simp only
    rw [if_neg (by omega), if_neg (by omega), if_neg (by omega)]
    congr 1; omega

theorem atoi_inR {w : Str} {v : Int} (h : atoiAll w = .ok v) : inR v := by
  unfold atoiAll at h
  cases w with
  | nil => cases h
  | cons c r =>
    simp only at h
    split at h
    · cases h
    · cases h
    · rename_i u _
      split at h
      · cases h
      · split at h
        · cases h
        · rename_i h1 h2
          injection h with h
          rw [← h]
          unfold inR
          split
          · rename_i hn
            have : ¬ 9223372036854775808 < u := fun hu => h2 ⟨hn, hu⟩
            omega
          · rename_i hn
            have : ¬ 9223372036854775808 ≤ u := fun hu => h1 ⟨hn, hu⟩
            omega

/-- The number of a word, where it is one. -/
def numF (w : Str) : Option Int := match atoiAll w with
  | .ok v => if itoa v = w then some v else none
  | _ => none

theorem numF_iff {w : Str} {n : Int} : numF w = some n ↔ inR n ∧ itoa n = w := by
  unfold numF
  constructor
  · intro h
    split at h
    · rename_i v hv
      split at h
      · rename_i hw
        injection h with h
        subst h
        exact ⟨atoi_inR hv, hw⟩
      · cases h
    · cases h
  · rintro ⟨h1, rfl⟩
    rw [atoi_itoa h1]
    simp

theorem numF_itoa {n : Int} (h : inR n) : numF (itoa n) = some n := numF_iff.2 ⟨h, rfl⟩

theorem itoa_bytes (n : Int) : ∀ c ∈ itoa n, c = 45 ∨ 48 ≤ c.toNat ∧ c.toNat ≤ 57 := by
  intro c hc
  unfold itoa at hc
  split at hc
  · rcases List.mem_cons.1 hc with h | h
    · exact .inl h
    · exact .inr (dig_all _ c h)
  · exact .inr (dig_all _ c hc)

theorem itoa_ne (n : Int) : itoa n ≠ [] := by
  unfold itoa
  split
  · simp
  · exact dig_ne _

theorem itoa_blank (n : Int) : (32 : UInt8) ∉ itoa n := fun h => by
  rcases itoa_bytes n 32 h with h | h
  · exact absurd h (by decide)
  · have : (32 : UInt8).toNat = 32 := rfl
    omega

theorem itoa_head (n : Int) : (itoa n).head? ≠ some 35 := fun h => by
  have hm : (35 : UInt8) ∈ itoa n := by
    rcases hi : itoa n with _ | ⟨c, r⟩
    · rw [hi] at h; cases h
    · rw [hi] at h
      have : c = 35 := by simpa using h
      rw [this]; simp
  rcases itoa_bytes n 35 hm with h | h
  · exact absurd h (by decide)
  · have : (35 : UInt8).toNat = 35 := rfl
    omega

theorem numF_nought {w : Str} (h : w ≠ []) : numF (48 :: w) = none := by
  rcases hh : numF (48 :: w) with _ | n
  · rfl
  · obtain ⟨_, hi⟩ := numF_iff.1 hh
    unfold itoa at hi
    split at hi
    · have := (List.cons.inj hi).1
      exact absurd this (by decide)
    · have h0 := dig_nought _ _ hi
      rw [h0] at hi
      rw [dig_small (by omega)] at hi
      exact absurd (List.cons.inj hi).2.symm h

theorem numF_nil : numF [] = none := rfl

theorem itoa_len {n : Int} (h : inR n) : (itoa n).length ≤ 20 := by
  unfold inR at h
  unfold itoa
  split
  · have := dig_len (k := 18) (u := n.natAbs) (by omega)
    simp only [List.length_cons]; omega
  · have := dig_len (k := 18) (u := n.toNat) (by omega)
    omega

/-! ### The document's way -/
def stepN (n : Int) (c : UInt8) : Int := if 48 ≤ c.toNat ∧ c.toNat ≤ 57 then IntKind.i64.wrap (IntKind.i64.wrap (n * 10) - (c.toNat - 48 : Nat)) else n
def loopN (w : Str) : Int := w.foldl stepN 0
def refN (w : Str) : Int := if w.head? = some 45 ∨ w = [] then loopN w else IntKind.i64.wrap (0 - loopN w)

theorem step_dig {n : Int} {d : Nat} (hd : d < 10) (h : n ≤ 0 ∧ -9223372036854775808 ≤ n * 10 - d) : stepN n (UInt8.ofNat (48 + d)) = n * 10 - d := by
  unfold stepN
  rw [byte_toNat (by omega), if_pos (by omega)]
  rw [wrap_i64 (x := n * 10) (by omega) (by omega), show 48 + d - 48 = d by omega, wrap_i64 (by omega) (by omega)]

theorem loop_dig (u : Nat) : u ≤ 9223372036854775808 → (decDigits u).foldl stepN 0 = -(u : Int) := by
  induction u using Nat.strongRecOn with
  | ind u ih =>
    intro hu
    by_cases h : u < 10
    · rw [dig_small h]
      show stepN 0 _ = _
      rw [step_dig h (by omega)]; omega
    · rw [dig_big h, List.foldl_append, ih (u / 10) (by omega) (by omega)]
      show stepN _ _ = _
      rw [step_dig (by omega) (by omega)]
      omega

theorem refN_itoa {n : Int} (h : inR n) : refN (itoa n) = n := by
  unfold inR at h
  unfold refN loopN itoa
  by_cases hn : n < 0
  · rw [if_pos hn, if_pos (.inl rfl)]
    show (decDigits n.natAbs).foldl stepN (stepN 0 45) = n
    rw [show stepN 0 45 = 0 from rfl, loop_dig _ (by omega)]
    omega
  · rw [if_neg hn]
    obtain ⟨c, r, hc, h1, h2⟩ := dig_head n.toNat
    rw [if_neg, loop_dig _ (by omega), wrap_i64 (by omega) (by omega)]
    · omega
    · rw [hc]
      rintro (h | h)
      · have : c = 45 := by simpa using h
        rw [this] at h1
        exact absurd h1 (by decide)
      · cases h

theorem wrap_inR (x : Int) : inR (IntKind.i64.wrap x) := by
  unfold inR
  simp only [IntKind.wrap, IntKind.signed, IntKind.bits]
  simp
  omega
end Go.Proofs.YtmanfmpdmmhbfaaDoor
