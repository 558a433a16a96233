/- What the document's functions answer: who may be; classes, runs, blocks; bits. -/
import Derived.Test.YtapcknlnhpafcaaArena3
namespace Go.Proofs.Ytapcknlnhpafcaa
open Go.Den

def okU (c0 c1 c2 c3 : Int) : Prop := (1 ≤ c0 ∧ c0 ≤ 64 ∧ 1 ≤ c1 ∧ c1 ≤ 64 ∧ 1 ≤ c2 ∧ c2 ≤ 64) ∧ 0 ≤ c3 ∧ c3 ≤ 8
def okAt (cl : List Int) (i : Nat) : Prop := 16 ≤ cl.getD i 0 ∧ cl.getD i 0 ≤ 512 ∧ cl.getD i 0 % 16 = 0 ∧ (i = 0 ∨ cl.getD (i - 1) 0 < cl.getD i 0)
def okL (cl : List Int) : Prop := 1 ≤ cl.length ∧ cl.length ≤ 16
/-- A system that may be. -/
def mayP (c0 c1 c2 c3 : Int) (cl : List Int) : Prop := (okU c0 c1 c2 c3 ∧ okL cl) ∧ ∀ i, i < cl.length → okAt cl i

section
variable {w : World} {c0 c1 c2 c3 : Int} {a : Option Addr} {l c : Nat} {cl : List Int}

theorem okTo_succ {cl : List Int} {k : Nat} : (∀ i, i < k + 1 → okAt cl i) ↔ (∀ i, i < k → okAt cl i) ∧ okAt cl k := by
  constructor
  · intro h; exact ⟨fun i hi => h i (by omega), h k (by omega)⟩
  · intro ⟨h1, h2⟩ i hi
    rcases Nat.lt_or_ge i k with h | h
    · exact h1 i h
    · have : i = k := by omega
      exact this ▸ h2

theorem r04_May_spec (hc : Cfg w.heap a l cl) :
    CALL Pg F_r04_May [cfgV c0 c1 c2 c3 a l c] w fun v w' => Eff w w' [] ∧ ∃ t : Bool, v = .bool t ∧ (t = true ↔ mayP c0 c1 c2 c3 cl) := by
  apply C_r04_May
  unfold D_r04_May
  intro b1 w1 hE1 _ hb1
  have hl := hc.l_eq
  have hlen := hc.len
  obtain ⟨f0, f1, f2, f3, f4⟩ := cfg_cells hb1
  refine ⟨fun vs w' => ∃ t : Bool, vs = [.bool t] ∧ Eff w1 w' [] ∧ (t = true ↔ okU c0 c1 c2 c3), ?_, ?_⟩
  · have no : ¬ okU c0 c1 c2 c3 → ∃ t : Bool, [Value.bool false] = [.bool t] ∧ Eff w1 w1 [] ∧ (t = true ↔ okU c0 c1 c2 c3) := fun h => ⟨false, rfl, Eff.refl _, by simpa using h⟩
    rw [LDi_of f0]
    refine ITE_d (fun h1 => ?_) (fun h1 => no (by unfold okU; omega))
    rw [LDi_of f0]
    refine ITE_d (fun h2 => ?_) (fun h2 => no (by unfold okU; omega))
    rw [LDi_of f1]
    refine ITE_d (fun h3 => ?_) (fun h3 => no (by unfold okU; omega))
    rw [LDi_of f1]
    refine ITE_d (fun h4 => ?_) (fun h4 => no (by unfold okU; omega))
    rw [LDi_of f2]
    refine ITE_d (fun h5 => ?_) (fun h5 => no (by unfold okU; omega))
    rw [LDi_of f2]
    refine ITE_d (fun h6 => ?_) (fun h6 => no (by unfold okU; omega))
    rw [LDi_of f3]
    refine ITE_d (fun h7 => ?_) (fun h7 => no (by unfold okU; omega))
    rw [LDi_of f3]
    exact ⟨_, rfl, Eff.refl _, by rw [decide_eq_true_iff]; unfold okU; omega⟩
  intro w2 v1 ⟨t1, hv1, hE2, ht1⟩
  cases hv1
  have g4 := hE2.cell0 f4
  refine ⟨fun vs w' => ∃ t : Bool, vs = [.bool t] ∧ Eff w1 w' [] ∧ (t = true ↔ okU c0 c1 c2 c3 ∧ okL cl), ?_, ?_⟩
  · refine ITE_intro (fun h1 => ?_) (fun h1 => ⟨false, rfl, hE2, by simp [← ht1, h1]⟩)
    rw [LDl_of g4]
    refine ITE_d (fun h2 => ?_) (fun h2 => ⟨false, rfl, hE2, by unfold okL; simp only [reduceCtorEq, false_iff, not_and]; omega⟩)
    rw [LDl_of g4]
    exact ⟨_, rfl, hE2, by rw [← ht1, decide_eq_true_iff]; unfold okL; simp only [h1, true_and]; omega⟩
  intro w3 v2 ⟨t2, hv2, hE3, ht2⟩
  cases hv2
  rw [BOOLV_bool]
  refine LOOP_of (fun vs w' => ∃ (t : Bool) (k : Nat), vs = [.bool t, .int .i64 k] ∧ k ≤ cl.length ∧ Eff w1 w' [] ∧ (t = true ↔ (okU c0 c1 c2 c3 ∧ okL cl) ∧ ∀ i, i < k → okAt cl i))
    (fun vs _ => match vs with | [_, .int _ n] => cl.length - n.toNat | _ => 0) ⟨t2, 0, rfl, by omega, hE3, by simp [ht2]⟩ ?_
  intro w4 v3 v4 ⟨t, k, hv, hk, hE4, ht⟩
  simp only [List.cons.injEq, and_true] at hv
  obtain ⟨rfl, rfl⟩ := hv
  have g4 := hE4.cell0 f4
  have hc4 := hc.eff (hE1.trans0 hE4)
  rw [INTV_int, BOOLV_bool, LDl_of g4]
  refine ITE_d (fun h1 => ?_) (fun h1 => ?_)
  rotate_left
  · have : k = cl.length := by omega
    subst this
    exact ⟨hE1.trans0 hE4, t, rfl, ht⟩
  have nx : ∀ t' : Bool, (t' = true ↔ t = true ∧ okAt cl k) → BIND (IntKind.i64.wrap ((k : Int) + 1)) fun n => ((∃ (t : Bool) (k : Nat), [Value.bool t', .int .i64 n] = [.bool t, .int .i64 k] ∧ k ≤ cl.length ∧ Eff w1 w4 [] ∧ (t = true ↔ (okU c0 c1 c2 c3 ∧ okL cl) ∧ ∀ i, i < k → okAt cl i)) ∧ cl.length - n.toNat < cl.length - (k : Int).toNat) := by
    intro t' h'
    refine BINDw (by omega) (by omega) ⟨⟨t', k + 1, rfl, by omega, hE4, ?_⟩, by omega⟩
    rw [h', ht, okTo_succ, and_assoc]
  rw [LDl_of g4]
  refine IDX_i hc4.sl (by omega) (by omega) fun b o hcell => ?_
  rw [LDi_of hcell]
  have e : (k : Int).toNat = k := by omega
  rw [e] at hcell ⊢
  refine ITE_intro (fun h2 => ?_) (fun h2 => nx false (by simp [h2]))
  refine ITE_d (fun h3 => ?_) (fun h3 => nx false (by unfold okAt; simp only [reduceCtorEq, false_iff, not_and]; omega))
  refine ITE_d (fun h4 => ?_) (fun h4 => nx false (by unfold okAt; simp only [reduceCtorEq, false_iff, not_and]; omega))
  refine NZ_of (by omega) (BINDx (Int.tmod_eq_emod_of_nonneg (by omega)) ?_)
  refine ITE_eq (fun h5 => ?_) (fun h5 => nx false (by unfold okAt; simp only [reduceCtorEq, false_iff, not_and]; omega))
  refine ITE_eq (fun h6 => ?_) (fun h6 => ?_)
  · exact nx true (by unfold okAt; simp only [true_iff]; exact ⟨h2, by omega, by omega, by omega, .inl (by omega)⟩)
  rw [LDl_of g4]
  refine BINDw (by omega) (by omega) (IDX_i hc4.sl (by omega) (by omega) fun b o hcell => ?_)
  rw [LDi_of hcell]
  have e : ((k : Int) - 1).toNat = k - 1 := by omega
  rw [e]
  exact nx _ (by rw [decide_eq_true_iff]; unfold okAt; simp only [h2, true_and]; omega)

theorem r05_Class_spec (hc : Cfg w.heap a l cl) (size : Int) :
    CALL Pg F_r05_Class [cfgV c0 c1 c2 c3 a l c, .int .i64 size] w fun v w' => Eff w w' [] ∧ ∃ n : Int, v = .int .i64 n ∧
      (n = -1 ∧ (∀ i, i < cl.length → size < 1 ∨ cl.getD i 0 < size) ∨ 0 ≤ n ∧ n < cl.length ∧ 1 ≤ size ∧ size ≤ cl.getD n.toNat 0 ∧ ∀ i : Nat, (i : Int) < n → cl.getD i 0 < size) := by
  apply C_r05_Class
  unfold D_r05_Class
  intro b1 w1 hE1 _ hb1
  obtain ⟨_, _, _, _, f4⟩ := cfg_cells hb1
  rw [LDl_of f4]
  have hl := hc.l_eq
  have hlen := hc.len
  refine BINDw (by omega) (by omega) ?_
  refine LOOP_of (fun vs w' => ∃ n k : Int, vs = [.int .i64 n, .int .i64 k] ∧ -1 ≤ k ∧ k < cl.length ∧ Eff w1 w' [] ∧
      (n = -1 ∧ (∀ i : Nat, k < i → i < cl.length → size < 1 ∨ cl.getD i 0 < size) ∨ k < n ∧ n < cl.length ∧ 1 ≤ size ∧ size ≤ cl.getD n.toNat 0 ∧ ∀ i : Nat, k < i → (i : Int) < n → cl.getD i 0 < size))
    (fun vs _ => match vs with | [_, .int _ n] => (n + 1).toNat | _ => 0) ⟨-1, _, rfl, by omega, by omega, Eff.refl _, .inl ⟨rfl, by omega⟩⟩ ?_
  intro w2 v1 v2 ⟨n, k, hv, hk1, hk2, hE2, hn⟩
  simp only [List.cons.injEq, and_true] at hv
  obtain ⟨rfl, rfl⟩ := hv
  simp only [INTV_int]
  refine ITE_d (fun h1 => ?_) (fun h1 => ?_)
  rotate_left
  · have : k = -1 := by omega
    subst this
    refine ⟨hE1.trans0 hE2, n, rfl, ?_⟩
    rcases hn with ⟨h2, h3⟩ | ⟨h2, h3, h4, h5, h6⟩
    · exact .inl ⟨h2, fun i hi => h3 i (by omega) hi⟩
    · exact .inr ⟨by omega, h3, h4, h5, fun i hi => h6 i (by omega) hi⟩
  have nx : ∀ n' : Int, (n' = -1 ∧ (∀ i : Nat, k - 1 < i → i < cl.length → size < 1 ∨ cl.getD i 0 < size) ∨ k - 1 < n' ∧ n' < cl.length ∧ 1 ≤ size ∧ size ≤ cl.getD n'.toNat 0 ∧ ∀ i : Nat, k - 1 < i → (i : Int) < n' → cl.getD i 0 < size) →
      BIND (IntKind.i64.wrap (k - 1)) fun k' => ((∃ n k : Int, [Value.int .i64 n', .int .i64 k'] = [.int .i64 n, .int .i64 k] ∧ -1 ≤ k ∧ k < cl.length ∧ Eff w1 w2 [] ∧
        (n = -1 ∧ (∀ i : Nat, k < i → i < cl.length → size < 1 ∨ cl.getD i 0 < size) ∨ k < n ∧ n < cl.length ∧ 1 ≤ size ∧ size ≤ cl.getD n.toNat 0 ∧ ∀ i : Nat, k < i → (i : Int) < n → cl.getD i 0 < size)) ∧ (k' + 1).toNat < (k + 1).toNat) :=
    fun n' h => BINDw (by omega) (by omega) ⟨⟨n', k - 1, rfl, by omega, by omega, hE2, h⟩, by omega⟩
  have hat : ∀ i : Nat, k - 1 < i → k < i ∨ i = k.toNat := by omega
  refine ITE_d (fun h2 => ?_) (fun h2 => ?_)
  · rw [LDl_of (hE2.cell0 f4)]
    refine IDX_i (hc.eff (hE1.trans0 hE2)).sl (by omega) (by omega) fun b o hcell => ?_
    rw [LDi_of hcell]
    refine ITE_d (fun h3 => ?_) (fun h3 => ?_)
    · exact nx k (.inr ⟨by omega, by omega, h2, h3, by omega⟩)
    · refine nx n ?_
      rcases hn with ⟨h4, h5⟩ | ⟨h4, h5, h6, h7, h8⟩
      · refine .inl ⟨h4, fun i hi hi2 => ?_⟩
        rcases hat i hi with h | rfl
        · exact h5 i h hi2
        · exact .inr (by omega)
      · refine .inr ⟨by omega, h5, h6, h7, fun i hi hi2 => ?_⟩
        rcases hat i hi with h | rfl
        · exact h8 i h hi2
        · omega
  · refine nx n ?_
    rcases hn with ⟨h4, h5⟩ | ⟨h4, h5, h6, h7, h8⟩
    · exact .inl ⟨h4, fun i _ _ => .inl (by omega)⟩
    · omega

theorem clsF_spec (cl : List Int) (size : Int) (j : Nat) : ∀ n b, clsF cl size j = (n, b) → (b = false ∧ n = 0 ∧ ∀ i, i < cl.length → cl.getD i 0 < size) ∨ (b = true ∧ j ≤ n ∧ n < j + cl.length ∧ size ≤ cl.getD (n - j).toNat 0 ∧ ∀ i : Nat, (i : Int) < n - j → cl.getD i 0 < size) := by
  induction cl generalizing j with
  | nil => intro n b h; cases h; exact .inl ⟨rfl, rfl, by simp⟩
  | cons x r ih =>
    intro n b h
    unfold clsF at h
    split at h
    · rename_i hx
      cases h
      refine .inr ⟨rfl, by omega, by simp; omega, ?_, by omega⟩
      have : ((j : Int) - j).toNat = 0 := by omega
      rw [this]; simpa using hx
    · rename_i hx
      rcases ih (j + 1) n b h with ⟨h1, h2, h3⟩ | ⟨h1, h2, h3, h4, h5⟩
      · refine .inl ⟨h1, h2, fun i hi => ?_⟩
        cases i with
        | zero => simpa using hx
        | succ i => simpa using h3 i (by simpa using hi)
      · refine .inr ⟨h1, by omega, by simp; omega, ?_, fun i hi => ?_⟩
        · have : (n - j).toNat = (n - (j + 1 : Nat)).toNat + 1 := by omega
          rw [this]; simpa using h4
        · cases i with
          | zero => simpa using hx
          | succ i => simpa using h5 i (by omega)

/-- The document's class is the program's. -/
theorem class_same {size n : Int} (h : n = -1 ∧ (∀ i, i < cl.length → size < 1 ∨ cl.getD i 0 < size) ∨ 0 ≤ n ∧ n < cl.length ∧ 1 ≤ size ∧ size ≤ cl.getD n.toNat 0 ∧ ∀ i : Nat, (i : Int) < n → cl.getD i 0 < size) :
    classF cl size = if n = -1 then (0, false) else (n, true) := by
  unfold classF
  rcases h with ⟨rfl, h⟩ | ⟨h1, h2, h3, h4, h5⟩
  · split
    · rfl
    · rename_i hs
      rcases hq : clsF cl size 0 with ⟨m, b⟩
      rcases clsF_spec cl size 0 m b hq with ⟨rfl, rfl, _⟩ | ⟨_, g2, g3, g4, _⟩
      · rfl
      · have e : (m - (0 : Nat)).toNat = m.toNat := by omega
        rw [e] at g4
        rcases h m.toNat (by omega) with h | h <;> omega
  · rw [if_neg (by omega), if_neg (by omega)]
    rcases hq : clsF cl size 0 with ⟨m, b⟩
    rcases clsF_spec cl size 0 m b hq with ⟨rfl, rfl, g⟩ | ⟨rfl, g2, g3, g4, g5⟩
    · have := g n.toNat (by omega); omega
    · have e : (m - (0 : Nat)).toNat = m.toNat := by omega
      rw [e] at g4
      have : m = n := by
        rcases Int.lt_trichotomy m n with h | h | h
        · have := h5 m.toNat (by omega); omega
        · exact h
        · have := g5 n.toNat (by omega); omega
      rw [this]

theorem r05_Run_spec (hc : Cfg w.heap a l cl) (h1 : 0 ≤ c1) (h2 : c1 ≤ 1000000) (size : Int) :
    CALL Pg F_r05_Run [cfgV c0 c1 c2 c3 a l c, .int .i64 size] w fun v w' => Eff w w' [] ∧ v = .int .i64 (runF c1 cl size) := by
  apply C_r05_Run
  unfold D_r05_Run
  intro b1 w1 hE1 _ hb1
  obtain ⟨f0, f1, f2, f3, f4⟩ := cfg_cells hb1
  refine ITE_d (fun h3 => ?_) (fun h3 => ?_)
  · exact ⟨hE1, by simp [runF, h3]⟩
  rw [LDi_of f0, LDi_of f1, LDi_of f2, LDi_of f3, LDl_of f4]
  refine (r05_Class_spec (hc.eff hE1) size).mono fun v w2 ⟨hE2, n, hv, hn⟩ => ?_
  subst hv
  rw [INTV_int]
  have hcl := class_same hn
  refine ITE_d (fun h4 => ?_) (fun h4 => ?_)
  · rw [if_neg (by omega)] at hcl
    exact ⟨hE1.trans0 hE2, by simp [runF, hcl]⟩
  rw [if_pos (by rcases hn with h | h <;> omega)] at hcl
  refine LOOP_of (fun vs w' => ∃ k : Int, vs = [.int .i64 0, .int .i64 k] ∧ 1 ≤ k ∧ k ≤ c1 + 1 ∧ Eff w1 w' [] ∧ 1024 * (k - 1) < size)
    (fun vs _ => match vs with | [_, .int _ n] => (c1 + 1 - n).toNat | _ => 0) ⟨1, rfl, by omega, by omega, hE2, by omega⟩ ?_
  intro w3 v1 v2 ⟨k, hv, hk1, hk2, hE3, hk3⟩
  simp only [List.cons.injEq, and_true] at hv
  obtain ⟨rfl, rfl⟩ := hv
  simp only [INTV_int]
  rw [LDi_of (hE3.cell0 f1)]
  refine ITE_d (fun h5 => ?_) (fun h5 => ?_)
  · refine BINDw (by omega) (by omega) (ITE_d (fun h6 => ?_) (fun h6 => ?_))
    · refine ⟨hE1.trans0 hE3, ?_⟩
      have : runF c1 cl size = k := by
        unfold runF; rw [hcl, if_neg (by simp), if_neg (by omega), if_neg (by omega)]; omega
      rw [this]
    · exact BINDw (by omega) (by omega) ⟨⟨k + 1, rfl, by omega, by omega, hE3, by omega⟩, by omega⟩
  · refine ⟨hE1.trans0 hE3, ?_⟩
    have : runF c1 cl size = 0 := by
      unfold runF; rw [hcl, if_neg (by simp), if_neg (by omega), if_pos (by omega)]
    rw [this]

end
end Go.Proofs.Ytapcknlnhpafcaa
