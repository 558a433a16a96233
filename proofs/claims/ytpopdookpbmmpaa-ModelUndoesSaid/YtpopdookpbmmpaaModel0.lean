/- What the functions of package arena, and the document's, answer: those that a model asks. -/
import Derived.Test.YtpopdookpbmmpaaM1
import Derived.Test.YtpopdookpbmmpaaSpan1
import Derived.Test.YtpopdookpbmmpaaDenR
namespace Go.Proofs.Ytpopdookpbmmpaa
open Go.Den
set_option maxRecDepth 100000
set_option maxHeartbeats 4000000

abbrev cfgV (c0 c1 c2 c3 : Int) (a : Option Addr) (l c : Nat) : Value := .agg #[.int .i64 c0, .int .i64 c1, .int .i64 c2, .int .i64 c3, .slice a l c]
abbrev cfgL (c0 c1 c2 c3 : Int) (a : Option Addr) (l c : Nat) : List Value := [.int .i64 c0, .int .i64 c1, .int .i64 c2, .int .i64 c3, .slice a l c]

theorem cfg_cells {h : Array Obj} {b : Nat} {c0 c1 c2 c3 : Int} {a : Option Addr} {l c : Nat} {t : TypeId} (hb : h[b]? = some (.cells (cfgL c0 c1 c2 c3 a l c).toArray t (0, 0))) :
    cellH h b 0 = some (.int .i64 c0) ∧ cellH h b 1 = some (.int .i64 c1) ∧ cellH h b 2 = some (.int .i64 c2) ∧ cellH h b 3 = some (.int .i64 c3) ∧ cellH h b 4 = some (.slice a l c) :=
  ⟨cellH_of hb 0, cellH_of hb 1, cellH_of hb 2, cellH_of hb 3, cellH_of hb 4⟩

/-- A Config as it comes in: what its classes read as. -/
structure Cfg (h : Array Obj) (a : Option Addr) (l : Nat) (cl : List Int) : Prop where
  sl : SlI h a l cl
  len : cl.length ≤ 9223372036854775807

theorem Cfg.eff {w w' : World} {a : Option Addr} {l : Nat} {cl : List Int} (h : Cfg w.heap a l cl) (hE : Eff w w' []) : Cfg w'.heap a l cl := ⟨h.sl.eff hE, h.len⟩
theorem Cfg.l_eq {h : Array Obj} {a : Option Addr} {l : Nat} {cl : List Int} (hc : Cfg h a l cl) : l = cl.length := hc.sl.1

/-- The class of a size. -/
def clsF : List Int → Int → Nat → Int × Bool
  | [], _, _ => (0, false)
  | n :: r, size, k => if size ≤ n then ((k : Int), true) else clsF r size (k + 1)
def classF (cl : List Int) (size : Int) : Int × Bool := if size < 1 then (0, false) else clsF cl size 0

theorem clsF_at (cl : List Int) (size : Int) : ∀ (d k : Nat), cl.length - k = d → k ≤ cl.length → ∀ j, clsF (cl.drop k) size j = if h : k < cl.length then (if size ≤ cl[k] then ((j : Int), true) else clsF (cl.drop (k + 1)) size (j + 1)) else (0, false) := by
  intro d k _ hk j
  by_cases h : k < cl.length
  · rw [dif_pos h, List.drop_eq_getElem_cons h]
    rfl
  · rw [dif_neg h, List.drop_eq_nil_of_le (by omega)]
    rfl

section
variable {w : World} {c0 c1 c2 c3 : Int} {a : Option Addr} {l c : Nat} {cl : List Int}

theorem arena_Class_spec (hc : Cfg w.heap a l cl) (size : Int) :
    CALL Pg F_arena_Class [cfgV c0 c1 c2 c3 a l c, .int .i64 size] w fun v w' => Eff w w' [] ∧ v = .tuple #[.int .i64 (classF cl size).1, .bool (classF cl size).2] := by
  apply C_arena_Class
  unfold D_arena_Class
  intro b1 w1 hE1 _ hb1
  refine ITE_d (fun h => ?_) (fun h => ?_)
  · exact ⟨hE1, by simp [classF, h]⟩
  obtain ⟨_, _, _, _, f4⟩ := cfg_cells hb1
  rw [LDl_of f4]
  have hl := hc.l_eq
  have hlen := hc.len
  refine LOOP_of (fun vs w' => ∃ k : Nat, vs = [.int .i64 0, .bool false, .int .i64 k] ∧ k ≤ cl.length ∧ clsF (cl.drop k) size k = clsF cl size 0 ∧ Eff w w' [])
    (fun vs _ => match vs with | [_, _, .int _ n] => cl.length - n.toNat | _ => 0) ⟨0, rfl, by omega, by simp, hE1⟩ ?_
  intro w2 v1 v2 v3 ⟨k, hv, hk, hn, hE2⟩
  simp only [List.cons.injEq, and_true] at hv
  obtain ⟨rfl, rfl, rfl⟩ := hv
  simp only [INTV_int, BOOLV]
  have hat := clsF_at cl size _ k rfl hk k
  rw [hn] at hat
  refine ITE_d (fun h1 => ?_) (fun h1 => ?_)
  · refine IDX_i (hc.eff hE2).sl (by omega) (by omega) fun b o hcell => ?_
    rw [LDi_of hcell]
    have hk1 : k < cl.length := by omega
    rw [dif_pos hk1] at hat
    have hg : cl.getD (k : Int).toNat 0 = cl[k] := by simp [hk1]
    rw [hg]
    refine ITE_d (fun h2 => ?_) (fun h2 => ?_)
    · rw [if_pos h2] at hat
      exact ⟨hE2, by simp [classF, h, hat]⟩
    · rw [if_neg h2] at hat
      unfold BIND
      rw [wrap_i64 (by omega) (by omega)]
      exact ⟨⟨k + 1, by simp, by omega, hat.symm, hE2⟩, by simp; omega⟩
  · rw [dif_neg (by omega)] at hat
    exact ⟨hE2, by simp [classF, h, hat]⟩

theorem arena_Most_spec : CALL Pg F_arena_Most [cfgV c0 c1 c2 c3 a l c] w fun v w' => Eff w w' [] ∧ v = .int .i64 (IntKind.i64.wrap (c1 * 1024)) := by
  apply C_arena_Most
  unfold D_arena_Most
  intro b1 w1 hE1 _ hb1
  obtain ⟨_, f1, _, _, _⟩ := cfg_cells hb1
  rw [LDi_of f1]
  exact ⟨hE1, rfl⟩

theorem arena_End_spec : CALL Pg F_arena_End [cfgV c0 c1 c2 c3 a l c] w fun v w' => Eff w w' [] ∧ v = .int .i64 (IntKind.i64.wrap (65536 + IntKind.i64.wrap (c1 * 1024))) := by
  apply C_arena_End
  unfold D_arena_End
  intro b1 w1 hE1 _ hb1
  obtain ⟨f0, f1, f2, f3, f4⟩ := cfg_cells hb1
  rw [LDi_of f0, LDi_of f1, LDi_of f2, LDi_of f3, LDl_of f4]
  refine arena_Most_spec.mono fun v w2 ⟨hE2, hv⟩ => ?_
  subst hv
  rw [INTV_int]
  exact ⟨hE1.trans0 hE2, rfl⟩

/-- How many superblocks a size takes. -/
def runF (c1 : Int) (cl : List Int) (size : Int) : Int := if (classF cl size).2 = true then 0 else if size < 1 then 0 else if size > c1 * 1024 then 0 else (size + 1023) / 1024

theorem arena_Run_spec (hc : Cfg w.heap a l cl) (h1 : 0 ≤ c1) (h2 : c1 ≤ 1000000) (size : Int) :
    CALL Pg F_arena_Run [cfgV c0 c1 c2 c3 a l c, .int .i64 size] w fun v w' => Eff w w' [] ∧ v = .int .i64 (runF c1 cl size) := by
  apply C_arena_Run
  unfold D_arena_Run
  intro b1 w1 hE1 _ hb1
  obtain ⟨f0, f1, f2, f3, f4⟩ := cfg_cells hb1
  rw [LDi_of f0, LDi_of f1, LDi_of f2, LDi_of f3, LDl_of f4]
  refine (arena_Class_spec (hc.eff hE1) size).mono fun v w2 ⟨hE2, hv⟩ => ?_
  subst hv
  obtain ⟨f0, f1, f2, f3, f4⟩ := cfg_cells (hE2.obj0 hb1)
  have hE12 := hE1.trans0 hE2
  refine ITE_intro (fun h => ?_) (fun h => ?_)
  · exact ⟨hE12, by simp [runF, h]⟩
  refine ITE_d (fun h3 => ?_) (fun h3 => ?_)
  · exact ⟨hE12, by simp [runF, h, h3]⟩
  rw [LDi_of f0, LDi_of f1, LDi_of f2, LDi_of f3, LDl_of f4]
  refine arena_Most_spec.mono fun v w3 ⟨hE3, hv⟩ => ?_
  subst hv
  rw [INTV_int, wrap_i64 (by omega) (by omega)]
  have hE13 := hE12.trans0 hE3
  refine ITE_d (fun h4 => ?_) (fun h4 => ?_)
  · exact ⟨hE13, by simp [runF, h, h3, h4]⟩
  refine BINDw (by omega) (by omega) (BINDw (by omega) (by omega) (NZ_of (by omega) ?_))
  have e : (size + 1024 - 1).tdiv 1024 = (size + 1023) / 1024 := by
    rw [Int.tdiv_eq_ediv_of_nonneg (by omega)]; congr 1; omega
  rw [e]
  exact BINDw (by omega) (by omega) ⟨hE13, by simp [runF, h, h3, h4]⟩

end

section
variable {w : World} {c0 c1 c2 c3 : Int} {a : Option Addr} {l c : Nat} {cl : List Int}

/-- The superblock and the grain of an address. -/
def placeF (c1 at_ : Int) : Int × Int × Bool := if at_ < 65536 ∨ at_ ≥ 65536 + c1 * 1024 ∨ at_ % 16 ≠ 0 then (0, 0, false) else ((at_ - 65536) / 16 / 64, (at_ - 65536) / 16 % 64, true)

theorem arena_Place_spec (h1 : 0 ≤ c1) (h2 : c1 ≤ 1000000) (at_ : Int) :
    CALL Pg F_arena_Place [cfgV c0 c1 c2 c3 a l c, .int .i64 at_] w fun v w' => Eff w w' [] ∧ v = .tuple #[.int .i64 (placeF c1 at_).1, .int .i64 (placeF c1 at_).2.1, .bool (placeF c1 at_).2.2] := by
  apply C_arena_Place
  unfold D_arena_Place
  intro b1 w1 hE1 _ hb1
  refine ITE_d (fun h => ?_) (fun h => ?_)
  · exact ⟨hE1, by simp [placeF, h]⟩
  obtain ⟨f0, f1, f2, f3, f4⟩ := cfg_cells hb1
  rw [LDi_of f0, LDi_of f1, LDi_of f2, LDi_of f3, LDl_of f4]
  refine arena_End_spec.mono fun v w2 ⟨hE2, hv⟩ => ?_
  subst hv
  have hE12 := hE1.trans0 hE2
  rw [INTV_int, wrap_i64 (x := c1 * 1024) (by omega) (by omega), wrap_i64 (by omega) (by omega)]
  refine ITE_d (fun h3 => ?_) (fun h3 => ?_)
  · exact ⟨hE12, by simp [placeF, h3]⟩
  refine NZ_of (by omega) (BINDx (Int.tmod_eq_emod_of_nonneg (by omega)) ?_)
  refine ITE_ne (fun h4 => ?_) (fun h4 => ?_)
  · exact ⟨hE12, by simp [placeF, h4]⟩
  refine BINDw (by omega) (by omega) (NZ_of (by omega) ?_)
  rw [Int.tdiv_eq_ediv_of_nonneg (by omega)]
  refine BINDw (by omega) (by omega) (NZ_of (by omega) ?_)
  rw [Int.tdiv_eq_ediv_of_nonneg (by omega), Int.tmod_eq_emod_of_nonneg (by omega)]
  refine BINDw (by omega) (by omega) (NZ_of (by omega) (BINDx rfl ⟨hE12, ?_⟩))
  have hp : placeF c1 at_ = ((at_ - 65536) / 16 / 64, (at_ - 65536) / 16 % 64, true) := by
    unfold placeF; rw [if_neg]; omega
  rw [hp]
end

def okU (c0 c1 c2 c3 : Int) : Prop := (1 ≤ c0 ∧ c0 ≤ 64 ∧ 1 ≤ c1 ∧ c1 ≤ 64 ∧ 1 ≤ c2 ∧ c2 ≤ 64) ∧ 0 ≤ c3 ∧ c3 ≤ 8
def okAt (cl : List Int) (i : Nat) : Prop := 16 ≤ cl.getD i 0 ∧ cl.getD i 0 ≤ 512 ∧ cl.getD i 0 % 16 = 0 ∧ (i = 0 ∨ cl.getD (i - 1) 0 < cl.getD i 0)
def okL (cl : List Int) : Prop := 1 ≤ cl.length ∧ cl.length ≤ 16
/-- A system that may be. -/
def mayP (c0 c1 c2 c3 : Int) (cl : List Int) : Prop := (okU c0 c1 c2 c3 ∧ okL cl) ∧ ∀ i, i < cl.length → okAt cl i

section
variable {w : World} {c0 c1 c2 c3 : Int} {a : Option Addr} {l c : Nat} {cl : List Int}

theorem okTo_succ {cl : List Int} {k : Nat} : (∀ i, i < k + 1 → okAt cl i) ↔ (∀ i, i < k → okAt cl i) ∧ okAt cl k := by
  constructor
  · intro h; exact ⟨fun i hi => h i (by omega), h k (by omega)⟩
  · intro ⟨h1, h2⟩ i hi
    rcases Nat.lt_or_ge i k with h | h
    · exact h1 i h
    · have : i = k := by omega
      exact this ▸ h2

theorem r04_May_spec (hc : Cfg w.heap a l cl) :
    CALL Pg F_r04_May [cfgV c0 c1 c2 c3 a l c] w fun v w' => Eff w w' [] ∧ ∃ t : Bool, v = .bool t ∧ (t = true ↔ mayP c0 c1 c2 c3 cl) := by
  apply C_r04_May
  unfold D_r04_May
  intro b1 w1 hE1 _ hb1
  have hl := hc.l_eq
  have hlen := hc.len
  obtain ⟨f0, f1, f2, f3, f4⟩ := cfg_cells hb1
  refine ⟨fun vs w' => ∃ t : Bool, vs = [.bool t] ∧ Eff w1 w' [] ∧ (t = true ↔ okU c0 c1 c2 c3), ?_, ?_⟩
  · have no : ¬ okU c0 c1 c2 c3 → ∃ t : Bool, [Value.bool false] = [.bool t] ∧ Eff w1 w1 [] ∧ (t = true ↔ okU c0 c1 c2 c3) := fun h => ⟨false, rfl, Eff.refl _, by simpa using h⟩
    rw [LDi_of f0]
    refine ITE_d (fun h1 => ?_) (fun h1 => no (by unfold okU; omega))
    rw [LDi_of f0]
    refine ITE_d (fun h2 => ?_) (fun h2 => no (by unfold okU; omega))
    rw [LDi_of f1]
    refine ITE_d (fun h3 => ?_) (fun h3 => no (by unfold okU; omega))
    rw [LDi_of f1]
    refine ITE_d (fun h4 => ?_) (fun h4 => no (by unfold okU; omega))
    rw [LDi_of f2]
    refine ITE_d (fun h5 => ?_) (fun h5 => no (by unfold okU; omega))
    rw [LDi_of f2]
    refine ITE_d (fun h6 => ?_) (fun h6 => no (by unfold okU; omega))
    rw [LDi_of f3]
    refine ITE_d (fun h7 => ?_) (fun h7 => no (by unfold okU; omega))
    rw [LDi_of f3]
    exact ⟨_, rfl, Eff.refl _, by rw [decide_eq_true_iff]; unfold okU; omega⟩
  intro w2 v1 ⟨t1, hv1, hE2, ht1⟩
  cases hv1
  have g4 := hE2.cell0 f4
  refine ⟨fun vs w' => ∃ t : Bool, vs = [.bool t] ∧ Eff w1 w' [] ∧ (t = true ↔ okU c0 c1 c2 c3 ∧ okL cl), ?_, ?_⟩
  · refine ITE_intro (fun h1 => ?_) (fun h1 => ⟨false, rfl, hE2, by simp [← ht1, h1]⟩)
    rw [LDl_of g4]
    refine ITE_d (fun h2 => ?_) (fun h2 => ⟨false, rfl, hE2, by unfold okL; simp only [reduceCtorEq, false_iff, not_and]; omega⟩)
    rw [LDl_of g4]
    exact ⟨_, rfl, hE2, by rw [← ht1, decide_eq_true_iff]; unfold okL; simp only [h1, true_and]; omega⟩
  intro w3 v2 ⟨t2, hv2, hE3, ht2⟩
  cases hv2
  rw [BOOLV_bool]
  refine LOOP_of (fun vs w' => ∃ (t : Bool) (k : Nat), vs = [.bool t, .int .i64 k] ∧ k ≤ cl.length ∧ Eff w1 w' [] ∧ (t = true ↔ (okU c0 c1 c2 c3 ∧ okL cl) ∧ ∀ i, i < k → okAt cl i))
    (fun vs _ => match vs with | [_, .int _ n] => cl.length - n.toNat | _ => 0) ⟨t2, 0, rfl, by omega, hE3, by simp [ht2]⟩ ?_
  intro w4 v3 v4 ⟨t, k, hv, hk, hE4, ht⟩
  simp only [List.cons.injEq, and_true] at hv
  obtain ⟨rfl, rfl⟩ := hv
  have g4 := hE4.cell0 f4
  have hc4 := hc.eff (hE1.trans0 hE4)
  rw [INTV_int, BOOLV_bool, LDl_of g4]
  refine ITE_d (fun h1 => ?_) (fun h1 => ?_)
  rotate_left
  · have : k = cl.length := by omega
    subst this
    exact ⟨hE1.trans0 hE4, t, rfl, ht⟩
  have nx : ∀ t' : Bool, (t' = true ↔ t = true ∧ okAt cl k) → BIND (IntKind.i64.wrap ((k : Int) + 1)) fun n => ((∃ (t : Bool) (k : Nat), [Value.bool t', .int .i64 n] = [.bool t, .int .i64 k] ∧ k ≤ cl.length ∧ Eff w1 w4 [] ∧ (t = true ↔ (okU c0 c1 c2 c3 ∧ okL cl) ∧ ∀ i, i < k → okAt cl i)) ∧ cl.length - n.toNat < cl.length - (k : Int).toNat) := by
    intro t' h'
    refine BINDw (by omega) (by omega) ⟨⟨t', k + 1, rfl, by omega, hE4, ?_⟩, by omega⟩
    rw [h', ht, okTo_succ, and_assoc]
  rw [LDl_of g4]
  refine IDX_i hc4.sl (by omega) (by omega) fun b o hcell => ?_
  rw [LDi_of hcell]
  have e : (k : Int).toNat = k := by omega
  rw [e] at hcell ⊢
  refine ITE_intro (fun h2 => ?_) (fun h2 => nx false (by simp [h2]))
  refine ITE_d (fun h3 => ?_) (fun h3 => nx false (by unfold okAt; simp only [reduceCtorEq, false_iff, not_and]; omega))
  refine ITE_d (fun h4 => ?_) (fun h4 => nx false (by unfold okAt; simp only [reduceCtorEq, false_iff, not_and]; omega))
  refine NZ_of (by omega) (BINDx (Int.tmod_eq_emod_of_nonneg (by omega)) ?_)
  refine ITE_eq (fun h5 => ?_) (fun h5 => nx false (by unfold okAt; simp only [reduceCtorEq, false_iff, not_and]; omega))
  refine ITE_eq (fun h6 => ?_) (fun h6 => ?_)
  · exact nx true (by unfold okAt; simp only [true_iff]; exact ⟨h2, by omega, by omega, by omega, .inl (by omega)⟩)
  rw [LDl_of g4]
  refine BINDw (by omega) (by omega) (IDX_i hc4.sl (by omega) (by omega) fun b o hcell => ?_)
  rw [LDi_of hcell]
  have e : ((k : Int) - 1).toNat = k - 1 := by omega
  rw [e]
  exact nx _ (by rw [decide_eq_true_iff]; unfold okAt; simp only [h2, true_and]; omega)

theorem r05_Class_spec (hc : Cfg w.heap a l cl) (size : Int) :
    CALL Pg F_r05_Class [cfgV c0 c1 c2 c3 a l c, .int .i64 size] w fun v w' => Eff w w' [] ∧ ∃ n : Int, v = .int .i64 n ∧
      (n = -1 ∧ (∀ i, i < cl.length → size < 1 ∨ cl.getD i 0 < size) ∨ 0 ≤ n ∧ n < cl.length ∧ 1 ≤ size ∧ size ≤ cl.getD n.toNat 0 ∧ ∀ i : Nat, (i : Int) < n → cl.getD i 0 < size) := by
  apply C_r05_Class
  unfold D_r05_Class
  intro b1 w1 hE1 _ hb1
  obtain ⟨_, _, _, _, f4⟩ := cfg_cells hb1
  rw [LDl_of f4]
  have hl := hc.l_eq
  have hlen := hc.len
  refine BINDw (by omega) (by omega) ?_
  refine LOOP_of (fun vs w' => ∃ n k : Int, vs = [.int .i64 n, .int .i64 k] ∧ -1 ≤ k ∧ k < cl.length ∧ Eff w1 w' [] ∧
      (n = -1 ∧ (∀ i : Nat, k < i → i < cl.length → size < 1 ∨ cl.getD i 0 < size) ∨ k < n ∧ n < cl.length ∧ 1 ≤ size ∧ size ≤ cl.getD n.toNat 0 ∧ ∀ i : Nat, k < i → (i : Int) < n → cl.getD i 0 < size))
    (fun vs _ => match vs with | [_, .int _ n] => (n + 1).toNat | _ => 0) ⟨-1, _, rfl, by omega, by omega, Eff.refl _, .inl ⟨rfl, by omega⟩⟩ ?_
  intro w2 v1 v2 ⟨n, k, hv, hk1, hk2, hE2, hn⟩
  simp only [List.cons.injEq, and_true] at hv
  obtain ⟨rfl, rfl⟩ := hv
  simp only [INTV_int]
  refine ITE_d (fun h1 => ?_) (fun h1 => ?_)
  rotate_left
  · have : k = -1 := by omega
    subst this
    refine ⟨hE1.trans0 hE2, n, rfl, ?_⟩
    rcases hn with ⟨h2, h3⟩ | ⟨h2, h3, h4, h5, h6⟩
    · exact .inl ⟨h2, fun i hi => h3 i (by omega) hi⟩
    · exact .inr ⟨by omega, h3, h4, h5, fun i hi => h6 i (by omega) hi⟩
  have nx : ∀ n' : Int, (n' = -1 ∧ (∀ i : Nat, k - 1 < i → i < cl.length → size < 1 ∨ cl.getD i 0 < size) ∨ k - 1 < n' ∧ n' < cl.length ∧ 1 ≤ size ∧ size ≤ cl.getD n'.toNat 0 ∧ ∀ i : Nat, k - 1 < i → (i : Int) < n' → cl.getD i 0 < size) →
      BIND (IntKind.i64.wrap (k - 1)) fun k' => ((∃ n k : Int, [Value.int .i64 n', .int .i64 k'] = [.int .i64 n, .int .i64 k] ∧ -1 ≤ k ∧ k < cl.length ∧ Eff w1 w2 [] ∧
        (n = -1 ∧ (∀ i : Nat, k < i → i < cl.length → size < 1 ∨ cl.getD i 0 < size) ∨ k < n ∧ n < cl.length ∧ 1 ≤ size ∧ size ≤ cl.getD n.toNat 0 ∧ ∀ i : Nat, k < i → (i : Int) < n → cl.getD i 0 < size)) ∧ (k' + 1).toNat < (k + 1).toNat) :=
    fun n' h => BINDw (by omega) (by omega) ⟨⟨n', k - 1, rfl, by omega, by omega, hE2, h⟩, by omega⟩
  have hat : ∀ i : Nat, k - 1 < i → k < i ∨ i = k.toNat := by omega
  refine ITE_d (fun h2 => ?_) (fun h2 => ?_)
  · rw [LDl_of (hE2.cell0 f4)]
    refine IDX_i (hc.eff (hE1.trans0 hE2)).sl (by omega) (by omega) fun b o hcell => ?_
    rw [LDi_of hcell]
    refine ITE_d (fun h3 => ?_) (fun h3 => ?_)
    · exact nx k (.inr ⟨by omega, by omega, h2, h3, by omega⟩)
    · refine nx n ?_
      rcases hn with ⟨h4, h5⟩ | ⟨h4, h5, h6, h7, h8⟩
      · refine .inl ⟨h4, fun i hi hi2 => ?_⟩
        rcases hat i hi with h | rfl
        · exact h5 i h hi2
        · exact .inr (by omega)
      · refine .inr ⟨by omega, h5, h6, h7, fun i hi hi2 => ?_⟩
        rcases hat i hi with h | rfl
        · exact h8 i h hi2
        · omega
  · refine nx n ?_
    rcases hn with ⟨h4, h5⟩ | ⟨h4, h5, h6, h7, h8⟩
    · exact .inl ⟨h4, fun i _ _ => .inl (by omega)⟩
    · omega

theorem clsF_spec (cl : List Int) (size : Int) (j : Nat) : ∀ n b, clsF cl size j = (n, b) → (b = false ∧ n = 0 ∧ ∀ i, i < cl.length → cl.getD i 0 < size) ∨ (b = true ∧ j ≤ n ∧ n < j + cl.length ∧ size ≤ cl.getD (n - j).toNat 0 ∧ ∀ i : Nat, (i : Int) < n - j → cl.getD i 0 < size) := by
  induction cl generalizing j with
  | nil => intro n b h; cases h; exact .inl ⟨rfl, rfl, by simp⟩
  | cons x r ih =>
    intro n b h
    unfold clsF at h
    split at h
    · rename_i hx
      cases h
      refine .inr ⟨rfl, by omega, by simp; omega, ?_, by omega⟩
      have : ((j : Int) - j).toNat = 0 := by omega
      rw [this]; simpa using hx
    · rename_i hx
      rcases ih (j + 1) n b h with ⟨h1, h2, h3⟩ | ⟨h1, h2, h3, h4, h5⟩
      · refine .inl ⟨h1, h2, fun i hi => ?_⟩
        cases i with
        | zero => simpa using hx
        | succ i => simpa using h3 i (by simpa using hi)
      · refine .inr ⟨h1, by omega, by simp; omega, ?_, fun i hi => ?_⟩
        · have : (n - j).toNat = (n - (j + 1 : Nat)).toNat + 1 := by omega
          rw [this]; simpa using h4
        · cases i with
          | zero => simpa using hx
          | succ i => simpa using h5 i (by omega)

/-- The document's class is the program's. -/
theorem class_same {size n : Int} (h : n = -1 ∧ (∀ i, i < cl.length → size < 1 ∨ cl.getD i 0 < size) ∨ 0 ≤ n ∧ n < cl.length ∧ 1 ≤ size ∧ size ≤ cl.getD n.toNat 0 ∧ ∀ i : Nat, (i : Int) < n → cl.getD i 0 < size) :
    classF cl size = if n = -1 then (0, false) else (n, true) := by
  unfold classF
  rcases h with ⟨rfl, h⟩ | ⟨h1, h2, h3, h4, h5⟩
  · split
    · rfl
    · rename_i hs
      rcases hq : clsF cl size 0 with ⟨m, b⟩
      rcases clsF_spec cl size 0 m b hq with ⟨rfl, rfl, _⟩ | ⟨_, g2, g3, g4, _⟩
      · rfl
      · have e : (m - (0 : Nat)).toNat = m.toNat := by omega
        rw [e] at g4
        rcases h m.toNat (by omega) with h | h <;> omega
  · rw [if_neg (by omega), if_neg (by omega)]
    rcases hq : clsF cl size 0 with ⟨m, b⟩
    rcases clsF_spec cl size 0 m b hq with ⟨rfl, rfl, g⟩ | ⟨rfl, g2, g3, g4, g5⟩
    · have := g n.toNat (by omega); omega
    · have e : (m - (0 : Nat)).toNat = m.toNat := by omega
      rw [e] at g4
      have : m = n := by
        rcases Int.lt_trichotomy m n with h | h | h
        · have := h5 m.toNat (by omega); omega
        · exact h
        · have := g5 n.toNat (by omega); omega
      rw [this]

theorem r05_Run_spec (hc : Cfg w.heap a l cl) (h1 : 0 ≤ c1) (h2 : c1 ≤ 1000000) (size : Int) :
    CALL Pg F_r05_Run [cfgV c0 c1 c2 c3 a l c, .int .i64 size] w fun v w' => Eff w w' [] ∧ v = .int .i64 (runF c1 cl size) := by
  apply C_r05_Run
  unfold D_r05_Run
  intro b1 w1 hE1 _ hb1
  obtain ⟨f0, f1, f2, f3, f4⟩ := cfg_cells hb1
  refine ITE_d (fun h3 => ?_) (fun h3 => ?_)
  · exact ⟨hE1, by simp [runF, h3]⟩
  rw [LDi_of f0, LDi_of f1, LDi_of f2, LDi_of f3, LDl_of f4]
  refine (r05_Class_spec (hc.eff hE1) size).mono fun v w2 ⟨hE2, n, hv, hn⟩ => ?_
  subst hv
  rw [INTV_int]
  have hcl := class_same hn
  refine ITE_d (fun h4 => ?_) (fun h4 => ?_)
  · rw [if_neg (by omega)] at hcl
    exact ⟨hE1.trans0 hE2, by simp [runF, hcl]⟩
  rw [if_pos (by rcases hn with h | h <;> omega)] at hcl
  refine LOOP_of (fun vs w' => ∃ k : Int, vs = [.int .i64 0, .int .i64 k] ∧ 1 ≤ k ∧ k ≤ c1 + 1 ∧ Eff w1 w' [] ∧ 1024 * (k - 1) < size)
    (fun vs _ => match vs with | [_, .int _ n] => (c1 + 1 - n).toNat | _ => 0) ⟨1, rfl, by omega, by omega, hE2, by omega⟩ ?_
  intro w3 v1 v2 ⟨k, hv, hk1, hk2, hE3, hk3⟩
  simp only [List.cons.injEq, and_true] at hv
  obtain ⟨rfl, rfl⟩ := hv
  simp only [INTV_int]
  rw [LDi_of (hE3.cell0 f1)]
  refine ITE_d (fun h5 => ?_) (fun h5 => ?_)
  · refine BINDw (by omega) (by omega) (ITE_d (fun h6 => ?_) (fun h6 => ?_))
    · refine ⟨hE1.trans0 hE3, ?_⟩
      have : runF c1 cl size = k := by
        unfold runF; rw [hcl, if_neg (by simp), if_neg (by omega), if_neg (by omega)]; omega
      rw [this]
    · exact BINDw (by omega) (by omega) ⟨⟨k + 1, rfl, by omega, by omega, hE3, by omega⟩, by omega⟩
  · refine ⟨hE1.trans0 hE3, ?_⟩
    have : runF c1 cl size = 0 := by
      unfold runF; rw [hcl, if_neg (by simp), if_neg (by omega), if_pos (by omega)]
    rw [this]

end

section
variable {w : World} {c0 c1 c2 c3 : Int} {a : Option Addr} {l c : Nat} {cl : List Int}

theorem CFG_ld {w : World} {b : Nat} {t : TypeId} {K : Int → Int → Int → Int → Option Addr → Nat → Nat → Prop} (hb : w.heap[b]? = some (.cells (cfgL c0 c1 c2 c3 a l c).toArray t (0, 0))) :
    (LDi .i64 w ⟨b, 0, none⟩ fun n1 => LDi .i64 w ⟨b, 1, none⟩ fun n2 => LDi .i64 w ⟨b, 2, none⟩ fun n3 => LDi .i64 w ⟨b, 3, none⟩ fun n4 => LDl w ⟨b, 4, none⟩ fun a l c => K n1 n2 n3 n4 a l c) = K c0 c1 c2 c3 a l c := by
  obtain ⟨f0, f1, f2, f3, f4⟩ := cfg_cells hb
  rw [LDi_of f0, LDi_of f1, LDi_of f2, LDi_of f3, LDl_of f4]

theorem mayP.sup (h : mayP c0 c1 c2 c3 cl) : 1 ≤ c1 ∧ c1 ≤ 64 := by unfold mayP okU at h; omega
theorem mayP.cls (h : mayP c0 c1 c2 c3 cl) : ∀ x ∈ cl, 1 ≤ x ∧ x ≤ 512 := by
  intro x hx
  obtain ⟨i, hi, rfl⟩ := List.getElem_of_mem hx
  have := h.2 i hi
  unfold okAt at this
  simp [hi] at this
  omega

theorem classF_cases (cl : List Int) (size : Int) : (classF cl size = (0, false) ∧ (size < 1 ∨ ∀ i, i < cl.length → cl.getD i 0 < size)) ∨
    ∃ n : Nat, classF cl size = ((n : Int), true) ∧ n < cl.length ∧ 1 ≤ size ∧ size ≤ cl.getD n 0 ∧ ∀ i, i < n → cl.getD i 0 < size := by
  unfold classF
  split
  · rename_i h; exact .inl ⟨rfl, .inl h⟩
  · rename_i h
    rcases hq : clsF cl size 0 with ⟨m, b⟩
    rcases clsF_spec cl size 0 m b hq with ⟨rfl, rfl, h1⟩ | ⟨rfl, h2, h3, h4, h5⟩
    · exact .inl ⟨rfl, .inr h1⟩
    · refine .inr ⟨m.toNat, by rw [Int.toNat_of_nonneg (by omega)], by omega, by omega, ?_, fun i hi => h5 i (by omega)⟩
      have : (m - (0 : Nat)).toNat = m.toNat := by omega
      rwa [this] at h4

theorem mayP.cls16 (h : mayP c0 c1 c2 c3 cl) {k : Nat} (hk : k < cl.length) : 16 ≤ cl.getD k 0 ∧ cl.getD k 0 ≤ 512 ∧ cl.getD k 0 % 16 = 0 := by
  have := h.2 k hk
  unfold okAt at this
  omega

theorem KEEP_cfg {w : World} {b : Nat} {t : TypeId} (hb : w.heap[b]? = some (.cells (cfgL c0 c1 c2 c3 a l c).toArray t (0, 0))) :
    KEEP w [Fact.cell ⟨b, 0, none⟩ (.int .i64 c0), Fact.cell ⟨b, 1, none⟩ (.int .i64 c1), Fact.cell ⟨b, 2, none⟩ (.int .i64 c2), Fact.cell ⟨b, 3, none⟩ (.int .i64 c3), Fact.cell ⟨b, 4, none⟩ (.slice a l c)] := by
  obtain ⟨f0, f1, f2, f3, f4⟩ := cfg_cells hb
  exact KEEP_cell f0 (KEEP_cell f1 (KEEP_cell f2 (KEEP_cell f3 (KEEP_cell f4 KEEP_nil))))

theorem cfg_open {w : World} {cs : List Value} (h : Rds w [.int .i64, .int .i64, .int .i64, .int .i64, .sl [.int .i64]] cs) :
    ∃ c0 c1 c2 c3 a l c cl, cs = cfgL c0 c1 c2 c3 a l c ∧ Cfg w.heap a l cl := by
  cases h with | int _ h =>
  cases h with | int _ h =>
  cases h with | int _ h =>
  cases h with | int _ h =>
  cases h with | sl b o xs h1 h2 h3 h4 h5 h6 =>
  cases h6
  obtain ⟨cl, hl, _, hm, hs, _⟩ := Rds.ints (.sl b o xs h1 h2 h3 h4 h5 .nil)
  exact ⟨_, _, _, _, _, _, _, cl, rfl, hs, by have : maxLen = 9223372036854775807 := rfl; omega⟩
end
end Go.Proofs.Ytpopdookpbmmpaa
