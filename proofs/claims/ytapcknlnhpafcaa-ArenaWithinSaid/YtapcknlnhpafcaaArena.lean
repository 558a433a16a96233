/- What the functions of package arena, and the document's, answer. -/
import Derived.Test.YtapcknlnhpafcaaG1
namespace Go.Proofs.Ytapcknlnhpafcaa
open Go.Den

abbrev cfgV (c0 c1 c2 c3 : Int) (a : Option Addr) (l c : Nat) : Value := .agg #[.int .i64 c0, .int .i64 c1, .int .i64 c2, .int .i64 c3, .slice a l c]
abbrev cfgL (c0 c1 c2 c3 : Int) (a : Option Addr) (l c : Nat) : List Value := [.int .i64 c0, .int .i64 c1, .int .i64 c2, .int .i64 c3, .slice a l c]

theorem cfg_cells {h : Array Obj} {b : Nat} {c0 c1 c2 c3 : Int} {a : Option Addr} {l c : Nat} {t : TypeId} (hb : h[b]? = some (.cells (cfgL c0 c1 c2 c3 a l c).toArray t (0, 0))) :
    cellH h b 0 = some (.int .i64 c0) ∧ cellH h b 1 = some (.int .i64 c1) ∧ cellH h b 2 = some (.int .i64 c2) ∧ cellH h b 3 = some (.int .i64 c3) ∧ cellH h b 4 = some (.slice a l c) :=
  ⟨cellH_of hb 0, cellH_of hb 1, cellH_of hb 2, cellH_of hb 3, cellH_of hb 4⟩

/-- A Config as it comes in: what its classes read as. -/
structure Cfg (h : Array Obj) (a : Option Addr) (l : Nat) (cl : List Int) : Prop where
  sl : SlI h a l cl
  len : cl.length ≤ 9223372036854775807

theorem Cfg.eff {w w' : World} {a : Option Addr} {l : Nat} {cl : List Int} (h : Cfg w.heap a l cl) (hE : Eff w w' []) : Cfg w'.heap a l cl := ⟨h.sl.eff hE, h.len⟩
theorem Cfg.l_eq {h : Array Obj} {a : Option Addr} {l : Nat} {cl : List Int} (hc : Cfg h a l cl) : l = cl.length := hc.sl.1

/-- The class of a size. -/
def clsF : List Int → Int → Nat → Int × Bool
  | [], _, _ => (0, false)
  | n :: r, size, k => if size ≤ n then ((k : Int), true) else clsF r size (k + 1)
def classF (cl : List Int) (size : Int) : Int × Bool := if size < 1 then (0, false) else clsF cl size 0

theorem clsF_at (cl : List Int) (size : Int) : ∀ (d k : Nat), cl.length - k = d → k ≤ cl.length → ∀ j, clsF (cl.drop k) size j = if h : k < cl.length then (if size ≤ cl[k] then ((j : Int), true) else clsF (cl.drop (k + 1)) size (j + 1)) else (0, false) := by
  intro d k _ hk j
  by_cases h : k < cl.length
  · rw [dif_pos h, List.drop_eq_getElem_cons h]
    rfl
  · rw [dif_neg h, List.drop_eq_nil_of_le (by omega)]
    rfl

section
variable {w : World} {c0 c1 c2 c3 : Int} {a : Option Addr} {l c : Nat} {cl : List Int}

theorem arena_Class_spec (hc : Cfg w.heap a l cl) (size : Int) :
    CALL Pg F_arena_Class [cfgV c0 c1 c2 c3 a l c, .int .i64 size] w fun v w' => Eff w w' [] ∧ v = .tuple #[.int .i64 (classF cl size).1, .bool (classF cl size).2] := by
  apply C_arena_Class
  unfold D_arena_Class
  intro b1 w1 hE1 _ hb1
  refine ITE_d (fun h => ?_) (fun h => ?_)
  · exact ⟨hE1, by simp [classF, h]⟩
  obtain ⟨_, _, _, _, f4⟩ := cfg_cells hb1
  rw [LDl_of f4]
  have hl := hc.l_eq
  have hlen := hc.len
  refine LOOP_of (fun vs w' => ∃ k : Nat, vs = [.int .i64 0, .bool false, .int .i64 k] ∧ k ≤ cl.length ∧ clsF (cl.drop k) size k = clsF cl size 0 ∧ Eff w w' [])
    (fun vs _ => match vs with | [_, _, .int _ n] => cl.length - n.toNat | _ => 0) ⟨0, rfl, by omega, by simp, hE1⟩ ?_
  intro w2 v1 v2 v3 ⟨k, hv, hk, hn, hE2⟩
  simp only [List.cons.injEq, and_true] at hv
  obtain ⟨rfl, rfl, rfl⟩ := hv
  simp only [INTV_int, BOOLV]
  have hat := clsF_at cl size _ k rfl hk k
  rw [hn] at hat
  refine ITE_d (fun h1 => ?_) (fun h1 => ?_)
  · refine IDX_i (hc.eff hE2).sl (by omega) (by omega) fun b o hcell => ?_
    rw [LDi_of hcell]
    have hk1 : k < cl.length := by omega
    rw [dif_pos hk1] at hat
    have hg : cl.getD (k : Int).toNat 0 = cl[k] := by simp [hk1]
    rw [hg]
    refine ITE_d (fun h2 => ?_) (fun h2 => ?_)
    · rw [if_pos h2] at hat
      exact ⟨hE2, by simp [classF, h, hat]⟩
    · rw [if_neg h2] at hat
      unfold BIND
      rw [wrap_i64 (by omega) (by omega)]
      exact ⟨⟨k + 1, by simp, by omega, hat.symm, hE2⟩, by simp; omega⟩
  · rw [dif_neg (by omega)] at hat
    exact ⟨hE2, by simp [classF, h, hat]⟩

theorem arena_Most_spec : CALL Pg F_arena_Most [cfgV c0 c1 c2 c3 a l c] w fun v w' => Eff w w' [] ∧ v = .int .i64 (IntKind.i64.wrap (c1 * 1024)) := by
  apply C_arena_Most
  unfold D_arena_Most
  intro b1 w1 hE1 _ hb1
  obtain ⟨_, f1, _, _, _⟩ := cfg_cells hb1
  rw [LDi_of f1]
  exact ⟨hE1, rfl⟩

theorem arena_End_spec : CALL Pg F_arena_End [cfgV c0 c1 c2 c3 a l c] w fun v w' => Eff w w' [] ∧ v = .int .i64 (IntKind.i64.wrap (65536 + IntKind.i64.wrap (c1 * 1024))) := by
  apply C_arena_End
  unfold D_arena_End
  intro b1 w1 hE1 _ hb1
  obtain ⟨f0, f1, f2, f3, f4⟩ := cfg_cells hb1
  rw [LDi_of f0, LDi_of f1, LDi_of f2, LDi_of f3, LDl_of f4]
  refine arena_Most_spec.mono fun v w2 ⟨hE2, hv⟩ => ?_
  subst hv
  rw [INTV_int]
  exact ⟨hE1.trans0 hE2, rfl⟩

/-- How many superblocks a size takes. -/
def runF (c1 : Int) (cl : List Int) (size : Int) : Int := if (classF cl size).2 = true then 0 else if size < 1 then 0 else if size > c1 * 1024 then 0 else (size + 1023) / 1024

theorem arena_Run_spec (hc : Cfg w.heap a l cl) (h1 : 0 ≤ c1) (h2 : c1 ≤ 1000000) (size : Int) :
    CALL Pg F_arena_Run [cfgV c0 c1 c2 c3 a l c, .int .i64 size] w fun v w' => Eff w w' [] ∧ v = .int .i64 (runF c1 cl size) := by
  apply C_arena_Run
  unfold D_arena_Run
  intro b1 w1 hE1 _ hb1
  obtain ⟨f0, f1, f2, f3, f4⟩ := cfg_cells hb1
  rw [LDi_of f0, LDi_of f1, LDi_of f2, LDi_of f3, LDl_of f4]
  refine (arena_Class_spec (hc.eff hE1) size).mono fun v w2 ⟨hE2, hv⟩ => ?_
  subst hv
  obtain ⟨f0, f1, f2, f3, f4⟩ := cfg_cells (hE2.obj0 hb1)
  have hE12 := hE1.trans0 hE2
  refine ITE_intro (fun h => ?_) (fun h => ?_)
  · exact ⟨hE12, by simp [runF, h]⟩
  refine ITE_d (fun h3 => ?_) (fun h3 => ?_)
  · exact ⟨hE12, by simp [runF, h, h3]⟩
  rw [LDi_of f0, LDi_of f1, LDi_of f2, LDi_of f3, LDl_of f4]
  refine arena_Most_spec.mono fun v w3 ⟨hE3, hv⟩ => ?_
  subst hv
  rw [INTV_int, wrap_i64 (by omega) (by omega)]
  have hE13 := hE12.trans0 hE3
  refine ITE_d (fun h4 => ?_) (fun h4 => ?_)
  · exact ⟨hE13, by simp [runF, h, h3, h4]⟩
  refine BINDw (by omega) (by omega) (BINDw (by omega) (by omega) (NZ_of (by omega) ?_))
  have e : (size + 1024 - 1).tdiv 1024 = (size + 1023) / 1024 := by
    rw [Int.tdiv_eq_ediv_of_nonneg (by omega)]; congr 1; omega
  rw [e]
  exact BINDw (by omega) (by omega) ⟨hE13, by simp [runF, h, h3, h4]⟩

theorem arena_is_spec (hc : Cfg w.heap a l cl) (k : Int) :
    CALL Pg F_arena_is [cfgV c0 c1 c2 c3 a l c, .int .i64 k] w fun v w' => Eff w w' [] ∧ v = .bool (decide (0 ≤ k ∧ k < cl.length)) := by
  apply C_arena_is
  unfold D_arena_is
  intro b1 w1 hE1 _ hb1
  obtain ⟨_, _, _, _, f4⟩ := cfg_cells hb1
  have hl := hc.l_eq
  refine ITE_d (fun h => ?_) (fun h => ?_)
  · rw [LDl_of f4]
    exact ⟨hE1, by subst hl; simp [h]⟩
  · exact ⟨hE1, by simp; omega⟩

/-- How many blocks a superblock of a class has. -/
def capF (cl : List Int) (k : Int) : Int := if 0 ≤ k ∧ k < cl.length then 1024 / cl.getD k.toNat 0 else 0

theorem arena_Cap_spec (hc : Cfg w.heap a l cl) (hp : ∀ x ∈ cl, 1 ≤ x) (k : Int) :
    CALL Pg F_arena_Cap [cfgV c0 c1 c2 c3 a l c, .int .i64 k] w fun v w' => Eff w w' [] ∧ v = .int .i64 (capF cl k) := by
  apply C_arena_Cap
  unfold D_arena_Cap
  intro b1 w1 hE1 _ hb1
  obtain ⟨f0, f1, f2, f3, f4⟩ := cfg_cells hb1
  rw [LDi_of f0, LDi_of f1, LDi_of f2, LDi_of f3, LDl_of f4]
  refine (arena_is_spec (hc.eff hE1) k).mono fun v w2 ⟨hE2, hv⟩ => ?_
  subst hv
  have hE12 := hE1.trans0 hE2
  obtain ⟨_, _, _, _, f4⟩ := cfg_cells (hE2.obj0 hb1)
  have hl := hc.l_eq
  by_cases hk : 0 ≤ k ∧ k < cl.length
  · simp only [BOOLV, decide_eq_true hk, Bool.not_true, ITE_false]
    rw [LDl_of f4]
    refine IDX_i (hc.eff hE12).sl (by omega) (by omega) fun b o hcell => ?_
    rw [LDi_of hcell]
    have hx : 1 ≤ cl.getD k.toNat 0 := by
      have hk1 : k.toNat < cl.length := by omega
      have := hp cl[k.toNat] (List.getElem_mem hk1)
      simpa [hk1] using this
    refine NZ_of (by omega) ?_
    unfold BIND
    rw [Int.tdiv_eq_ediv_of_nonneg (by omega)]
    have h1 : 0 ≤ 1024 / cl.getD k.toNat 0 := Int.ediv_nonneg (by omega) (by omega)
    have h2 : 1024 / cl.getD k.toNat 0 ≤ 1024 := Int.ediv_le_self _ (by omega)
    rw [wrap_i64 (by omega) (by omega)]
    exact ⟨hE12, by simp [capF, hk]⟩
  · simp only [BOOLV, decide_eq_false hk, Bool.not_false, ITE_true]
    exact ⟨hE12, by simp [capF, hk]⟩
end

end Go.Proofs.Ytapcknlnhpafcaa
