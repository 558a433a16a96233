/- The law ArenaSizes: what it answers. -/
import Derived.Test.YtapcknlnhpafcaaArena7
namespace Go.Proofs.Ytapcknlnhpafcaa
open Go.Den

section
variable {w : World} {c0 c1 c2 c3 : Int} {a : Option Addr} {l c : Nat} {cl : List Int}

theorem KEEP_cfg {w : World} {b : Nat} {t : TypeId} (hb : w.heap[b]? = some (.cells (cfgL c0 c1 c2 c3 a l c).toArray t (0, 0))) :
    KEEP w [Fact.cell ⟨b, 0, none⟩ (.int .i64 c0), Fact.cell ⟨b, 1, none⟩ (.int .i64 c1), Fact.cell ⟨b, 2, none⟩ (.int .i64 c2), Fact.cell ⟨b, 3, none⟩ (.int .i64 c3), Fact.cell ⟨b, 4, none⟩ (.slice a l c)] := by
  obtain ⟨f0, f1, f2, f3, f4⟩ := cfg_cells hb
  exact KEEP_cell f0 (KEEP_cell f1 (KEEP_cell f2 (KEEP_cell f3 (KEEP_cell f4 KEEP_nil))))

theorem ArenaSizes_spec (hc : Cfg w.heap a l cl) (size : Int) : CALL Pg F_l05_ArenaSizes [cfgV c0 c1 c2 c3 a l c, .int .i64 size] w fun v w' => Eff w w' [] ∧ v = .bool true := by
  apply C_l05_ArenaSizes
  unfold D_l05_ArenaSizes
  intro b1 w1 hE1 _ hb1
  refine head_of (K := fun v w' => Eff w w' [] ∧ v = .bool true) hE1 hb1 hc (fun w' h => ⟨h, rfl⟩) fun w3 hE3 hb3 hc3 hm => ?_
  have hs := hm.sup
  have hcl := hm.cls
  rw [CFG_ld hb3]
  refine (arena_Class_spec hc3 size).mono fun v w4 ⟨hE4, hv⟩ => ?_
  subst hv
  have hb4 := hE4.obj0 hb3
  rw [TUP_ib, CFG_ld hb4]
  refine (r05_Class_spec (hc3.eff hE4) size).mono fun v w5 ⟨hE5, n, hv, hn⟩ => ?_
  subst hv
  rw [INTV_int]
  have hb5 := hE5.obj0 hb4
  have hE35 := hE4.trans0 hE5
  have hc5 := hc3.eff hE35
  have hcs := class_same hn
  have tail : ∀ w6, Eff w5 w6 [] →
      LDi .i64 w6 ⟨b1, 0, none⟩ fun n1 => LDi .i64 w6 ⟨b1, 1, none⟩ fun n2 => LDi .i64 w6 ⟨b1, 2, none⟩ fun n3 => LDi .i64 w6 ⟨b1, 3, none⟩ fun n4 => LDl w6 ⟨b1, 4, none⟩ fun a l c =>
      LDi .i64 w6 ⟨b1, 0, none⟩ fun n5 => LDi .i64 w6 ⟨b1, 1, none⟩ fun n6 => LDi .i64 w6 ⟨b1, 2, none⟩ fun n7 => LDi .i64 w6 ⟨b1, 3, none⟩ fun n8 => LDl w6 ⟨b1, 4, none⟩ fun a' l' c' =>
      CALL Pg F_arena_Run [.agg #[.int .i64 n1, .int .i64 n2, .int .i64 n3, .int .i64 n4, .slice a l c], .int .i64 size] w6 fun v_7 w7 => INTV .i64 v_7 fun n_23 =>
      (KEEP w7 [Fact.cell ⟨b1, 0, none⟩ (.int .i64 n5), Fact.cell ⟨b1, 1, none⟩ (.int .i64 n6), Fact.cell ⟨b1, 2, none⟩ (.int .i64 n7), Fact.cell ⟨b1, 3, none⟩ (.int .i64 n8), Fact.cell ⟨b1, 4, none⟩ (.slice a' l' c')]) ∧
      CALL Pg F_r05_Run [.agg #[.int .i64 n5, .int .i64 n6, .int .i64 n7, .int .i64 n8, .slice a' l' c'], .int .i64 size] w7 fun v_8 w8 => INTV .i64 v_8 fun n_24 =>
      (KEEP w8 []) ∧ ([Value.bool (n_23 != n_24)] = [.bool false] ∧ Eff w5 w8 []) := by
    intro w6 hE6
    have hb6 := hE6.obj0 hb5
    rw [CFG_ld hb6, CFG_ld hb6]
    refine (arena_Run_spec (hc5.eff hE6) (by omega) (by omega) size).mono fun v w7 ⟨hE7, hv⟩ => ?_
    subst hv
    rw [INTV_int]
    refine ⟨KEEP_cfg (hE7.obj0 hb6), ?_⟩
    refine (r05_Run_spec (hc5.eff (hE6.trans0 hE7)) (by omega) (by omega) size).mono fun v w8 ⟨hE8, hv⟩ => ?_
    subst hv
    rw [INTV_int]
    exact ⟨KEEP_nil, by simp, (hE6.trans0 hE7).trans0 hE8⟩
  refine ⟨fun vs w' => vs = [.bool false] ∧ Eff w5 w' [], ⟨fun vs w' => vs = [.bool false] ∧ Eff w5 w' [], ?_, ?_⟩, ?_⟩
  · intro w6 hE6 _
    rw [hcs]
    by_cases h1 : n = -1
    · rw [if_pos h1]
      refine ITE_intro (fun h => absurd h (by simp [h1])) (fun _ => ?_)
      refine ITE_intro (fun h => by simp at h) (fun _ => ?_)
      refine ITE_intro (fun _ => ?_) (fun h => by simp at h)
      refine ITE_ne (fun h => absurd rfl h) (fun _ => ?_)
      exact tail w6 hE6
    · rw [if_neg h1]
      refine ITE_intro (fun h => absurd h (by simp; omega)) (fun _ => ?_)
      refine ITE_intro (fun _ => ?_) (fun h => by simp at h)
      refine ITE_ne (fun h => absurd rfl h) (fun _ => ?_)
      refine ITE_intro (fun h => by simp at h) (fun _ => ?_)
      exact tail w6 hE6
  · intro w6 v ⟨hv, hE6⟩
    cases hv
    rw [BOOLV_bool, ITE_false]
    exact ⟨rfl, hE6⟩
  intro w6 v ⟨hv, hE6⟩
  cases hv
  rw [BOOLV_bool]
  have hb6 := hE6.obj0 hb5
  have hE := hE1.trans0 (hE3.trans0 (hE35.trans0 hE6))
  have hr : runF c1 cl size = if n = -1 then (if size < 1 then 0 else if size > c1 * 1024 then 0 else (size + 1023) / 1024) else 0 := by
    unfold runF; rw [hcs]
    by_cases h1 : n = -1
    · rw [if_pos h1, if_pos h1, if_neg (by simp)]
    · rw [if_neg h1, if_neg h1, if_pos rfl]
  have tail : ∀ w7, Eff w6 w7 [] → ∀ (m : Bool), (m = true ↔ 1 ≤ size ∧ size ≤ c1 * 1024) →
      LDi .i64 w7 ⟨b1, 0, none⟩ fun n1 => LDi .i64 w7 ⟨b1, 1, none⟩ fun n2 => LDi .i64 w7 ⟨b1, 2, none⟩ fun n3 => LDi .i64 w7 ⟨b1, 3, none⟩ fun n4 => LDl w7 ⟨b1, 4, none⟩ fun a l c =>
      LDi .i64 w7 ⟨b1, 1, none⟩ fun n_64 => BIND (IntKind.i64.wrap (1024 * n_64)) fun n_65 =>
      CALL Pg F_arena_Most [.agg #[.int .i64 n1, .int .i64 n2, .int .i64 n3, .int .i64 n4, .slice a l c]] w7 fun v_18 w_19 => INTV .i64 v_18 fun n_66 =>
      (KEEP w_19 [Fact.cell ⟨b1, 1, none⟩ (.int .i64 n_64)]) ∧ ITE (n_66 == n_65) (
        LDi .i64 w_19 ⟨b1, 0, none⟩ fun n_67 => LDi .i64 w_19 ⟨b1, 1, none⟩ fun n_68 => LDi .i64 w_19 ⟨b1, 2, none⟩ fun n_69 => LDi .i64 w_19 ⟨b1, 3, none⟩ fun n_70 => LDl w_19 ⟨b1, 4, none⟩ fun a_14 l_14 c_14 =>
        CALL Pg F_arena_Run [.agg #[.int .i64 n_67, .int .i64 n_68, .int .i64 n_69, .int .i64 n_70, .slice a_14 l_14 c_14], .int .i64 size] w_19 fun v_19 w_20 => INTV .i64 v_19 fun n_71 =>
        (KEEP w_20 []) ∧ ITE (m == !(classF cl size).2 == decide (n_71 > 0)) (
          ITE (!(classF cl size).2) (Eff w w_20 [] ∧ Value.bool true = .bool true) (
           LDl w_20 ⟨b1, 4, none⟩ fun a_15 l_15 _ => IDX a_15 l_15 (classF cl size).1 1 fun b_2 o_1 => LDi .i64 w_20 ⟨b_2, o_1, none⟩ fun n_72 => Eff w w_20 [] ∧ Value.bool (decide (size ≤ n_72)) = .bool true))
          (Eff w w_20 [] ∧ Value.bool false = .bool true))
        (Eff w w_19 [] ∧ Value.bool false = .bool true) := by
    intro w7 hE7 m hm'
    have hb7 := hE7.obj0 hb6
    obtain ⟨_, f1, _, _, _⟩ := cfg_cells hb7
    rw [CFG_ld hb7, LDi_of f1]
    refine BINDw (by omega) (by omega) ?_
    refine arena_Most_spec.mono fun v w8 ⟨hE8, hv⟩ => ?_
    subst hv
    rw [INTV_int, wrap_i64 (by omega) (by omega)]
    refine ⟨KEEP_cell (hE8.cell0 f1) KEEP_nil, ITE_eq (fun _ => ?_) (fun h => absurd (Int.mul_comm _ _) h)⟩
    have hb8 := hE8.obj0 hb7
    have hE68 := hE7.trans0 hE8
    have hE58 := hE6.trans0 hE68
    rw [CFG_ld hb8]
    refine (arena_Run_spec (hc5.eff hE58) (by omega) (by omega) size).mono fun v w9 ⟨hE9, hv⟩ => ?_
    subst hv
    rw [INTV_int]
    refine ⟨KEEP_nil, ?_⟩
    have hE' := hE.trans0 (hE68.trans0 hE9)
    obtain ⟨_, _, _, _, f4⟩ := cfg_cells (hE9.obj0 hb8)
    rw [hcs, hr]
    by_cases h1 : n = -1
    · rw [if_pos h1, if_pos h1]
      refine ITE_intro (fun _ => ?_) (fun h => ?_)
      · exact ⟨hE', rfl⟩
      · exfalso
        by_cases h2 : 1 ≤ size ∧ size ≤ c1 * 1024
        · have : m = true := hm'.2 h2
          rw [if_neg (by omega), if_neg (by omega), this] at h
          simp at h; omega
        · have : m = false := by rw [← Bool.not_eq_true, hm']; exact h2
          rw [this] at h
          by_cases h3 : size < 1
          · rw [if_pos h3] at h; simp at h
          · rw [if_neg h3, if_pos (by omega)] at h; simp at h
    · rw [if_neg h1, if_neg h1]
      have hl := hc.l_eq
      rcases hn with ⟨h2, _⟩ | ⟨h2, h3, h4, h5, h6⟩
      · exact absurd h2 h1
      have hg := getD_pos hcl (k := n.toNat) (by omega)
      have : m = true := hm'.2 ⟨h4, by omega⟩
      refine ITE_intro (fun _ => ?_) (fun h => by rw [this] at h; simp at h)
      refine ITE_intro (fun h => by simp at h) (fun _ => ?_)
      rw [LDl_of f4]
      refine IDX_i (hc5.eff (hE58.trans0 hE9)).sl (by omega) (by omega) fun b o hcell => ?_
      rw [LDi_of hcell]
      exact ⟨hE', by simp; exact h5⟩
  refine ITE_d (fun h1 => ?_) (fun h1 => ?_)
  · rw [CFG_ld hb6]
    refine arena_Most_spec.mono fun v w7 ⟨hE7, hv⟩ => ?_
    subst hv
    rw [INTV_int, wrap_i64 (by omega) (by omega)]
    intro w8 hE8 _
    exact tail w8 (hE7.trans0 hE8) _ (by rw [decide_eq_true_iff]; omega)
  · intro w8 hE8 _
    exact tail w8 hE8 false (by simp; omega)

end
end Go.Proofs.Ytapcknlnhpafcaa
