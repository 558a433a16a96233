/- What the functions answer that a shop and a worker of it ask: settings, classes, copies. -/
import Derived.Test.YthjbakeddjkdkaaGreatDoorH1
import Derived.Test.YthjbakeddjkdkaaGreatDoorH2
import Derived.Test.YthjbakeddjkdkaaGreatDoorH3
import Derived.Test.YthjbakeddjkdkaaGreatDoorDenR
namespace Go.Proofs.YthjbakeddjkdkaaGreatDoor
open Go.Den
set_option maxRecDepth 100000
set_option maxHeartbeats 4000000

/-- Whole numbers in a slice of one's own. -/
abbrev OwI (w : World) (v : Value) (xs : List Int) : Prop := w.ownsRow 0 T_int 1 v xs.length (xs.map (Value.int .i64))
theorem elem_int : Elem Pg T_Lint T_int 1 8 := Elem.of (by kernel_rfl)
section
variable {w : World}
theorem effg {a b c : World} {S : List Nat} (h : Eff a b S) (k : Eff b c S) : Eff a c S := (h.trans k).weak (by intro b hb _; simpa using hb)
theorem OwI.sl {a : Option Addr} {l c : Nat} {xs : List Int} (h : OwI w (.slice a l c) xs) : l = xs.length ∧ SlI w.heap a l xs := own_slI h
theorem OwI.eff {w' : World} {v : Value} {xs : List Int} (h : OwI w v xs) (hE : Eff w w' []) : OwI w' v xs := own_eff0 h hE
theorem OwI.nil : OwI w (.slice none 0 0) [] := ⟨rfl, .inl ⟨rfl, rfl⟩⟩
theorem own_blk {base e size n c : Nat} {a : Option Addr} {l : Nat} {xs : List Value} (h : w.ownsRow base e size (.slice a l c) n xs) {b o : Nat} (ha : a = some ⟨b, o, none⟩) : b ∈ ownL (.slice a l c) ∧ b < w.heap.size := by
  rcases h.2 with ⟨h6, _⟩ | ⟨g, cap, cur, h6, _, hg, _⟩
  · injection h6 with q1
    rw [q1] at ha; cases ha
  · have h6' := h6
    injection h6 with q1
    rw [q1] at ha
    simp only [Option.some.injEq, Addr.mk.injEq] at ha
    refine ⟨?_, by rw [← ha.1]; exact obj_lt hg⟩
    rw [h6']
    simp [ownL, Value.ownBlock, ha.1]
theorem Sl.same {α : Type} {enc : α → List Value} {size : Nat} {h h' : Array Obj} {a : Option Addr} {l : Nat} {xs : List α} (hs : Sl enc size h a l xs) (hb : ∀ b o, a = some ⟨b, o, none⟩ → h'[b]? = h[b]?) : Sl enc size h' a l xs := by
  refine ⟨hs.1, hs.2.imp id ?_⟩
  rintro ⟨b, o, ha, hc⟩
  refine ⟨b, o, ha, fun i x hx j v hv => ?_⟩
  have := hc i x hx j v hv
  unfold cellH at this ⊢
  rw [hb b o ha]; exact this
theorem ST2_of {w₀ w : World} {b : Nat} {x y u v : Value} {t : TypeId} {K : World → Prop} (hu : SCAL u) (hv : SCAL v) (hE : Eff w₀ w []) (hb0 : w₀.heap.size ≤ b)
    (hb : w.heap[b]? = some (.cells [x, y].toArray t (0, 0))) (hK : ∀ w', Eff w₀ w' [] → w'.heap[b]? = some (.cells [u, v].toArray t (0, 0)) → Eff w w' [b] → K w') :
    ST1 w ⟨b, 0, none⟩ u fun w1 => ST1 w1 ⟨b, 1, none⟩ v K := by
  refine ST1_of hu hb (by simp) fun w1 hb1 hE1 => ST1_of hv hb1 (by simp) fun w2 hb2 hE2 => ?_
  have hall := effg hE1 hE2
  exact hK w2 (hE.own hall (by simpa using hb0)) hb2 hall
theorem ST4_of {w₀ w : World} {b : Nat} {x0 x1 x2 x3 u0 u1 u2 u3 : Value} {t : TypeId} {K : World → Prop} (h0 : SCAL u0) (h1 : SCAL u1) (h2 : SCAL u2) (h3 : SCAL u3) (hE : Eff w₀ w []) (hb0 : w₀.heap.size ≤ b)
    (hb : w.heap[b]? = some (.cells [x0, x1, x2, x3].toArray t (0, 0))) (hK : ∀ w', Eff w₀ w' [] → w'.heap[b]? = some (.cells [u0, u1, u2, u3].toArray t (0, 0)) → Eff w w' [b] → K w') :
    ST1 w ⟨b, 0, none⟩ u0 fun w => ST1 w ⟨b, 1, none⟩ u1 fun w => ST1 w ⟨b, 2, none⟩ u2 fun w => ST1 w ⟨b, 3, none⟩ u3 K := by
  refine ST1_of h0 hb (by simp) fun w1 hb1 hE1 => ST1_of h1 hb1 (by simp) fun w2 hb2 hE2 => ST1_of h2 hb2 (by simp) fun w3 hb3 hE3 => ST1_of h3 hb3 (by simp) fun w4 hb4 hE4 => ?_
  have hall := effg (effg (effg hE1 hE2) hE3) hE4
  exact hK w4 (hE.own hall (by simpa using hb0)) hb4 hall
theorem ST5_of {w₀ w : World} {b : Nat} {x0 x1 x2 x3 x4 u0 u1 u2 u3 u4 : Value} {t : TypeId} {K : World → Prop} (h0 : SCAL u0) (h1 : SCAL u1) (h2 : SCAL u2) (h3 : SCAL u3) (h4 : SCAL u4) (hE : Eff w₀ w []) (hb0 : w₀.heap.size ≤ b)
    (hb : w.heap[b]? = some (.cells [x0, x1, x2, x3, x4].toArray t (0, 0))) (hK : ∀ w', Eff w₀ w' [] → w'.heap[b]? = some (.cells [u0, u1, u2, u3, u4].toArray t (0, 0)) → Eff w w' [b] → K w') :
    ST1 w ⟨b, 0, none⟩ u0 fun w => ST1 w ⟨b, 1, none⟩ u1 fun w => ST1 w ⟨b, 2, none⟩ u2 fun w => ST1 w ⟨b, 3, none⟩ u3 fun w => ST1 w ⟨b, 4, none⟩ u4 K := by
  refine ST1_of h0 hb (by simp) fun w1 hb1 hE1 => ST1_of h1 hb1 (by simp) fun w2 hb2 hE2 => ST1_of h2 hb2 (by simp) fun w3 hb3 hE3 => ST1_of h3 hb3 (by simp) fun w4 hb4 hE4 => ST1_of h4 hb4 (by simp) fun w5 hb5 hE5 => ?_
  have hall := effg (effg (effg (effg hE1 hE2) hE3) hE4) hE5
  exact hK w5 (hE.own hall (by simpa using hb0)) hb5 hall
end
abbrev cfgV (c0 c1 c2 c3 : Int) (a : Option Addr) (l c : Nat) : Value := .agg #[.int .i64 c0, .int .i64 c1, .int .i64 c2, .int .i64 c3, .slice a l c]
abbrev cfgL (c0 c1 c2 c3 : Int) (a : Option Addr) (l c : Nat) : List Value := [.int .i64 c0, .int .i64 c1, .int .i64 c2, .int .i64 c3, .slice a l c]
theorem cfg_cells {h : Array Obj} {b : Nat} {c0 c1 c2 c3 : Int} {a : Option Addr} {l c : Nat} {t : TypeId} (hb : h[b]? = some (.cells (cfgL c0 c1 c2 c3 a l c).toArray t (0, 0))) :
    cellH h b 0 = some (.int .i64 c0) ∧ cellH h b 1 = some (.int .i64 c1) ∧ cellH h b 2 = some (.int .i64 c2) ∧ cellH h b 3 = some (.int .i64 c3) ∧ cellH h b 4 = some (.slice a l c) :=
  ⟨cellH_of hb 0, cellH_of hb 1, cellH_of hb 2, cellH_of hb 3, cellH_of hb 4⟩
/-- A Config as it comes in: what its classes read as. -/
structure Cfg (h : Array Obj) (a : Option Addr) (l : Nat) (cl : List Int) : Prop where
  sl : SlI h a l cl
  len : cl.length ≤ 9223372036854775807
theorem Cfg.eff {w w' : World} {a : Option Addr} {l : Nat} {cl : List Int} (h : Cfg w.heap a l cl) (hE : Eff w w' []) : Cfg w'.heap a l cl := ⟨h.sl.eff hE, h.len⟩
theorem Cfg.l_eq {h : Array Obj} {a : Option Addr} {l : Nat} {cl : List Int} (hc : Cfg h a l cl) : l = cl.length := hc.sl.1
/-- The class of a size. -/
def clsF : List Int → Int → Nat → Int × Bool
  | [], _, _ => (0, false)
  | n :: r, size, k => if size ≤ n then ((k : Int), true) else clsF r size (k + 1)
def classF (cl : List Int) (size : Int) : Int × Bool := if size < 1 then (0, false) else clsF cl size 0
theorem clsF_at (cl : List Int) (size : Int) : ∀ (d k : Nat), cl.length - k = d → k ≤ cl.length → ∀ j, clsF (cl.drop k) size j = if h : k < cl.length then (if size ≤ cl[k] then ((j : Int), true) else clsF (cl.drop (k + 1)) size (j + 1)) else (0, false) := by
  intro d k _ hk j
  by_cases h : k < cl.length
  · rw [dif_pos h, List.drop_eq_getElem_cons h]
    rfl
  · rw [dif_neg h, List.drop_eq_nil_of_le (by omega)]
    rfl
def okU (c0 c1 c2 c3 : Int) : Prop := (1 ≤ c0 ∧ c0 ≤ 64 ∧ 1 ≤ c1 ∧ c1 ≤ 64 ∧ 1 ≤ c2 ∧ c2 ≤ 64) ∧ 0 ≤ c3 ∧ c3 ≤ 8
def okAt (cl : List Int) (i : Nat) : Prop := 16 ≤ cl.getD i 0 ∧ cl.getD i 0 ≤ 512 ∧ cl.getD i 0 % 16 = 0 ∧ (i = 0 ∨ cl.getD (i - 1) 0 < cl.getD i 0)
def okL (cl : List Int) : Prop := 1 ≤ cl.length ∧ cl.length ≤ 16
/-- A system that may be. -/
def mayP (c0 c1 c2 c3 : Int) (cl : List Int) : Prop := (okU c0 c1 c2 c3 ∧ okL cl) ∧ ∀ i, i < cl.length → okAt cl i
/-- How many superblocks a size takes. -/
def runF (c1 : Int) (cl : List Int) (size : Int) : Int := if (classF cl size).2 = true then 0 else if size < 1 then 0 else if size > c1 * 1024 then 0 else (size + 1023) / 1024
section
variable {w : World} {c0 c1 c2 c3 : Int} {a : Option Addr} {l c : Nat} {cl : List Int}
theorem arena_Class_spec (hc : Cfg w.heap a l cl) (size : Int) :
    CALL Pg F_arena_Class [cfgV c0 c1 c2 c3 a l c, .int .i64 size] w fun v w' => Eff w w' [] ∧ v = .tuple #[.int .i64 (classF cl size).1, .bool (classF cl size).2] := by
  apply C_arena_Class
  unfold D_arena_Class
  intro b1 w1 hE1 _ hb1
  refine ITE_d (fun h => ?_) (fun h => ?_)
  · exact ⟨hE1, by simp [classF, h]⟩
  obtain ⟨_, _, _, _, f4⟩ := cfg_cells hb1
  rw [LDl_of f4]
  have hl := hc.l_eq
  have hlen := hc.len
  refine LOOP_of (fun vs w' => ∃ k : Nat, vs = [.int .i64 0, .bool false, .int .i64 k] ∧ k ≤ cl.length ∧ clsF (cl.drop k) size k = clsF cl size 0 ∧ Eff w w' [])
    (fun vs _ => match vs with | [_, _, .int _ n] => cl.length - n.toNat | _ => 0) ⟨0, rfl, by omega, by simp, hE1⟩ ?_
  intro w2 v1 v2 v3 ⟨k, hv, hk, hn, hE2⟩
  simp only [List.cons.injEq, and_true] at hv
  obtain ⟨rfl, rfl, rfl⟩ := hv
  simp only [INTV_int, BOOLV]
  have hat := clsF_at cl size _ k rfl hk k
  rw [hn] at hat
  refine ITE_d (fun h1 => ?_) (fun h1 => ?_)
  · refine IDX_i (hc.eff hE2).sl (by omega) (by omega) fun b o hcell => ?_
    rw [LDi_of hcell]
    have hk1 : k < cl.length := by omega
    rw [dif_pos hk1] at hat
    have hg : cl.getD (k : Int).toNat 0 = cl[k] := by simp [hk1]
    rw [hg]
    refine ITE_d (fun h2 => ?_) (fun h2 => ?_)
    · rw [if_pos h2] at hat
      exact ⟨hE2, by simp [classF, h, hat]⟩
    · rw [if_neg h2] at hat
      unfold BIND
      rw [wrap_i64 (by omega) (by omega)]
      exact ⟨⟨k + 1, by simp, by omega, hat.symm, hE2⟩, by simp; omega⟩
  · rw [dif_neg (by omega)] at hat
    exact ⟨hE2, by simp [classF, h, hat]⟩
theorem arena_Most_spec : CALL Pg F_arena_Most [cfgV c0 c1 c2 c3 a l c] w fun v w' => Eff w w' [] ∧ v = .int .i64 (IntKind.i64.wrap (c1 * 1024)) := by
  apply C_arena_Most
  unfold D_arena_Most
  intro b1 w1 hE1 _ hb1
  obtain ⟨_, f1, _, _, _⟩ := cfg_cells hb1
  rw [LDi_of f1]
  exact ⟨hE1, rfl⟩
theorem arena_End_spec : CALL Pg F_arena_End [cfgV c0 c1 c2 c3 a l c] w fun v w' => Eff w w' [] ∧ v = .int .i64 (IntKind.i64.wrap (65536 + IntKind.i64.wrap (c1 * 1024))) := by
  apply C_arena_End
  unfold D_arena_End
  intro b1 w1 hE1 _ hb1
  obtain ⟨f0, f1, f2, f3, f4⟩ := cfg_cells hb1
  rw [LDi_of f0, LDi_of f1, LDi_of f2, LDi_of f3, LDl_of f4]
  refine arena_Most_spec.mono fun v w2 ⟨hE2, hv⟩ => ?_
  subst hv
  rw [INTV_int]
  exact ⟨hE1.trans0 hE2, rfl⟩
theorem arena_Run_spec (hc : Cfg w.heap a l cl) (h1 : 0 ≤ c1) (h2 : c1 ≤ 1000000) (size : Int) :
    CALL Pg F_arena_Run [cfgV c0 c1 c2 c3 a l c, .int .i64 size] w fun v w' => Eff w w' [] ∧ v = .int .i64 (runF c1 cl size) := by
  apply C_arena_Run
  unfold D_arena_Run
  intro b1 w1 hE1 _ hb1
  obtain ⟨f0, f1, f2, f3, f4⟩ := cfg_cells hb1
  rw [LDi_of f0, LDi_of f1, LDi_of f2, LDi_of f3, LDl_of f4]
  refine (arena_Class_spec (hc.eff hE1) size).mono fun v w2 ⟨hE2, hv⟩ => ?_
  subst hv
  obtain ⟨f0, f1, f2, f3, f4⟩ := cfg_cells (hE2.obj0 hb1)
  have hE12 := hE1.trans0 hE2
  refine ITE_intro (fun h => ?_) (fun h => ?_)
  · exact ⟨hE12, by simp [runF, h]⟩
  refine ITE_d (fun h3 => ?_) (fun h3 => ?_)
  · exact ⟨hE12, by simp [runF, h, h3]⟩
  rw [LDi_of f0, LDi_of f1, LDi_of f2, LDi_of f3, LDl_of f4]
  refine arena_Most_spec.mono fun v w3 ⟨hE3, hv⟩ => ?_
  subst hv
  rw [INTV_int, wrap_i64 (by omega) (by omega)]
  have hE13 := hE12.trans0 hE3
  refine ITE_d (fun h4 => ?_) (fun h4 => ?_)
  · exact ⟨hE13, by simp [runF, h, h3, h4]⟩
  refine BINDw (by omega) (by omega) (BINDw (by omega) (by omega) (NZ_of (by omega) ?_))
  have e : (size + 1024 - 1).tdiv 1024 = (size + 1023) / 1024 := by
    rw [Int.tdiv_eq_ediv_of_nonneg (by omega)]; congr 1; omega
  rw [e]
  exact BINDw (by omega) (by omega) ⟨hE13, by simp [runF, h, h3, h4]⟩
theorem okTo_succ {cl : List Int} {k : Nat} : (∀ i, i < k + 1 → okAt cl i) ↔ (∀ i, i < k → okAt cl i) ∧ okAt cl k := by
  constructor
  · intro h; exact ⟨fun i hi => h i (by omega), h k (by omega)⟩
  · intro ⟨h1, h2⟩ i hi
    rcases Nat.lt_or_ge i k with h | h
    · exact h1 i h
    · have : i = k := by omega
      exact this ▸ h2
theorem r04_May_spec (hc : Cfg w.heap a l cl) :
    CALL Pg F_r04_May [cfgV c0 c1 c2 c3 a l c] w fun v w' => Eff w w' [] ∧ ∃ t : Bool, v = .bool t ∧ (t = true ↔ mayP c0 c1 c2 c3 cl) := by
  apply C_r04_May
  unfold D_r04_May
  intro b1 w1 hE1 _ hb1
  have hl := hc.l_eq
  have hlen := hc.len
  obtain ⟨f0, f1, f2, f3, f4⟩ := cfg_cells hb1
  refine ⟨fun vs w' => ∃ t : Bool, vs = [.bool t] ∧ Eff w1 w' [] ∧ (t = true ↔ okU c0 c1 c2 c3), ?_, ?_⟩
  · have no : ¬ okU c0 c1 c2 c3 → ∃ t : Bool, [Value.bool false] = [.bool t] ∧ Eff w1 w1 [] ∧ (t = true ↔ okU c0 c1 c2 c3) := fun h => ⟨false, rfl, Eff.refl _, by simpa using h⟩
    rw [LDi_of f0]
    refine ITE_d (fun h1 => ?_) (fun h1 => no (by unfold okU; omega))
    rw [LDi_of f0]
    refine ITE_d (fun h2 => ?_) (fun h2 => no (by unfold okU; omega))
    rw [LDi_of f1]
    refine ITE_d (fun h3 => ?_) (fun h3 => no (by unfold okU; omega))
    rw [LDi_of f1]
    refine ITE_d (fun h4 => ?_) (fun h4 => no (by unfold okU; omega))
    rw [LDi_of f2]
    refine ITE_d (fun h5 => ?_) (fun h5 => no (by unfold okU; omega))
    rw [LDi_of f2]
    refine ITE_d (fun h6 => ?_) (fun h6 => no (by unfold okU; omega))
    rw [LDi_of f3]
    refine ITE_d (fun h7 => ?_) (fun h7 => no (by unfold okU; omega))
    rw [LDi_of f3]
    exact ⟨_, rfl, Eff.refl _, by rw [decide_eq_true_iff]; unfold okU; omega⟩
  intro w2 v1 ⟨t1, hv1, hE2, ht1⟩
  cases hv1
  have g4 := hE2.cell0 f4
  refine ⟨fun vs w' => ∃ t : Bool, vs = [.bool t] ∧ Eff w1 w' [] ∧ (t = true ↔ okU c0 c1 c2 c3 ∧ okL cl), ?_, ?_⟩
  · refine ITE_intro (fun h1 => ?_) (fun h1 => ⟨false, rfl, hE2, by simp [← ht1, h1]⟩)
    rw [LDl_of g4]
    refine ITE_d (fun h2 => ?_) (fun h2 => ⟨false, rfl, hE2, by unfold okL; simp only [reduceCtorEq, false_iff, not_and]; omega⟩)
    rw [LDl_of g4]
    exact ⟨_, rfl, hE2, by rw [← ht1, decide_eq_true_iff]; unfold okL; simp only [h1, true_and]; omega⟩
  intro w3 v2 ⟨t2, hv2, hE3, ht2⟩
  cases hv2
  rw [BOOLV_bool]
  refine LOOP_of (fun vs w' => ∃ (t : Bool) (k : Nat), vs = [.bool t, .int .i64 k] ∧ k ≤ cl.length ∧ Eff w1 w' [] ∧ (t = true ↔ (okU c0 c1 c2 c3 ∧ okL cl) ∧ ∀ i, i < k → okAt cl i))
    (fun vs _ => match vs with | [_, .int _ n] => cl.length - n.toNat | _ => 0) ⟨t2, 0, rfl, by omega, hE3, by simp [ht2]⟩ ?_
  intro w4 v3 v4 ⟨t, k, hv, hk, hE4, ht⟩
  simp only [List.cons.injEq, and_true] at hv
  obtain ⟨rfl, rfl⟩ := hv
  have g4 := hE4.cell0 f4
  have hc4 := hc.eff (hE1.trans0 hE4)
  rw [INTV_int, BOOLV_bool, LDl_of g4]
  refine ITE_d (fun h1 => ?_) (fun h1 => ?_)
  rotate_left
  · have : k = cl.length := by omega
    subst this
    exact ⟨hE1.trans0 hE4, t, rfl, ht⟩
  have nx : ∀ t' : Bool, (t' = true ↔ t = true ∧ okAt cl k) → BIND (IntKind.i64.wrap ((k : Int) + 1)) fun n => ((∃ (t : Bool) (k : Nat), [Value.bool t', .int .i64 n] = [.bool t, .int .i64 k] ∧ k ≤ cl.length ∧ Eff w1 w4 [] ∧ (t = true ↔ (okU c0 c1 c2 c3 ∧ okL cl) ∧ ∀ i, i < k → okAt cl i)) ∧ cl.length - n.toNat < cl.length - (k : Int).toNat) := by
    intro t' h'
    refine BINDw (by omega) (by omega) ⟨⟨t', k + 1, rfl, by omega, hE4, ?_⟩, by omega⟩
    rw [h', ht, okTo_succ, and_assoc]
  rw [LDl_of g4]
  refine IDX_i hc4.sl (by omega) (by omega) fun b o hcell => ?_
  rw [LDi_of hcell]
  have e : (k : Int).toNat = k := by omega
  rw [e] at hcell ⊢
  refine ITE_intro (fun h2 => ?_) (fun h2 => nx false (by simp [h2]))
  refine ITE_d (fun h3 => ?_) (fun h3 => nx false (by unfold okAt; simp only [reduceCtorEq, false_iff, not_and]; omega))
  refine ITE_d (fun h4 => ?_) (fun h4 => nx false (by unfold okAt; simp only [reduceCtorEq, false_iff, not_and]; omega))
  refine NZ_of (by omega) (BINDx (Int.tmod_eq_emod_of_nonneg (by omega)) ?_)
  refine ITE_eq (fun h5 => ?_) (fun h5 => nx false (by unfold okAt; simp only [reduceCtorEq, false_iff, not_and]; omega))
  refine ITE_eq (fun h6 => ?_) (fun h6 => ?_)
  · exact nx true (by unfold okAt; simp only [true_iff]; exact ⟨h2, by omega, by omega, by omega, .inl (by omega)⟩)
  rw [LDl_of g4]
  refine BINDw (by omega) (by omega) (IDX_i hc4.sl (by omega) (by omega) fun b o hcell => ?_)
  rw [LDi_of hcell]
  have e : ((k : Int) - 1).toNat = k - 1 := by omega
  rw [e]
  exact nx _ (by rw [decide_eq_true_iff]; unfold okAt; simp only [h2, true_and]; omega)
theorem CFG_ld {w : World} {b : Nat} {t : TypeId} {K : Int → Int → Int → Int → Option Addr → Nat → Nat → Prop} (hb : w.heap[b]? = some (.cells (cfgL c0 c1 c2 c3 a l c).toArray t (0, 0))) :
    (LDi .i64 w ⟨b, 0, none⟩ fun n1 => LDi .i64 w ⟨b, 1, none⟩ fun n2 => LDi .i64 w ⟨b, 2, none⟩ fun n3 => LDi .i64 w ⟨b, 3, none⟩ fun n4 => LDl w ⟨b, 4, none⟩ fun a l c => K n1 n2 n3 n4 a l c) = K c0 c1 c2 c3 a l c := by
  obtain ⟨f0, f1, f2, f3, f4⟩ := cfg_cells hb
  rw [LDi_of f0, LDi_of f1, LDi_of f2, LDi_of f3, LDl_of f4]
theorem mayP.sup (h : mayP c0 c1 c2 c3 cl) : 1 ≤ c1 ∧ c1 ≤ 64 := by unfold mayP okU at h; omega
theorem mayP.cls (h : mayP c0 c1 c2 c3 cl) : ∀ x ∈ cl, 1 ≤ x ∧ x ≤ 512 := by
  intro x hx
  obtain ⟨i, hi, rfl⟩ := List.getElem_of_mem hx
  have := h.2 i hi
  unfold okAt at this
  simp [hi] at this
  omega
theorem mayP.cls16 (h : mayP c0 c1 c2 c3 cl) {k : Nat} (hk : k < cl.length) : 16 ≤ cl.getD k 0 ∧ cl.getD k 0 ≤ 512 ∧ cl.getD k 0 % 16 = 0 := by
  have := h.2 k hk
  unfold okAt at this
  omega
theorem KEEP_cfg {w : World} {b : Nat} {t : TypeId} (hb : w.heap[b]? = some (.cells (cfgL c0 c1 c2 c3 a l c).toArray t (0, 0))) :
    KEEP w [Fact.cell ⟨b, 0, none⟩ (.int .i64 c0), Fact.cell ⟨b, 1, none⟩ (.int .i64 c1), Fact.cell ⟨b, 2, none⟩ (.int .i64 c2), Fact.cell ⟨b, 3, none⟩ (.int .i64 c3), Fact.cell ⟨b, 4, none⟩ (.slice a l c)] := by
  obtain ⟨f0, f1, f2, f3, f4⟩ := cfg_cells hb
  exact KEEP_cell f0 (KEEP_cell f1 (KEEP_cell f2 (KEEP_cell f3 (KEEP_cell f4 KEEP_nil))))
theorem cfg_open {w : World} {cs : List Value} (h : Rds w [.int .i64, .int .i64, .int .i64, .int .i64, .sl [.int .i64]] cs) :
    ∃ c0 c1 c2 c3 a l c cl, cs = cfgL c0 c1 c2 c3 a l c ∧ Cfg w.heap a l cl := by
  cases h with | int _ h =>
  cases h with | int _ h =>
  cases h with | int _ h =>
  cases h with | int _ h =>
  cases h with | sl b o xs h1 h2 h3 h4 h5 h6 =>
  cases h6
  obtain ⟨cl, hl, _, hm, hs, _⟩ := Rds.ints (.sl b o xs h1 h2 h3 h4 h5 .nil)
  exact ⟨_, _, _, _, _, _, _, cl, rfl, hs, by have : maxLen = 9223372036854775807 := rfl; omega⟩
end
section
variable {w : World} {c0 c1 c2 c3 : Int} {ca : Option Addr} {cl cc : Nat} {cls : List Int}
theorem TUP_iic {x y z : Int} {K : Int → Int → Int → Prop} :
    (TUPV (.tuple #[.agg #[.int .i64 x, .int .i64 y], .int .i64 z]) fun cs => GETV cs 0 fun a => AGGV a fun ds => GETV ds 0 fun v => INTV .i64 v fun n => GETV ds 1 fun v2 => INTV .i64 v2 fun m => LEN ds 2 (GETV cs 1 fun u => INTV .i64 u fun t => LEN cs 2 (K n m t))) = K x y z := rfl
theorem AGG_ii {x y : Int} {K : Int → Int → Prop} : (AGGV (.agg #[.int .i64 x, .int .i64 y]) fun ds => GETV ds 0 fun v => INTV .i64 v fun n => GETV ds 1 fun v2 => INTV .i64 v2 fun m => LEN ds 2 (K n m)) = K x y := rfl
theorem live_Of_spec (x : Int) : CALL Pg F_live_Of [.int .i64 x] w fun v w' => Eff w w' [] ∧ v = .agg #[.int .i64 x, .int .i64 0] := by
  apply C_live_Of
  unfold D_live_Of
  intro b1 w1 hE1 hs1 hb1
  refine ST2_of trivial trivial hE1 hs1 hb1 fun w3 hE3 hb3 _ => ?_
  rw [LDi_of (cellH_of hb3 0), LDi_of (cellH_of hb3 1)]
  exact ⟨hE3, rfl⟩
theorem live_Run_spec (x : Int) : CALL Pg F_live_Run [.int .i64 x] w fun v w' => Eff w w' [] ∧ v = .agg #[.int .i64 (-1), .int .i64 x] := by
  apply C_live_Run
  unfold D_live_Run
  intro b1 w1 hE1 hs1 hb1
  refine ST2_of trivial trivial hE1 hs1 hb1 fun w3 hE3 hb3 _ => ?_
  rw [LDi_of (cellH_of hb3 0), LDi_of (cellH_of hb3 1)]
  exact ⟨hE3, rfl⟩
theorem CloneI_spec {a : Option Addr} {l c : Nat} {xs : List Int} (hs : SlI w.heap a l xs) (hl : xs.length ≤ 1000000000000) :
    CALL Pg F_slices_Clone_Lint_int [.slice a l c] w fun v w' => Eff w w' [] ∧ (∃ a' c', v = .slice a' xs.length c') ∧ OwI w' v xs ∧ ∀ b ∈ ownL v, w.heap.size ≤ b := by
  apply C_slices_Clone_Lint_int
  unfold D_slices_Clone_Lint_int
  have hll := hs.1
  refine SILN_eqnil (e := T_int) (by kernel_rfl) ?_
  rw [BOOLV_bool]
  refine ITE_intro (fun h => ?_) (fun _ => ?_)
  · have ha : a = none := by simpa using h
    have : xs = [] := by
      rcases hs.2 with h | ⟨b, o, h, _⟩
      · exact h
      · rw [ha] at h; cases h
    subst this
    exact ⟨Eff.refl w, ⟨none, 0, rfl⟩, ⟨rfl, .inl ⟨rfl, rfl⟩⟩, by simp [ownL, Value.ownBlock]⟩
  · intro b1 w1 hE1 hs1 hb1
    have hown : w1.ownsRow 0 T_int 1 (.slice (some ⟨b1, 0, none⟩) 0 0) 0 [] := own_mk hb1 rfl (Nat.le_refl _) (by simp) rfl rfl (Nat.zero_le _)
    have hsrc : xs.map (Value.int .i64) = [] ∨ ∃ b p, a = some ⟨b, p, none⟩ ∧ ∀ j u, (xs.map (Value.int .i64))[j]? = some u → cellH w1.heap b (p + j) = some u := by
      rcases (hs.eff hE1).2 with rfl | ⟨b, p, rfl, hc⟩
      · left; rfl
      · right
        refine ⟨b, p, rfl, fun j u hj => ?_⟩
        rw [List.getElem?_map] at hj
        rcases hx : xs[j]? with _ | x
        · rw [hx] at hj; cases hj
        · rw [hx] at hj
          have := hc j x hx 0 (.int .i64 x) rfl
          rw [Nat.mul_one, Nat.add_zero] at this
          rw [this]; exact hj
    refine SEML_app (m := l) (news := xs.map (Value.int .i64)) elem_int hown (by rw [List.length_map, hll, Nat.mul_one]) hsrc (fun u hu => by
      obtain ⟨x, _, rfl⟩ := List.mem_map.1 hu
      trivial) (by omega) (by omega) (Nat.zero_le _) fun a' c' w2 hown2 hE2 hn => ?_
    rw [SLV_slice]
    have hb0 : ∀ b ∈ ownL (.slice (some ⟨b1, 0, none⟩) 0 0), w.heap.size ≤ b := by simpa [ownL, Value.ownBlock] using hs1
    refine ⟨hE1.own hE2 hb0, ⟨a', c', by rw [Nat.zero_add, hll]⟩, ?_, fun b hb => ?_⟩
    · rw [Nat.zero_add, List.nil_append, hll] at hown2
      rw [Nat.zero_add, hll]
      exact hown2
    · rcases hn b hb with h | h
      · exact hb0 b h
      · rw [h]; exact hE1.size
theorem AGG_cfg {x0 x1 x2 x3 : Int} {a : Option Addr} {l c : Nat} {K : Int → Int → Int → Int → Option Addr → Nat → Nat → Prop} :
    (AGGV (cfgV x0 x1 x2 x3 a l c) fun cs => GETV cs 0 fun v => INTV .i64 v fun n0 => GETV cs 1 fun v => INTV .i64 v fun n1 => GETV cs 2 fun v => INTV .i64 v fun n2 => GETV cs 3 fun v => INTV .i64 v fun n3 => GETV cs 4 fun v => SLV v fun a l c => LEN cs 5 (K n0 n1 n2 n3 a l c)) = K x0 x1 x2 x3 a l c := rfl
theorem conf_Copy_spec (hc : Cfg w.heap ca cl cls) (hl : cls.length ≤ 1000000) :
    CALL Pg F_conf_Copy [cfgV c0 c1 c2 c3 ca cl cc] w fun v w' => Eff w w' [] ∧ ∃ a' c', v = cfgV c0 c1 c2 c3 a' cls.length c' ∧ OwI w' (.slice a' cls.length c') cls ∧ ∀ b ∈ ownL (.slice a' cls.length c'), w.heap.size ≤ b := by
  apply C_conf_Copy
  unfold D_conf_Copy
  intro b1 w1 hE1 hs1 hb1 b2 w2 hE2 hs2 hb2
  have hb12 := hE2.obj0 hb1
  have hE02 := hE1.trans0 hE2
  have hne : b1 ≠ b2 := by have := obj_lt hb1; omega
  rw [LDl_of (cellH_of hb12 4)]
  refine (CloneI_spec (hc.eff hE02).sl (by omega)).mono fun v w3 ⟨hE3, ⟨a', c', hv⟩, ho, hn⟩ => ?_
  subst hv
  rw [SLV_slice]
  have hE03 := hE02.trans0 hE3
  have hb13 := hE3.obj0 hb12
  have hb23 := hE3.obj0 hb2
  have hs20 : w.heap.size ≤ b2 := Nat.le_trans hE1.size hs2
  have hnot : ∀ b ∈ ownL (.slice a' cls.length c'), b ≠ b1 ∧ b ≠ b2 := fun b hb => by
    have h1 := hn b hb
    have h2 := obj_lt hb12
    have h3 := obj_lt hb2
    omega
  refine ST1_of trivial hb13 (by simp) fun w4 hb14 hE4 => ?_
  have hE04 : Eff w w4 [] := hE03.own hE4 (by simpa using hs1)
  rw [LDi_of (cellH_of hb14 0), LDi_of (cellH_of hb14 1), LDi_of (cellH_of hb14 2), LDi_of (cellH_of hb14 3), LDl_of (cellH_of hb14 4)]
  have hb24 := hE4.obj hb23 (by simpa using hne.symm)
  refine ST1_of trivial hb24 (by simp) fun w5 h5 e5 => ST1_of trivial h5 (by simp) fun w6 h6 e6 => ST1_of trivial h6 (by simp) fun w7 h7 e7 => ST1_of trivial h7 (by simp) fun w8 h8 e8 => ST1_of trivial h8 (by simp) fun w9 h9 e9 => ?_
  have eall := effg (effg (effg (effg e5 e6) e7) e8) e9
  rw [LDi_of (cellH_of h9 0), LDi_of (cellH_of h9 1), LDi_of (cellH_of h9 2), LDi_of (cellH_of h9 3), LDl_of (cellH_of h9 4)]
  refine ⟨hE04.own eall (by simpa using hs20), a', c', rfl, ?_, fun b hb => Nat.le_trans hE02.size (hn b hb)⟩
  exact own_eff (own_eff ho hE4 (fun b hb => by simpa using (hnot b hb).1)) eall (fun b hb => by simpa using (hnot b hb).2)
end
end Go.Proofs.YthjbakeddjkdkaaGreatDoor
