/- Maps keyed by whole numbers, rows that are made; whether events fit. -/
import Derived.Test.YtpopdookpbmmpaaLine5
import Derived.Maps.Keyed
import Derived.Laws.MakeOwn
namespace Go.Proofs.Ytpopdookpbmmpaa
open Go.Den
set_option maxRecDepth 100000
set_option maxHeartbeats 4000000

/-! ### Maps -/
def IntKeys (es : List MapEntry) : Prop := ∀ e ∈ es, ∃ k, e.key = .int .i64 k

def keyIs (v : Value) (k : Int) : Bool := match v with
  | .int .i64 n => n == k
  | _ => false
theorem keyIs_int {n k : Int} : keyIs (.int .i64 n) k = (n == k) := rfl

def assoc : List MapEntry → Int → Option Value
  | [], _ => none
  | e :: r, k => if keyIs e.key k then some e.val else assoc r k

theorem sameNow_int {a b : Int} {q : IntKind} : Instr.sameNow (.int q) (.int .i64 a) (.int .i64 b) = some (a == b) := by simp [Instr.sameNow]

theorem find_int (q : IntKind) (k : Int) : ∀ (es : List MapEntry) (i : Nat), IntKeys es →
    (Instr.findNow (.int q) (.int .i64 k) es i = some none ∧ assoc es k = none ∧ ∀ v b k', assoc (es ++ [⟨.int .i64 k, v, b⟩]) k' = if k' = k then some v else assoc es k') ∨
    ∃ j e, Instr.findNow (.int q) (.int .i64 k) es i = some (some (i + j, e.val)) ∧ es[j]? = some e ∧ e.key = .int .i64 k ∧ assoc es k = some e.val ∧
      ∀ v k', assoc (es.modify j fun e => { e with key := .int .i64 k, val := v }) k' = if k' = k then some v else assoc es k'
  | [], i, _ => by
    left
    refine ⟨rfl, rfl, fun v b k' => ?_⟩
    by_cases h : k' = k
    · subst h; simp [assoc, keyIs_int]
    · have h2 : ¬ k = k' := fun e => h e.symm
      simp [assoc, keyIs_int, h, h2]
  | e :: r, i, h => by
    obtain ⟨k2, hk2⟩ := h e (by simp)
    by_cases hk : k = k2
    · right
      subst hk
      refine ⟨0, e, ?_, rfl, hk2, ?_, fun v k' => ?_⟩
      · simp [Instr.findNow, hk2, sameNow_int]
      · simp [assoc, hk2, keyIs_int]
      · by_cases h2 : k' = k
        · subst h2; simp [assoc, keyIs_int]
        · have h3 : ¬ k = k' := fun e => h2 e.symm
          simp [assoc, hk2, keyIs_int, h2, h3]
    · have hk' : ¬ k2 = k := fun e => hk e.symm
      rcases find_int q k r (i + 1) (fun e he => h e (List.mem_cons_of_mem _ he)) with ⟨h1, h2, h3⟩ | ⟨j, e', h1, h2, h3, h4, h5⟩
      · left
        refine ⟨?_, ?_, fun v b k' => ?_⟩
        · have hne : (k == k2) = false := by simpa using hk
          simp [Instr.findNow, hk2, sameNow_int, hne, h1]
        · simp [assoc, hk2, keyIs_int, hk', h2]
        · simp only [List.cons_append, assoc, h3, hk2, keyIs_int]
          by_cases h6 : k' = k
          · subst h6; simp [hk']
          · simp [h6]
      · right
        refine ⟨j + 1, e', ?_, by simpa using h2, h3, ?_, fun v k' => ?_⟩
        · have : i + 1 + j = i + (j + 1) := by omega
          have hne : (k == k2) = false := by simpa using hk
          simp [Instr.findNow, hk2, sameNow_int, hne, h1, this]
        · simp [assoc, hk2, keyIs_int, hk', h4]
        · simp only [List.modify_succ_cons, assoc, h5, hk2, keyIs_int]
          by_cases h6 : k' = k
          · subst h6; simp [hk']
          · simp [h6]

/-- A map of one's own, in block b. -/
def MapO (w : World) (b : Nat) (f : Int → Option Value) : Prop := ∃ (es : Array MapEntry) (clock : Nat), w.heap[b]? = some (.map es clock) ∧ IntKeys es.toList ∧ ∀ k, assoc es.toList k = f k

section
variable {P : Program} {w : World} {b : Nat} {f : Int → Option Value}

theorem MapO.new (h : w.heap[b]? = some (.map #[] 0)) : MapO w b (fun _ => none) := ⟨#[], 0, h, by intro e he; simp at he, fun k => rfl⟩
theorem MapO.eff {w' : World} {S : List Nat} (h : MapO w b f) (hE : Eff w w' S) (hS : b ∉ S) : MapO w' b f := by
  obtain ⟨es, c, h1, h2⟩ := h
  exact ⟨es, c, hE.obj h1 hS, h2⟩
theorem MapO.eff0 {w' : World} (h : MapO w b f) (hE : Eff w w' []) : MapO w' b f := h.eff hE (by simp)
theorem MapO.lt (h : MapO w b f) : b < w.heap.size := by
  obtain ⟨es, c, h1, _⟩ := h
  exact obj_lt h1

/-- What a look-up with two results answers. -/
def lookV (z : Value) : Option Value → Value
  | some v => .tuple #[v, .bool true]
  | none => .tuple #[z, .bool false]
theorem lookV_some {z v : Value} : lookV z (some v) = .tuple #[v, .bool true] := rfl
theorem lookV_none {z : Value} : lookV z none = .tuple #[z, .bool false] := rfl

theorem SILX_lookup {t kt e : TypeId} {q : IntKind} {z : Value} {k : Int} {K : Value → List Fact → Prop} (hm : MapO w b f) (ht : P.underlying t = some (.map kt e)) (hk : P.underlying kt = some (.int q)) (hz : ∀ w, (zeroValue e).run P w = .ok z w)
    (hK : ∀ F, K (lookV z (f k)) F) : SILX P w (Instr.lookup t (.map (some b)) (.int .i64 k) true) K := by
  obtain ⟨es, clock, hb, hi, ha⟩ := hm
  refine ⟨_, [.obj b (.map es clock)], ?_, fun w' hw' => ?_, hK _⟩
  · intro x hx
    simp at hx
    subst hx
    exact hb
  · have hb' : w'.heap[b]? = some (.map es clock) := hw' (.obj b (.map es clock)) (by simp)
    have chk : ∀ d em, (Instr.checkKey em (d + 1) kt (.int .i64 k)).run P w' = .ok () w' := fun d em => by simp [Instr.checkKey, run_underlying hk]
    have hc : ∀ em, (Instr.checkKey em 10000 kt (.int .i64 k)).run P w' = .ok () w' := fun em => chk 9999 em
    rcases find_int q k es.toList 0 hi with ⟨h1, h2, _⟩ | ⟨j, e', h1, _, _, h4, _⟩
    · rw [← ha, h2, lookV_none]
      have hfk := MapKept.run_findKey (P := P) (w := w') hk h1
      simp [Instr.lookup, run_underlying ht, MapKept.run_getObj_map hb', hc, hfk, hz, Result.andThen]
    · rw [← ha, h4, lookV_some]
      have hfk := MapKept.run_findKey (P := P) (w := w') hk h1
      simp [Instr.lookup, run_underlying ht, MapKept.run_getObj_map hb', hc, hfk, Result.andThen]

theorem SEMU_update {t kt e : TypeId} {q : IntKind} {k : Int} {v : Value} {K : World → Prop} (hm : MapO w b f) (ht : P.underlying t = some (.map kt e)) (hk : P.underlying kt = some (.int q))
    (hK : ∀ w', MapO w' b (fun k' => if k' = k then some v else f k') → Eff w w' [b] → K w') : SEMU P w (Instr.mapUpdate t (.map (some b)) (.int .i64 k) v) K := by
  obtain ⟨es, clock, hb, hi, ha⟩ := hm
  have hlt := obj_lt hb
  have chk : ∀ d em, (Instr.checkKey em (d + 1) kt (.int .i64 k)).run P w = .ok () w := fun d em => by simp [Instr.checkKey, run_underlying hk]
  have hc : ∀ em, (Instr.checkKey em 10000 kt (.int .i64 k)).run P w = .ok () w := fun em => chk 9999 em
  have hE : ∀ o, Eff w { w with heap := w.heap.setIfInBounds b o } [b] := fun o => ⟨rfl, rfl, rfl, by simp, fun i _ hn => by simp only [List.mem_cons, List.not_mem_nil, or_false] at hn; rw [Array.getElem?_setIfInBounds_ne (Ne.symm hn)]⟩
  have hat : ∀ o : Obj, (w.heap.setIfInBounds b o)[b]? = some o := fun o => by rw [Array.getElem?_setIfInBounds_self_of_lt hlt]
  unfold SEMU
  rcases find_int q k es.toList 0 hi with ⟨h1, _, h3⟩ | ⟨j, e', h1, h2, h3, _, h5⟩
  · have hfk := MapKept.run_findKey (P := P) (w := w) hk h1
    have hr : (Instr.mapUpdate t (.map (some b)) (.int .i64 k) v).run P w = .ok () { w with heap := w.heap.setIfInBounds b (.map (es.push { key := .int .i64 k, val := v, born := clock }) (clock + 1)) } := by
      simp [Instr.mapUpdate, run_underlying ht, MapKept.run_getObj_map hb, hc, hfk, MapKept.run_setObj_map _ hb, Result.andThen]
    rw [hr]
    refine hK _ ⟨_, _, hat _, ?_, fun k' => ?_⟩ (hE _)
    · intro e he
      simp only [Array.toList_push, List.mem_append, List.mem_cons, List.not_mem_nil, or_false] at he
      rcases he with he | rfl
      · exact hi e he
      · exact ⟨k, rfl⟩
    · rw [Array.toList_push, h3, ha]
  · have hj : es[j]? = some e' := by simpa using h2
    have hr : (Instr.mapUpdate t (.map (some b)) (.int .i64 k) v).run P w = .ok () { w with heap := w.heap.setIfInBounds b (.map (es.modify j fun e => { e with key := .int .i64 k, val := v }) clock) } := by
      rw [Nat.zero_add] at h1
      have hfk := MapKept.run_findKey (P := P) (w := w) hk h1
      simp [Instr.mapUpdate, run_underlying ht, MapKept.run_getObj_map hb, hc, hfk, hj, h3, Instr.keyThatStays, Instr.sameBits, MapKept.run_setObj_map _ hb, Result.andThen]
    rw [hr]
    refine hK _ ⟨_, _, hat _, ?_, fun k' => ?_⟩ (hE _)
    · intro e he
      rw [Array.toList_modify] at he
      obtain ⟨i, hlt, rfl⟩ := List.getElem_of_mem he
      rw [List.getElem_modify]
      split
      · exact ⟨k, rfl⟩
      · exact hi _ (List.getElem_mem _)
    · rw [Array.toList_modify, h5, ha]
end

/-! ### Rows that are made, and the greater one -/
section
variable {w : World}

theorem SEML_makeP {P : Program} {t e : TypeId} {bytes l : Nat} {K : Value → World → Prop} (hel : Elem P t e 1 bytes) (hb8 : bytes ≤ 16) (h : zeroL P e = some [.int .i64 0]) (hl : l ≤ 1000000000000) (hK : ∀ g w', Eff w w' [] → w.heap.size ≤ g → w'.heap[g]? = some (.cells ((List.replicate l 0).map (Value.int .i64) ++ []).toArray e (0, 0)) → K (.slice (some ⟨g, 0, none⟩) l l) w') :
    SEML P w (Instr.makeSlice t (.int .i64 l) (.int .i64 l)) K := by
  obtain ⟨ht, i, z, hi, hz, hs, hby, hzs, hpos⟩ := hel
  have hcs : z.cells = #[.int .i64 0] := by
    obtain ⟨z', hz', hc, _⟩ := zeroL_run h w
    have hzz : (zeroValue e).run P w = .ok z w := by simp [zeroValue, typeInfo, program, Sem.run, hi, hz]
    rw [hzz] at hz'
    cases hz'
    exact hc
  have hr := run_make (P := P) w t e i z ht hi hz .i64 .i64 l l (by omega) (by omega) (by rw [hby]; have : (bytes : Int) * l ≤ 16 * l := Int.mul_le_mul_of_nonneg_right (by omega) (by omega); omega) (by omega)
  refine SEML_of hr ?_
  rw [show ((l : Int).toNat) = l by omega]
  refine hK w.heap.size _ (Eff.push w _) (Nat.le_refl _) ?_
  have hat : (w.alloc (.cells (madeCells z.cells (l * i.size)) e)).heap[w.heap.size]? = some (.cells (madeCells z.cells (l * i.size)) e) := Array.getElem?_push_size
  rw [hat]
  congr 2
  rw [hcs, hs, Nat.mul_one, List.append_nil, List.map_replicate]
  apply Array.ext
  · simp [madeCells]
  · intro j h1 h2
    have : j % 1 = 0 := Nat.mod_one j
    simp [madeCells, this]


theorem SEML_make {l : Nat} {K : Value → World → Prop} (hl : l ≤ 1000000000000) (hK : ∀ g w', Eff w w' [] → w.heap.size ≤ g → Row w' g [] (List.replicate l 0) → K (.slice (some ⟨g, 0, none⟩) l l) w') :
    SEML Pg w (Instr.makeSlice T_Lint (.int .i64 l) (.int .i64 l)) K :=
  SEML_makeP elem_int (by omega) (by kernel_rfl) hl hK

theorem SILN_max {P : Program} {x y : Int} {ty : TypeId} {ts : Array TypeId} {K : Value → Prop} (hK : K (.int .i64 (if y > x then y else x))) : SILN P (Builtin.max_ ts ty #[.int .i64 x, .int .i64 y]) K := by
  refine SILN_of (fun w' => ?_) hK
  simp [Builtin.max_, Builtin.max2]
end

/-! ### Ahead, Fits -/
section
variable {w : World}

abbrev vE (e : Ev) : Value := .agg #[.int .i64 e.w, .int .i64 e.rk, .int .i64 e.rn, .int .i64 e.ac, .int .i64 e.an, .int .i64 e.st, .int .i64 e.b, .int .i64 e.p, .int .i64 e.e]

theorem line_Ahead_spec (a b : Ev) : CALL Pg F_line_Ahead [vE a, vE b] w fun v w' => Eff w w' [] ∧ v = .bool (decide (Ahead a b)) := by
  apply C_line_Ahead
  unfold D_line_Ahead
  intro b1 w1 hE1 _ hb1 b2 w2 hE2 _ hb2
  have hb12 := hE2.obj0 hb1
  have hE := hE1.trans0 hE2
  rw [LDi_of (cellH_of hb12 8)]
  refine ITE_d (fun h1 => ?_) (fun h1 => ⟨hE, by rw [decide_eq_false (by unfold Ahead; omega)]⟩)
  rw [LDi_of (cellH_of hb12 8), LDi_of (cellH_of hb2 6)]
  exact ⟨hE, by rw [decide_eq_decide.2 (show a.e < b.b ↔ Ahead a b by unfold Ahead; omega)]⟩

theorem r21_Ahead_spec (a b : Ev) : CALL Pg F_r21_Ahead [vE a, vE b] w fun v w' => Eff w w' [] ∧ v = .bool (decide (Ahead a b)) := by
  apply C_r21_Ahead
  unfold D_r21_Ahead
  intro b1 w1 hE1 _ hb1 b2 w2 hE2 _ hb2
  have hb12 := hE2.obj0 hb1
  have hE := hE1.trans0 hE2
  rw [LDi_of (cellH_of hb12 8)]
  refine ITE_d (fun h1 => ?_) (fun h1 => ⟨hE, by rw [decide_eq_false (by unfold Ahead; omega)]⟩)
  rw [LDi_of (cellH_of hb12 8), LDi_of (cellH_of hb2 6)]
  exact ⟨hE, by rw [decide_eq_decide.2 (show a.e < b.b ↔ Ahead a b by unfold Ahead; omega)]⟩

theorem zero_run {P : Program} {t : TypeId} {l : List Value} (h : zeroL P t = some l) : ∃ z, (∀ w, (zeroValue t).run P w = .ok z w) ∧ (z = .agg l.toArray ∨ l = [z]) := by
  unfold zeroL at h
  split at h
  · rename_i i hi
    have hz : ∀ v, i.zero = some v → ∀ w, (zeroValue t).run P w = .ok v w := fun v hv w => by
      simp [zeroValue, typeInfo, program, Sem.run, hi, hv]
    split at h
    · rename_i cs hv
      cases h
      exact ⟨_, hz _ hv, .inl rfl⟩
    · cases h
    · rename_i v _ _ hv
      cases h
      exact ⟨_, hz _ hv, .inr rfl⟩
    · cases h
  · cases h

def zeroIntB (P : Program) (t : TypeId) : Bool := match P.info? t with
  | some i => match i.zero with
    | some (.int .i64 n) => n == 0
    | _ => false
  | none => false

theorem zero_int {P : Program} {t : TypeId} (h : zeroIntB P t = true) : ∀ w, (zeroValue t).run P w = .ok (.int .i64 0) w := by
  intro w
  unfold zeroIntB at h
  split at h
  · rename_i i hi
    split at h
    · rename_i n hn
      have : n = 0 := by simpa using h
      subst this
      simp [zeroValue, typeInfo, program, Sem.run, hi, hn]
    · cases h
  · cases h

theorem zero_int_run : ∀ w, (zeroValue T_int).run Pg w = .ok (.int .i64 0) w := zero_int (by kernel_rfl)

theorem atE_nat {l : List Ev} (k : Nat) : atE l (k : Int) = l.getD k ev0 := by unfold atE; simp

/-- The row of numbers is read. -/
theorem take_mem {o : List Int} {k : Nat} {i : Int} : i ∈ o.take k → i ∈ o := List.mem_of_mem_take

theorem line_Fits_spec {l : List Ev} {la : Option Addr} {ll lc : Nat} (hs : SlE w.heap la ll l) (hl : ll ≤ 1000000000) {o : List Int} {oa : Option Addr} {ol oc : Nat} (ho : SlI w.heap oa ol o) (hol : ol ≤ 1000000000) :
    CALL Pg F_line_Fits [.slice la ll lc, .slice oa ol oc] w fun v w' => Eff w w' [] ∧ ∃ t, v = .bool t ∧ (t = true ↔ FitsP l o) := by
  apply C_line_Fits
  unfold D_line_Fits
  have hll := hs.1
  have hool := ho.1
  intro b1 w1 hE1 hs1 hb1
  have no : ∀ w', Eff w w' [] → ¬ FitsP l o → Eff w w' [] ∧ ∃ t, Value.bool false = .bool t ∧ (t = true ↔ FitsP l o) := fun w' hE h => ⟨hE, false, rfl, by simp [h]⟩
  have g0 : ∀ k : Nat, k < ol → o.getD k 0 ∈ o := fun k hk => getD_mem (by omega)
  refine LOOP_of (fun vs w' => ∃ (k : Nat) (f : Int → Option Value), vs = [.bool false, .int .i64 k] ∧ k ≤ ol ∧ Eff w1 w' [b1] ∧ MapO w' b1 f ∧ (∀ i, (∃ n, f i = some (.int .i64 n)) ∧ i ∈ o.take k ∨ f i = none ∧ i ∉ o.take k) ∧ (∀ i ∈ o.take k, 0 ≤ i ∧ i < ll) ∧ (o.take k).Nodup)
    (fun vs _ => match vs with | [_, .int _ n] => ol - n.toNat | _ => 0) ⟨0, _, rfl, by omega, (Eff.refl _).weak (by simp), MapO.new hb1, fun i => .inr ⟨rfl, by simp⟩, by simp, by simp⟩ ?_
  intro w2 v1 v2 ⟨k, f, hv, hk, hE2, hm, hf, hr, hn⟩
  simp only [List.cons.injEq, and_true] at hv
  obtain ⟨rfl, rfl⟩ := hv
  rw [INTV_int, BOOLV_bool]
  have hE02 : Eff w w2 [] := hE1.own hE2 (by simpa using hs1)
  refine ITE_d (fun h1 => ?_) (fun h1 => ?_)
  · have e : (k : Int).toNat = k := by omega
    have hts := take_snoc (U := o) (i := k) (by omega)
    refine IDX_i (ho.eff hE02) (by omega) (by omega) fun b p hc => ?_
    rw [LDi_of hc, e]
    have hin := g0 k (by omega)
    generalize o.getD k 0 = x at *
    refine SILX_lookup (q := .i64) (kt := T_int) (e := T_int) hm (by kernel_rfl) (by kernel_rfl) zero_int_run fun F => ?_
    rcases hf x with ⟨⟨n, h2⟩, h3⟩ | ⟨h2, h3⟩
    · rw [h2, lookV_some, TUP_ib]
      refine no w2 hE02 fun hF => ?_
      have : (o.take (k + 1)).Nodup := hF.2.1.sublist (List.take_sublist _ _)
      rw [hts, List.nodup_append] at this
      exact this.2.2 x h3 x (by simp) rfl
    · rw [h2, lookV_none, TUP_ib]
      refine ITE_intro (fun h => by cases h) (fun _ => ?_)
      refine ITE_d (fun h4 => no w2 hE02 fun hF => by have := hF.1 x hin; omega) (fun h4 => ?_)
      refine ITE_d (fun h5 => no w2 hE02 fun hF => by have := hF.1 x hin; omega) (fun h5 => ?_)
      refine SEMU_update (q := .i64) (kt := T_int) (e := T_int) hm (by kernel_rfl) (by kernel_rfl) fun w3 hm3 hE3 => ?_
      refine BINDw (by omega) (by omega) ⟨⟨k + 1, _, rfl, by omega, effg hE2 hE3, hm3, fun i => ?_, fun i hi => ?_, ?_⟩, by first | omega | (dsimp only; omega)⟩
      · by_cases h6 : i = x
        · left
          exact ⟨⟨k, by rw [if_pos h6]⟩, by rw [hts, h6]; simp⟩
        · rw [if_neg h6, hts]
          rcases hf i with ⟨h7, h8⟩ | ⟨h7, h8⟩
          · exact .inl ⟨h7, by simp [h8]⟩
          · exact .inr ⟨h7, by simp [h8, h6]⟩
      · rw [hts, List.mem_append] at hi
        rcases hi with hi | hi
        · exact hr i hi
        · simp at hi; omega
      · rw [hts, List.nodup_append]
        refine ⟨hn, by simp, fun a ha b hb hab => ?_⟩
        simp at hb
        subst hb hab
        exact h3 ha
  have hk' : k = o.length := by omega
  subst hk'
  rw [List.take_length] at hf hr hn
  refine LOOP_of (fun vs w' => ∃ j : Nat, vs = [.bool false, .int .i64 j] ∧ j ≤ ll ∧ Eff w2 w' [] ∧ ∀ i : Nat, i < j → 0 < (l.getD i ev0).e → (i : Int) ∈ o)
    (fun vs _ => match vs with | [_, .int _ n] => ll - n.toNat | _ => 0) ⟨0, rfl, by omega, Eff.refl _, by simp⟩ ?_
  intro w4 v6 v7 ⟨j, hv, hj, hE4, hall⟩
  simp only [List.cons.injEq, and_true] at hv
  obtain ⟨rfl, rfl⟩ := hv
  rw [INTV_int, BOOLV_bool]
  have hE04 := hE02.trans0 hE4
  refine ITE_d (fun h2 => ?_) (fun h2 => ?_)
  · refine IDX_e (hs.eff hE04) (by omega) (by omega) fun b p hc => ?_
    have e0 := hc 0 _ rfl
    rw [Nat.add_zero] at e0
    rw [LDi_of e0, LDi_of (hc 1 _ rfl), LDi_of (hc 2 _ rfl), LDi_of (hc 3 _ rfl), LDi_of (hc 4 _ rfl), LDi_of (hc 5 _ rfl), LDi_of (hc 6 _ rfl), LDi_of (hc 7 _ rfl), LDi_of (hc 8 _ rfl)]
    intro b4 w5 hE5 hs5 hb5
    refine ST9_of hE5 hs5 hb5 fun w14 hE14 hb14 _ => ?_
    have hE214 := hE4.trans0 hE14
    refine SILX_lookup (q := .i64) (kt := T_int) (e := T_int) (hm.eff0 hE214) (by kernel_rfl) (by kernel_rfl) zero_int_run fun F => ?_
    rw [atE_nat] at hb14
    rcases hf j with ⟨⟨n, h3⟩, h4⟩ | ⟨h3, h4⟩
    · rw [h3, lookV_some, TUP_ib]
      refine ITE_intro (fun h => by cases h) (fun _ => BINDw (by omega) (by omega) ⟨⟨j + 1, rfl, by omega, hE214, fun i hi he => ?_⟩, by first | omega | (dsimp only; omega)⟩)
      rcases Nat.lt_or_ge i j with h | h
      · exact hall i h he
      · have : i = j := by omega
        rw [this]; exact h4
    · rw [h3, lookV_none, TUP_ib]
      refine ITE_intro (fun _ => ?_) (fun h => by cases h)
      rw [LDi_of (cellH_of hb14 8)]
      refine ITE_d (fun h5 => no w14 (hE02.trans0 hE214) fun hF => h4 (hF.2.2.1 j (by omega) h5)) (fun h5 => ?_)
      refine BINDw (by omega) (by omega) ⟨⟨j + 1, rfl, by omega, hE214, fun i hi he => ?_⟩, by first | omega | (dsimp only; omega)⟩
      rcases Nat.lt_or_ge i j with h | h
      · exact hall i h he
      · have : i = j := by omega
        rw [this] at he; omega
  refine LOOP_of (fun vs w' => ∃ (k : Nat) (x : Int), vs = [.bool false, .int .i64 x, .int .i64 k] ∧ k ≤ ol ∧ Eff w4 w' [] ∧ 0 ≤ x ∧ (∀ i ∈ o.take k, (atE l i).b ≤ x) ∧ (x = 0 ∨ ∃ i ∈ o.take k, (atE l i).b = x) ∧ (o.take k).Pairwise fun i k => ¬ Ahead (atE l k) (atE l i))
    (fun vs _ => match vs with | [_, _, .int _ n] => ol - n.toNat | _ => 0) ⟨0, 0, rfl, by omega, Eff.refl _, by omega, by simp, .inl rfl, by simp⟩ ?_
  intro w15 v11 v12 v13 ⟨k, x, hv, hk2, hE15, hx0, hx1, hx2, hpw⟩
  simp only [List.cons.injEq, and_true] at hv
  obtain ⟨rfl, rfl, rfl⟩ := hv
  rw [INTV_int, INTV_int, BOOLV_bool]
  have hE015 := hE04.trans0 hE15
  refine ITE_d (fun h3 => ?_) (fun h3 => ?_)
  · have e : (k : Int).toNat = k := by omega
    have hts := take_snoc (U := o) (i := k) (by omega)
    refine IDX_i (ho.eff hE015) (by omega) (by omega) fun b p hc => ?_
    rw [LDi_of hc, e]
    have hin := g0 k (by omega)
    have hkol : k < ol := by omega
    obtain ⟨y, hyd⟩ : ∃ y, y = o.getD k 0 := ⟨_, rfl⟩
    rw [← hyd] at hin hts ⊢
    have hy := hr y hin
    have hsE := hs.eff hE015
    -- the rest, behind the test
    have rest : ¬ (0 < (atE l y).e ∧ (atE l y).e < x) → ∀ K : Int → Int → Prop, (∀ x' : Int, 0 ≤ x' → (∀ i ∈ o.take (k + 1), (atE l i).b ≤ x') → (x' = 0 ∨ ∃ i ∈ o.take (k + 1), (atE l i).b = x') → ((o.take (k + 1)).Pairwise fun i k => ¬ Ahead (atE l k) (atE l i)) → K x' ((k : Int) + 1)) →
        IDX la ll y 9 fun b_8 o_6 => LDi .i64 w15 ⟨b_8, o_6 + 6, none⟩ fun n_24 => SILN Pg (Builtin.max_ #[T_int, T_int] T_int #[.int .i64 x, .int .i64 n_24]) fun v_14 => INTV .i64 v_14 fun n_25 => BIND (IntKind.i64.wrap ((k : Int) + 1)) fun n_26 => K n_25 n_26 := by
      intro hno K hK
      refine IDX_e hsE hy.1 hy.2 fun b p hc => ?_
      rw [LDi_of (hc 6 _ rfl)]
      refine SILN_max ?_
      rw [INTV_int]
      refine BINDw (by omega) (by omega) (hK _ ?_ (fun i hi => ?_) ?_ ?_)
      · split <;> omega
      · rw [hts, List.mem_append] at hi
        rcases hi with hi | hi
        · have := hx1 i hi
          split <;> omega
        · simp at hi; subst hi
          split <;> omega
      · split
        · right; exact ⟨y, by rw [hts]; simp, rfl⟩
        · rcases hx2 with h | ⟨i, hi, h⟩
          · exact .inl h
          · exact .inr ⟨i, by rw [hts]; simp [hi], h⟩
      · rw [hts, List.pairwise_append]
        refine ⟨hpw, by simp, fun i hi t ht ha => ?_⟩
        simp at ht
        subst ht
        have := hx1 i hi
        unfold Ahead at ha
        omega
    refine IDX_e hsE hy.1 hy.2 fun b p hc => ?_
    rw [LDi_of (hc 8 _ rfl)]
    refine ITE_d (fun h4 => ?_) (fun h4 => rest (by omega) _ fun x' q1 q2 q3 q4 => ⟨⟨k + 1, x', rfl, by omega, hE15, q1, q2, q3, q4⟩, by first | omega | (dsimp only; omega)⟩)
    refine IDX_e hsE hy.1 hy.2 fun b p hc => ?_
    rw [LDi_of (hc 8 _ rfl)]
    refine ITE_d (fun h5 => ?_) (fun h5 => rest (by omega) _ fun x' q1 q2 q3 q4 => ⟨⟨k + 1, x', rfl, by omega, hE15, q1, q2, q3, q4⟩, by first | omega | (dsimp only; omega)⟩)
    refine no w15 hE015 fun hF => ?_
    rcases hx2 with h | ⟨i, hi, h⟩
    · omega
    · have h6 : (o.take (k + 1)).Pairwise fun i k => ¬ Ahead (atE l k) (atE l i) := hF.2.2.2.sublist (List.take_sublist _ _)
      rw [hts, List.pairwise_append] at h6
      exact h6.2.2 i hi y (by simp) ⟨h4, by omega⟩
  · have hk' : k = o.length := by omega
    subst hk'
    rw [List.take_length] at hpw
    exact ⟨hE015, true, rfl, by simp; exact ⟨fun i hi => by have := hr i hi; omega, hn, fun i hi he => hall i (by omega) he, hpw⟩⟩

end
end Go.Proofs.Ytpopdookpbmmpaa
