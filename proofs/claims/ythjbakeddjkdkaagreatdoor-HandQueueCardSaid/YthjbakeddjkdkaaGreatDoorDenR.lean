/- What came in reads as plain cells; the row of a law. -/
import Derived.Test.YthjbakeddjkdkaaGreatDoorDen
import Derived.ProofKit
import Derived.OpenShut
namespace Go.Den
open Go.ChangeShapes Go.RowKit Go.WideShapes

/-! ### Shapes -/
inductive Shp where
  | int (k : IntKind) | bool | str | sl (e : List Shp)

def fieldsS (P : Program) (g : TypeId → Option (List Shp)) : List Field → Nat → Option (List Shp × Nat)
  | [], off => some ([], off)
  | f :: r, off => match Nat.beq f.offset off with
    | true => match g f.type with
      | some l => match Nat.beq l.length (P.cellsOf f.type) with
        | true => match fieldsS P g r (off + l.length) with
          | some (m, n) => some (l ++ m, n)
          | none => none
        | false => none
      | none => none
    | false => none

def flatS (P : Program) : Nat → TypeId → Option (List Shp)
  | 0, _ => none
  | n + 1, t => match P.underlying t with
    | some (.int k) => some [.int k]
    | some .bool => some [.bool]
    | some .string => some [.str]
    | some (.slice e) => match flatS P n e with
      | some l => match Nat.beq l.length (P.cellsOf e) with
        | true => some [.sl l]
        | false => none
      | none => none
    | some (.struct fs) => match fieldsS P (flatS P n) fs.toList 0 with
      | some (l, m) => match Nat.beq m (P.cellsOf t) with
        | true => some l
        | false => none
      | none => none
    | some (.array m e) => match flatS P n e with
      | some l => match Nat.beq l.length (P.cellsOf e) && Nat.beq (m * l.length) (P.cellsOf t) with
        | true => some (List.replicate m l).flatten
        | false => none
      | none => none
    | _ => none

/-- These cells are of these shapes, and what they point to is there. -/
inductive Rds (w : World) : List Shp → List Value → Prop where
  | nil : Rds w [] []
  | int {k : IntKind} {n : Int} {r : List Shp} {cs : List Value} : (Lit.int k n).wf = true → Rds w r cs → Rds w (.int k :: r) (.int k n :: cs)
  | bool {b : Bool} {r : List Shp} {cs : List Value} : Rds w r cs → Rds w (.bool :: r) (.bool b :: cs)
  | str {s : ByteArray} {r : List Shp} {cs : List Value} : s.size ≤ maxLen → Rds w r cs → Rds w (.str :: r) (.string s :: cs)
  | sl {e r : List Shp} {a : Option Addr} {l c : Nat} {cs : List Value} (b o : Nat) (xs : Nat → List Value) : l ≤ c → c ≤ maxLen → (0 < l → 0 < e.length → a = some ⟨b, o, none⟩) → (∀ i, i < l → Rds w e (xs i)) →
      (∀ i, i < l → ∀ j u, (xs i)[j]? = some u → cellH w.heap b (o + i * e.length + j) = some u) → Rds w r cs → Rds w (.sl e :: r) (.slice a l c :: cs)

theorem Rds.length {w : World} {s : List Shp} {cs : List Value} (h : Rds w s cs) : cs.length = s.length := by
  induction h <;> simp_all

theorem Rds.append {w : World} {s t : List Shp} {cs ds : List Value} (h : Rds w s cs) (k : Rds w t ds) : Rds w (s ++ t) (cs ++ ds) := by
  induction h with
  | nil => exact k
  | int h _ ih => exact .int h ih
  | bool _ ih => exact .bool ih
  | str h _ ih => exact .str h ih
  | sl b o xs h1 h2 h3 h4 h5 _ _ ih => exact .sl b o xs h1 h2 h3 h4 h5 ih

theorem cells_eq {w : World} {base : Nat} {a : Addr} {n : Nat} {cs : List Value} (h : w.cells? base a n = some cs) : cs.length = n ∧ ∀ j, j < n → w.cell? (a.add j) = cs[j]? := by
  unfold World.cells? at h
  split at h
  · refine ⟨by simpa using mapM_some_length h, fun j hj => ?_⟩
    exact mapM_some_get h j j (by simp [hj])
  · cases h

section
variable {H : Type} {enc : TypeId × Value → H} {P : Program} {w : World}

theorem trod_rds : ∀ (n : Nat) (t : TypeId) (s : List Shp) (cs : List Value) (fuel : Nat) (x : DataW H × List MemPlace), flatS P n t = some s → DataW.trod enc P w 0 (fun _ => true) true fuel t cs = some x → Rds w s cs := by
  intro n
  induction n with
  | zero => intro t s cs fuel x h; cases h
  | succ n ih =>
    intro t s cs fuel x h hx
    unfold flatS at h
    split at h
    · rename_i k ht
      cases h
      obtain ⟨m, rfl, _, hw⟩ := DataW.trod_int ht hx
      exact .int hw .nil
    · rename_i ht
      cases h
      obtain ⟨m, rfl, _⟩ := DataW.trod_bool ht hx
      exact .bool .nil
    · rename_i ht
      cases h
      obtain ⟨m, rfl, _, hw⟩ := DataW.trod_string ht hx
      exact .str hw .nil
    · rename_i e ht
      split at h
      · rename_i l hl
        split at h
        · rename_i hb
          cases h
          have hb : l.length = P.cellsOf e := Nat.eq_of_beq_eq_true hb
          rcases DataW.trod_slice ht hx with ⟨rfl, _⟩ | ⟨a, len, cap, elems, rest, m, _, rfl, _, _, hlc, hcm, hlen, hel, _⟩
          · exact .sl 0 0 (fun _ => []) (Nat.le_refl _) (by simp) (by simp) (by simp) (by simp) .nil
          · have each : ∀ i, i < len → ∃ ds, w.cells? 0 (a.add (i * P.cellsOf e)) (P.cellsOf e) = some ds ∧ Rds w l ds := by
              intro i hi
              have := hel i hi
              rw [List.getElem?_eq_getElem (by omega)] at this
              simp only [Option.bind_eq_some_iff] at this
              obtain ⟨ds, h1, h2⟩ := this
              exact ⟨ds, h1, ih e l ds m _ hl h2⟩
            have hspot : 0 < len → 0 < l.length → ∃ b o, a = ⟨b, o, none⟩ := by
              intro h0 h1
              obtain ⟨ds, h2, h3⟩ := each 0 h0
              have h4 := (cells_eq h2).2 0 (by omega)
              have hlen' := h3.length
              rw [List.getElem?_eq_getElem (by omega), Nat.zero_mul] at h4
              obtain ⟨b, o, sp⟩ := a
              cases sp with
              | none => exact ⟨b, o, rfl⟩
              | some q =>
                exfalso
                unfold World.cell? at h4
                simp [Addr.add] at h4
                split at h4 <;> simp at h4
            refine .sl a.block a.off (fun i => (w.cells? 0 (a.add (i * P.cellsOf e)) (P.cellsOf e)).getD []) hlc hcm ?_ ?_ ?_ .nil
            · intro h0 h1
              obtain ⟨b, o, rfl⟩ := hspot h0 h1
              rfl
            · intro i hi
              obtain ⟨ds, h2, h3⟩ := each i hi
              rw [h2]; exact h3
            · intro i hi j u hu
              obtain ⟨ds, h2, h3⟩ := each i hi
              rw [h2] at hu
              dsimp only [Option.getD] at hu
              have hj : j < ds.length := (List.getElem?_eq_some_iff.1 hu).1
              obtain ⟨h4, h5⟩ := cells_eq h2
              obtain ⟨b, o, rfl⟩ := hspot (by omega) (by omega)
              have h6 := h5 j (by omega)
              rw [hu, Addr.add_eq, Addr.add_eq, cell_eq] at h6
              rw [hb]
              exact h6
        · cases h
      · cases h
    · rename_i fs ht
      split at h
      · rename_i l m hl
        split at h
        · rename_i hb
          cases h
          have hb : m = P.cellsOf t := Nat.eq_of_beq_eq_true hb
          obtain ⟨xs, q, _, _, hlen, hsz, hf⟩ := DataW.trod_struct ht hx
          have key : ∀ (fl : List Field) (off : Nat) (l : List Shp) (m : Nat), fieldsS P (flatS P n) fl off = some (l, m) → off ≤ cs.length → (∀ f ∈ fl, ∃ y, DataW.trod enc P w 0 (fun _ => true) true q f.type ((cs.drop f.offset).take (P.cellsOf f.type)) = some y) → off ≤ m ∧ (m ≤ cs.length → Rds w l ((cs.drop off).take (m - off))) := by
            intro fl
            induction fl with
            | nil =>
              intro off l m h _ _
              cases h
              exact ⟨Nat.le_refl _, fun _ => by rw [Nat.sub_self, List.take_zero]; exact .nil⟩
            | cons f r ihf =>
              intro off l m h hoff hall
              unfold fieldsS at h
              split at h
              · rename_i ho
                have ho : f.offset = off := Nat.eq_of_beq_eq_true ho
                split at h
                · rename_i l1 hl1
                  split at h
                  · rename_i hc
                    have hc : l1.length = P.cellsOf f.type := Nat.eq_of_beq_eq_true hc
                    split at h
                    · rename_i l2 m2 hr
                      cases h
                      obtain ⟨y, hy⟩ := hall f (List.mem_cons_self ..)
                      have h1 := ih _ _ _ _ _ hl1 hy
                      have hlen1 := h1.length
                      rw [ho, ← hc] at h1
                      rw [ho, ← hc] at hlen1
                      have hfit : off + l1.length ≤ cs.length := by
                        simp only [List.length_take, List.length_drop] at hlen1
                        omega
                      obtain ⟨h2, h3⟩ := ihf (off + l1.length) _ _ hr hfit (fun g hg => hall g (List.mem_cons_of_mem _ hg))
                      refine ⟨by omega, fun hm => ?_⟩
                      have h4 := h1.append (h3 hm)
                      have e : (cs.drop off).take l1.length ++ (cs.drop (off + l1.length)).take (m - (off + l1.length)) = (cs.drop off).take (m - off) := by
                        rw [← List.drop_drop, show m - off = l1.length + (m - (off + l1.length)) by omega, List.take_add]
                      rw [e] at h4
                      exact h4
                    · cases h
                  · cases h
                · cases h
              · cases h
          have := (key fs.toList 0 _ _ hl (Nat.zero_le _) (fun f hf' => by
            obtain ⟨i, hi, rfl⟩ := List.getElem_of_mem hf'
            have hi' : i < fs.size := by simpa using hi
            have h1 := hf i fs[i] (by simp [hi'])
            rw [List.getElem?_eq_getElem (by omega)] at h1
            exact ⟨_, by simpa using h1⟩)).2 (by omega)
          rw [List.drop_zero, Nat.sub_zero, hb, ← hlen, List.take_length] at this
          exact this
        · cases h
      · cases h
    · rename_i m e ht
      split at h
      · rename_i l hl
        split at h
        · rename_i hb
          cases h
          simp only [Bool.and_eq_true] at hb
          have hb1 : l.length = P.cellsOf e := Nat.eq_of_beq_eq_true hb.1
          have hb2 : m * l.length = P.cellsOf t := Nat.eq_of_beq_eq_true hb.2
          obtain ⟨xs, q, _, _, hlen, hsz, hf⟩ := DataW.trod_array ht hx
          have each : ∀ i, i < m → Rds w l ((cs.drop (i * l.length)).take l.length) := by
            intro i hi
            have h1 := hf i hi
            rw [List.getElem?_eq_getElem (by omega), ← hb1] at h1
            exact ih _ _ _ _ _ hl h1
          have key : ∀ k, k ≤ m → Rds w (List.replicate k l).flatten (cs.take (k * l.length)) := by
            intro k
            induction k with
            | zero => intro _; simp; exact .nil
            | succ k ihk =>
              intro hk
              have h1 := (ihk (by omega)).append (each k (by omega))
              rw [← List.take_add] at h1
              rw [List.replicate_succ', List.flatten_append, Nat.succ_mul]
              simpa using h1
          have := key m (Nat.le_refl _)
          rw [hb2, ← hlen, List.take_length] at this
          exact this
        · cases h
      · cases h
    · cases h

/-- An argument that is a struct or an array. -/
theorem arg_agg {base : Nat} {t : TypeId} {s : List Shp} {v : Value} {d : DataW H} {ps : List MemPlace} (hu : (match P.underlying t with | some (.struct _) => true | some (.array _ _) => true | _ => false) = true) (hs : flatS P 20 t = some s)
    (hv : Value.okWide P w .any base t v) (h : DataW.Trod enc P w 0 (fun _ => true) true t v d ps) : ∃ cs : List Value, v = .agg cs.toArray ∧ Rds w s cs := by
  obtain ⟨fuel, hf⟩ := h
  have : ∃ cs : Array Value, v = .agg cs := by
    unfold Value.okWide at hv
    split at hu
    · rename_i ht; rw [ht] at hv; obtain ⟨cs, h, _⟩ := hv; exact ⟨cs, h⟩
    · rename_i ht; rw [ht] at hv; obtain ⟨cs, h, _⟩ := hv; exact ⟨cs, h⟩
    · cases hu
  obtain ⟨cs, rfl⟩ := this
  exact ⟨cs.toList, by simp, trod_rds 20 t s _ fuel _ hs hf⟩

theorem arg_slice {base : Nat} {t e : TypeId} {s : List Shp} {v : Value} {d : DataW H} {ps : List MemPlace} (hu : P.underlying t = some (.slice e)) (hs : flatS P 20 t = some s)
    (hv : Value.okWide P w .any base t v) (h : DataW.Trod enc P w 0 (fun _ => true) true t v d ps) : ∃ a l c, v = .slice a l c ∧ Rds w s [.slice a l c] := by
  obtain ⟨fuel, hf⟩ := h
  obtain ⟨a, l, c, rfl⟩ := okWide_slice hu hv
  exact ⟨a, l, c, rfl, trod_rds 20 t s _ fuel _ hs hf⟩

/-- A slice that came in, as a list of whatever its elements are told to be. -/
theorem Rds.slice {α : Type} {e : List Shp} {a : Option Addr} {l c : Nat} (enc : α → List Value) (hpos : 0 < e.length) (h : Rds w [.sl e] [.slice a l c]) (hx : ∀ cs, Rds w e cs → ∃ x, cs = enc x) :
    ∃ xs : List α, xs.length = l ∧ l ≤ c ∧ c ≤ maxLen ∧ Sl enc e.length w.heap a l xs ∧ ∀ x ∈ xs, Rds w e (enc x) := by
  cases h with
  | sl b o ys h1 h2 h3 h4 h5 _ =>
    have key : ∀ k, k ≤ l → ∃ xs : List α, xs.length = k ∧ ∀ i x, xs[i]? = some x → ys i = enc x ∧ i < l := by
      intro k
      induction k with
      | zero => intro _; exact ⟨[], rfl, by simp⟩
      | succ k ih =>
        intro hk
        obtain ⟨xs, hl, hxs⟩ := ih (by omega)
        obtain ⟨x, hx'⟩ := hx _ (h4 k (by omega))
        refine ⟨xs ++ [x], by simp [hl], fun i y hy => ?_⟩
        rcases Nat.lt_or_ge i k with hi | hi
        · rw [List.getElem?_append_left (by omega)] at hy
          exact hxs i y hy
        · rw [List.getElem?_append_right (by omega)] at hy
          have hi' : i = k := by
            have := (List.getElem?_eq_some_iff.1 hy).1
            simp at this; omega
          subst hi'
          simp [hl] at hy
          subst hy
          exact ⟨hx', by omega⟩
    obtain ⟨xs, hl, hxs⟩ := key l (Nat.le_refl _)
    refine ⟨xs, hl, h1, h2, ⟨hl.symm, ?_⟩, fun x hx => ?_⟩
    · rcases Nat.eq_zero_or_pos l with h0 | h0
      · left; exact List.length_eq_zero_iff.1 (by omega)
      · right
        refine ⟨b, o, h3 h0 hpos, fun i x hx j v hv => ?_⟩
        obtain ⟨h6, h7⟩ := hxs i x hx
        exact h5 i h7 j v (by rw [h6]; exact hv)
    · obtain ⟨i, hi⟩ := List.getElem?_of_mem hx
      obtain ⟨h6, h7⟩ := hxs i x hi
      rw [← h6]; exact h4 i h7

theorem Rds.ints {k : IntKind} {a : Option Addr} {l c : Nat} (h : Rds w [.sl [.int k]] [.slice a l c]) : ∃ xs : List Int, xs.length = l ∧ l ≤ c ∧ c ≤ maxLen ∧ Sl (encI k) 1 w.heap a l xs ∧ ∀ x ∈ xs, (Lit.int k x).wf = true := by
  obtain ⟨xs, h1, h2, h3, h4, h5⟩ := h.slice (encI k) (by simp) (fun cs hcs => by cases hcs with | int h r => cases r; exact ⟨_, rfl⟩)
  refine ⟨xs, h1, h2, h3, h4, fun x hx => ?_⟩
  have := h5 x hx
  unfold encI at this
  cases this with
  | int h _ => exact h

/-! ### The row -/
def rowedB (P : Program) (ts : List TypeId) : Bool := ts.all fun t => P.readableRec t && decide (t < P.types.size)

theorem below_trodAll (hl : laidOutB P = true) {W W' : World} (hb : Below W.heap.size W W') : ∀ {ts : List TypeId} {vs : List Value} {ds : List (DataW H)} {ps : List MemPlace}, rowedB P ts = true →
    DataW.TrodAll enc P W 0 (fun _ => true) true ts vs ds ps → (∀ x ∈ ps, x.block < W.heap.size) → DataW.TrodAll enc P W' 0 (fun b => decide (b < W.heap.size)) true ts vs ds ps
  | [], _, _, _, _, h, _ => by
    obtain ⟨rfl, rfl, rfl⟩ := trodAll_nil h
    rfl
  | t :: ts, _, _, _, hr, h, hlt => by
    obtain ⟨v, vs1, d, ds1, p, q, rfl, rfl, rfl, h1, h2⟩ := trodAll_cons h
    simp only [rowedB, List.all_cons, Bool.and_eq_true, decide_eq_true_eq] at hr
    exact ⟨p, q, Below.trod hl hr.1.1 hr.1.2 h1 hb (fun x hx => hlt x (by simp [hx])), below_trodAll hl hb (by simpa [rowedB] using hr.2) h2 (fun x hx => hlt x (by simp [hx])), rfl⟩

theorem trodAll_len : ∀ {ts : List TypeId} {vs : List Value} {ds : List (DataW H)} {ps : List MemPlace} {b : Nat} {sp : Nat → Bool} {hd : Bool}, DataW.TrodAll enc P w b sp hd ts vs ds ps → ds.length = ts.length
  | [], _, _, _, _, _, _, h => by
    obtain ⟨rfl, rfl, rfl⟩ := trodAll_nil h
    rfl
  | t :: ts, _, _, _, _, _, _, h => by
    obtain ⟨v, vs1, d, ds1, p, q, rfl, rfl, rfl, h1, h2⟩ := trodAll_cons h
    simp [trodAll_len h2]

/-- A law that answers true and leaves what was there. -/
theorem law_post {f : Func} {s : ChangeSpec} {apart fresh handsOn : Bool} {W W' : World} {args : Array Value} {ds gs : List (DataW H)} {before : List MemPlace} (hl : laidOutB P = true) (hvars : s.vars = [])
    (hW : DataW.Whole enc P f.params.toList s.vars apart W args.toList ds gs before) (hfn : ∀ ds : List (DataW H), ds.length = f.params.toList.length → s.fn H ds = { results := [.lit (.bool true)], args := ds })
    (hr : rowedB P f.params.toList = true) {tb : TypeId} (hres : f.resultTypes = #[tb]) (htb : P.underlying tb = some .bool) (hE : Eff W W' []) : s.post enc P f apart fresh handsOn false W args (.bool true) W' := by
  have hlt := hW.lt
  have hW0 := hW
  obtain ⟨p, q, hA, hV, rfl, _, _⟩ := hW
  rw [hvars] at hV
  obtain ⟨rfl, rfl⟩ := trodVars_none hV
  have hlen : ds.length = f.params.toList.length := by
    exact trodAll_len hA
  have hf := hfn ds hlen
  rw [List.append_nil] at hlt
  refine ⟨ds, [], p ++ [], [], p, [], hW0, ?_, ?_, ?_, ?_, fun h => by cases h⟩
  · rw [List.append_nil, hf, hres]
    exact trodAll_mk1 (shut_bool htb true)
  · rw [List.append_nil, hf]
    exact below_trodAll hl hE.below hr hA (fun x hx => hlt x hx)
  · rw [List.append_nil, hf, hvars]; rfl
  · exact hE.below.frame _

theorem CALL.row {f : FuncId} {as : List Value} {Q : Value → World → Prop} (h : CALL P f as w fun v w' => Eff w w' [] ∧ v = .bool true) (hk : ∀ w', Eff w w' [] → Q (.bool true) w') :
    Calls P f as.toArray w fun e w' => ∃ v, e = .returned v ∧ Q v w' :=
  Calls.mono h fun e w' he => by
    cases e <;> first | exact he.elim | skip
    rename_i v
    obtain ⟨hE, hv⟩ := he
    exact ⟨v, rfl, by rw [hv]; exact hk w' hE⟩
end
end Go.Den
