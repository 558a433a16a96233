/- Cells of lines; words; numbers of words; what is asked for. -/
import Derived.Test.YtmanfmpdmmhbfaaDoorText5
namespace Go.Proofs.YtmanfmpdmmhbfaaDoor
open Go.Den
set_option maxRecDepth 100000
set_option maxHeartbeats 4000000

/-- Whole numbers in a slice of one's own. -/
abbrev OwI (w : World) (v : Value) (xs : List Int) : Prop := w.ownsRow 0 T_int 1 v xs.length (xs.map (Value.int .i64))
theorem elem_int : Elem Pg T_Lint T_int 1 8 := Elem.of (by kernel_rfl)
theorem elem_str : Elem Pg T_Lstring T_string 1 16 := Elem.of (by kernel_rfl)

section
variable {w : World}

theorem effg {a b c : World} {S : List Nat} (h : Eff a b S) (k : Eff b c S) : Eff a c S := (h.trans k).weak (by intro b hb _; simpa using hb)
theorem OwI.sl {a : Option Addr} {l c : Nat} {xs : List Int} (h : OwI w (.slice a l c) xs) : l = xs.length ∧ SlI w.heap a l xs := own_slI h
theorem OwI.eff {w' : World} {v : Value} {xs : List Int} (h : OwI w v xs) (hE : Eff w w' []) : OwI w' v xs := own_eff0 h hE
theorem OwI.nil : OwI w (.slice none 0 0) [] := ⟨rfl, .inl ⟨rfl, rfl⟩⟩

theorem own_blk {base e size n c : Nat} {a : Option Addr} {l : Nat} {xs : List Value} (h : w.ownsRow base e size (.slice a l c) n xs) {b o : Nat} (ha : a = some ⟨b, o, none⟩) : b ∈ ownL (.slice a l c) ∧ b < w.heap.size := by
  rcases h.2 with ⟨h6, _⟩ | ⟨g, cap, cur, h6, _, hg, _⟩
  · injection h6 with q1
    rw [q1] at ha; cases ha
  · have h6' := h6
    injection h6 with q1
    rw [q1] at ha
    simp only [Option.some.injEq, Addr.mk.injEq] at ha
    refine ⟨?_, by rw [← ha.1]; exact obj_lt hg⟩
    rw [h6']
    simp [ownL, Value.ownBlock, ha.1]

theorem Sl.same {α : Type} {enc : α → List Value} {size : Nat} {h h' : Array Obj} {a : Option Addr} {l : Nat} {xs : List α} (hs : Sl enc size h a l xs) (hb : ∀ b o, a = some ⟨b, o, none⟩ → h'[b]? = h[b]?) : Sl enc size h' a l xs := by
  refine ⟨hs.1, hs.2.imp id ?_⟩
  rintro ⟨b, o, ha, hc⟩
  refine ⟨b, o, ha, fun i x hx j v hv => ?_⟩
  have := hc i x hx j v hv
  unfold cellH at this ⊢
  rw [hb b o ha]; exact this

theorem IDX_ib {h : Array Obj} {a : Option Addr} {l : Nat} {xs : List Int} {i : Int} {K : Nat → Nat → Prop} (hs : SlI h a l xs) (h0 : 0 ≤ i) (h1 : i < l)
    (hK : ∀ b q o, a = some ⟨b, q, none⟩ → cellH h b o = some (.int .i64 (xs.getD i.toNat 0)) → K b o) : IDX a l i 1 K := by
  have hl := hs.1
  have hil : i.toNat < xs.length := by omega
  rcases hs.2 with h | ⟨b, q, ha, hc⟩
  · rw [h] at hil; simp at hil
  · subst ha
    refine ⟨h0, h1, hK b q _ rfl ?_⟩
    have e : xs[i.toNat]? = some (xs.getD i.toNat 0) := by simp [List.getD_eq_getElem?_getD, List.getElem?_eq_getElem hil]
    have := hc i.toNat _ e 0 _ rfl
    simpa using this

theorem SEML_int {v : Value} {xs : List Int} {x : Int} {vb : Nat} {K : Value → World → Prop} (ho : OwI w v xs) (hl : xs.length ≤ 1000000000000) (hvb : w.heap[vb]? = some (.cells [.int .i64 x].toArray T_int (0, 0)))
    (hK : ∀ a' c' w', OwI w' (.slice a' (xs.length + 1) c') (xs ++ [x]) → Eff w w' (ownL v) → (∀ b ∈ ownL (.slice a' (xs.length + 1) c'), b ∈ ownL v ∨ b = w.heap.size) → K (.slice a' (xs.length + 1) c') w') :
    SEML Pg w (Builtin.append_ #[T_Lint, T_Lint] T_Lint #[v, .slice (some ⟨vb, 0, none⟩) 1 1]) K := by
  refine SEML_app (m := 1) (news := [.int .i64 x]) elem_int ho rfl (.inr ⟨vb, 0, rfl, fun j u hu => by rw [cellH_of hvb, Nat.zero_add]; exact hu⟩) (by simp only [List.mem_cons, List.not_mem_nil, or_false]; rintro u rfl; trivial)
    (by omega) (by omega) (Nat.zero_le _) fun a' c' w' h1 h2 h3 => hK a' c' w' ?_ h2 h3
  unfold OwI
  rw [List.map_append, List.length_append]
  exact h1

/-! ### Cells of a block of one's own -/
theorem ST2_of {w₀ w : World} {b : Nat} {x y u v : Value} {t : TypeId} {K : World → Prop} (hu : SCAL u) (hv : SCAL v) (hE : Eff w₀ w []) (hb0 : w₀.heap.size ≤ b)
    (hb : w.heap[b]? = some (.cells [x, y].toArray t (0, 0))) (hK : ∀ w', Eff w₀ w' [] → w'.heap[b]? = some (.cells [u, v].toArray t (0, 0)) → Eff w w' [b] → K w') :
    ST1 w ⟨b, 0, none⟩ u fun w1 => ST1 w1 ⟨b, 1, none⟩ v K := by
  refine ST1_of hu hb (by simp) fun w1 hb1 hE1 => ST1_of hv hb1 (by simp) fun w2 hb2 hE2 => ?_
  have hall := effg hE1 hE2
  exact hK w2 (hE.own hall (by simpa using hb0)) hb2 hall

theorem ST4_of {w₀ w : World} {b : Nat} {x0 x1 x2 x3 u0 u1 u2 u3 : Value} {t : TypeId} {K : World → Prop} (h0 : SCAL u0) (h1 : SCAL u1) (h2 : SCAL u2) (h3 : SCAL u3) (hE : Eff w₀ w []) (hb0 : w₀.heap.size ≤ b)
    (hb : w.heap[b]? = some (.cells [x0, x1, x2, x3].toArray t (0, 0))) (hK : ∀ w', Eff w₀ w' [] → w'.heap[b]? = some (.cells [u0, u1, u2, u3].toArray t (0, 0)) → Eff w w' [b] → K w') :
    ST1 w ⟨b, 0, none⟩ u0 fun w => ST1 w ⟨b, 1, none⟩ u1 fun w => ST1 w ⟨b, 2, none⟩ u2 fun w => ST1 w ⟨b, 3, none⟩ u3 K := by
  refine ST1_of h0 hb (by simp) fun w1 hb1 hE1 => ST1_of h1 hb1 (by simp) fun w2 hb2 hE2 => ST1_of h2 hb2 (by simp) fun w3 hb3 hE3 => ST1_of h3 hb3 (by simp) fun w4 hb4 hE4 => ?_
  have hall := effg (effg (effg hE1 hE2) hE3) hE4
  exact hK w4 (hE.own hall (by simpa using hb0)) hb4 hall

theorem ST5_of {w₀ w : World} {b : Nat} {x0 x1 x2 x3 x4 u0 u1 u2 u3 u4 : Value} {t : TypeId} {K : World → Prop} (h0 : SCAL u0) (h1 : SCAL u1) (h2 : SCAL u2) (h3 : SCAL u3) (h4 : SCAL u4) (hE : Eff w₀ w []) (hb0 : w₀.heap.size ≤ b)
    (hb : w.heap[b]? = some (.cells [x0, x1, x2, x3, x4].toArray t (0, 0))) (hK : ∀ w', Eff w₀ w' [] → w'.heap[b]? = some (.cells [u0, u1, u2, u3, u4].toArray t (0, 0)) → Eff w w' [b] → K w') :
    ST1 w ⟨b, 0, none⟩ u0 fun w => ST1 w ⟨b, 1, none⟩ u1 fun w => ST1 w ⟨b, 2, none⟩ u2 fun w => ST1 w ⟨b, 3, none⟩ u3 fun w => ST1 w ⟨b, 4, none⟩ u4 K := by
  refine ST1_of h0 hb (by simp) fun w1 hb1 hE1 => ST1_of h1 hb1 (by simp) fun w2 hb2 hE2 => ST1_of h2 hb2 (by simp) fun w3 hb3 hE3 => ST1_of h3 hb3 (by simp) fun w4 hb4 hE4 => ST1_of h4 hb4 (by simp) fun w5 hb5 hE5 => ?_
  have hall := effg (effg (effg (effg hE1 hE2) hE3) hE4) hE5
  exact hK w5 (hE.own hall (by simpa using hb0)) hb5 hall

theorem ST11_of {w₀ w : World} {b : Nat} {x0 x1 x2 x3 x4 x5 x6 x7 x8 x9 x10 u0 u1 u2 u3 u4 u5 u6 u7 u8 u9 u10 : Value} {t : TypeId} {K : World → Prop}
    (hs : SCAL u0 ∧ SCAL u1 ∧ SCAL u2 ∧ SCAL u3 ∧ SCAL u4 ∧ SCAL u5 ∧ SCAL u6 ∧ SCAL u7 ∧ SCAL u8 ∧ SCAL u9 ∧ SCAL u10) (hE : Eff w₀ w []) (hb0 : w₀.heap.size ≤ b)
    (hb : w.heap[b]? = some (.cells [x0, x1, x2, x3, x4, x5, x6, x7, x8, x9, x10].toArray t (0, 0)))
    (hK : ∀ w', Eff w₀ w' [] → w'.heap[b]? = some (.cells [u0, u1, u2, u3, u4, u5, u6, u7, u8, u9, u10].toArray t (0, 0)) → Eff w w' [b] → K w') :
    ST1 w ⟨b, 0, none⟩ u0 fun w => ST1 w ⟨b, 1, none⟩ u1 fun w => ST1 w ⟨b, 2, none⟩ u2 fun w => ST1 w ⟨b, 3, none⟩ u3 fun w => ST1 w ⟨b, 4, none⟩ u4 fun w =>
      ST1 w ⟨b, 5, none⟩ u5 fun w => ST1 w ⟨b, 6, none⟩ u6 fun w => ST1 w ⟨b, 7, none⟩ u7 fun w => ST1 w ⟨b, 8, none⟩ u8 fun w => ST1 w ⟨b, 9, none⟩ u9 fun w => ST1 w ⟨b, 10, none⟩ u10 K := by
  obtain ⟨s0, s1, s2, s3, s4, s5, s6, s7, s8, s9, s10⟩ := hs
  refine ST1_of s0 hb (by simp) fun w1 h1 e1 => ST1_of s1 h1 (by simp) fun w2 h2 e2 => ST1_of s2 h2 (by simp) fun w3 h3 e3 => ST1_of s3 h3 (by simp) fun w4 h4 e4 => ST1_of s4 h4 (by simp) fun w5 h5 e5 =>
    ST1_of s5 h5 (by simp) fun w6 h6 e6 => ST1_of s6 h6 (by simp) fun w7 h7 e7 => ST1_of s7 h7 (by simp) fun w8 h8 e8 => ST1_of s8 h8 (by simp) fun w9 h9 e9 => ST1_of s9 h9 (by simp) fun w10 h10 e10 => ST1_of s10 h10 (by simp) fun w11 h11 e11 => ?_
  have hall := effg (effg (effg (effg (effg (effg (effg (effg (effg (effg e1 e2) e3) e4) e5) e6) e7) e8) e9) e10) e11
  exact hK w11 (hE.own hall (by simpa using hb0)) h11 hall

/-- A line's cells. -/
abbrev lnL (x : Ln) (a : Option Addr) (l c : Nat) : List Value := [.int .i64 x.k, .int .i64 x.wk, .int .i64 x.tm, .int .i64 x.c0, .int .i64 x.c1, .int .i64 x.c2, .int .i64 x.c3, .slice a l c, .int .i64 x.rk, .int .i64 x.rn, .int .i64 x.of]
abbrev lnV (x : Ln) (a : Option Addr) (l c : Nat) : Value := .agg #[.int .i64 x.k, .int .i64 x.wk, .int .i64 x.tm, .int .i64 x.c0, .int .i64 x.c1, .int .i64 x.c2, .int .i64 x.c3, .slice a l c, .int .i64 x.rk, .int .i64 x.rn, .int .i64 x.of]
/-- Its list's cells. -/
def LnAt (w : World) (x : Ln) (a : Option Addr) (l : Nat) : Prop := SlI w.heap a l x.cls
theorem LnAt.eff {w' : World} {x : Ln} {a : Option Addr} {l : Nat} (h : LnAt w x a l) (hE : Eff w w' []) : LnAt w' x a l := Sl.eff h hE

theorem LD11 {b : Nat} {x : Ln} {a : Option Addr} {l c : Nat} {t : TypeId} {K : Int → Int → Int → Int → Int → Int → Int → Option Addr → Nat → Nat → Int → Int → Int → Prop} (hb : w.heap[b]? = some (.cells (lnL x a l c).toArray t (0, 0)))
    (hK : K x.k x.wk x.tm x.c0 x.c1 x.c2 x.c3 a l c x.rk x.rn x.of) :
    LDi .i64 w ⟨b, 0, none⟩ fun k => LDi .i64 w ⟨b, 1, none⟩ fun wk => LDi .i64 w ⟨b, 2, none⟩ fun tm => LDi .i64 w ⟨b, 3, none⟩ fun c0 => LDi .i64 w ⟨b, 4, none⟩ fun c1 => LDi .i64 w ⟨b, 5, none⟩ fun c2 => LDi .i64 w ⟨b, 6, none⟩ fun c3 =>
      LDl w ⟨b, 7, none⟩ fun a l c => LDi .i64 w ⟨b, 8, none⟩ fun rk => LDi .i64 w ⟨b, 9, none⟩ fun rn => LDi .i64 w ⟨b, 10, none⟩ fun of => K k wk tm c0 c1 c2 c3 a l c rk rn of := by
  rw [LDi_of (cellH_of hb 0), LDi_of (cellH_of hb 1), LDi_of (cellH_of hb 2), LDi_of (cellH_of hb 3), LDi_of (cellH_of hb 4), LDi_of (cellH_of hb 5), LDi_of (cellH_of hb 6), LDl_of (cellH_of hb 7), LDi_of (cellH_of hb 8), LDi_of (cellH_of hb 9), LDi_of (cellH_of hb 10)]
  exact hK

/-- A line is written into a block of one's own, and read. -/
theorem FIN11 {w₀ w : World} {b : Nat} {x0 x1 x2 x3 x4 x5 x6 x7 x8 x9 x10 : Value} {x : Ln} {a : Option Addr} {l c : Nat} {t : TypeId} {K : World → Int → Int → Int → Int → Int → Int → Int → Option Addr → Nat → Nat → Int → Int → Int → Prop} (hE : Eff w₀ w []) (hb0 : w₀.heap.size ≤ b)
    (hb : w.heap[b]? = some (.cells [x0, x1, x2, x3, x4, x5, x6, x7, x8, x9, x10].toArray t (0, 0)))
    (hK : ∀ w', Eff w₀ w' [] → Eff w w' [b] → K w' x.k x.wk x.tm x.c0 x.c1 x.c2 x.c3 a l c x.rk x.rn x.of) :
    ST1 w ⟨b, 0, none⟩ (.int .i64 x.k) fun w => ST1 w ⟨b, 1, none⟩ (.int .i64 x.wk) fun w => ST1 w ⟨b, 2, none⟩ (.int .i64 x.tm) fun w => ST1 w ⟨b, 3, none⟩ (.int .i64 x.c0) fun w => ST1 w ⟨b, 4, none⟩ (.int .i64 x.c1) fun w =>
      ST1 w ⟨b, 5, none⟩ (.int .i64 x.c2) fun w => ST1 w ⟨b, 6, none⟩ (.int .i64 x.c3) fun w => ST1 w ⟨b, 7, none⟩ (.slice a l c) fun w => ST1 w ⟨b, 8, none⟩ (.int .i64 x.rk) fun w => ST1 w ⟨b, 9, none⟩ (.int .i64 x.rn) fun w => ST1 w ⟨b, 10, none⟩ (.int .i64 x.of) fun w =>
      LDi .i64 w ⟨b, 0, none⟩ fun k => LDi .i64 w ⟨b, 1, none⟩ fun wk => LDi .i64 w ⟨b, 2, none⟩ fun tm => LDi .i64 w ⟨b, 3, none⟩ fun c0 => LDi .i64 w ⟨b, 4, none⟩ fun c1 => LDi .i64 w ⟨b, 5, none⟩ fun c2 => LDi .i64 w ⟨b, 6, none⟩ fun c3 =>
      LDl w ⟨b, 7, none⟩ fun a l c => LDi .i64 w ⟨b, 8, none⟩ fun rk => LDi .i64 w ⟨b, 9, none⟩ fun rn => LDi .i64 w ⟨b, 10, none⟩ fun of => K w k wk tm c0 c1 c2 c3 a l c rk rn of :=
  ST11_of ⟨trivial, trivial, trivial, trivial, trivial, trivial, trivial, trivial, trivial, trivial, trivial⟩ hE hb0 hb fun w' hE' hb' hE'' => LD11 hb' (hK w' hE' hE'')

/-! ### Words -/
theorem AGG_names {K : ByteArray → ByteArray → ByteArray → ByteArray → ByteArray → ByteArray → ByteArray → ByteArray → ByteArray → ByteArray → ByteArray → Prop} :
    (AGGV (.agg (names.map fun l => Value.string (bs l)).toArray) fun cs => GETV cs 0 fun v => STRV v fun s0 => GETV cs 1 fun v => STRV v fun s1 => GETV cs 2 fun v => STRV v fun s2 => GETV cs 3 fun v => STRV v fun s3 => GETV cs 4 fun v => STRV v fun s4 => GETV cs 5 fun v => STRV v fun s5 =>
      GETV cs 6 fun v => STRV v fun s6 => GETV cs 7 fun v => STRV v fun s7 => GETV cs 8 fun v => STRV v fun s8 => GETV cs 9 fun v => STRV v fun s9 => GETV cs 10 fun v => STRV v fun s10 => LEN cs 11 (K s0 s1 s2 s3 s4 s5 s6 s7 s8 s9 s10)) =
    K (bs (names.getD 0 [])) (bs (names.getD 1 [])) (bs (names.getD 2 [])) (bs (names.getD 3 [])) (bs (names.getD 4 [])) (bs (names.getD 5 [])) (bs (names.getD 6 [])) (bs (names.getD 7 [])) (bs (names.getD 8 [])) (bs (names.getD 9 [])) (bs (names.getD 10 [])) := rfl

theorem AGG_kinds {K : ByteArray → ByteArray → ByteArray → ByteArray → Prop} :
    (AGGV (.agg (kinds.map fun l => Value.string (bs l)).toArray) fun cs => GETV cs 0 fun v => STRV v fun s0 => GETV cs 1 fun v => STRV v fun s1 => GETV cs 2 fun v => STRV v fun s2 => GETV cs 3 fun v => STRV v fun s3 => LEN cs 4 (K s0 s1 s2 s3)) =
    K (bs (kinds.getD 0 [])) (bs (kinds.getD 1 [])) (bs (kinds.getD 2 [])) (bs (kinds.getD 3 [])) := rfl

theorem names_spec : CALL Pg F_text_names [] w fun v w' => Eff w w' [] ∧ v = .agg (names.map fun l => Value.string (bs l)).toArray := by
  apply C_text_names
  unfold D_text_names
  intro b1 w1 hE1 hs1 hb1
  refine ST11_of ⟨trivial, trivial, trivial, trivial, trivial, trivial, trivial, trivial, trivial, trivial, trivial⟩ hE1 hs1 hb1 fun w2 hE2 hb2 _ => ?_
  rw [LDs_of (cellH_of hb2 0), LDs_of (cellH_of hb2 1), LDs_of (cellH_of hb2 2), LDs_of (cellH_of hb2 3), LDs_of (cellH_of hb2 4), LDs_of (cellH_of hb2 5), LDs_of (cellH_of hb2 6), LDs_of (cellH_of hb2 7), LDs_of (cellH_of hb2 8), LDs_of (cellH_of hb2 9), LDs_of (cellH_of hb2 10)]
  exact ⟨hE2, rfl⟩

theorem kinds_spec : CALL Pg F_text_kinds [] w fun v w' => Eff w w' [] ∧ v = .agg (kinds.map fun l => Value.string (bs l)).toArray := by
  apply C_text_kinds
  unfold D_text_kinds
  intro b1 w1 hE1 hs1 hb1
  refine ST4_of trivial trivial trivial trivial hE1 hs1 hb1 fun w2 hE2 hb2 _ => ?_
  rw [LDs_of (cellH_of hb2 0), LDs_of (cellH_of hb2 1), LDs_of (cellH_of hb2 2), LDs_of (cellH_of hb2 3)]
  exact ⟨hE2, rfl⟩

theorem SILN_name {i : Int} {K : Value → Prop} (h0 : 0 ≤ i) (h1 : i < 11) (hK : K (.string (bs (names.getD i.toNat [])))) :
    SILN Pg (Instr.index T_11_string (.agg #[.string (bs (names.getD 0 [])), .string (bs (names.getD 1 [])), .string (bs (names.getD 2 [])), .string (bs (names.getD 3 [])), .string (bs (names.getD 4 [])), .string (bs (names.getD 5 [])), .string (bs (names.getD 6 [])), .string (bs (names.getD 7 [])), .string (bs (names.getD 8 [])), .string (bs (names.getD 9 [])), .string (bs (names.getD 10 []))]) (.int .i64 i)) K := by
  refine SILN_aidx i_string a_11 h0 h1 k_string ?_ hK
  obtain ⟨k, hk⟩ : ∃ k : Nat, i = k := ⟨i.toNat, by omega⟩
  subst hk
  rw [Int.toNat_natCast]
  have hk : k < 11 := by omega
  revert hk
  match k with
  | 0 | 1 | 2 | 3 | 4 | 5 | 6 | 7 | 8 | 9 | 10 => intro _; rfl
  | _ + 11 => intro h; omega

theorem SILN_kind {i : Int} {K : Value → Prop} (h0 : 0 ≤ i) (h1 : i < 4) (hK : K (.string (bs (kinds.getD i.toNat [])))) :
    SILN Pg (Instr.index T_4_string (.agg #[.string (bs (kinds.getD 0 [])), .string (bs (kinds.getD 1 [])), .string (bs (kinds.getD 2 [])), .string (bs (kinds.getD 3 []))]) (.int .i64 i)) K := by
  refine SILN_aidx i_string a_4 h0 h1 k_string ?_ hK
  obtain ⟨k, hk⟩ : ∃ k : Nat, i = k := ⟨i.toNat, by omega⟩
  subst hk
  rw [Int.toNat_natCast]
  have hk : k < 4 := by omega
  revert hk
  match k with
  | 0 | 1 | 2 | 3 => intro _; rfl
  | _ + 4 => intro h; omega

/-! ### Numbers of words -/
theorem numsF_snoc {ps : List Str} {w : Str} {ns : List Int} {n : Int} (h : numsF ps = some ns) (hn : numF w = some n) : numsF (ps ++ [w]) = some (ns ++ [n]) := by
  have h1 := numsF_spec.1 h
  have h2 := numF_iff.1 hn
  refine numsF_spec.2 ⟨fun m hm => ?_, by rw [h1.2, ← h2.2]; simp⟩
  rcases List.mem_append.1 hm with hm | hm
  · exact h1.1 m hm
  · have : m = n := by simpa using hm
    rw [this]; exact h2.1

theorem str_at {ws : List Str} (hw : ∀ x ∈ ws, x.length ≤ 1000000000) (i : Nat) : (bs (ws.getD i [])).size ≤ 1000000000 := by
  rw [bs_size]
  by_cases h : i < ws.length
  · have e : ws.getD i [] = ws[i] := by simp [h]
    rw [e]; exact hw _ (List.getElem_mem _)
  · have e : ws.getD i [] = [] := by simp [Nat.le_of_not_lt h]
    rw [e]; simp

theorem numbers_spec (hg : Glo w) {a : Option Addr} {l c : Nat} {ws : List Str} (hs : SlS w.heap a l ws) (hl : ws.length ≤ 2000000000) (hw : ∀ x ∈ ws, x.length ≤ 1000000000) :
    CALL Pg F_text_numbers [.slice a l c] w fun v w' => Eff w w' [] ∧ ∃ a' l' c' t, v = .tuple #[.slice a' l' c', .bool t] ∧
      (t = true ∧ (∃ ns, numsF ws = some ns ∧ SlI w'.heap a' l' ns ∧ l' ≤ c' ∧ ∀ b o, a' = some ⟨b, o, none⟩ → w.heap.size ≤ b ∧ b < w'.heap.size) ∧ ws.length ≤ 32 ∨ t = false ∧ (numsF ws = none ∨ 32 < ws.length)) := by
  apply C_text_numbers
  unfold D_text_numbers
  have hll := hs.1
  refine LOOP_of (fun vs w' => ∃ (k : Nat) (ns : List Int) (a2 : Option Addr) (c2 : Nat), vs = [.slice none 0 0, .bool false, .slice a2 ns.length c2, .int .i64 k] ∧ k ≤ l ∧ Eff w w' [] ∧ numsF (ws.take k) = some ns ∧ OwI w' (.slice a2 ns.length c2) ns ∧ ∀ b ∈ ownL (.slice a2 ns.length c2), w.heap.size ≤ b)
    (fun vs _ => match vs with | [_, _, _, .int _ n] => l - n.toNat | _ => 0) ⟨0, [], none, 0, rfl, by omega, Eff.refl _, rfl, OwI.nil, by simp [ownL, Value.ownBlock]⟩ ?_
  intro w1 v1 v2 v3 v4 ⟨k, ns, a2, c2, hv, hk, hE1, hns, ho, hn⟩
  simp only [List.cons.injEq, and_true] at hv
  obtain ⟨rfl, rfl, rfl, rfl⟩ := hv
  rw [INTV_int, SLV_slice, BOOLV_bool, SLV_slice]
  have hnl : ns.length = k := by
    have := (numsF_spec.1 hns).2
    have := congrArg List.length this
    simp only [List.length_take, List.length_map] at this
    omega
  refine ITE_d (fun h1 => ?_) (fun h1 => ?_)
  · refine IDX_s (hs.eff hE1) (by omega) h1 fun b o hc => ?_
    rw [LDs_of hc]
    refine (number_spec (hg.eff hE1) (str_at hw _)).mono fun v w2 ⟨hE2, n, t, hv, hin, hnp⟩ => ?_
    subst hv
    rw [TUP_ib, Int.toNat_natCast] at *
    have hE02 := hE1.trans0 hE2
    have hwk : ws.take (k + 1) = ws.take k ++ [ws.getD k []] := by
      have e : ws.getD k [] = ws[k]'(by omega) := by simp [show k < ws.length by omega]
      rw [e, List.take_succ_eq_append_getElem (by omega)]
    have hd : (bs (ws.getD k [])).data.toList = ws.getD k [] := rfl
    rw [hd] at hnp
    rcases hnp with ⟨h2, rfl⟩ | ⟨h2, rfl⟩
    · refine ITE_intro (fun h => by cases h) (fun _ => ?_)
      intro b2 w3 hE3 hs3 hb3
      have hE13 := hE2.trans0 hE3
      have ho3 := ho.eff hE13
      refine SEML_int ho3 (by omega) hb3 fun a' c' w4 ho4 hE4 hb4 => ?_
      rw [SLV_slice]
      have hge : ∀ b ∈ ownL (.slice a2 ns.length c2), w.heap.size ≤ b := hn
      refine BINDw (by omega) (by omega) ⟨⟨k + 1, ns ++ [n], a', c', by simp, by omega, (hE02.trans0 hE3).own hE4 hge, by rw [hwk]; exact numsF_snoc hns h2, by simpa using ho4, fun b hb => ?_⟩, by first | omega | (dsimp only; omega)⟩
      rw [List.length_append] at hb
      rcases hb4 b hb with h | h
      · exact hn b h
      · rw [h]; exact (hE02.trans0 hE3).size
    · refine ITE_intro (fun _ => ?_) (fun h => by cases h)
      refine ⟨hE02, none, 0, 0, false, rfl, .inr ⟨rfl, .inl ?_⟩⟩
      refine numsF_bad (w := ws.getD k []) ?_ h2
      have e : ws.getD k [] = ws[k]'(by omega) := by simp [show k < ws.length by omega]
      rw [e]; exact List.getElem_mem _
  · have hkl : k = ws.length := by omega
    rw [hkl, List.take_length] at hns
    refine ⟨hE1, a2, ns.length, c2, _, rfl, ?_⟩
    by_cases h2 : ws.length ≤ 32
    · exact .inl ⟨decide_eq_true (by omega), ⟨ns, hns, ho.sl.2, own_cap ho, fun b o hb => by
      obtain ⟨q1, q2⟩ := own_blk ho hb
      exact ⟨hn b q1, q2⟩⟩, h2⟩
    · exact .inr ⟨decide_eq_false (by omega), .inr (by omega)⟩
end
end Go.Proofs.YtmanfmpdmmhbfaaDoor
