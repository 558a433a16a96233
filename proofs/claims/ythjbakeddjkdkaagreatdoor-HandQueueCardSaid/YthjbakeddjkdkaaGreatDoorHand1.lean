/- The shared memory, its frames, the words of references: as far as opening a shop reaches them. -/
import Derived.Test.YthjbakeddjkdkaaGreatDoorHand0
namespace Go.Proofs.YthjbakeddjkdkaaGreatDoor
open Go.Den
set_option maxRecDepth 100000
set_option maxHeartbeats 4000000

section
variable {w : World}

/-- make: a row of noughts in a block of its own. -/
theorem SEML_mk {P : Program} {t e : TypeId} {bytes l : Nat} {z0 : Value} {K : Value → World → Prop} (hel : Elem P t e 1 bytes) (hb8 : bytes ≤ 24) (h : zeroL P e = some [z0]) (hl : l ≤ 1000000000)
    (hK : ∀ g w', Eff w w' [] → w.heap.size ≤ g → w'.heap[g]? = some (.cells (List.replicate l z0).toArray e (0, 0)) → K (.slice (some ⟨g, 0, none⟩) l l) w') :
    SEML P w (Instr.makeSlice t (.int .i64 l) (.int .i64 l)) K := by
  obtain ⟨ht, i, z, hi, hz, hs, hby, hzs, hpos⟩ := hel
  have hcs : z.cells = #[z0] := by
    obtain ⟨z', hz', hc, _⟩ := zeroL_run h w
    have hzz : (zeroValue e).run P w = .ok z w := by simp [zeroValue, typeInfo, program, Sem.run, hi, hz]
    rw [hzz] at hz'
    cases hz'
    exact hc
  have hr := run_make (P := P) w t e i z ht hi hz .i64 .i64 l l (by omega) (by omega) (by rw [hby]; have : (bytes : Int) * l ≤ 24 * l := Int.mul_le_mul_of_nonneg_right (by omega) (by omega); omega) (by omega)
  refine SEML_of hr ?_
  rw [show ((l : Int).toNat) = l by omega]
  refine hK w.heap.size _ (Eff.push w _) (Nat.le_refl _) ?_
  have hat : (w.alloc (.cells (madeCells z.cells (l * i.size)) e)).heap[w.heap.size]? = some (.cells (madeCells z.cells (l * i.size)) e) := Array.getElem?_push_size
  rw [hat]
  congr 2
  rw [hcs, hs, Nat.mul_one]
  apply Array.ext
  · simp [madeCells]
  · intro j h1 h2
    have : j % 1 = 0 := Nat.mod_one j
    simp [madeCells, this]

theorem SILN_max {P : Program} {x y : Int} {ty : TypeId} {ts : Array TypeId} {K : Value → Prop} (hK : K (.int .i64 (if y > x then y else x))) : SILN P (Builtin.max_ ts ty #[.int .i64 x, .int .i64 y]) K := by
  refine SILN_of (fun w' => ?_) hK
  simp [Builtin.max_, Builtin.max2]
theorem SILN_min {P : Program} {x y : Int} {ty : TypeId} {ts : Array TypeId} {K : Value → Prop} (hK : K (.int .i64 (if y < x then y else x))) : SILN P (Builtin.min_ ts ty #[.int .i64 x, .int .i64 y]) K := by
  refine SILN_of (fun w' => ?_) hK
  simp [Builtin.min_, Builtin.min2]

theorem elem_u64 : Elem Pg T_Luint64 T_uint64 1 8 := Elem.of (by kernel_rfl)

/-! ### The memory -/
/-- A memory of L words: itself in one block, its words in another. -/
def MemAt (w : World) (m g L : Nat) : Prop := m ≠ g ∧ (∃ x0 x1 x2 x3 : Int, w.heap[m]? = some (.cells [.slice (some ⟨g, 0, none⟩) L L, .int .i64 x0, .int .i64 x1, .int .i64 x2, .int .i64 x3].toArray T_mem_Memory_mem_Memory (0, 0))) ∧
  ∃ vs : List Value, vs.length = L ∧ w.heap[g]? = some (.cells vs.toArray T_uint64 (0, 0))
theorem MemAt.eff {w' : World} {m g L : Nat} (h : MemAt w m g L) (hE : Eff w w' []) : MemAt w' m g L := by
  obtain ⟨h1, ⟨x0, x1, x2, x3, h2⟩, vs, h3, h4⟩ := h
  exact ⟨h1, ⟨x0, x1, x2, x3, hE.obj0 h2⟩, vs, h3, hE.obj0 h4⟩

theorem mem_New_spec {n : Nat} (hn : n ≤ 16777216) : CALL Pg F_mem_New [.int .i64 n] w fun v w' => Eff w w' [] ∧ ∃ m g, v = .pointer (some ⟨m, 0, none⟩) ∧ w.heap.size ≤ m ∧ w.heap.size ≤ g ∧ MemAt w' m g n := by
  apply C_mem_New
  unfold D_mem_New
  refine SILN_max ?_
  rw [INTV_int, if_neg (by omega)]
  refine SILN_min ?_
  rw [INTV_int, if_neg (by omega)]
  refine SEML_mk elem_u64 (by omega) (z0 := .int .u64 0) (by kernel_rfl) (by omega) fun g w1 hE1 hg hg1 => ?_
  rw [SLV_slice]
  intro b1 w2 hE2 hs2 hb2
  have := obj_lt hg1
  have := hE1.size
  exact ⟨hE1.trans0 hE2, b1, g, rfl, by omega, hg, by omega, ⟨0, 0, 0, 0, hb2⟩, _, List.length_replicate, hE2.obj0 hg1⟩

theorem PTRV_ptr {p : Option Addr} {K : Option Addr → Prop} : PTRV (.pointer p) K = K p := rfl
theorem NNp {b o : Nat} {K : Nat → Nat → Prop} : NN (some ⟨b, o, none⟩) K = K b o := rfl

theorem at_spec {m g L : Nat} (h : MemAt w m g L) (kind : Int) {i : Nat} (hi : i < L) :
    CALL Pg F_pmem_Memory_at [.pointer (some ⟨m, 0, none⟩), .int .i64 kind, .int .i64 i] w fun v w' => Eff w w' [m] ∧ MemAt w' m g L ∧ v = .pointer (some ⟨g, i, none⟩) := by
  apply C_pmem_Memory_at
  unfold D_pmem_Memory_at
  obtain ⟨hmg, ⟨x0, x1, x2, x3, hm⟩, vs, hl, hg⟩ := h
  rw [NNp, LDi_of (cellH_of hm 1)]
  refine BINDx rfl ?_
  rw [NNp]
  refine ST1_of trivial hm (by simp) fun w1 h1 e1 => ?_
  rw [NNp]
  refine ST1_of trivial h1 (by simp) fun w2 h2 e2 => ST1_of trivial h2 (by simp) fun w3 h3 e3 => ?_
  have hall := effg (effg e1 e2) e3
  refine ITE_d (fun h => by omega) (fun _ => ?_)
  rw [NNp, LDl_of (cellH_of h3 0)]
  refine ITE_d (fun h => by omega) (fun _ => ?_)
  rw [NNp, LDl_of (cellH_of h3 0)]
  have hg3 := hall.obj hg (by simpa using hmg.symm)
  refine ⟨by omega, by omega, ?_⟩
  exact ⟨hall, ⟨hmg, ⟨_, _, _, _, h3⟩, vs, hl, hg3⟩, by simp⟩

theorem Store_spec {m g L : Nat} (h : MemAt w m g L) {i : Nat} (hi : i < L) (x : Int) :
    CALL Pg F_pmem_Memory_Store [.pointer (some ⟨m, 0, none⟩), .int .i64 i, .int .u64 x] w fun v w' => Eff w w' [m, g] ∧ MemAt w' m g L ∧ v = .tuple #[] := by
  apply C_pmem_Memory_Store
  unfold D_pmem_Memory_Store
  refine (at_spec h 2 hi).mono fun v w1 ⟨hE1, h1, hv⟩ => ?_
  subst hv
  obtain ⟨hmg, ⟨x0, x1, x2, x3, hm⟩, vs, hl, hg⟩ := h1
  rw [PTRV_ptr, NNp]
  refine ST1_of trivial hg (by omega) fun w2 h2 e2 => ?_
  refine ⟨(hE1.trans e2).weak (by intro b hb _; simpa using hb), ⟨hmg, ⟨x0, x1, x2, x3, e2.obj hm (by simpa using hmg)⟩, _, by rw [List.length_set]; exact hl, h2⟩, rfl⟩

/-! ### Frames -/
abbrev frV (x0 x1 x2 : Int) : Value := .agg #[.int .i64 x0, .int .i64 x1, .int .i64 x2]

theorem Record_spec (x0 x1 x2 : Int) : CALL Pg F_slot_Frame_Record [frV x0 x1 x2] w fun v w' => Eff w w' [] ∧ v = .int .i64 (IntKind.i64.wrap (x1 + IntKind.i64.wrap (3 * x2))) := by
  apply C_slot_Frame_Record
  unfold D_slot_Frame_Record
  intro b1 w1 hE1 hs1 hb1
  rw [LDi_of (cellH_of hb1 1), LDi_of (cellH_of hb1 2)]
  exact BINDx rfl (BINDx rfl ⟨hE1, rfl⟩)

theorem Size_spec {x1 x2 : Int} (h1 : 0 ≤ x1 ∧ x1 ≤ 128) (h2 : 1 ≤ x2 ∧ x2 ≤ 64) : CALL Pg F_slot_Frame_Size [frV 0 x1 x2] w fun v w' => Eff w w' [] ∧ v = .int .i64 (1 + 4 * x2 + 2 * x2 * (x1 + 3 * x2)) := by
  apply C_slot_Frame_Size
  unfold D_slot_Frame_Size
  intro b1 w1 hE1 hs1 hb1 w2 hE2 _
  have hb2 := hE2.obj0 hb1
  have hb : 2 * x2 * (x1 + 3 * x2) ≤ 128 * 320 := Int.mul_le_mul (by omega) (by omega) (by omega) (by omega)
  have hp : 0 ≤ 2 * x2 * (x1 + 3 * x2) := Int.mul_nonneg (by omega) (by omega)
  rw [LDi_of (cellH_of hb2 2)]
  refine BINDw (by omega) (by omega) (BINDw (by omega) (by omega) ?_)
  rw [LDi_of (cellH_of hb2 2)]
  refine BINDw (by omega) (by omega) ?_
  rw [LDi_of (cellH_of hb2 0), LDi_of (cellH_of hb2 1), LDi_of (cellH_of hb2 2)]
  refine (Record_spec 0 x1 x2).mono fun v w3 ⟨hE3, hv⟩ => ?_
  subst hv
  rw [INTV_int, wrap_i64 (x := 3 * x2) (by omega) (by omega), wrap_i64 (x := x1 + 3 * x2) (by omega) (by omega)]
  have hb3 := hE3.obj0 hb2
  refine ⟨KEEP_cell (cellH_of hb3 2) (KEEP_cell (cellH_of hb3 2) KEEP_nil), BINDw (by omega) (by omega) (BINDw (by omega) (by omega) ⟨(hE1.trans0 hE2).trans0 hE3, rfl⟩)⟩

theorem Head_spec (x0 x1 x2 : Int) : CALL Pg F_slot_Frame_Head [frV x0 x1 x2] w fun v w' => Eff w w' [] ∧ v = .int .i64 x0 := by
  apply C_slot_Frame_Head
  unfold D_slot_Frame_Head
  intro b1 w1 hE1 hs1 hb1
  rw [LDi_of (cellH_of hb1 0)]
  exact ⟨hE1, rfl⟩

/-! ### Words of references: some word, whichever -/
theorem Right_spec (f0 f1 : Int) : CALL Pg F_word_Field_Right [.agg #[.int .i64 f0, .int .i64 f1]] w fun v w' => Eff w w' [] ∧ ∃ t, v = .bool t := by
  apply C_word_Field_Right
  unfold D_word_Field_Right
  intro b1 w1 hE1 hs1 hb1
  rw [LDi_of (cellH_of hb1 0)]
  refine ITE_intro (fun _ => ?_) (fun _ => ⟨hE1, _, rfl⟩)
  rw [LDi_of (cellH_of hb1 1)]
  refine ITE_intro (fun _ => ?_) (fun _ => ⟨hE1, _, rfl⟩)
  rw [LDi_of (cellH_of hb1 0)]
  refine ITE_intro (fun _ => ?_) (fun _ => ⟨hE1, _, rfl⟩)
  rw [LDi_of (cellH_of hb1 1), LDi_of (cellH_of hb1 0)]
  exact BINDx rfl ⟨hE1, _, rfl⟩

theorem wrap_u64_nonneg (x : Int) : 0 ≤ IntKind.u64.wrap x := by
  simp only [IntKind.wrap, IntKind.signed, IntKind.bits]
  simp
  omega

theorem mask_spec (f0 f1 : Int) : CALL Pg F_word_Field_mask [.agg #[.int .i64 f0, .int .i64 f1]] w fun v w' => Eff w w' [] ∧ ∃ n, v = .int .u64 n := by
  apply C_word_Field_mask
  unfold D_word_Field_mask
  intro b1 w1 hE1 hs1 hb1
  rw [LDi_of (cellH_of hb1 1)]
  refine ITE_intro (fun _ => ⟨hE1, _, rfl⟩) (fun _ => ?_)
  rw [LDi_of (cellH_of hb1 1)]
  exact BINDx rfl (GE0_of (wrap_u64_nonneg _) (BINDx rfl (BINDx rfl ⟨hE1, _, rfl⟩)))

theorem Put_spec (f0 f1 x n : Int) : CALL Pg F_word_Field_Put [.agg #[.int .i64 f0, .int .i64 f1], .int .u64 x, .int .u64 n] w fun v w' => Eff w w' [] ∧ ∃ y t, v = .tuple #[.int .u64 y, .bool t] := by
  apply C_word_Field_Put
  unfold D_word_Field_Put
  intro b1 w1 hE1 hs1 hb1
  rw [LDi_of (cellH_of hb1 0), LDi_of (cellH_of hb1 1)]
  refine (Right_spec f0 f1).mono fun v w2 ⟨hE2, t, hv⟩ => ?_
  subst hv
  rw [BOOLV_bool]
  have hE02 := hE1.trans0 hE2
  have hb2 := hE2.obj0 hb1
  refine ITE_intro (fun _ => ⟨hE02, _, _, rfl⟩) (fun _ => ?_)
  rw [LDi_of (cellH_of hb2 0), LDi_of (cellH_of hb2 1)]
  refine (mask_spec f0 f1).mono fun v w3 ⟨hE3, n5, hv⟩ => ?_
  subst hv
  rw [INTV_int]
  have hE03 := hE02.trans0 hE3
  have hb3 := hE3.obj0 hb2
  refine ITE_intro (fun _ => ⟨hE03, _, _, rfl⟩) (fun _ => ?_)
  intro w4 hE4 _
  have hE04 := hE03.trans0 hE4
  have hb4 := hE4.obj0 hb3
  rw [LDi_of (cellH_of hb4 0), LDi_of (cellH_of hb4 1), LDi_of (cellH_of hb4 0)]
  refine BINDx rfl ?_
  rw [LDi_of (cellH_of hb4 0)]
  refine BINDx rfl (GE0_of (wrap_u64_nonneg _) (BINDx rfl ?_))
  refine (mask_spec f0 f1).mono fun v w5 ⟨hE5, n13, hv⟩ => ?_
  subst hv
  rw [INTV_int]
  have hb5 := hE5.obj0 hb4
  exact ⟨KEEP_cell (cellH_of hb5 0) (KEEP_cell (cellH_of hb5 0) KEEP_nil), GE0_of (wrap_u64_nonneg _) (BINDx rfl (BINDx rfl (BINDx rfl ⟨hE04.trans0 hE5, _, _, rfl⟩)))⟩
end
end Go.Proofs.YthjbakeddjkdkaaGreatDoor
