/- What strings and arrays do, one step at a time. -/
import Derived.Test.YtmanfmpdmmhbfaaDoorText3
import Derived.Laws.Concat
import Derived.Laws.Strings
import Derived.Laws.Strings2
import Derived.Laws.Strings3
import Derived.Laws.BytesArg
import Derived.Lib.Builder
import Derived.ChangeKeysEq
namespace Go.Proofs.YtmanfmpdmmhbfaaDoor
open Go.Den
set_option maxRecDepth 100000

/-- A string of bytes. -/
abbrev bs (l : Str) : ByteArray := ⟨l.toArray⟩
theorem bs_list (s : ByteArray) : bs s.data.toList = s := by
  cases s
  show ByteArray.mk _ = _
  rw [Array.toArray_toList]
theorem bs_size (l : Str) : (bs l).size = l.length := rfl
theorem size_list (s : ByteArray) : s.size = s.data.toList.length := rfl
theorem beq_bs (a b : ByteArray) : (a == b) = decide (a.data.toList = b.data.toList) := by
  show (a.data == b.data) = _
  rw [Bool.eq_iff_iff, beq_iff_eq, decide_eq_true_eq, Array.toList_inj]
theorem bs_beq (a : Str) (s : ByteArray) : (bs a == s) = decide (a = s.data.toList) := beq_bs _ _
theorem bs_add (a b : Str) : bs a ++ bs b = bs (a ++ b) := ByteArray.mk_append_mk a b
theorem bs_cut (s : ByteArray) (i j : Nat) : (s.extract i j).data.toList = (s.data.toList.drop i).take (j - i) := by
  rw [ByteArray.data_extract]; simp

section
variable {P : Program}
theorem SILN_sidx {t : TypeId} {s : ByteArray} {i : Int} {K : Value → Prop} (ht : P.underlying t = some .string) (h0 : 0 ≤ i) (h1 : i < s.size) (hK : K (.int .u8 ((s.data.toList.getD i.toNat 0).toNat : Nat))) :
    SILN P (Instr.index t (.string s) (.int .i64 i)) K := by
  refine SILN_of (fun w' => ?_) hK
  rw [run_index_string w' t s .i64 i ht, dif_pos ⟨h0, h1⟩]
  have hl : i.toNat < s.data.toList.length := by rw [← size_list]; omega
  have : s[i.toNat]'(by omega) = s.data.toList.getD i.toNat 0 := by
    rw [List.getD_eq_getElem?_getD, List.getElem?_eq_getElem hl]
    simp [ByteArray.getElem_eq_getElem_data]
  rw [this]

theorem SILN_sub {t : TypeId} {s : ByteArray} {i j : Int} {K : Value → Prop} (ht : P.underlying t = some .string) (h0 : 0 ≤ i) (h1 : i ≤ j) (h2 : j ≤ s.size) (hK : K (.string (bs ((s.data.toList.drop i.toNat).take (j.toNat - i.toNat))))) :
    SILN P (Instr.sliceAt t (.string s) (some (.int .i64 i)) (some (.int .i64 j)) none) K := by
  refine SILN_of (fun w' => ?_) hK
  rw [run_sliceAt_string w' t _ _ _ _ ht, run_slice_string w' t s .i64 .i64 i j ht h0 h1 h2, ← bs_cut, bs_list]

theorem SILN_subl {t : TypeId} {s : ByteArray} {i : Int} {K : Value → Prop} (ht : P.underlying t = some .string) (h0 : 0 ≤ i) (h1 : i ≤ s.size) (hK : K (.string (bs (s.data.toList.drop i.toNat)))) :
    SILN P (Instr.sliceAt t (.string s) (some (.int .i64 i)) none none) K := by
  refine SILN_of (fun w' => ?_) hK
  rw [run_sliceAt_string w' t _ _ _ _ ht, run_slice_string_from_if w' t s .i64 i ht, if_pos ⟨h0, h1⟩]
  have : (s.data.toList.drop i.toNat).take (s.size - i.toNat) = s.data.toList.drop i.toNat := List.take_of_length_le (by rw [List.length_drop, ← size_list]; omega)
  rw [← this, ← bs_cut, bs_list]

theorem SILN_subh {t : TypeId} {s : ByteArray} {j : Int} {K : Value → Prop} (ht : P.underlying t = some .string) (h0 : 0 ≤ j) (h1 : j ≤ s.size) (hK : K (.string (bs (s.data.toList.take j.toNat)))) :
    SILN P (Instr.sliceAt t (.string s) none (some (.int .i64 j)) none) K := by
  refine SILN_of (fun w' => ?_) hK
  rw [run_sliceAt_string w' t _ _ _ _ ht, run_slice_string_to_if w' t s .i64 j ht, if_pos ⟨h0, h1⟩]
  have : (s.extract 0 j.toNat).data.toList = s.data.toList.take j.toNat := by rw [bs_cut]; simp
  rw [← this, bs_list]

theorem SILN_sadd {t : TypeId} {ox oy : Operand} {a b : Str} {K : Value → Prop} (h : a.length + b.length ≤ 1000000000000) (hK : K (.string (bs (a ++ b)))) :
    SILN P (binE BinOp.add t ox oy (.string (bs a)) (.string (bs b))) K := by
  refine SILN_of (fun w' => ?_) hK
  unfold binE
  rw [binOp_string_add]
  have h1 := run_string_add_sum (P := P) w' (bs a) (bs b) (by rw [bs_size, bs_size]; omega)
  simp [eqGuard, h1, bs_add]

theorem SILN_aidx {t e : TypeId} {n : Nat} {cs : Array Value} {i : Int} {v : Value} {K : Value → Prop} (he1 : ∃ j, P.info? e = some j ∧ j.size = 1) (ht : P.underlying t = some (.array n e)) (h0 : 0 ≤ i) (h1 : i < n) (he : P.plainKey e = true) (hv : cs[i.toNat]? = some v) (hK : K v) :
    SILN P (Instr.index t (.agg cs) (.int .i64 i)) K := by
  refine SILN_of (fun w' => ?_) hK
  have : 0 ≤ i ∧ i < (n : Int) := ⟨h0, h1⟩
  have hi : ∃ j, P.info? e = some j ∧ j.size = 1 := he1
  obtain ⟨j, hj, hj1⟩ := hi
  have hsz : (sizeOf e).run P w' = .ok 1 w' := by rw [Go.Den.run_sizeOf hj, hj1]
  have hp := run_part_plain (P := P) w' he hv
  simp [Instr.index, run_underlying ht, asIntOf, this, hsz, Result.andThen, hp]

theorem SILN_errnil {t : TypeId} {ms : _} {ox : Operand} {c : Value} {K : Value → Prop} (ht : P.underlying t = some (.interface ms)) (hK : K (.bool true)) : SILN P (binE BinOp.eql t ox (.const c) .nilIface .nilIface) K := by
  refine SILN_of (fun w' => ?_) hK
  have h : ∀ d : Nat, (Op.equalIn (d + 1) t .nilIface .nilIface).run P w' = .ok true w' := fun d => by simp [Op.equalIn, run_underlying ht]
  simp [binE, eqGuard, binOp, Op.equal, Op.maxDepth, h 9999]
theorem SILN_erriface {t te : TypeId} {ms : _} {ox : Operand} {c : Value} {pe : Value} {K : Value → Prop} (ht : P.underlying t = some (.interface ms)) (hK : K (.bool false)) : SILN P (binE BinOp.eql t ox (.const c) (.iface te pe) .nilIface) K := by
  refine SILN_of (fun w' => ?_) hK
  have h : ∀ d : Nat, (Op.equalIn (d + 1) t (.iface te pe) .nilIface).run P w' = .ok false w' := fun d => by simp [Op.equalIn, run_underlying ht]
  simp [binE, eqGuard, binOp, Op.equal, Op.maxDepth, h 9999]
end
end Go.Proofs.YtmanfmpdmmhbfaaDoor
