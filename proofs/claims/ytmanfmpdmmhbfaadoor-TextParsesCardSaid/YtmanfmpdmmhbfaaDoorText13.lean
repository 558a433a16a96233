/- The world in which a law's call begins: what the library's variables hold. -/
import Derived.Test.YtmanfmpdmmhbfaaDoorText12
import Derived.Test.YtmanfmpdmmhbfaaDoorDenR
import Derived.Test.YtmanfmpdmmhbfaaDoorTie
import Derived.Lib.LaidTab
import Derived.Lib.LaidIn
import Derived.Lib.LaidU8
import Derived.Stop.LaidErr
import Derived.Deep.DeepHandedRow
import Derived.Deep.DeepWitnessRowRef
import Derived.Shelf.Vars
import Derived.SevenTiedAt
import Derived.OpenShut
namespace Go.Proofs.YtmanfmpdmmhbfaaDoor
open Go.Den
set_option maxRecDepth 100000
set_option maxHeartbeats 4000000

theorem own_ : ownKnob Pg.godebug = none := by kernel_rfl

/-- What the rows list. -/
abbrev laidL : List (String × DataW Unit) := Rows.textSameRow.laid

/-! ### One world that fits -/
abbrev synS : ByteArray := bs [105, 110, 118, 97, 108, 105, 100, 32, 115, 121, 110, 116, 97, 120]
abbrev rngS : ByteArray := bs [118, 97, 108, 117, 101, 32, 111, 117, 116, 32, 111, 102, 32, 114, 97, 110, 103, 101]
noncomputable def low : Nat := (World.holding Pg default ⟨#[], #[], []⟩).heap.size
def putC (h : Array Obj) (g : Nat) (cs : Array Value) : Array Obj := h.modify g fun
  | .cells _ t frozen => .cells cs t frozen
  | o => o
def bytesC (zs : List Int) : Array Value := (zs.map fun z => Value.int .u8 z).toArray
noncomputable def laidWorld (os : Os) : World :=
  let w0 := World.holding Pg os ⟨#[.cells #[.string synS] T_errors_errorString, .cells #[.string rngS] T_errors_errorString], #[], []⟩
  let h1 := putC w0.heap 1 (Lib.pow10Tab.map fun z => Value.int .u64 z).toArray
  let h2 := putC h1 2 (bytesC Lib.firstTab)
  let h3 := putC h2 3 ((List.range 16).flatMap fun i => [Value.int .u8 (Lib.accLo i), Value.int .u8 (Lib.accHi i)]).toArray
  let h4 := putC h3 4 #[.iface T_perrors_errorString (.pointer (some ⟨low, 0, none⟩))]
  let h5 := putC h4 5 #[.iface T_perrors_errorString (.pointer (some ⟨low + 1, 0, none⟩))]
  let h6 := putC h5 6 (bytesC [0, 1, 28, 2, 29, 14, 24, 3, 30, 22, 20, 15, 25, 17, 4, 8, 31, 27, 13, 23, 21, 19, 16, 7, 26, 12, 18, 6, 11, 5, 10, 9])
  let h7 := putC h6 7 (bytesC [0, 1, 56, 2, 57, 49, 28, 3, 61, 58, 42, 50, 38, 29, 17, 4, 62, 47, 59, 36, 45, 43, 51, 22, 53, 39, 33, 30, 24, 18, 12, 5, 63, 55, 48, 27, 60, 41, 37, 16, 46, 35, 44, 21, 52, 32, 23, 11, 54, 26, 40, 15, 34, 20, 31, 10, 25, 14, 19, 9, 13, 8, 7, 6])
  { w0 with heap := h7 }
theorem laid_met (os : Os) (args : Array Value) : laidMet Pg laidL ((laidWorld os).forCall (fun _ _ => 0) ⟨#[], args, []⟩).memory :=
  (LaidIn.of_run (l := laidL) [1, 2, 3, 4, 5, 6, 7, low, low + 1] 8 (by kernel_rfl) (by kernel_rfl) (by kernel_rfl) (by kernel_rfl)).met

/-! ### What holds in every one -/
theorem err_name (u : TypeId) (h : Pg.typeName? 3 u = some "*errors.errorString") : u = T_perrors_errorString :=
  typeName_ptr_named (nm := "errors.errorString") (by rw [show ("*" ++ "errors.errorString" : String) = "*errors.errorString" by decide]; kernel_rfl) (by kernel_rfl) (by decide) u (by rw [show ("*" ++ "errors.errorString" : String) = "*errors.errorString" by decide]; exact h)

theorem glo_of {W : World} (hL : laidMet Pg laidL W) (hS : W.ShapedOpen Pg) : Glo W := by
  have h2 : laidMet Pg (("internal/strconv.uint64pow10", Rows.laid_internal_strconv_uint64pow10) :: ("unicode/utf8.acceptRanges", Rows.laid_unicode_utf8_acceptRanges) :: ("strconv.ErrRange", Rows.laid_strconv_ErrRange) :: ("strconv.ErrSyntax", Rows.laid_strconv_ErrSyntax) :: ("unicode/utf8.first", Rows.laid_unicode_utf8_first) :: []) W := hL.tail.tail
  have h4 := h2.tail.tail
  obtain ⟨a0, s0, hv0, -, -, -⟩ := laid_sentinel h4 (g := 5) (ti := T_error) (tp := T_perrors_errorString) (te := T_errors_errorString) (ts := T_string) (by kernel_rfl) (by kernel_rfl) Tryd.underlying68 err_name (by kernel_rfl) Tryd.underlying122 rfl rfl (by kernel_rfl) (by kernel_rfl) (by kernel_rfl)
  obtain ⟨a1, s1, hv1, -, -, -⟩ := laid_sentinel h4.tail (g := 4) (ti := T_error) (tp := T_perrors_errorString) (te := T_errors_errorString) (ts := T_string) (by kernel_rfl) (by kernel_rfl) Tryd.underlying68 err_name (by kernel_rfl) Tryd.underlying122 rfl rfl (by kernel_rfl) (by kernel_rfl) (by kernel_rfl)
  refine ⟨?_, ?_, ⟨T_perrors_errorString, .pointer (some a1), ?_⟩, ⟨T_perrors_errorString, .pointer (some a0), ?_⟩⟩
  · obtain ⟨m, hm⟩ := cell_of_shapedOpen_int (g := 0) (zero := #[.int .i64 0]) (t := 3) hS (of_decide_eq_true (by kernel_rfl)) (by kernel_rfl) rfl (by kernel_rfl) (by kernel_rfl) Tryd.underlying3
    exact ⟨m, by rw [← cell_eq]; exact hm⟩
  · obtain ⟨t, ht⟩ : ∃ t, (Pg.globals[1]?).map (·.type) = some t := ⟨T_20_uint64, by kernel_rfl⟩
    exact Lib.tabIs_of_head (g := 1) (t := T_20_uint64) (e := T_uint64) (n := 20) (by kernel_rfl) (by kernel_rfl) (by kernel_rfl) (by kernel_rfl) (by kernel_rfl) (by kernel_rfl) h2
  · have h := World.var?_cell (P := Pg) (n := "strconv.ErrSyntax") (g := 4) (by kernel_rfl) hv1 0
    rw [← cell_eq]; simpa using h
  · have h := World.var?_cell (P := Pg) (n := "strconv.ErrRange") (g := 5) (by kernel_rfl) hv0 0
    rw [← cell_eq]; simpa using h

/-! ### A line that came in -/
theorem line_open {w : World} {cs : List Value} (h : Rds w [.int .i64, .int .i64, .int .i64, .int .i64, .int .i64, .int .i64, .int .i64, .sl [.int .i64], .int .i64, .int .i64, .int .i64] cs) :
    ∃ x a l c, cs = lnL x a l c ∧ LnAt w x a l ∧ inL x ∧ l ≤ c := by
  cases h with | int b0 h =>
  cases h with | int b1 h =>
  cases h with | int b2 h =>
  cases h with | int b3 h =>
  cases h with | int b4 h =>
  cases h with | int b5 h =>
  cases h with | int b6 h =>
  cases h with | sl b o xs h1 h2 h3 h4 h5 h =>
  cases h with | int b8 h =>
  cases h with | int b9 h =>
  cases h with | int b10 h =>
  cases h
  obtain ⟨cl, _, _, _, hs, hi⟩ := Rds.ints (.sl b o xs h1 h2 h3 h4 h5 .nil)
  exact ⟨⟨_, _, _, _, _, _, _, cl, _, _, _⟩, _, _, _, rfl, hs, ⟨Go.bounds_i64 b1, Go.bounds_i64 b2, Go.bounds_i64 b3, Go.bounds_i64 b4, Go.bounds_i64 b5, Go.bounds_i64 b6, fun n hn => Go.bounds_i64 (hi n hn), Go.bounds_i64 b9, Go.bounds_i64 b10⟩, h1⟩
end Go.Proofs.YtmanfmpdmmhbfaaDoor
