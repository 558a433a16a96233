/-
  No cell of these rows narrows 'for every input' (looked for: loops, veiled, ifaces, maps, wideKeys, modest, calm, conditions, laid).
  DERIVED. THE GIVEN ROWS OF THIS SEAT. 13 by the template 'for every input the law returns true; each argument reads behind the call as it read before'; 0 by the template 'total and deterministic' (their statements: YtpopdookpbmmpaaTotals.lean).
  GIVEN WITH THE SEED: the statements are not yours to turn. If you find one false, say at which input.
  Laid BY PROGRAM, IN A SANDBOX (cutbox-rows.mjs): the forced cells as the released guide's own fill.sh prints them over the translation 13bb8a1fc633cf41… (all of the seat's roots in one cut). By AI agents, Wed Nov 11 2026. No macro, syntax, notation, axiom, sorry.
-/
import Derived.Test.YtpopdookpbmmpaaChecked
import GoSem.Claim
import GoSem.ClaimJoined
import GoSem.ClaimMapViews
import Derived.JoinedTies
import Derived.KernelRfl
namespace Go.Proofs.Ytpopdookpbmmpaa
/- THE CELL 'sum', in the pinned program and in every row, IS THE sha256 OF THE DUMP (.gsa) THAT YtpopdookpbmmpaaProg.lean LOADS. Nothing in Lean hashes anything: it is a label: what it is worth is what the hold of that sum in a sandbox is worth. -/
noncomputable def Try.pinned : Pinned := { name := "ytpopdookpbmmpaa", sum := "13bb8a1fc633cf4116b54a298ff325e9ca790398de66d04ec74517339feac2ab", checked := Try.checked }
namespace Rows
def none {H : Type} : Left H := { results := [], args := [] }

/-- 'chandlerylaw06.SpanAsks': WHATEVER THE INPUT: true; the input reads as it did. -/
def spanAsksSpec : ChangeSpec := { name := "spanAsks", fn := fun _ => fun
  | [d1, d2] => { results := [.lit (.bool true)], args := [d1, d2] }
  | _ => none }
def spanAsksRow : OpenClaim := { program := "ytpopdookpbmmpaa", sum := "13bb8a1fc633cf4116b54a298ff325e9ca790398de66d04ec74517339feac2ab", func := "chandlery/chandlerylaw06.SpanAsks", spec := "spanAsks", inPlace := ["slices.overlaps[chandlery/api.Interval]"], unfollowed := true, recurses := true, apart := false }
def SpanAsksSaid : Prop := spanAsksRow.holds Try.pinned (OpenSpec.ofChange spanAsksSpec)

/-- ITS FALSE NEIGHBOUR: 'it returns false'. Refute it at one input. -/
def spanAsksWrong : ChangeSpec := { name := "spanAsks", fn := fun _ => fun
  | [d1, d2] => { results := [.lit (.bool false)], args := [d1, d2] }
  | _ => none }
def SpanAsksWrongFalsely : Prop := spanAsksRow.holds Try.pinned (OpenSpec.ofChange spanAsksWrong)

/-- 'chandlerylaw21.LineOrders': WHATEVER THE INPUT: true; the input reads as it did. -/
def lineOrdersSpec : ChangeSpec := { name := "lineOrders", fn := fun _ => fun
  | [d1, d2] => { results := [.lit (.bool true)], args := [d1, d2] }
  | _ => none }
def lineOrdersRow : OpenClaim := { program := "ytpopdookpbmmpaa", sum := "13bb8a1fc633cf4116b54a298ff325e9ca790398de66d04ec74517339feac2ab", func := "chandlery/chandlerylaw21.LineOrders", spec := "lineOrders", unfollowed := true, recurses := true, apart := false }
def LineOrdersSaid : Prop := lineOrdersRow.holds Try.pinned (OpenSpec.ofChange lineOrdersSpec)

/-- ITS FALSE NEIGHBOUR: 'it returns false'. Refute it at one input. -/
def lineOrdersWrong : ChangeSpec := { name := "lineOrders", fn := fun _ => fun
  | [d1, d2] => { results := [.lit (.bool false)], args := [d1, d2] }
  | _ => none }
def LineOrdersWrongFalsely : Prop := lineOrdersRow.holds Try.pinned (OpenSpec.ofChange lineOrdersWrong)

/-- 'chandlerylaw21.LineFits': WHATEVER THE INPUT: true; the input reads as it did. -/
def lineFitsSpec : ChangeSpec := { name := "lineFits", fn := fun _ => fun
  | [d] => { results := [.lit (.bool true)], args := [d] }
  | _ => none }
def lineFitsRow : OpenClaim := { program := "ytpopdookpbmmpaa", sum := "13bb8a1fc633cf4116b54a298ff325e9ca790398de66d04ec74517339feac2ab", func := "chandlery/chandlerylaw21.LineFits", spec := "lineFits", unfollowed := true, recurses := true, apart := false }
def LineFitsSaid : Prop := lineFitsRow.holds Try.pinned (OpenSpec.ofChange lineFitsSpec)

/-- ITS FALSE NEIGHBOUR: 'it returns false'. Refute it at one input. -/
def lineFitsWrong : ChangeSpec := { name := "lineFits", fn := fun _ => fun
  | [d] => { results := [.lit (.bool false)], args := [d] }
  | _ => none }
def LineFitsWrongFalsely : Prop := lineFitsRow.holds Try.pinned (OpenSpec.ofChange lineFitsWrong)

/-- 'chandlerylaw21.LineLater': WHATEVER THE INPUT: true; the input reads as it did. -/
def lineLaterSpec : ChangeSpec := { name := "lineLater", fn := fun _ => fun
  | [d1, d2, d3] => { results := [.lit (.bool true)], args := [d1, d2, d3] }
  | _ => none }
def lineLaterRow : OpenClaim := { program := "ytpopdookpbmmpaa", sum := "13bb8a1fc633cf4116b54a298ff325e9ca790398de66d04ec74517339feac2ab", func := "chandlery/chandlerylaw21.LineLater", spec := "lineLater", unfollowed := true, recurses := true, apart := false }
def LineLaterSaid : Prop := lineLaterRow.holds Try.pinned (OpenSpec.ofChange lineLaterSpec)

/-- ITS FALSE NEIGHBOUR: 'it returns false'. Refute it at one input. -/
def lineLaterWrong : ChangeSpec := { name := "lineLater", fn := fun _ => fun
  | [d1, d2, d3] => { results := [.lit (.bool false)], args := [d1, d2, d3] }
  | _ => none }
def LineLaterWrongFalsely : Prop := lineLaterRow.holds Try.pinned (OpenSpec.ofChange lineLaterWrong)

/-- 'chandlerylaw21.LineOnly': WHATEVER THE INPUT: true; the input reads as it did. -/
def lineOnlySpec : ChangeSpec := { name := "lineOnly", fn := fun _ => fun
  | [d1, d2] => { results := [.lit (.bool true)], args := [d1, d2] }
  | _ => none }
def lineOnlyRow : OpenClaim := { program := "ytpopdookpbmmpaa", sum := "13bb8a1fc633cf4116b54a298ff325e9ca790398de66d04ec74517339feac2ab", func := "chandlery/chandlerylaw21.LineOnly", spec := "lineOnly", unfollowed := true, recurses := true, apart := false }
def LineOnlySaid : Prop := lineOnlyRow.holds Try.pinned (OpenSpec.ofChange lineOnlySpec)

/-- ITS FALSE NEIGHBOUR: 'it returns false'. Refute it at one input. -/
def lineOnlyWrong : ChangeSpec := { name := "lineOnly", fn := fun _ => fun
  | [d1, d2] => { results := [.lit (.bool false)], args := [d1, d2] }
  | _ => none }
def LineOnlyWrongFalsely : Prop := lineOnlyRow.holds Try.pinned (OpenSpec.ofChange lineOnlyWrong)

/-- 'chandlerylaw06.SpanDoes': WHATEVER THE INPUT: true; the input reads as it did. -/
def spanDoesSpec : ChangeSpec := { name := "spanDoes", fn := fun _ => fun
  | [d] => { results := [.lit (.bool true)], args := [d] }
  | _ => none }
def spanDoesRow : OpenClaim := { program := "ytpopdookpbmmpaa", sum := "13bb8a1fc633cf4116b54a298ff325e9ca790398de66d04ec74517339feac2ab", func := "chandlery/chandlerylaw06.SpanDoes", spec := "spanDoes", inPlace := ["slices.overlaps[chandlery/api.Interval]"], unfollowed := true, recurses := true, apart := false }
def SpanDoesSaid : Prop := spanDoesRow.holds Try.pinned (OpenSpec.ofChange spanDoesSpec)

/-- ITS FALSE NEIGHBOUR: 'it returns false'. Refute it at one input. -/
def spanDoesWrong : ChangeSpec := { name := "spanDoes", fn := fun _ => fun
  | [d] => { results := [.lit (.bool false)], args := [d] }
  | _ => none }
def SpanDoesWrongFalsely : Prop := spanDoesRow.holds Try.pinned (OpenSpec.ofChange spanDoesWrong)

/-- 'chandlerylaw06.SpanApart': WHATEVER THE INPUT: true; the input reads as it did. -/
def spanApartSpec : ChangeSpec := { name := "spanApart", fn := fun _ => fun
  | [d1, d2] => { results := [.lit (.bool true)], args := [d1, d2] }
  | _ => none }
def spanApartRow : OpenClaim := { program := "ytpopdookpbmmpaa", sum := "13bb8a1fc633cf4116b54a298ff325e9ca790398de66d04ec74517339feac2ab", func := "chandlery/chandlerylaw06.SpanApart", spec := "spanApart", inPlace := ["slices.overlaps[chandlery/api.Interval]"], unfollowed := true, recurses := true, apart := false }
def SpanApartSaid : Prop := spanApartRow.holds Try.pinned (OpenSpec.ofChange spanApartSpec)

/-- ITS FALSE NEIGHBOUR: 'it returns false'. Refute it at one input. -/
def spanApartWrong : ChangeSpec := { name := "spanApart", fn := fun _ => fun
  | [d1, d2] => { results := [.lit (.bool false)], args := [d1, d2] }
  | _ => none }
def SpanApartWrongFalsely : Prop := spanApartRow.holds Try.pinned (OpenSpec.ofChange spanApartWrong)

/-- 'chandlerylaw06.SpanBack': WHATEVER THE INPUT: true; the input reads as it did. -/
def spanBackSpec : ChangeSpec := { name := "spanBack", fn := fun _ => fun
  | [d1, d2] => { results := [.lit (.bool true)], args := [d1, d2] }
  | _ => none }
def spanBackRow : OpenClaim := { program := "ytpopdookpbmmpaa", sum := "13bb8a1fc633cf4116b54a298ff325e9ca790398de66d04ec74517339feac2ab", func := "chandlery/chandlerylaw06.SpanBack", spec := "spanBack", inPlace := ["slices.overlaps[chandlery/api.Interval]"], unfollowed := true, recurses := true, apart := false }
def SpanBackSaid : Prop := spanBackRow.holds Try.pinned (OpenSpec.ofChange spanBackSpec)

/-- ITS FALSE NEIGHBOUR: 'it returns false'. Refute it at one input. -/
def spanBackWrong : ChangeSpec := { name := "spanBack", fn := fun _ => fun
  | [d1, d2] => { results := [.lit (.bool false)], args := [d1, d2] }
  | _ => none }
def SpanBackWrongFalsely : Prop := spanBackRow.holds Try.pinned (OpenSpec.ofChange spanBackWrong)

/-- 'chandlerylaw06.SpanFills': WHATEVER THE INPUT: true; the input reads as it did. -/
def spanFillsSpec : ChangeSpec := { name := "spanFills", fn := fun _ => fun
  | [d1, d2] => { results := [.lit (.bool true)], args := [d1, d2] }
  | _ => none }
def spanFillsRow : OpenClaim := { program := "ytpopdookpbmmpaa", sum := "13bb8a1fc633cf4116b54a298ff325e9ca790398de66d04ec74517339feac2ab", func := "chandlery/chandlerylaw06.SpanFills", spec := "spanFills", inPlace := ["slices.overlaps[chandlery/api.Interval]"], unfollowed := true, recurses := true, apart := false }
def SpanFillsSaid : Prop := spanFillsRow.holds Try.pinned (OpenSpec.ofChange spanFillsSpec)

/-- ITS FALSE NEIGHBOUR: 'it returns false'. Refute it at one input. -/
def spanFillsWrong : ChangeSpec := { name := "spanFills", fn := fun _ => fun
  | [d1, d2] => { results := [.lit (.bool false)], args := [d1, d2] }
  | _ => none }
def SpanFillsWrongFalsely : Prop := spanFillsRow.holds Try.pinned (OpenSpec.ofChange spanFillsWrong)

/-- 'chandlerylaw22.ModelDoes': WHATEVER THE INPUT: true; the input reads as it did. -/
def modelDoesSpec : ChangeSpec := { name := "modelDoes", fn := fun _ => fun
  | [d1, d2] => { results := [.lit (.bool true)], args := [d1, d2] }
  | _ => none }
def modelDoesRow : OpenClaim := { program := "ytpopdookpbmmpaa", sum := "13bb8a1fc633cf4116b54a298ff325e9ca790398de66d04ec74517339feac2ab", func := "chandlery/chandlerylaw22.ModelDoes", spec := "modelDoes", inPlace := ["slices.overlaps[chandlery/api.Interval]"], unfollowed := true, recurses := true, apart := false }
def ModelDoesSaid : Prop := modelDoesRow.holds Try.pinned (OpenSpec.ofChange modelDoesSpec)

/-- ITS FALSE NEIGHBOUR: 'it returns false'. Refute it at one input. -/
def modelDoesWrong : ChangeSpec := { name := "modelDoes", fn := fun _ => fun
  | [d1, d2] => { results := [.lit (.bool false)], args := [d1, d2] }
  | _ => none }
def ModelDoesWrongFalsely : Prop := modelDoesRow.holds Try.pinned (OpenSpec.ofChange modelDoesWrong)

/-- 'chandlerylaw22.ModelReplays': WHATEVER THE INPUT: true; the input reads as it did. -/
def modelReplaysSpec : ChangeSpec := { name := "modelReplays", fn := fun _ => fun
  | [d1, d2] => { results := [.lit (.bool true)], args := [d1, d2] }
  | _ => none }
def modelReplaysRow : OpenClaim := { program := "ytpopdookpbmmpaa", sum := "13bb8a1fc633cf4116b54a298ff325e9ca790398de66d04ec74517339feac2ab", func := "chandlery/chandlerylaw22.ModelReplays", spec := "modelReplays", inPlace := ["slices.overlaps[chandlery/api.Interval]"], unfollowed := true, recurses := true, apart := false }
def ModelReplaysSaid : Prop := modelReplaysRow.holds Try.pinned (OpenSpec.ofChange modelReplaysSpec)

/-- ITS FALSE NEIGHBOUR: 'it returns false'. Refute it at one input. -/
def modelReplaysWrong : ChangeSpec := { name := "modelReplays", fn := fun _ => fun
  | [d1, d2] => { results := [.lit (.bool false)], args := [d1, d2] }
  | _ => none }
def ModelReplaysWrongFalsely : Prop := modelReplaysRow.holds Try.pinned (OpenSpec.ofChange modelReplaysWrong)

/-- 'chandlerylaw22.ModelUndoes': WHATEVER THE INPUT: true; the input reads as it did. -/
def modelUndoesSpec : ChangeSpec := { name := "modelUndoes", fn := fun _ => fun
  | [d1, d2, d3] => { results := [.lit (.bool true)], args := [d1, d2, d3] }
  | _ => none }
def modelUndoesRow : OpenClaim := { program := "ytpopdookpbmmpaa", sum := "13bb8a1fc633cf4116b54a298ff325e9ca790398de66d04ec74517339feac2ab", func := "chandlery/chandlerylaw22.ModelUndoes", spec := "modelUndoes", inPlace := ["slices.overlaps[chandlery/api.Interval]"], unfollowed := true, recurses := true, apart := false }
def ModelUndoesSaid : Prop := modelUndoesRow.holds Try.pinned (OpenSpec.ofChange modelUndoesSpec)

/-- ITS FALSE NEIGHBOUR: 'it returns false'. Refute it at one input. -/
def modelUndoesWrong : ChangeSpec := { name := "modelUndoes", fn := fun _ => fun
  | [d1, d2, d3] => { results := [.lit (.bool false)], args := [d1, d2, d3] }
  | _ => none }
def ModelUndoesWrongFalsely : Prop := modelUndoesRow.holds Try.pinned (OpenSpec.ofChange modelUndoesWrong)

/-- 'chandlerylaw22.ModelFull': WHATEVER THE INPUT: true; the input reads as it did. -/
def modelFullSpec : ChangeSpec := { name := "modelFull", fn := fun _ => fun
  | [d1, d2, d3] => { results := [.lit (.bool true)], args := [d1, d2, d3] }
  | _ => none }
def modelFullRow : OpenClaim := { program := "ytpopdookpbmmpaa", sum := "13bb8a1fc633cf4116b54a298ff325e9ca790398de66d04ec74517339feac2ab", func := "chandlery/chandlerylaw22.ModelFull", spec := "modelFull", inPlace := ["slices.overlaps[chandlery/api.Interval]"], unfollowed := true, recurses := true, apart := false }
def ModelFullSaid : Prop := modelFullRow.holds Try.pinned (OpenSpec.ofChange modelFullSpec)

/-- ITS FALSE NEIGHBOUR: 'it returns false'. Refute it at one input. -/
def modelFullWrong : ChangeSpec := { name := "modelFull", fn := fun _ => fun
  | [d1, d2, d3] => { results := [.lit (.bool false)], args := [d1, d2, d3] }
  | _ => none }
def ModelFullWrongFalsely : Prop := modelFullRow.holds Try.pinned (OpenSpec.ofChange modelFullWrong)

/- THE SECOND FORM. 'bulk': how many values and letters a reading holds, each counted each time it is reached (what is shared counts as often as it is met; a slice's spare places count too). A statement '..UptoSaid' is the law's where the arguments, and the package variables that the reading takes, are together of bulk at most 1048576: NARROWER than '..Said'. Prove '..Said' where nothing that the law and all that it calls make is longer than what came in: it says more and counts as full. Else prove '..UptoSaid'. A law counts once. -/
mutual
def uptoBulk {H : Type} : DataW H → Nat
  | .lit (.string bytes) => bytes.length + 1
  | .lit _ => 1
  | .nil => 1
  | .ptr d => uptoBulk d + 1
  | .slice elems spare => uptoBulkAll elems + uptoBulkAll spare + 1
  | .agg parts => uptoBulkAll parts + 1
  | .iface _ d => uptoBulk d + 1
  | .map entries => uptoBulkEntries entries + 1
  | .held _ => 1
def uptoBulkAll {H : Type} : List (DataW H) → Nat
  | [] => 0
  | d :: r => uptoBulk d + uptoBulkAll r
def uptoBulkEntries {H : Type} : List (Lit × DataW H) → Nat
  | [] => 0
  | x :: r => uptoBulkEntry x + uptoBulkEntries r
def uptoBulkEntry {H : Type} : Lit × DataW H → Nat
  | (.string bytes, d) => bytes.length + uptoBulk d + 1
  | (_, d) => uptoBulk d + 1
 end
def uptoSmall : (H : Type) → List (DataW H) → Bool := fun _ ds => decide (uptoBulkAll ds ≤ 1048576)
def OpenSpec.upto (s : _root_.Go.ChangeSpec) : _root_.Go.OpenSpec := { _root_.Go.OpenSpec.ofChange s with cond := some uptoSmall }

/-- 'chandlerylaw06.SpanAsks', WHERE WHAT IT READS IS OF BULK AT MOST 1048576: true; the input reads as it did. -/
def spanAsksUptoRow : OpenClaim := { program := "ytpopdookpbmmpaa", sum := "13bb8a1fc633cf4116b54a298ff325e9ca790398de66d04ec74517339feac2ab", func := "chandlery/chandlerylaw06.SpanAsks", spec := "spanAsks", inPlace := ["slices.overlaps[chandlery/api.Interval]"], unfollowed := true, recurses := true, apart := false, narrowed := true }
def SpanAsksUptoSaid : Prop := spanAsksUptoRow.holds Try.pinned (OpenSpec.upto spanAsksSpec)

/-- 'chandlerylaw21.LineOrders', WHERE WHAT IT READS IS OF BULK AT MOST 1048576: true; the input reads as it did. -/
def lineOrdersUptoRow : OpenClaim := { program := "ytpopdookpbmmpaa", sum := "13bb8a1fc633cf4116b54a298ff325e9ca790398de66d04ec74517339feac2ab", func := "chandlery/chandlerylaw21.LineOrders", spec := "lineOrders", unfollowed := true, recurses := true, apart := false, narrowed := true }
def LineOrdersUptoSaid : Prop := lineOrdersUptoRow.holds Try.pinned (OpenSpec.upto lineOrdersSpec)

/-- 'chandlerylaw21.LineFits', WHERE WHAT IT READS IS OF BULK AT MOST 1048576: true; the input reads as it did. -/
def lineFitsUptoRow : OpenClaim := { program := "ytpopdookpbmmpaa", sum := "13bb8a1fc633cf4116b54a298ff325e9ca790398de66d04ec74517339feac2ab", func := "chandlery/chandlerylaw21.LineFits", spec := "lineFits", unfollowed := true, recurses := true, apart := false, narrowed := true }
def LineFitsUptoSaid : Prop := lineFitsUptoRow.holds Try.pinned (OpenSpec.upto lineFitsSpec)

/-- 'chandlerylaw21.LineLater', WHERE WHAT IT READS IS OF BULK AT MOST 1048576: true; the input reads as it did. -/
def lineLaterUptoRow : OpenClaim := { program := "ytpopdookpbmmpaa", sum := "13bb8a1fc633cf4116b54a298ff325e9ca790398de66d04ec74517339feac2ab", func := "chandlery/chandlerylaw21.LineLater", spec := "lineLater", unfollowed := true, recurses := true, apart := false, narrowed := true }
def LineLaterUptoSaid : Prop := lineLaterUptoRow.holds Try.pinned (OpenSpec.upto lineLaterSpec)

/-- 'chandlerylaw21.LineOnly', WHERE WHAT IT READS IS OF BULK AT MOST 1048576: true; the input reads as it did. -/
def lineOnlyUptoRow : OpenClaim := { program := "ytpopdookpbmmpaa", sum := "13bb8a1fc633cf4116b54a298ff325e9ca790398de66d04ec74517339feac2ab", func := "chandlery/chandlerylaw21.LineOnly", spec := "lineOnly", unfollowed := true, recurses := true, apart := false, narrowed := true }
def LineOnlyUptoSaid : Prop := lineOnlyUptoRow.holds Try.pinned (OpenSpec.upto lineOnlySpec)

/-- 'chandlerylaw06.SpanDoes', WHERE WHAT IT READS IS OF BULK AT MOST 1048576: true; the input reads as it did. -/
def spanDoesUptoRow : OpenClaim := { program := "ytpopdookpbmmpaa", sum := "13bb8a1fc633cf4116b54a298ff325e9ca790398de66d04ec74517339feac2ab", func := "chandlery/chandlerylaw06.SpanDoes", spec := "spanDoes", inPlace := ["slices.overlaps[chandlery/api.Interval]"], unfollowed := true, recurses := true, apart := false, narrowed := true }
def SpanDoesUptoSaid : Prop := spanDoesUptoRow.holds Try.pinned (OpenSpec.upto spanDoesSpec)

/-- 'chandlerylaw06.SpanApart', WHERE WHAT IT READS IS OF BULK AT MOST 1048576: true; the input reads as it did. -/
def spanApartUptoRow : OpenClaim := { program := "ytpopdookpbmmpaa", sum := "13bb8a1fc633cf4116b54a298ff325e9ca790398de66d04ec74517339feac2ab", func := "chandlery/chandlerylaw06.SpanApart", spec := "spanApart", inPlace := ["slices.overlaps[chandlery/api.Interval]"], unfollowed := true, recurses := true, apart := false, narrowed := true }
def SpanApartUptoSaid : Prop := spanApartUptoRow.holds Try.pinned (OpenSpec.upto spanApartSpec)

/-- 'chandlerylaw06.SpanBack', WHERE WHAT IT READS IS OF BULK AT MOST 1048576: true; the input reads as it did. -/
def spanBackUptoRow : OpenClaim := { program := "ytpopdookpbmmpaa", sum := "13bb8a1fc633cf4116b54a298ff325e9ca790398de66d04ec74517339feac2ab", func := "chandlery/chandlerylaw06.SpanBack", spec := "spanBack", inPlace := ["slices.overlaps[chandlery/api.Interval]"], unfollowed := true, recurses := true, apart := false, narrowed := true }
def SpanBackUptoSaid : Prop := spanBackUptoRow.holds Try.pinned (OpenSpec.upto spanBackSpec)

/-- 'chandlerylaw06.SpanFills', WHERE WHAT IT READS IS OF BULK AT MOST 1048576: true; the input reads as it did. -/
def spanFillsUptoRow : OpenClaim := { program := "ytpopdookpbmmpaa", sum := "13bb8a1fc633cf4116b54a298ff325e9ca790398de66d04ec74517339feac2ab", func := "chandlery/chandlerylaw06.SpanFills", spec := "spanFills", inPlace := ["slices.overlaps[chandlery/api.Interval]"], unfollowed := true, recurses := true, apart := false, narrowed := true }
def SpanFillsUptoSaid : Prop := spanFillsUptoRow.holds Try.pinned (OpenSpec.upto spanFillsSpec)

/-- 'chandlerylaw22.ModelDoes', WHERE WHAT IT READS IS OF BULK AT MOST 1048576: true; the input reads as it did. -/
def modelDoesUptoRow : OpenClaim := { program := "ytpopdookpbmmpaa", sum := "13bb8a1fc633cf4116b54a298ff325e9ca790398de66d04ec74517339feac2ab", func := "chandlery/chandlerylaw22.ModelDoes", spec := "modelDoes", inPlace := ["slices.overlaps[chandlery/api.Interval]"], unfollowed := true, recurses := true, apart := false, narrowed := true }
def ModelDoesUptoSaid : Prop := modelDoesUptoRow.holds Try.pinned (OpenSpec.upto modelDoesSpec)

/-- 'chandlerylaw22.ModelReplays', WHERE WHAT IT READS IS OF BULK AT MOST 1048576: true; the input reads as it did. -/
def modelReplaysUptoRow : OpenClaim := { program := "ytpopdookpbmmpaa", sum := "13bb8a1fc633cf4116b54a298ff325e9ca790398de66d04ec74517339feac2ab", func := "chandlery/chandlerylaw22.ModelReplays", spec := "modelReplays", inPlace := ["slices.overlaps[chandlery/api.Interval]"], unfollowed := true, recurses := true, apart := false, narrowed := true }
def ModelReplaysUptoSaid : Prop := modelReplaysUptoRow.holds Try.pinned (OpenSpec.upto modelReplaysSpec)

/-- 'chandlerylaw22.ModelUndoes', WHERE WHAT IT READS IS OF BULK AT MOST 1048576: true; the input reads as it did. -/
def modelUndoesUptoRow : OpenClaim := { program := "ytpopdookpbmmpaa", sum := "13bb8a1fc633cf4116b54a298ff325e9ca790398de66d04ec74517339feac2ab", func := "chandlery/chandlerylaw22.ModelUndoes", spec := "modelUndoes", inPlace := ["slices.overlaps[chandlery/api.Interval]"], unfollowed := true, recurses := true, apart := false, narrowed := true }
def ModelUndoesUptoSaid : Prop := modelUndoesUptoRow.holds Try.pinned (OpenSpec.upto modelUndoesSpec)

/-- 'chandlerylaw22.ModelFull', WHERE WHAT IT READS IS OF BULK AT MOST 1048576: true; the input reads as it did. -/
def modelFullUptoRow : OpenClaim := { program := "ytpopdookpbmmpaa", sum := "13bb8a1fc633cf4116b54a298ff325e9ca790398de66d04ec74517339feac2ab", func := "chandlery/chandlerylaw22.ModelFull", spec := "modelFull", inPlace := ["slices.overlaps[chandlery/api.Interval]"], unfollowed := true, recurses := true, apart := false, narrowed := true }
def ModelFullUptoSaid : Prop := modelFullUptoRow.holds Try.pinned (OpenSpec.upto modelFullSpec)

end Rows
end Go.Proofs.Ytpopdookpbmmpaa
