/-
  No cell of these rows narrows 'for every input' (looked for: loops, veiled, ifaces, maps, wideKeys, modest, calm, conditions, laid).
  DERIVED. THE GIVEN ROWS OF THIS SEAT. 6 by the template 'for every input the law returns true; each argument reads behind the call as it read before'; 0 by the template 'total and deterministic' (their statements: YtapcknlnhpafcaaTotals.lean).
  GIVEN WITH THE SEED: the statements are not yours to turn. If you find one false, say at which input.
  Laid BY PROGRAM, IN A SANDBOX (cutbox-rows.mjs): the forced cells as the released guide's own fill.sh prints them over the translation cf062a4ec70b634e… (all of the seat's roots in one cut). By AI agents, Wed Nov 11 2026. No macro, syntax, notation, axiom, sorry.
-/
import Derived.Test.YtapcknlnhpafcaaChecked
import GoSem.Claim
import GoSem.ClaimJoined
import GoSem.ClaimMapViews
import Derived.JoinedTies
import Derived.KernelRfl
namespace Go.Proofs.Ytapcknlnhpafcaa
/- THE CELL 'sum', in the pinned program and in every row, IS THE sha256 OF THE DUMP (.gsa) THAT YtapcknlnhpafcaaProg.lean LOADS. Nothing in Lean hashes anything: it is a label: what it is worth is what the hold of that sum in a sandbox is worth. -/
noncomputable def Try.pinned : Pinned := { name := "ytapcknlnhpafcaa", sum := "cf062a4ec70b634e7351ca02d6f6d0248fc54485f9076cb04bd9c0293f1f46e0", checked := Try.checked }
namespace Rows
def none {H : Type} : Left H := { results := [], args := [] }

/-- 'chandlerylaw05.ArenaSizes': WHATEVER THE INPUT: true; the input reads as it did. -/
def arenaSizesSpec : ChangeSpec := { name := "arenaSizes", fn := fun _ => fun
  | [d1, d2] => { results := [.lit (.bool true)], args := [d1, d2] }
  | _ => none }
def arenaSizesRow : OpenClaim := { program := "ytapcknlnhpafcaa", sum := "cf062a4ec70b634e7351ca02d6f6d0248fc54485f9076cb04bd9c0293f1f46e0", func := "chandlery/chandlerylaw05.ArenaSizes", spec := "arenaSizes", apart := false }
def ArenaSizesSaid : Prop := arenaSizesRow.holds Try.pinned (OpenSpec.ofChange arenaSizesSpec)

/-- ITS FALSE NEIGHBOUR: 'it returns false'. Refute it at one input. -/
def arenaSizesWrong : ChangeSpec := { name := "arenaSizes", fn := fun _ => fun
  | [d1, d2] => { results := [.lit (.bool false)], args := [d1, d2] }
  | _ => none }
def ArenaSizesWrongFalsely : Prop := arenaSizesRow.holds Try.pinned (OpenSpec.ofChange arenaSizesWrong)

/-- 'chandlerylaw05.ArenaApart': WHATEVER THE INPUT: true; the input reads as it did. -/
def arenaApartSpec : ChangeSpec := { name := "arenaApart", fn := fun _ => fun
  | [d1, d2] => { results := [.lit (.bool true)], args := [d1, d2] }
  | _ => none }
def arenaApartRow : OpenClaim := { program := "ytapcknlnhpafcaa", sum := "cf062a4ec70b634e7351ca02d6f6d0248fc54485f9076cb04bd9c0293f1f46e0", func := "chandlery/chandlerylaw05.ArenaApart", spec := "arenaApart", apart := false }
def ArenaApartSaid : Prop := arenaApartRow.holds Try.pinned (OpenSpec.ofChange arenaApartSpec)

/-- ITS FALSE NEIGHBOUR: 'it returns false'. Refute it at one input. -/
def arenaApartWrong : ChangeSpec := { name := "arenaApart", fn := fun _ => fun
  | [d1, d2] => { results := [.lit (.bool false)], args := [d1, d2] }
  | _ => none }
def ArenaApartWrongFalsely : Prop := arenaApartRow.holds Try.pinned (OpenSpec.ofChange arenaApartWrong)

/-- 'chandlerylaw05.ArenaPlaces': WHATEVER THE INPUT: true; the input reads as it did. -/
def arenaPlacesSpec : ChangeSpec := { name := "arenaPlaces", fn := fun _ => fun
  | [d1, d2] => { results := [.lit (.bool true)], args := [d1, d2] }
  | _ => none }
def arenaPlacesRow : OpenClaim := { program := "ytapcknlnhpafcaa", sum := "cf062a4ec70b634e7351ca02d6f6d0248fc54485f9076cb04bd9c0293f1f46e0", func := "chandlery/chandlerylaw05.ArenaPlaces", spec := "arenaPlaces", apart := false }
def ArenaPlacesSaid : Prop := arenaPlacesRow.holds Try.pinned (OpenSpec.ofChange arenaPlacesSpec)

/-- ITS FALSE NEIGHBOUR: 'it returns false'. Refute it at one input. -/
def arenaPlacesWrong : ChangeSpec := { name := "arenaPlaces", fn := fun _ => fun
  | [d1, d2] => { results := [.lit (.bool false)], args := [d1, d2] }
  | _ => none }
def ArenaPlacesWrongFalsely : Prop := arenaPlacesRow.holds Try.pinned (OpenSpec.ofChange arenaPlacesWrong)

/-- 'chandlerylaw05.ArenaRuns': WHATEVER THE INPUT: true; the input reads as it did. -/
def arenaRunsSpec : ChangeSpec := { name := "arenaRuns", fn := fun _ => fun
  | [d1, d2] => { results := [.lit (.bool true)], args := [d1, d2] }
  | _ => none }
def arenaRunsRow : OpenClaim := { program := "ytapcknlnhpafcaa", sum := "cf062a4ec70b634e7351ca02d6f6d0248fc54485f9076cb04bd9c0293f1f46e0", func := "chandlery/chandlerylaw05.ArenaRuns", spec := "arenaRuns", apart := false }
def ArenaRunsSaid : Prop := arenaRunsRow.holds Try.pinned (OpenSpec.ofChange arenaRunsSpec)

/-- ITS FALSE NEIGHBOUR: 'it returns false'. Refute it at one input. -/
def arenaRunsWrong : ChangeSpec := { name := "arenaRuns", fn := fun _ => fun
  | [d1, d2] => { results := [.lit (.bool false)], args := [d1, d2] }
  | _ => none }
def ArenaRunsWrongFalsely : Prop := arenaRunsRow.holds Try.pinned (OpenSpec.ofChange arenaRunsWrong)

/-- 'chandlerylaw05.ArenaBlocks': WHATEVER THE INPUT: true; the input reads as it did. -/
def arenaBlocksSpec : ChangeSpec := { name := "arenaBlocks", fn := fun _ => fun
  | [d1, d2, d3] => { results := [.lit (.bool true)], args := [d1, d2, d3] }
  | _ => none }
def arenaBlocksRow : OpenClaim := { program := "ytapcknlnhpafcaa", sum := "cf062a4ec70b634e7351ca02d6f6d0248fc54485f9076cb04bd9c0293f1f46e0", func := "chandlery/chandlerylaw05.ArenaBlocks", spec := "arenaBlocks", apart := false }
def ArenaBlocksSaid : Prop := arenaBlocksRow.holds Try.pinned (OpenSpec.ofChange arenaBlocksSpec)

/-- ITS FALSE NEIGHBOUR: 'it returns false'. Refute it at one input. -/
def arenaBlocksWrong : ChangeSpec := { name := "arenaBlocks", fn := fun _ => fun
  | [d1, d2, d3] => { results := [.lit (.bool false)], args := [d1, d2, d3] }
  | _ => none }
def ArenaBlocksWrongFalsely : Prop := arenaBlocksRow.holds Try.pinned (OpenSpec.ofChange arenaBlocksWrong)

/-- 'chandlerylaw05.ArenaWithin': WHATEVER THE INPUT: true; the input reads as it did. -/
def arenaWithinSpec : ChangeSpec := { name := "arenaWithin", fn := fun _ => fun
  | [d] => { results := [.lit (.bool true)], args := [d] }
  | _ => none }
def arenaWithinRow : OpenClaim := { program := "ytapcknlnhpafcaa", sum := "cf062a4ec70b634e7351ca02d6f6d0248fc54485f9076cb04bd9c0293f1f46e0", func := "chandlery/chandlerylaw05.ArenaWithin", spec := "arenaWithin", apart := false }
def ArenaWithinSaid : Prop := arenaWithinRow.holds Try.pinned (OpenSpec.ofChange arenaWithinSpec)

/-- ITS FALSE NEIGHBOUR: 'it returns false'. Refute it at one input. -/
def arenaWithinWrong : ChangeSpec := { name := "arenaWithin", fn := fun _ => fun
  | [d] => { results := [.lit (.bool false)], args := [d] }
  | _ => none }
def ArenaWithinWrongFalsely : Prop := arenaWithinRow.holds Try.pinned (OpenSpec.ofChange arenaWithinWrong)

/- THE SECOND FORM. 'bulk': how many values and letters a reading holds, each counted each time it is reached (what is shared counts as often as it is met; a slice's spare places count too). A statement '..UptoSaid' is the law's where the arguments, and the package variables that the reading takes, are together of bulk at most 1048576: NARROWER than '..Said'. Prove '..Said' where nothing that the law and all that it calls make is longer than what came in: it says more and counts as full. Else prove '..UptoSaid'. A law counts once. -/
mutual
def uptoBulk {H : Type} : DataW H → Nat
  | .lit (.string bytes) => bytes.length + 1
  | .lit _ => 1
  | .nil => 1
  | .ptr d => uptoBulk d + 1
  | .slice elems spare => uptoBulkAll elems + uptoBulkAll spare + 1
  | .agg parts => uptoBulkAll parts + 1
  | .iface _ d => uptoBulk d + 1
  | .map entries => uptoBulkEntries entries + 1
  | .held _ => 1
def uptoBulkAll {H : Type} : List (DataW H) → Nat
  | [] => 0
  | d :: r => uptoBulk d + uptoBulkAll r
def uptoBulkEntries {H : Type} : List (Lit × DataW H) → Nat
  | [] => 0
  | x :: r => uptoBulkEntry x + uptoBulkEntries r
def uptoBulkEntry {H : Type} : Lit × DataW H → Nat
  | (.string bytes, d) => bytes.length + uptoBulk d + 1
  | (_, d) => uptoBulk d + 1
 end
def uptoSmall : (H : Type) → List (DataW H) → Bool := fun _ ds => decide (uptoBulkAll ds ≤ 1048576)
def OpenSpec.upto (s : _root_.Go.ChangeSpec) : _root_.Go.OpenSpec := { _root_.Go.OpenSpec.ofChange s with cond := some uptoSmall }

/-- 'chandlerylaw05.ArenaSizes', WHERE WHAT IT READS IS OF BULK AT MOST 1048576: true; the input reads as it did. -/
def arenaSizesUptoRow : OpenClaim := { program := "ytapcknlnhpafcaa", sum := "cf062a4ec70b634e7351ca02d6f6d0248fc54485f9076cb04bd9c0293f1f46e0", func := "chandlery/chandlerylaw05.ArenaSizes", spec := "arenaSizes", apart := false, narrowed := true }
def ArenaSizesUptoSaid : Prop := arenaSizesUptoRow.holds Try.pinned (OpenSpec.upto arenaSizesSpec)

/-- 'chandlerylaw05.ArenaApart', WHERE WHAT IT READS IS OF BULK AT MOST 1048576: true; the input reads as it did. -/
def arenaApartUptoRow : OpenClaim := { program := "ytapcknlnhpafcaa", sum := "cf062a4ec70b634e7351ca02d6f6d0248fc54485f9076cb04bd9c0293f1f46e0", func := "chandlery/chandlerylaw05.ArenaApart", spec := "arenaApart", apart := false, narrowed := true }
def ArenaApartUptoSaid : Prop := arenaApartUptoRow.holds Try.pinned (OpenSpec.upto arenaApartSpec)

/-- 'chandlerylaw05.ArenaPlaces', WHERE WHAT IT READS IS OF BULK AT MOST 1048576: true; the input reads as it did. -/
def arenaPlacesUptoRow : OpenClaim := { program := "ytapcknlnhpafcaa", sum := "cf062a4ec70b634e7351ca02d6f6d0248fc54485f9076cb04bd9c0293f1f46e0", func := "chandlery/chandlerylaw05.ArenaPlaces", spec := "arenaPlaces", apart := false, narrowed := true }
def ArenaPlacesUptoSaid : Prop := arenaPlacesUptoRow.holds Try.pinned (OpenSpec.upto arenaPlacesSpec)

/-- 'chandlerylaw05.ArenaRuns', WHERE WHAT IT READS IS OF BULK AT MOST 1048576: true; the input reads as it did. -/
def arenaRunsUptoRow : OpenClaim := { program := "ytapcknlnhpafcaa", sum := "cf062a4ec70b634e7351ca02d6f6d0248fc54485f9076cb04bd9c0293f1f46e0", func := "chandlery/chandlerylaw05.ArenaRuns", spec := "arenaRuns", apart := false, narrowed := true }
def ArenaRunsUptoSaid : Prop := arenaRunsUptoRow.holds Try.pinned (OpenSpec.upto arenaRunsSpec)

/-- 'chandlerylaw05.ArenaBlocks', WHERE WHAT IT READS IS OF BULK AT MOST 1048576: true; the input reads as it did. -/
def arenaBlocksUptoRow : OpenClaim := { program := "ytapcknlnhpafcaa", sum := "cf062a4ec70b634e7351ca02d6f6d0248fc54485f9076cb04bd9c0293f1f46e0", func := "chandlery/chandlerylaw05.ArenaBlocks", spec := "arenaBlocks", apart := false, narrowed := true }
def ArenaBlocksUptoSaid : Prop := arenaBlocksUptoRow.holds Try.pinned (OpenSpec.upto arenaBlocksSpec)

/-- 'chandlerylaw05.ArenaWithin', WHERE WHAT IT READS IS OF BULK AT MOST 1048576: true; the input reads as it did. -/
def arenaWithinUptoRow : OpenClaim := { program := "ytapcknlnhpafcaa", sum := "cf062a4ec70b634e7351ca02d6f6d0248fc54485f9076cb04bd9c0293f1f46e0", func := "chandlery/chandlerylaw05.ArenaWithin", spec := "arenaWithin", apart := false, narrowed := true }
def ArenaWithinUptoSaid : Prop := arenaWithinUptoRow.holds Try.pinned (OpenSpec.upto arenaWithinSpec)

end Rows
end Go.Proofs.Ytapcknlnhpafcaa
