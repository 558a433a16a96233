/-
  DERIVED. GIVEN WITH THE SEED: THE CARDS: each row of YthjbakeddjkdkaaGreatDoorRows.lean that lists a variable, with what it lists TIED to the program's text (the seventh form; the later family's looks); each row that meets fmt, with fmt's text TOLD by the authors' own Lean function (tested against real Go, not proved from fmt's source: count such statements apart). THE CARD IS WHAT COUNTS. Prove the row's statement (the work); the ties are given (YthjbakeddjkdkaaGreatDoorTie.lean); close each card by the builder's one call (the guide's Derived/Test/ToyasCard.lean, 'card_holds'). Laid BY PROGRAM, IN A SANDBOX (cutbox-door.mjs). By AI agents, Wed Nov 11 2026. No macro, syntax, notation, axiom, sorry.
-/
import Derived.Test.YthjbakeddjkdkaaGreatDoorRows
import GoSem.ClaimSeven
namespace Go.Proofs.YthjbakeddjkdkaaGreatDoor
namespace Rows

/-- THE TIED CARD OF 'chandlerylaw17.HandQueue'. -/
def handQueueCard : Claim7 := { stood := { row := handQueueRow, standIns := [], harness := (true, "afe9d2fe2fb43a6639c3fa0539a775f5a107d5eb73415fb3f80d95241df31baf"), looks := true }, kinds := [], alts := [], laidByText := true, laidKinds := [.wider, .wider, .wider], laidTests := true, laidLooks := .later }
def HandQueueCardSaid : Prop := Claim7.holds Tryz.pinned (.plain (OpenSpec.ofChange handQueueSpec)) handQueueCard

/-- THE SECOND FORM's CARD OF 'chandlerylaw17.HandQueue'. -/
def handQueueUptoCard : Claim7 := { stood := { row := handQueueUptoRow, standIns := [], harness := (true, "afe9d2fe2fb43a6639c3fa0539a775f5a107d5eb73415fb3f80d95241df31baf"), looks := true }, kinds := [], alts := [], laidByText := true, laidKinds := [.wider, .wider, .wider], laidTests := true, laidLooks := .later }
def HandQueueUptoCardSaid : Prop := Claim7.holds Tryz.pinned (.plain (OpenSpec.upto handQueueSpec)) handQueueUptoCard
end Rows
end Go.Proofs.YthjbakeddjkdkaaGreatDoor
