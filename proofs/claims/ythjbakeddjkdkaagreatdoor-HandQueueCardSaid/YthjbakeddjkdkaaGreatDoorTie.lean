/-
  DERIVED. GIVEN WITH THE SEED: THE PROGRAM's TIES (one call each: nine closed facts by the kernel) AND EACH ROW's TIE, after the 31st guide's Derived/Test/Toyas{Tie, Card}.lean. No idea stands in it: it is a product of the set-up. Laid BY PROGRAM, IN A SANDBOX (cutbox-door.mjs). By AI agents, Wed Nov 11 2026. No macro, syntax, notation, axiom, sorry.
-/
import Derived.Test.YthjbakeddjkdkaaGreatDoorRows
import Derived.LaidByTextLater
import Derived.SevenTiedAt
import Derived.LaidSub
import Derived.LaidOnce
namespace Go.Proofs.YthjbakeddjkdkaaGreatDoor
open Go
set_option maxRecDepth 100000
theorem seatTie1 : Tryz.prog.laidByTextLater [("chandlery/word.fields", Rows.laid_chandlery_word_fields), ("chandlery/live.kind", Rows.laid_chandlery_live_kind), ("chandlery/live.number", Rows.laid_chandlery_live_number)] [.wider, .wider, .wider] true :=
  Program.laidByTextLater_by_one 47 8 65 (by kernel_rfl) (by kernel_rfl) (by kernel_rfl) (by kernel_rfl) (by kernel_rfl) (by kernel_rfl) (fun _ _ => by kernel_rfl)
theorem noOwnUnsafe : Tryz.pinned.checked.prog.headLifts.contains "ownunsafe" = false := by kernel_rfl
theorem tie : Tryz.prog.laidByTextLater [("chandlery/word.fields", Rows.laid_chandlery_word_fields), ("chandlery/live.kind", Rows.laid_chandlery_live_kind), ("chandlery/live.number", Rows.laid_chandlery_live_number)] [.wider, .wider, .wider] true :=
  Program.laidByTextLater.sub seatTie1 ["chandlery/word.fields", "chandlery/live.kind", "chandlery/live.number"] (by kernel_rfl) (by kernel_rfl)
theorem handQueue_row_tie : Rows.handQueueRow.laidByTextAt .later Tryz.pinned [.wider, .wider, .wider] true :=
  OpenClaim.laidByTextAt_later rfl rfl tie noOwnUnsafe
theorem handQueueUpto_row_tie : Rows.handQueueUptoRow.laidByTextAt .later Tryz.pinned [.wider, .wider, .wider] true :=
  OpenClaim.laidByTextAt_later rfl rfl tie noOwnUnsafe
end Go.Proofs.YthjbakeddjkdkaaGreatDoor
