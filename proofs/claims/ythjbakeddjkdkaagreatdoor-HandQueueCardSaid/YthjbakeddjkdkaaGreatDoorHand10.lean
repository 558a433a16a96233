/- The world in which the law's call begins; requests that came in. -/
import Derived.Test.YthjbakeddjkdkaaGreatDoorHand9
import Derived.Test.YthjbakeddjkdkaaGreatDoorDenR
import Derived.Test.YthjbakeddjkdkaaGreatDoorTie
import Derived.Lib.LaidTab
import Derived.Lib.LaidIn
import Derived.Lib.LaidU8
import Derived.Stop.LaidErr
import Derived.Deep.DeepHandedRow
import Derived.Deep.DeepWitnessRowRef
import Derived.Shelf.Vars
import Derived.SevenTiedAt
import Derived.OpenShut
namespace Go.Proofs.YthjbakeddjkdkaaGreatDoor
open Go.Den
set_option maxRecDepth 100000
set_option maxHeartbeats 4000000

theorem own_ : ownKnob Pg.godebug = none := by kernel_rfl

/-- What the rows list. -/
abbrev laidL : List (String × DataW Unit) := Rows.handQueueRow.laid

def putC (h : Array Obj) (g : Nat) (cs : Array Value) : Array Obj := h.modify g fun
  | .cells _ t frozen => .cells cs t frozen
  | o => o
def intsC (zs : List Int) : Array Value := (zs.map fun z => Value.int .i64 z).toArray

/-- One world that fits. -/
noncomputable def laidWorld (os : Os) : World :=
  let w0 := World.holding Pg os ⟨#[], #[], []⟩
  let h1 := putC w0.heap 0 (intsC [0, 8, 8, 8, 16, 32, 63, 1])
  let h2 := putC h1 1 (intsC [8, 16])
  let h3 := putC h2 2 (intsC [0, 8])
  { w0 with heap := h3 }
theorem laid_met (os : Os) (args : Array Value) : laidMet Pg laidL ((laidWorld os).forCall (fun _ _ => 0) ⟨#[], args, []⟩).memory :=
  (LaidIn.of_run (l := laidL) [0, 1, 2] 8 (by kernel_rfl) (by kernel_rfl) (by kernel_rfl) (by kernel_rfl)).met

/-- Cells of whole numbers in a variable, whatever it holds. -/
theorem cells_of_shaped {P : Program} {w : World} {g n : Nat} {t ti : TypeId} {zero : Array Value} {k : IntKind}
    (h : w.ShapedOpen P) (hg : g < P.globals.size)
    (h0 : ((begin P (fun _ _ => 0) default).world.heap[g]?).bind Obj.row? = some (zero, t)) (hz : zero.size = n)
    (hb : P.buildable t = true) (hc : P.cellTypes P.depth t = some (List.replicate n ti)) (hu : P.underlying ti = some (.int k)) :
    ∀ i, i < n → ∃ m, w.cell? ⟨g, i, none⟩ = some (.int k m) := by
  intro i hi
  obtain ⟨cs, hh, hs, hr⟩ := h.1 g zero t hg h0
  obtain ⟨ts, hts, _, hall⟩ := hr hb
  rw [hc] at hts
  cases hts
  have h1 : i < cs.size := by omega
  obtain ⟨u, hu', hok⟩ := hall i cs[i] (by simp [h1])
  have : u = ti := List.eq_of_mem_replicate (List.mem_of_getElem? hu')
  subst this
  have hcell : w.cell? ⟨g, i, none⟩ = some cs[i] := by simp [World.cell?, hh, h1]
  rw [hcell]
  unfold Cell.ok at hok
  rw [hu] at hok
  cases hv : cs[i] <;> rw [hv] at hok <;> simp at hok
  case int k' n => exact ⟨n, by rw [hok.1]⟩

abbrev Glo := Fld
theorem glo_of {W : World} (_ : laidMet Pg laidL W) (hS : W.ShapedOpen Pg) : Glo W := by
  have h00 : ((begin Pg (fun _ _ => 0) default).world.heap[0]?).bind Obj.row? = some ((List.replicate 8 (Value.int .i64 0)).toArray, T_4_word_Field) := by kernel_rfl
  intro i hi
  obtain ⟨m, hm⟩ := cells_of_shaped (g := 0) (n := 8) (ti := T_int) hS (of_decide_eq_true (by kernel_rfl)) h00 rfl (by kernel_rfl) (by kernel_rfl) Tryz.underlying3 i hi
  exact ⟨m, by rw [← cell_eq]; exact hm⟩

/-! ### Requests that came in -/
theorem iv_cells {w : World} {cs : List Value} (h : Rds w [.int .i64, .int .i64] cs) : ∃ x : Iv, cs = encV x := by
  cases h with | int _ h =>
  cases h with | int _ h =>
  cases h
  exact ⟨(_, _), rfl⟩

theorem reqs_open {w : World} {a : Option Addr} {l c : Nat} (h : Rds w [.sl [.int .i64, .int .i64]] [.slice a l c]) : ∃ ys : List Iv, SlV w.heap a l ys ∧ ∀ y ∈ ys, inR y.1 := by
  obtain ⟨ys, _, _, _, hs, hi⟩ := h.slice encV (by simp) (fun cs hcs => iv_cells hcs)
  refine ⟨ys, hs, fun y hy => ?_⟩
  have := hi y hy
  unfold encV at this
  cases this with | int b _ => exact Go.bounds_i64 b
end Go.Proofs.YthjbakeddjkdkaaGreatDoor
