/- The law SpanDoes answers true for every input, and leaves its input as it was. -/
import Derived.Test.YtpopdookpbmmpaaRows
import Derived.Test.YtpopdookpbmmpaaSpan15
namespace Go.Proofs.Ytpopdookpbmmpaa
open Go.Den Go.ChangeShapes Go.WideShapes Go.RowKit

set_option maxRecDepth 100000 in
theorem SpanDoes_lifted (os : Os) (started : os.Started) (H : Type) (enc : TypeId × Value → H) :
    ReturnsInHanded {} Try.checked os F_l06_SpanDoes .any (Rows.spanDoesSpec.pre6 enc Try.prog Try.f8 Rows.spanDoesRow.domain false) (Rows.spanDoesSpec.post enc Try.prog Try.f8 false true false false) := by
  refine returnsInHanded_of_change (C := Try.checked) (by kernel_rfl) started (by kernel_rfl) Try.func8
    (ChangeSpec.witness6 (enc := enc) (C := Try.checked) false ⟨#[], #[.slice none 0 0], []⟩ 8 (by kernel_rfl) (by kernel_rfl) (by kernel_rfl) (by kernel_rfl)) ?_
  intro W base args ds gs before hval hW _ _
  have hW' := hW
  obtain ⟨p, q, hA, _, _, _, _⟩ := hW
  rw [Try.params8] at hA hval
  obtain ⟨v0, d0, rfl, rfl, h0⟩ := trodAll_one hA
  obtain ⟨a, l, c, rfl, hr0⟩ := arg_slice (e := T_chandlerylaw06_Op_l06_Op) (s := [.sl [.int .i64, .int .i64, .int .i64]]) (by kernel_rfl) (by kernel_rfl) (hval 0 _ _ rfl rfl) h0
  obtain ⟨os, hs⟩ := ops_open hr0
  exact (SpanDoes_spec hs).row fun w' hE => law_post (by kernel_rfl) rfl hW' (fun ds hd => by match ds, hd with | [_], _ => rfl) (by kernel_rfl) (tb := 4) rfl (by kernel_rfl) hE

theorem SpanDoes_holds : Rows.SpanDoesSaid :=
  OpenClaim.holds_of_wide F_l06_SpanDoes Try.f8 rfl rfl rfl rfl rfl rfl rfl ⟨rfl, rfl, rfl, rfl, rfl⟩ rfl rfl rfl rfl rfl (by kernel_rfl) Try.func8 (by kernel_rfl)
    (of_decide_eq_true (by kernel_rfl)) (by unfold Func.isWrapper; rw [if_neg (of_decide_eq_false (by kernel_rfl))]; exact ⟨rfl, rfl⟩)
    (fun os started H enc _ => SpanDoes_lifted os started H enc)
#print axioms SpanDoes_holds
end Go.Proofs.Ytpopdookpbmmpaa
