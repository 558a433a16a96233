/- The law SpanFills answers true for every input, and leaves its input as it was. -/
import Derived.Test.YtpopdookpbmmpaaRows
import Derived.Test.YtpopdookpbmmpaaSpan16
namespace Go.Proofs.Ytpopdookpbmmpaa
open Go.Den Go.ChangeShapes Go.WideShapes Go.RowKit

set_option maxRecDepth 100000 in
theorem SpanFills_lifted (os : Os) (started : os.Started) (H : Type) (enc : TypeId × Value → H) :
    ReturnsInHanded {} Try.checked os F_l06_SpanFills .any (Rows.spanFillsSpec.pre6 enc Try.prog Try.f11 Rows.spanFillsRow.domain false) (Rows.spanFillsSpec.post enc Try.prog Try.f11 false true false false) := by
  refine returnsInHanded_of_change (C := Try.checked) (by kernel_rfl) started (by kernel_rfl) Try.func11
    (ChangeSpec.witness6 (enc := enc) (C := Try.checked) false ⟨#[], #[.slice none 0 0, .agg #[.int .i64 0, .int .i64 0]], []⟩ 8 (by kernel_rfl) (by kernel_rfl) (by kernel_rfl) (by kernel_rfl)) ?_
  intro W base args ds gs before hval hW _ _
  have hW' := hW
  obtain ⟨p, q, hA, _, _, _, _⟩ := hW
  rw [Try.params11] at hA hval
  obtain ⟨v0, v1, d0, d1, p0, p1, rfl, rfl, rfl, h0, h1⟩ := trodAll_two hA
  obtain ⟨a, l, c, rfl, hr0⟩ := arg_slice (e := T_uint8) (s := [.sl [.int .u8]]) (by kernel_rfl) (by kernel_rfl) (hval 0 _ _ rfl rfl) h0
  obtain ⟨os, _, _, _, hs, ho⟩ := hr0.ints
  obtain ⟨cs1, rfl, hr1⟩ := arg_agg (s := [.int .i64, .int .i64]) (by kernel_rfl) (by kernel_rfl) (hval 1 _ _ rfl rfl) h1
  obtain ⟨x, rfl⟩ := iv_cells hr1
  exact (SpanFills_spec hs (fun y hy => by have := Go.bounds_u8 (ho y hy); omega) x).row fun w' hE => law_post (by kernel_rfl) rfl hW' (fun ds hd => by match ds, hd with | [_, _], _ => rfl) (by kernel_rfl) (tb := 4) rfl (by kernel_rfl) hE

theorem SpanFills_holds : Rows.SpanFillsSaid :=
  OpenClaim.holds_of_wide F_l06_SpanFills Try.f11 rfl rfl rfl rfl rfl rfl rfl ⟨rfl, rfl, rfl, rfl, rfl⟩ rfl rfl rfl rfl rfl (by kernel_rfl) Try.func11 (by kernel_rfl)
    (of_decide_eq_true (by kernel_rfl)) (by unfold Func.isWrapper; rw [if_neg (of_decide_eq_false (by kernel_rfl))]; exact ⟨rfl, rfl⟩)
    (fun os started H enc _ => SpanFills_lifted os started H enc)
#print axioms SpanFills_holds
end Go.Proofs.Ytpopdookpbmmpaa
