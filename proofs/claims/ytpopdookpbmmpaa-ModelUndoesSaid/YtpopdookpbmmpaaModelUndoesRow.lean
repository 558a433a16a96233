/- The law ModelUndoes answers true for every input, and leaves its input as it was. -/
import Derived.Test.YtpopdookpbmmpaaRows
import Derived.Test.YtpopdookpbmmpaaModel7
namespace Go.Proofs.Ytpopdookpbmmpaa
open Go.Den Go.ChangeShapes Go.WideShapes Go.RowKit

set_option maxRecDepth 100000 in
theorem ModelUndoes_lifted (os : Os) (started : os.Started) (H : Type) (enc : TypeId × Value → H) :
    ReturnsInHanded {} Try.checked os F_l22_ModelUndoes .any (Rows.modelUndoesSpec.pre6 enc Try.prog Try.f14 Rows.modelUndoesRow.domain false) (Rows.modelUndoesSpec.post enc Try.prog Try.f14 false true false false) := by
  refine returnsInHanded_of_change (C := Try.checked) (by kernel_rfl) started (by kernel_rfl) Try.func14
    (ChangeSpec.witness6 (enc := enc) (C := Try.checked) false ⟨#[], #[.agg #[.int .i64 0, .int .i64 0, .int .i64 0, .int .i64 0, .slice none 0 0], .slice none 0 0, .agg #[.int .i64 0, .int .i64 0, .int .i64 0, .int .i64 0]], []⟩ 8 (by kernel_rfl) (by kernel_rfl) (by kernel_rfl) (by kernel_rfl)) ?_
  intro W base args ds gs before hval hW _ _
  have hW' := hW
  obtain ⟨p, q, hA, _, _, _, _⟩ := hW
  rw [Try.params14] at hA hval
  obtain ⟨v0, v1, v2, d0, d1, d2, p0, p1, p2, rfl, rfl, rfl, h0, h1, h2⟩ := trodAll_three hA
  obtain ⟨cs0, rfl, hr0⟩ := arg_agg (s := [.int .i64, .int .i64, .int .i64, .int .i64, .sl [.int .i64]]) (by kernel_rfl) (by kernel_rfl) (hval 0 _ _ rfl rfl) h0
  obtain ⟨c0, c1, c2, c3, a, l, c, cl, rfl, hc⟩ := cfg_open hr0
  obtain ⟨aa, al, ac, rfl, hr1⟩ := arg_slice (e := T_chandlerylaw22_Act_l22_Act) (s := [.sl [.int .i64, .int .i64, .int .i64, .int .i64]]) (by kernel_rfl) (by kernel_rfl) (hval 1 _ _ rfl rfl) h1
  obtain ⟨acs, hsa⟩ := acts_open hr1
  obtain ⟨cs2, rfl, hr2⟩ := arg_agg (s := [.int .i64, .int .i64, .int .i64, .int .i64]) (by kernel_rfl) (by kernel_rfl) (hval 2 _ _ rfl rfl) h2
  obtain ⟨x0, x1, x2, x3, rfl⟩ := act_cells hr2
  exact (ModelUndoes_spec hc hsa x0 x1 x2 x3).row fun w' hE => law_post (by kernel_rfl) rfl hW' (fun ds hd => by match ds, hd with | [_, _, _], _ => rfl) (by kernel_rfl) (tb := 4) rfl (by kernel_rfl) hE

theorem ModelUndoes_holds : Rows.ModelUndoesSaid :=
  OpenClaim.holds_of_wide F_l22_ModelUndoes Try.f14 rfl rfl rfl rfl rfl rfl rfl ⟨rfl, rfl, rfl, rfl, rfl⟩ rfl rfl rfl rfl rfl (by kernel_rfl) Try.func14 (by kernel_rfl)
    (of_decide_eq_true (by kernel_rfl)) (by unfold Func.isWrapper; rw [if_neg (of_decide_eq_false (by kernel_rfl))]; exact ⟨rfl, rfl⟩)
    (fun os started H enc _ => ModelUndoes_lifted os started H enc)
#print axioms ModelUndoes_holds
end Go.Proofs.Ytpopdookpbmmpaa
