/- The law ModelFull answers true for every input, and leaves its input as it was. -/
import Derived.Test.YtpopdookpbmmpaaRows
import Derived.Test.YtpopdookpbmmpaaModel8
namespace Go.Proofs.Ytpopdookpbmmpaa
open Go.Den Go.ChangeShapes Go.WideShapes Go.RowKit

set_option maxRecDepth 100000 in
theorem ModelFull_lifted (os : Os) (started : os.Started) (H : Type) (enc : TypeId × Value → H) :
    ReturnsInHanded {} Try.checked os F_l22_ModelFull .any (Rows.modelFullSpec.pre6 enc Try.prog Try.f15 Rows.modelFullRow.domain false) (Rows.modelFullSpec.post enc Try.prog Try.f15 false true false false) := by
  refine returnsInHanded_of_change (C := Try.checked) (by kernel_rfl) started (by kernel_rfl) Try.func15
    (ChangeSpec.witness6 (enc := enc) (C := Try.checked) false ⟨#[], #[.agg #[.int .i64 0, .int .i64 0, .int .i64 0, .int .i64 0, .slice none 0 0], .int .u16 0, .int .u16 0], []⟩ 8 (by kernel_rfl) (by kernel_rfl) (by kernel_rfl) (by kernel_rfl)) ?_
  intro W base args ds gs before hval hW _ _
  have hW' := hW
  obtain ⟨p, q, hA, _, _, _, _⟩ := hW
  rw [Try.params15] at hA hval
  obtain ⟨v0, v1, v2, d0, d1, d2, p0, p1, p2, rfl, rfl, rfl, h0, h1, h2⟩ := trodAll_three hA
  obtain ⟨cs0, rfl, hr0⟩ := arg_agg (s := [.int .i64, .int .i64, .int .i64, .int .i64, .sl [.int .i64]]) (by kernel_rfl) (by kernel_rfl) (hval 0 _ _ rfl rfl) h0
  obtain ⟨c0, c1, c2, c3, a, l, c, cl, rfl, hc⟩ := cfg_open hr0
  obtain ⟨x, rfl, _, _, wx⟩ := open_int (k := .u16) (by kernel_rfl) (hval 1 _ _ rfl rfl) h1
  obtain ⟨y, rfl, _, _, wy⟩ := open_int (k := .u16) (by kernel_rfl) (hval 2 _ _ rfl rfl) h2
  exact (ModelFull_spec hc (Go.bounds_u16 wx) (Go.bounds_u16 wy)).row fun w' hE => law_post (by kernel_rfl) rfl hW' (fun ds hd => by match ds, hd with | [_, _, _], _ => rfl) (by kernel_rfl) (tb := 4) rfl (by kernel_rfl) hE

theorem ModelFull_holds : Rows.ModelFullSaid :=
  OpenClaim.holds_of_wide F_l22_ModelFull Try.f15 rfl rfl rfl rfl rfl rfl rfl ⟨rfl, rfl, rfl, rfl, rfl⟩ rfl rfl rfl rfl rfl (by kernel_rfl) Try.func15 (by kernel_rfl)
    (of_decide_eq_true (by kernel_rfl)) (by unfold Func.isWrapper; rw [if_neg (of_decide_eq_false (by kernel_rfl))]; exact ⟨rfl, rfl⟩)
    (fun os started H enc _ => ModelFull_lifted os started H enc)
#print axioms ModelFull_holds
end Go.Proofs.Ytpopdookpbmmpaa
