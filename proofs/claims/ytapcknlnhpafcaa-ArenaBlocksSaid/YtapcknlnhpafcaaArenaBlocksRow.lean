/- The law ArenaBlocks answers true for every input, and leaves its input as it was. -/
import Derived.Test.YtapcknlnhpafcaaRows
import Derived.Test.YtapcknlnhpafcaaArena9
namespace Go.Proofs.Ytapcknlnhpafcaa
open Go.Den Go.ChangeShapes Go.WideShapes Go.RowKit

set_option maxRecDepth 100000 in
theorem ArenaBlocks_lifted (os : Os) (started : os.Started) (H : Type) (enc : TypeId × Value → H) :
    ReturnsInHanded {} Try.checked os F_l05_ArenaBlocks .any (Rows.arenaBlocksSpec.pre6 enc Try.prog Try.f7 Rows.arenaBlocksRow.domain false) (Rows.arenaBlocksSpec.post enc Try.prog Try.f7 false true false false) := by
  refine returnsInHanded_of_change (C := Try.checked) (by kernel_rfl) started (by kernel_rfl) Try.func7
    (ChangeSpec.witness6 (enc := enc) (C := Try.checked) false ⟨#[], #[.agg #[.int .i64 0, .int .i64 0, .int .i64 0, .int .i64 0, .slice none 0 0], .int .i64 0, .agg #[.int .i64 0, .int .i64 0, .int .i64 0]], []⟩ 8 (by kernel_rfl) (by kernel_rfl) (by kernel_rfl) (by kernel_rfl)) ?_
  intro W base args ds gs before hval hW _ _
  have hW' := hW
  obtain ⟨p, q, hA, _, _, _, _⟩ := hW
  rw [Try.params7] at hA hval
  obtain ⟨v0, v1, v2, d0, d1, d2, p0, p1, p2, rfl, rfl, rfl, h0, h1, h2⟩ := trodAll_three hA
  obtain ⟨cs0, rfl, hr0⟩ := arg_agg (s := [.int .i64, .int .i64, .int .i64, .int .i64, .sl [.int .i64]]) (by kernel_rfl) (by kernel_rfl) (hval 0 _ _ rfl rfl) h0
  obtain ⟨c0, c1, c2, c3, a, l, c, cl, rfl, hc⟩ := cfg_open hr0
  obtain ⟨x, rfl, _, _, wx⟩ := open_int (k := .i64) (by kernel_rfl) (hval 1 _ _ rfl rfl) h1
  obtain ⟨cs2, rfl, hr2⟩ := arg_agg (s := [.int .i64, .int .i64, .int .i64]) (by kernel_rfl) (by kernel_rfl) (hval 2 _ _ rfl rfl) h2
  obtain ⟨y0, y1, y2, rfl⟩ := ints3_open hr2
  exact (ArenaBlocks_spec hc x y0 y1 y2).row fun w' hE => law_post (by kernel_rfl) rfl hW' (fun ds hd => by match ds, hd with | [_, _, _], _ => rfl) (by kernel_rfl) (tb := 4) rfl (by kernel_rfl) hE

theorem ArenaBlocks_holds : Rows.ArenaBlocksSaid :=
  OpenClaim.holds_of_wide F_l05_ArenaBlocks Try.f7 rfl rfl rfl rfl rfl rfl rfl ⟨rfl, rfl, rfl, rfl, rfl⟩ rfl rfl rfl rfl rfl (by kernel_rfl) Try.func7 (by kernel_rfl)
    (of_decide_eq_true (by kernel_rfl)) (by unfold Func.isWrapper; rw [if_neg (of_decide_eq_false (by kernel_rfl))]; exact ⟨rfl, rfl⟩)
    (fun os started H enc _ => ArenaBlocks_lifted os started H enc)
#print axioms ArenaBlocks_holds
end Go.Proofs.Ytapcknlnhpafcaa
