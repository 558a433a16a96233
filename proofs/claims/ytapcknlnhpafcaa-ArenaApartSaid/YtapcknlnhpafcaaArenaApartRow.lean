/- The law ArenaApart answers true for every input, and leaves its input as it was. -/
import Derived.Test.YtapcknlnhpafcaaRows
import Derived.Test.YtapcknlnhpafcaaArena9
namespace Go.Proofs.Ytapcknlnhpafcaa
open Go.Den Go.ChangeShapes Go.WideShapes Go.RowKit

set_option maxRecDepth 100000 in
theorem ArenaApart_lifted (os : Os) (started : os.Started) (H : Type) (enc : TypeId × Value → H) :
    ReturnsInHanded {} Try.checked os F_l05_ArenaApart .any (Rows.arenaApartSpec.pre6 enc Try.prog Try.f4 Rows.arenaApartRow.domain false) (Rows.arenaApartSpec.post enc Try.prog Try.f4 false true false false) := by
  refine returnsInHanded_of_change (C := Try.checked) (by kernel_rfl) started (by kernel_rfl) Try.func4
    (ChangeSpec.witness6 (enc := enc) (C := Try.checked) false ⟨#[], #[.agg #[.int .i64 0, .int .i64 0, .int .i64 0, .int .i64 0, .slice none 0 0], .int .i64 0], []⟩ 8 (by kernel_rfl) (by kernel_rfl) (by kernel_rfl) (by kernel_rfl)) ?_
  intro W base args ds gs before hval hW _ _
  have hW' := hW
  obtain ⟨p, q, hA, _, _, _, _⟩ := hW
  rw [Try.params4] at hA hval
  obtain ⟨v0, v1, d0, d1, p0, p1, rfl, rfl, rfl, h0, h1⟩ := trodAll_two hA
  obtain ⟨cs0, rfl, hr0⟩ := arg_agg (s := [.int .i64, .int .i64, .int .i64, .int .i64, .sl [.int .i64]]) (by kernel_rfl) (by kernel_rfl) (hval 0 _ _ rfl rfl) h0
  obtain ⟨c0, c1, c2, c3, a, l, c, cl, rfl, hc⟩ := cfg_open hr0
  obtain ⟨x, rfl, _, _, wx⟩ := open_int (k := .i64) (by kernel_rfl) (hval 1 _ _ rfl rfl) h1
  exact (ArenaApart_spec hc x).row fun w' hE => law_post (by kernel_rfl) rfl hW' (fun ds hd => by match ds, hd with | [_, _], _ => rfl) (by kernel_rfl) (tb := 4) rfl (by kernel_rfl) hE

theorem ArenaApart_holds : Rows.ArenaApartSaid :=
  OpenClaim.holds_of_wide F_l05_ArenaApart Try.f4 rfl rfl rfl rfl rfl rfl rfl ⟨rfl, rfl, rfl, rfl, rfl⟩ rfl rfl rfl rfl rfl (by kernel_rfl) Try.func4 (by kernel_rfl)
    (of_decide_eq_true (by kernel_rfl)) (by unfold Func.isWrapper; rw [if_neg (of_decide_eq_false (by kernel_rfl))]; exact ⟨rfl, rfl⟩)
    (fun os started H enc _ => ArenaApart_lifted os started H enc)
#print axioms ArenaApart_holds
end Go.Proofs.Ytapcknlnhpafcaa
