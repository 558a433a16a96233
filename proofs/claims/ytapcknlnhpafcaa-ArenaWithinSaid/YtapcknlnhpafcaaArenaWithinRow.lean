/- The law ArenaWithin answers true for every input, and leaves its input as it was. -/
import Derived.Test.YtapcknlnhpafcaaRows
import Derived.Test.YtapcknlnhpafcaaArena10
namespace Go.Proofs.Ytapcknlnhpafcaa
open Go.Den Go.ChangeShapes Go.WideShapes Go.RowKit

set_option maxRecDepth 100000 in
theorem ArenaWithin_lifted (os : Os) (started : os.Started) (H : Type) (enc : TypeId × Value → H) :
    ReturnsInHanded {} Try.checked os F_l05_ArenaWithin .any (Rows.arenaWithinSpec.pre6 enc Try.prog Try.f8 Rows.arenaWithinRow.domain false) (Rows.arenaWithinSpec.post enc Try.prog Try.f8 false true false false) := by
  refine returnsInHanded_of_change (C := Try.checked) (by kernel_rfl) started (by kernel_rfl) Try.func8
    (ChangeSpec.witness6 (enc := enc) (C := Try.checked) false ⟨#[], #[.agg #[.int .i64 0, .int .i64 0, .int .i64 0, .int .i64 0, .slice none 0 0, .int .u8 0, .int .u8 0, .int .u8 0, .int .u16 0]], []⟩ 8 (by kernel_rfl) (by kernel_rfl) (by kernel_rfl) (by kernel_rfl)) ?_
  intro W base args ds gs before hval hW _ _
  have hW' := hW
  obtain ⟨p, q, hA, _, _, _, _⟩ := hW
  rw [Try.params8] at hA hval
  obtain ⟨v0, d0, rfl, rfl, h0⟩ := trodAll_one hA
  obtain ⟨cs0, rfl, hr0⟩ := arg_agg (s := [.int .i64, .int .i64, .int .i64, .int .i64, .sl [.int .i64], .int .u8, .int .u8, .int .u8, .int .u16]) (by kernel_rfl) (by kernel_rfl) (hval 0 _ _ rfl rfl) h0
  obtain ⟨c0, c1, c2, c3, a, l, c, cl, a5, a6, a7, a8, rfl, hc, k5, k6, k7, k8⟩ := inside_open hr0
  exact (ArenaWithin_spec hc k5 k6 k7 k8).row fun w' hE => law_post (by kernel_rfl) rfl hW' (fun ds hd => by match ds, hd with | [_], _ => rfl) (by kernel_rfl) (tb := 4) rfl (by kernel_rfl) hE

theorem ArenaWithin_holds : Rows.ArenaWithinSaid :=
  OpenClaim.holds_of_wide F_l05_ArenaWithin Try.f8 rfl rfl rfl rfl rfl rfl rfl ⟨rfl, rfl, rfl, rfl, rfl⟩ rfl rfl rfl rfl rfl (by kernel_rfl) Try.func8 (by kernel_rfl)
    (of_decide_eq_true (by kernel_rfl)) (by unfold Func.isWrapper; rw [if_neg (of_decide_eq_false (by kernel_rfl))]; exact ⟨rfl, rfl⟩)
    (fun os started H enc _ => ArenaWithin_lifted os started H enc)
#print axioms ArenaWithin_holds
end Go.Proofs.Ytapcknlnhpafcaa
