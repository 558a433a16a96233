/- The law TextParses answers true for every input, and leaves its input as it was; what the library's variables hold is the program's own text's. -/
import Derived.Test.YtmanfmpdmmhbfaaDoorRows
import Derived.Test.YtmanfmpdmmhbfaaDoorCards
import Derived.Test.YtmanfmpdmmhbfaaDoorTie
import Derived.Test.YtmanfmpdmmhbfaaDoorText13
import Derived.Test.YtmanfmpdmmhbfaaDoorText18
namespace Go.Proofs.YtmanfmpdmmhbfaaDoor
open Go.Den Go.ChangeShapes Go.WideShapes Go.RowKit

set_option maxRecDepth 100000 in
theorem TextParses_witness (os : Os) {H : Type} (enc : TypeId × Value → H) :
    (OpenSpec.ofChange Rows.textParsesSpec).preRow enc Tryd.prog Tryd.f3 Rows.textParsesRow.domain false Rows.textParsesRow.laid ((laidWorld os).forCall (fun _ _ => 0) ⟨#[], #[.string ⟨#[]⟩], []⟩).memory #[.string ⟨#[]⟩] := by
  have hw : (DataW.whole enc Tryd.prog ((laidWorld os).forCall (fun _ _ => 0) ⟨#[], #[.string ⟨#[]⟩], []⟩).memory Tryd.f3.params.toList (OpenSpec.ofChange Rows.textParsesSpec).vars false #[.string ⟨#[]⟩].toList 8).map (fun x => (x.1, x.2.1)) =
      some ([.lit (.string [])], []) := by kernel_rfl
  obtain ⟨⟨x1, x2, x3⟩, hx, hx1⟩ := Option.map_eq_some_iff.1 hw
  simp only [Prod.mk.injEq] at hx1
  obtain ⟨rfl, rfl⟩ := hx1
  exact OpenSpec.preRow_of_cond 8 hx (by kernel_rfl) (fun k hk => by cases hk) (by kernel_rfl) (laid_met os _)

set_option maxRecDepth 100000 in
theorem TextParses_lifted (os : Os) (started : os.Started) (H : Type) (enc : TypeId × Value → H) (F : Stop.Interp) :
    ReturnsInHanded {} Tryd.checked os F_l25_TextParses .any ((OpenSpec.ofChange Rows.textParsesSpec).preRow enc Tryd.prog Tryd.f3 Rows.textParsesRow.domain false Rows.textParsesRow.laid) (((OpenSpec.ofChange Rows.textParsesSpec).at F).post enc Tryd.prog Tryd.f3 false true false false) := by
  refine returnsInHanded_of_row (C := Tryd.checked) (s := OpenSpec.ofChange Rows.textParsesSpec) own_ started (by kernel_rfl) Tryd.func3
    (witness_row_atRef (enc := enc) (C := Tryd.checked) false (laidWorld os) #[.string ⟨#[]⟩] rfl (by kernel_rfl) (by kernel_rfl) (by kernel_rfl) (TextParses_witness os enc)) ?_
  intro W base args ds gs before hval hW _ _ _ hL hS _
  have hg : Glo W := glo_of hL hS
  have hW' := hW
  obtain ⟨p, q, hA, _, _, _, _⟩ := hW
  rw [Tryd.params3] at hA hval
  obtain ⟨v0, d0, rfl, rfl, h0⟩ := trodAll_one hA
  obtain ⟨s, rfl, _, _, ws⟩ := Go.ChangeMaps.open_string (by kernel_rfl) (hval 0 _ _ rfl rfl) h0
  exact (TextParses_spec hg s).row fun w' hE => law_post (by kernel_rfl) rfl hW' (fun ds hd => by match ds, hd with | [_], _ => rfl) (by kernel_rfl) (tb := 4) rfl (by kernel_rfl) hE

theorem TextParses_holds : Rows.TextParsesSaid :=
  OpenClaim.holds_of_cond F_l25_TextParses Tryd.f3 rfl rfl rfl rfl rfl rfl rfl ⟨rfl, rfl, rfl, rfl, rfl⟩ rfl rfl rfl rfl rfl (by kernel_rfl) Tryd.func3 (by kernel_rfl)
    (of_decide_eq_true (by kernel_rfl)) (by unfold Func.isWrapper; rw [if_neg (of_decide_eq_false (by kernel_rfl))]; exact ⟨rfl, rfl⟩)
    (fun os started H enc _ F0 => by rw [OpenClaim.pre_eq_preRow]; exact TextParses_lifted os started H enc F0)

theorem TextParses_card : Rows.TextParsesCardSaid :=
  Claim7.holds_tied_plain_at .later [] [.data, .data, .data, .data, .sentinel, .sentinel, .pinned] true (true, "0ae572092518792ba085d3ef2f98f1cde7d8f291b8eaa938065a92467f47acd9") true
    TextParses_holds (fun _ h => by cases h) (by kernel_rfl) (fun _ h => by cases h) textParses_row_tie rfl ⟨rfl, rfl⟩ (by kernel_rfl) rfl
    (fun f fn hf hfn => by
      obtain rfl : f = F_l25_TextParses := Option.some.inj (hf.symm.trans (show Tryd.prog.funcNamed Rows.textParsesRow.func = some F_l25_TextParses by kernel_rfl))
      obtain rfl : fn = Tryd.f3 := Option.some.inj (hfn.symm.trans Tryd.func3)
      refine ⟨by kernel_rfl, fun j t ht => ?_⟩
      rw [Tryd.params3] at ht
      match j, ht with
      | 0, ht => obtain rfl := Option.some.inj ht; exact (show Tryd.prog.wantsStandIn _ = false by kernel_rfl)
      | _ + 1, ht => simp at ht)
    (by kernel_rfl)
#print axioms TextParses_card
end Go.Proofs.YtmanfmpdmmhbfaaDoor
