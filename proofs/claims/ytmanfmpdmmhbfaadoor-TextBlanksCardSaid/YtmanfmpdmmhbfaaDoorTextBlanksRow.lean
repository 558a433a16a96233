/- The law TextBlanks answers true for every input, and leaves its input as it was; what the library's variables hold is the program's own text's. -/
import Derived.Test.YtmanfmpdmmhbfaaDoorRows
import Derived.Test.YtmanfmpdmmhbfaaDoorCards
import Derived.Test.YtmanfmpdmmhbfaaDoorTie
import Derived.Test.YtmanfmpdmmhbfaaDoorText13
import Derived.Test.YtmanfmpdmmhbfaaDoorText15
namespace Go.Proofs.YtmanfmpdmmhbfaaDoor
open Go.Den Go.ChangeShapes Go.WideShapes Go.RowKit

set_option maxRecDepth 100000 in
theorem TextBlanks_witness (os : Os) {H : Type} (enc : TypeId × Value → H) :
    (OpenSpec.ofChange Rows.textBlanksSpec).preRow enc Tryd.prog Tryd.f6 Rows.textBlanksRow.domain false Rows.textBlanksRow.laid ((laidWorld os).forCall (fun _ _ => 0) ⟨#[], #[.agg #[.int .i64 0, .int .i64 0, .int .i64 0, .int .i64 0, .int .i64 0, .int .i64 0, .int .i64 0, .slice none 0 0, .int .i64 0, .int .i64 0, .int .i64 0], .int .u16 0], []⟩).memory #[.agg #[.int .i64 0, .int .i64 0, .int .i64 0, .int .i64 0, .int .i64 0, .int .i64 0, .int .i64 0, .slice none 0 0, .int .i64 0, .int .i64 0, .int .i64 0], .int .u16 0] := by
  have hw : (DataW.whole enc Tryd.prog ((laidWorld os).forCall (fun _ _ => 0) ⟨#[], #[.agg #[.int .i64 0, .int .i64 0, .int .i64 0, .int .i64 0, .int .i64 0, .int .i64 0, .int .i64 0, .slice none 0 0, .int .i64 0, .int .i64 0, .int .i64 0], .int .u16 0], []⟩).memory Tryd.f6.params.toList (OpenSpec.ofChange Rows.textBlanksSpec).vars false #[.agg #[.int .i64 0, .int .i64 0, .int .i64 0, .int .i64 0, .int .i64 0, .int .i64 0, .int .i64 0, .slice none 0 0, .int .i64 0, .int .i64 0, .int .i64 0], .int .u16 0].toList 8).map (fun x => (x.1, x.2.1)) =
      some ([.agg [.lit (.int .i64 0), .lit (.int .i64 0), .lit (.int .i64 0), .agg [.lit (.int .i64 0), .lit (.int .i64 0), .lit (.int .i64 0), .lit (.int .i64 0), .nil], .agg [.lit (.int .i64 0), .lit (.int .i64 0)], .lit (.int .i64 0)], .lit (.int .u16 0)], []) := by kernel_rfl
  obtain ⟨⟨x1, x2, x3⟩, hx, hx1⟩ := Option.map_eq_some_iff.1 hw
  simp only [Prod.mk.injEq] at hx1
  obtain ⟨rfl, rfl⟩ := hx1
  exact OpenSpec.preRow_of_cond 8 hx (by kernel_rfl) (fun k hk => by cases hk) (by kernel_rfl) (laid_met os _)

set_option maxRecDepth 100000 in
theorem TextBlanks_lifted (os : Os) (started : os.Started) (H : Type) (enc : TypeId × Value → H) (F : Stop.Interp) :
    ReturnsInHanded {} Tryd.checked os F_l25_TextBlanks .any ((OpenSpec.ofChange Rows.textBlanksSpec).preRow enc Tryd.prog Tryd.f6 Rows.textBlanksRow.domain false Rows.textBlanksRow.laid) (((OpenSpec.ofChange Rows.textBlanksSpec).at F).post enc Tryd.prog Tryd.f6 false true false false) := by
  refine returnsInHanded_of_row (C := Tryd.checked) (s := OpenSpec.ofChange Rows.textBlanksSpec) own_ started (by kernel_rfl) Tryd.func6
    (witness_row_atRef (enc := enc) (C := Tryd.checked) false (laidWorld os) #[.agg #[.int .i64 0, .int .i64 0, .int .i64 0, .int .i64 0, .int .i64 0, .int .i64 0, .int .i64 0, .slice none 0 0, .int .i64 0, .int .i64 0, .int .i64 0], .int .u16 0] rfl (by kernel_rfl) (by kernel_rfl) (by kernel_rfl) (TextBlanks_witness os enc)) ?_
  intro W base args ds gs before hval hW _ _ _ hL hS _
  have hg : Glo W := glo_of hL hS
  have hW' := hW
  obtain ⟨p, q, hA, _, _, _, _⟩ := hW
  rw [Tryd.params6] at hA hval
  obtain ⟨v0, v1, d0, d1, p0, p1, rfl, rfl, rfl, h0, h1⟩ := trodAll_two hA
  obtain ⟨cs0, rfl, hr0⟩ := arg_agg (s := [.int .i64, .int .i64, .int .i64, .int .i64, .int .i64, .int .i64, .int .i64, .sl [.int .i64], .int .i64, .int .i64, .int .i64]) (by kernel_rfl) (by kernel_rfl) (hval 0 _ _ rfl rfl) h0
  obtain ⟨x, ax, lx, cx, rfl, hx, hix, hcx⟩ := line_open hr0
  obtain ⟨i, rfl, _, _, wi⟩ := open_int (k := .u16) (by kernel_rfl) (hval 1 _ _ rfl rfl) h1
  exact (TextBlanks_spec hg hx hix (Go.bounds_u16 wi)).row fun w' hE => law_post (by kernel_rfl) rfl hW' (fun ds hd => by match ds, hd with | [_, _], _ => rfl) (by kernel_rfl) (tb := 4) rfl (by kernel_rfl) hE

theorem TextBlanks_holds : Rows.TextBlanksSaid :=
  OpenClaim.holds_of_cond F_l25_TextBlanks Tryd.f6 rfl rfl rfl rfl rfl rfl rfl ⟨rfl, rfl, rfl, rfl, rfl⟩ rfl rfl rfl rfl rfl (by kernel_rfl) Tryd.func6 (by kernel_rfl)
    (of_decide_eq_true (by kernel_rfl)) (by unfold Func.isWrapper; rw [if_neg (of_decide_eq_false (by kernel_rfl))]; exact ⟨rfl, rfl⟩)
    (fun os started H enc _ F0 => by rw [OpenClaim.pre_eq_preRow]; exact TextBlanks_lifted os started H enc F0)

theorem TextBlanks_card : Rows.TextBlanksCardSaid :=
  Claim7.holds_tied_plain_at .later [] [.data, .data, .data, .data, .sentinel, .sentinel, .pinned] true (true, "0ae572092518792ba085d3ef2f98f1cde7d8f291b8eaa938065a92467f47acd9") true
    TextBlanks_holds (fun _ h => by cases h) (by kernel_rfl) (fun _ h => by cases h) textBlanks_row_tie rfl ⟨rfl, rfl⟩ (by kernel_rfl) rfl
    (fun f fn hf hfn => by
      obtain rfl : f = F_l25_TextBlanks := Option.some.inj (hf.symm.trans (show Tryd.prog.funcNamed Rows.textBlanksRow.func = some F_l25_TextBlanks by kernel_rfl))
      obtain rfl : fn = Tryd.f6 := Option.some.inj (hfn.symm.trans Tryd.func6)
      refine ⟨by kernel_rfl, fun j t ht => ?_⟩
      rw [Tryd.params6] at ht
      match j, ht with
      | 0, ht => obtain rfl := Option.some.inj ht; exact (show Tryd.prog.wantsStandIn _ = false by kernel_rfl)
      | 1, ht => obtain rfl := Option.some.inj ht; exact (show Tryd.prog.wantsStandIn _ = false by kernel_rfl)
      | _ + 2, ht => simp at ht)
    (by kernel_rfl)
#print axioms TextBlanks_card
end Go.Proofs.YtmanfmpdmmhbfaaDoor
