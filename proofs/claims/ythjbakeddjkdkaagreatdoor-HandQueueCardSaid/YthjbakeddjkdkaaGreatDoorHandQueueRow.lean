/- The law HandQueue answers true for every input, and leaves its input as it was; what the library's variables hold is the program's own text's. -/
import Derived.Test.YthjbakeddjkdkaaGreatDoorRows
import Derived.Test.YthjbakeddjkdkaaGreatDoorCards
import Derived.Test.YthjbakeddjkdkaaGreatDoorTie
import Derived.Test.YthjbakeddjkdkaaGreatDoorHand10
namespace Go.Proofs.YthjbakeddjkdkaaGreatDoor
open Go.Den Go.ChangeShapes Go.WideShapes Go.RowKit

set_option maxRecDepth 100000 in
theorem HandQueue_witness (os : Os) {H : Type} (enc : TypeId × Value → H) :
    (OpenSpec.ofChange Rows.handQueueSpec).preRow enc Tryz.prog Tryz.f3 Rows.handQueueRow.domain false Rows.handQueueRow.laid ((laidWorld os).forCall (fun _ _ => 0) ⟨#[], #[.agg #[.int .i64 0, .int .i64 0, .int .i64 0, .int .i64 0, .slice none 0 0], .slice none 0 0, .slice none 0 0], []⟩).memory #[.agg #[.int .i64 0, .int .i64 0, .int .i64 0, .int .i64 0, .slice none 0 0], .slice none 0 0, .slice none 0 0] := by
  have hw : (DataW.whole enc Tryz.prog ((laidWorld os).forCall (fun _ _ => 0) ⟨#[], #[.agg #[.int .i64 0, .int .i64 0, .int .i64 0, .int .i64 0, .slice none 0 0], .slice none 0 0, .slice none 0 0], []⟩).memory Tryz.f3.params.toList (OpenSpec.ofChange Rows.handQueueSpec).vars false #[.agg #[.int .i64 0, .int .i64 0, .int .i64 0, .int .i64 0, .slice none 0 0], .slice none 0 0, .slice none 0 0].toList 8).map (fun x => (x.1, x.2.1)) =
      some ([.agg [.lit (.int .i64 0), .lit (.int .i64 0), .lit (.int .i64 0), .lit (.int .i64 0), .nil], .nil, .nil], []) := by kernel_rfl
  obtain ⟨⟨x1, x2, x3⟩, hx, hx1⟩ := Option.map_eq_some_iff.1 hw
  simp only [Prod.mk.injEq] at hx1
  obtain ⟨rfl, rfl⟩ := hx1
  exact OpenSpec.preRow_of_cond 8 hx (by kernel_rfl) (fun k hk => by cases hk) (by kernel_rfl) (laid_met os _)

set_option maxRecDepth 100000 in
theorem HandQueue_lifted (os : Os) (started : os.Started) (H : Type) (enc : TypeId × Value → H) (F : Stop.Interp) :
    ReturnsInHanded {} Tryz.checked os F_l17_HandQueue .any ((OpenSpec.ofChange Rows.handQueueSpec).preRow enc Tryz.prog Tryz.f3 Rows.handQueueRow.domain false Rows.handQueueRow.laid) (((OpenSpec.ofChange Rows.handQueueSpec).at F).post enc Tryz.prog Tryz.f3 false true false false) := by
  refine returnsInHanded_of_row (C := Tryz.checked) (s := OpenSpec.ofChange Rows.handQueueSpec) own_ started (by kernel_rfl) Tryz.func3
    (witness_row_atRef (enc := enc) (C := Tryz.checked) false (laidWorld os) #[.agg #[.int .i64 0, .int .i64 0, .int .i64 0, .int .i64 0, .slice none 0 0], .slice none 0 0, .slice none 0 0] rfl (by kernel_rfl) (by kernel_rfl) (by kernel_rfl) (HandQueue_witness os enc)) ?_
  intro W base args ds gs before hval hW _ _ _ hL hS _
  have hg : Glo W := glo_of hL hS
  have hW' := hW
  obtain ⟨p, q, hA, _, _, _, _⟩ := hW
  rw [Tryz.params3] at hA hval
  obtain ⟨v0, v1, v2, d0, d1, d2, p0, p1, p2, rfl, rfl, rfl, h0, h1, h2⟩ := trodAll_three hA
  obtain ⟨cs0, rfl, hr0⟩ := arg_agg (s := [.int .i64, .int .i64, .int .i64, .int .i64, .sl [.int .i64]]) (by kernel_rfl) (by kernel_rfl) (hval 0 _ _ rfl rfl) h0
  obtain ⟨c0, c1, c2, c3, a, l, c, cl, rfl, hc⟩ := cfg_open hr0
  obtain ⟨aA, lA, kA, rfl, hr1⟩ := arg_slice (e := T_api_Request_api_Request) (s := [.sl [.int .i64, .int .i64]]) (by kernel_rfl) (by kernel_rfl) (hval 1 _ _ rfl rfl) h1
  obtain ⟨ysA, hsA, hiA⟩ := reqs_open hr1
  obtain ⟨aB, lB, kB, rfl, hr2⟩ := arg_slice (e := T_api_Request_api_Request) (s := [.sl [.int .i64, .int .i64]]) (by kernel_rfl) (by kernel_rfl) (hval 2 _ _ rfl rfl) h2
  obtain ⟨ysB, hsB, hiB⟩ := reqs_open hr2
  exact (HandQueue_spec hg hc hsA hsB (fun x hx => (List.mem_append.1 hx).elim (hiA x) (hiB x))).row fun w' hE => law_post (by kernel_rfl) rfl hW' (fun ds hd => by match ds, hd with | [_, _, _], _ => rfl) (by kernel_rfl) (tb := 4) rfl (by kernel_rfl) hE

theorem HandQueue_holds : Rows.HandQueueSaid :=
  OpenClaim.holds_of_cond F_l17_HandQueue Tryz.f3 rfl rfl rfl rfl rfl rfl rfl ⟨rfl, rfl, rfl, rfl, rfl⟩ rfl rfl rfl rfl rfl (by kernel_rfl) Tryz.func3 (by kernel_rfl)
    (of_decide_eq_true (by kernel_rfl)) (by unfold Func.isWrapper; rw [if_neg (of_decide_eq_false (by kernel_rfl))]; exact ⟨rfl, rfl⟩)
    (fun os started H enc _ F0 => by rw [OpenClaim.pre_eq_preRow]; exact HandQueue_lifted os started H enc F0)

theorem HandQueue_card : Rows.HandQueueCardSaid :=
  Claim7.holds_tied_plain_at .later [] [.wider, .wider, .wider] true (true, "afe9d2fe2fb43a6639c3fa0539a775f5a107d5eb73415fb3f80d95241df31baf") true
    HandQueue_holds (fun _ h => by cases h) (by kernel_rfl) (fun _ h => by cases h) handQueue_row_tie rfl ⟨rfl, rfl⟩ (by kernel_rfl) rfl
    (fun f fn hf hfn => by
      obtain rfl : f = F_l17_HandQueue := Option.some.inj (hf.symm.trans (show Tryz.prog.funcNamed Rows.handQueueRow.func = some F_l17_HandQueue by kernel_rfl))
      obtain rfl : fn = Tryz.f3 := Option.some.inj (hfn.symm.trans Tryz.func3)
      refine ⟨by kernel_rfl, fun j t ht => ?_⟩
      rw [Tryz.params3] at ht
      match j, ht with
      | 0, ht => obtain rfl := Option.some.inj ht; exact (show Tryz.prog.wantsStandIn _ = false by kernel_rfl)
      | 1, ht => obtain rfl := Option.some.inj ht; exact (show Tryz.prog.wantsStandIn _ = false by kernel_rfl)
      | 2, ht => obtain rfl := Option.some.inj ht; exact (show Tryz.prog.wantsStandIn _ = false by kernel_rfl)
      | _ + 3, ht => simp at ht)
    (by kernel_rfl)
#print axioms HandQueue_card
end Go.Proofs.YthjbakeddjkdkaaGreatDoor
