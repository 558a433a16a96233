/- A worker's own blocks: made; there are none. -/
import Derived.Test.YthjbakeddjkdkaaGreatDoorHand3
namespace Go.Proofs.YthjbakeddjkdkaaGreatDoor
open Go.Den
set_option maxRecDepth 100000
set_option maxHeartbeats 4000000

theorem elem_map : Elem Pg T_Lmap_api_Block_struct T_map_api_Block_struct 1 8 := Elem.of (by kernel_rfl)
theorem elem_rows : Elem Pg T_LLapi_Block T_Lapi_Block 1 24 := Elem.of (by kernel_rfl)

/-- A stock of n classes without a block. -/
def StockAt (w : World) (b n : Nat) : Prop := ∃ (x0 x1 x2 x3 : Int) (ca : Option Addr) (cl cc : Nat) (ta : Option Addr) (tl tc g : Nat),
  w.heap[b]? = some (.cells [.int .i64 x0, .int .i64 x1, .int .i64 x2, .int .i64 x3, .slice ca cl cc, .slice (some ⟨g, 0, none⟩) n n, .slice ta tl tc].toArray T_stock_Stock_stock_Stock (0, 0)) ∧
  w.heap[g]? = some (.cells (List.replicate n (.slice none 0 0)).toArray T_Lapi_Block (0, 0))
theorem StockAt.eff {w w' : World} {b n : Nat} (h : StockAt w b n) (hE : Eff w w' []) : StockAt w' b n := by
  obtain ⟨x0, x1, x2, x3, ca, cl, cc, ta, tl, tc, g, h1, h2⟩ := h
  exact ⟨x0, x1, x2, x3, ca, cl, cc, ta, tl, tc, g, hE.obj0 h1, hE.obj0 h2⟩

section
variable {w : World} {c0 c1 c2 c3 : Int} {ca : Option Addr} {cl cc : Nat} {cls : List Int}

theorem stock_New_spec (hc : Cfg w.heap ca cl cls) (hl : cls.length ≤ 1000) :
    CALL Pg F_stock_New [cfgV c0 c1 c2 c3 ca cl cc] w fun v w' => Eff w w' [] ∧ ∃ b, v = .pointer (some ⟨b, 0, none⟩) ∧ w.heap.size ≤ b ∧ StockAt w' b cls.length := by
  apply C_stock_New
  unfold D_stock_New
  have hll := hc.l_eq
  subst hll
  intro b1 w1 hE1 hs1 hb1 w2 hE2 _
  have hE02 := hE1.trans0 hE2
  have hb12 := hE2.obj0 hb1
  rw [CFG_ld hb12, LDl_of (cellH_of hb12 4)]
  constructor
  · refine (conf_Copy_spec (hc.eff hE02) (by omega)).mono fun v w3 ⟨hE3, a3, k3, hv, _, _⟩ => ?_
    subst hv
    rw [AGG_cfg]
    have hb13 := hE3.obj0 hb12
    refine ⟨KEEP_cell (cellH_of hb13 4) KEEP_nil, ?_⟩
    refine SEML_mk elem_rows (by omega) (z0 := .slice none 0 0) (by kernel_rfl) (by omega) fun g w4 hE4 _ hg4 => ?_
    rw [SLV_slice]
    have hE04 := (hE02.trans0 hE3).trans0 hE4
    have hb14 := hE4.obj0 hb13
    refine ⟨KEEP_nil, ?_⟩
    intro b2 wa hEa hsa hba
    have hE0a := hE04.trans0 hEa
    have hb1a := hEa.obj0 hb14
    have hga := hEa.obj0 hg4
    have hgl := obj_lt hg4
    have hl1 := obj_lt hb14
    refine ⟨KEEP_nil, ?_⟩
    rw [LDl_of (cellH_of hb1a 4)]
    have hs2 : w.heap.size ≤ b2 := by have := hE04.size; omega
    refine LOOP_of (fun vs w' => ∃ (i : Nat) (a : Option Addr) (c : Nat) (xs : List Value), vs = [.int .i64 i] ∧ i ≤ cls.length ∧ Eff w w' [] ∧ xs.length = i ∧ w'.ownsRow 0 T_map_api_Block_struct 1 (.slice a i c) i xs ∧ (∀ b ∈ ownL (.slice a i c), b2 < b) ∧
        w'.heap[b2]? = some (.cells [.int .i64 c0, .int .i64 c1, .int .i64 c2, .int .i64 c3, .slice a3 cls.length k3, .slice (some ⟨g, 0, none⟩) cls.length cls.length, .slice a i c].toArray T_stock_Stock_stock_Stock (0, 0)) ∧ w'.heap[g]? = some (.cells (List.replicate cls.length (.slice none 0 0)).toArray T_Lapi_Block (0, 0)))
      (fun vs _ => match vs with | [.int _ n] => cls.length - n.toNat | _ => 0) ⟨0, none, 0, [], rfl, by omega, hE0a, rfl, ⟨rfl, .inl ⟨rfl, rfl⟩⟩, by simp [ownL, Value.ownBlock], hba, hga⟩ ?_
    intro wb v1 ⟨i, a, c, xs, hv, hi, hEb, hxs, ho, hown, hb2b, hgb⟩
    cases hv
    rw [INTV_int]
    refine ITE_d (fun h1 => ?_) (fun h1 => ?_)
    · rw [LDl_of (cellH_of hb2b 6)]
      intro b3 wc hEc hsc hbc b4 wd hEd hsd hbd
      have hEcd := hEc.trans0 hEd
      have hb2d := hEcd.obj0 hb2b
      have hl2 := obj_lt hb2d
      have hl2b := obj_lt hb2b
      have hgd := hEcd.obj0 hgb
      refine SEML_app (m := 1) (news := [.map (some b3)]) elem_map (own_eff0 ho hEcd) rfl (.inr ⟨b4, 0, rfl, fun j u hu => by rw [cellH_of hbd, Nat.zero_add]; exact hu⟩) (by simp only [List.mem_cons, List.not_mem_nil, or_false]; rintro u rfl; trivial)
        (by omega) (by omega) (Nat.zero_le _) fun a' c' we hoe hEe hne => ?_
      rw [SLV_slice]
      have hge : ∀ b ∈ ownL (.slice a i c), w.heap.size ≤ b := fun b hb => by have := hown b hb; omega
      have hb2e := hEe.obj hb2d (fun h => by have := hown _ h; omega)
      have hgg : g < b2 := by omega
      have hge2 := hEe.obj hgd (fun h => by have := hown _ h; omega)
      have hown' : ∀ b ∈ ownL (.slice a' (i + 1) c'), b2 < b := fun b hb => by
        rcases hne b hb with h | h
        · exact hown b h
        · omega
      refine ST1_of trivial hb2e (by simp) fun wf hbf hEf => ?_
      have hE0f : Eff w wf [] := ((hEb.trans0 hEcd).own hEe hge).own hEf (by simpa using hs2)
      refine BINDw (by omega) (by omega) ⟨⟨i + 1, a', c', xs ++ [.map (some b3)], rfl, by omega, hE0f, by simp [hxs], own_eff hoe hEf (fun b hb => by have := hown' b hb; simp; omega), hown', hbf, hEf.obj hge2 (by simp; omega)⟩, by first | omega | (dsimp only; omega)⟩
    · have hil : i = cls.length := by omega
      subst hil
      exact ⟨hEb, b2, rfl, hs2, _, _, _, _, _, _, _, _, _, _, g, hb2b, hgb⟩
  · refine SEML_mk elem_rows (by omega) (z0 := .slice none 0 0) (by kernel_rfl) (by omega) fun g w3 hE3 _ hg3 => ?_
    rw [SLV_slice]
    have hb13 := hE3.obj0 hb12
    refine ⟨KEEP_cfg hb13, ?_⟩
    refine (conf_Copy_spec (hc.eff (hE02.trans0 hE3)) (by omega)).mono fun v w4 ⟨hE4, a3, k3, hv, _, _⟩ => ?_
    subst hv
    rw [AGG_cfg]
    have hE04 := (hE02.trans0 hE3).trans0 hE4
    have hb14 := hE4.obj0 hb13
    have hg4 := hE4.obj0 hg3
    refine ⟨KEEP_nil, ?_⟩
    intro b2 wa hEa hsa hba
    have hE0a := hE04.trans0 hEa
    have hb1a := hEa.obj0 hb14
    have hga := hEa.obj0 hg4
    have hgl := obj_lt hg4
    have hl1 := obj_lt hb14
    refine ⟨KEEP_nil, ?_⟩
    rw [LDl_of (cellH_of hb1a 4)]
    have hs2 : w.heap.size ≤ b2 := by have := hE04.size; omega
    refine LOOP_of (fun vs w' => ∃ (i : Nat) (a : Option Addr) (c : Nat) (xs : List Value), vs = [.int .i64 i] ∧ i ≤ cls.length ∧ Eff w w' [] ∧ xs.length = i ∧ w'.ownsRow 0 T_map_api_Block_struct 1 (.slice a i c) i xs ∧ (∀ b ∈ ownL (.slice a i c), b2 < b) ∧
        w'.heap[b2]? = some (.cells [.int .i64 c0, .int .i64 c1, .int .i64 c2, .int .i64 c3, .slice a3 cls.length k3, .slice (some ⟨g, 0, none⟩) cls.length cls.length, .slice a i c].toArray T_stock_Stock_stock_Stock (0, 0)) ∧ w'.heap[g]? = some (.cells (List.replicate cls.length (.slice none 0 0)).toArray T_Lapi_Block (0, 0)))
      (fun vs _ => match vs with | [.int _ n] => cls.length - n.toNat | _ => 0) ⟨0, none, 0, [], rfl, by omega, hE0a, rfl, ⟨rfl, .inl ⟨rfl, rfl⟩⟩, by simp [ownL, Value.ownBlock], hba, hga⟩ ?_
    intro wb v1 ⟨i, a, c, xs, hv, hi, hEb, hxs, ho, hown, hb2b, hgb⟩
    cases hv
    rw [INTV_int]
    refine ITE_d (fun h1 => ?_) (fun h1 => ?_)
    · rw [LDl_of (cellH_of hb2b 6)]
      intro b3 wc hEc hsc hbc b4 wd hEd hsd hbd
      have hEcd := hEc.trans0 hEd
      have hb2d := hEcd.obj0 hb2b
      have hl2 := obj_lt hb2d
      have hl2b := obj_lt hb2b
      have hgd := hEcd.obj0 hgb
      refine SEML_app (m := 1) (news := [.map (some b3)]) elem_map (own_eff0 ho hEcd) rfl (.inr ⟨b4, 0, rfl, fun j u hu => by rw [cellH_of hbd, Nat.zero_add]; exact hu⟩) (by simp only [List.mem_cons, List.not_mem_nil, or_false]; rintro u rfl; trivial)
        (by omega) (by omega) (Nat.zero_le _) fun a' c' we hoe hEe hne => ?_
      rw [SLV_slice]
      have hge : ∀ b ∈ ownL (.slice a i c), w.heap.size ≤ b := fun b hb => by have := hown b hb; omega
      have hb2e := hEe.obj hb2d (fun h => by have := hown _ h; omega)
      have hgg : g < b2 := by omega
      have hge2 := hEe.obj hgd (fun h => by have := hown _ h; omega)
      have hown' : ∀ b ∈ ownL (.slice a' (i + 1) c'), b2 < b := fun b hb => by
        rcases hne b hb with h | h
        · exact hown b h
        · omega
      refine ST1_of trivial hb2e (by simp) fun wf hbf hEf => ?_
      have hE0f : Eff w wf [] := ((hEb.trans0 hEcd).own hEe hge).own hEf (by simpa using hs2)
      refine BINDw (by omega) (by omega) ⟨⟨i + 1, a', c', xs ++ [.map (some b3)], rfl, by omega, hE0f, by simp [hxs], own_eff hoe hEf (fun b hb => by have := hown' b hb; simp; omega), hown', hbf, hEf.obj hge2 (by simp; omega)⟩, by first | omega | (dsimp only; omega)⟩
    · have hil : i = cls.length := by omega
      subst hil
      exact ⟨hEb, b2, rfl, hs2, _, _, _, _, _, _, _, _, _, _, g, hb2b, hgb⟩

/-- It has no blocks of its own. -/
theorem Blocks_spec {b n : Nat} (h : StockAt w b n) (hn : 1 ≤ n) : CALL Pg F_pstock_Stock_Blocks [.pointer (some ⟨b, 0, none⟩), .int .i64 0] w fun v w' => Eff w w' [] ∧ v = .slice none 0 0 := by
  obtain ⟨x0, x1, x2, x3, ca, cl, cc, ta, tl, tc, g, h1, h2⟩ := h
  apply C_pstock_Stock_Blocks
  unfold D_pstock_Stock_Blocks
  have his : CALL Pg F_pstock_Stock_is [.pointer (some ⟨b, 0, none⟩), .int .i64 0] w fun v w' => w' = w ∧ v = .bool true := by
    apply C_pstock_Stock_is
    unfold D_pstock_Stock_is
    refine ITE_d (fun _ => ?_) (fun h => absurd (Int.le_refl 0) h)
    rw [NNp, LDl_of (cellH_of h1 5)]
    exact ⟨rfl, by rw [decide_eq_true (by omega)]⟩
  refine his.mono fun v w1 ⟨hw, hv⟩ => ?_
  subst hw
  subst hv
  rw [BOOLV_bool]
  refine ITE_intro (fun h => by cases h) (fun _ => ?_)
  rw [NNp, LDl_of (cellH_of h1 5)]
  refine ⟨Int.le_refl 0, by omega, ?_⟩
  have hcell : cellH w1.heap g (0 + (0 : Int).toNat * 1) = some (.slice none 0 0) := by
    rw [cellH_of h2]
    exact List.getElem?_replicate_of_lt (by show 0 < n; omega)
  show LDl w1 ⟨g, 0 + (0 : Int).toNat * 1, none⟩ _
  rw [LDl_of hcell]
  have hclone : CALL Pg F_slices_Clone_Lapi_Block_api_Block [.slice none 0 0] w1 fun v w' => w' = w1 ∧ v = .slice none 0 0 := by
    apply C_slices_Clone_Lapi_Block_api_Block
    unfold D_slices_Clone_Lapi_Block_api_Block
    refine SILN_eqnil (e := T_api_Block_api_Block) (by kernel_rfl) ?_
    rw [BOOLV_bool]
    exact ITE_intro (fun _ => ⟨rfl, rfl⟩) (fun h => by cases h)
  refine hclone.mono fun v w2 ⟨hw, hv⟩ => ?_
  subst hw
  subst hv
  rw [SLV_slice]
  exact ⟨Eff.refl _, rfl⟩
end
end Go.Proofs.YthjbakeddjkdkaaGreatDoor
