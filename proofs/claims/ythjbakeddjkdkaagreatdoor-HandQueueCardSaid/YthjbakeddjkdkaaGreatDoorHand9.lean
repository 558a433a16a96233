/- The law HandQueue. -/
import Derived.Test.YthjbakeddjkdkaaGreatDoorHand8
namespace Go.Proofs.YthjbakeddjkdkaaGreatDoor
open Go.Den
set_option maxRecDepth 100000
set_option maxHeartbeats 4000000

def inR (k : Int) : Prop := -9223372036854775808 ≤ k ∧ k ≤ 9223372036854775807
theorem wrap_back {k : Int} (h : inR k) : IntKind.i64.wrap (IntKind.i64.wrap (k + 1) - 1) = k := by
  unfold inR at h
  simp only [IntKind.wrap, IntKind.signed, IntKind.bits]
  simp
  omega

section
variable {w : World}

theorem own_lt {base e size n : Nat} {v : Value} {xs : List Value} (h : w.ownsRow base e size v n xs) : ∀ b ∈ ownL v, b < w.heap.size := by
  rcases h.2 with ⟨rfl, _⟩ | ⟨g, cap, cur, rfl, _, hg, _⟩
  · intro b hb; simp [ownL, Value.ownBlock] at hb
  · intro b hb
    have : b = g := by simpa [ownL, Value.ownBlock] using hb
    subst this
    exact obj_lt hg

theorem HandAt.upon {w' : World} {S : List Nat} {h sp sk : Nat} {qa : Option Addr} {ql qc : Nat} (hh : HandAt w h sp sk qa ql qc) (hE : Eff w w' S) (hS : h ∉ S) : HandAt w' h sp sk qa ql qc := by
  obtain ⟨x, k, n, h1⟩ := hh
  exact ⟨x, k, n, hE.obj h1 hS⟩
theorem HandAt.lt {h sp sk : Nat} {qa : Option Addr} {ql qc : Nat} (hh : HandAt w h sp sk qa ql qc) : h < w.heap.size := by
  obtain ⟨x, k, n, h1⟩ := hh
  exact obj_lt h1

theorem Ask_first {h sp sk : Nat} {ys : List Iv} (hh : HandAt w h sp sk none 0 0) {a : Option Addr} {l c : Nat} (hy : SlV w.heap a l ys) (hl : ys.length ≤ 1000000) :
    CALL Pg F_phand_Hand_Ask [.pointer (some ⟨h, 0, none⟩), .slice a l c] w fun v w' => v = .tuple #[] ∧ Eff w w' [h] ∧ ∃ q k, HandAt w' h sp sk q ys.length k ∧ Ow w' (.slice q ys.length k) ys ∧ h ∉ ownL (.slice q ys.length k) ∧ ∀ b ∈ ownL (.slice q ys.length k), b = w.heap.size := by
  refine (Ask_spec (xs := []) (ys := ys) hh nil_ow (by simp [ownL, Value.ownBlock]) hy (by rw [List.length_nil]; omega)).mono fun v w' ⟨hv, hE, q, k, h1, h2, h3, h4⟩ => ?_
  rw [List.length_nil, Nat.zero_add] at h1 h2 h3 h4
  refine ⟨hv, hE, q, k, h1, h2, h3, fun b hb => ?_⟩
  rcases h4 b hb with q | q
  · simp [ownL, Value.ownBlock] at q
  · exact q

variable {c0 c1 c2 c3 : Int} {ca : Option Addr} {cl cc : Nat} {cls : List Int} {aa ba : Option Addr} {al bl ac bc : Nat} {xs ys : List Iv}

theorem getD_left {i : Nat} (h : i < xs.length) : (xs ++ ys).getD i (0, 0) = xs.getD i (0, 0) := by
  simp [List.getD_eq_getElem?_getD, List.getElem?_append_left h]
theorem getD_right {i : Nat} (h : xs.length ≤ i) : (xs ++ ys).getD i (0, 0) = ys.getD (i - xs.length) (0, 0) := by
  simp [List.getD_eq_getElem?_getD, List.getElem?_append_right h]

theorem HandQueue_spec (hf : Fld w) (hc : Cfg w.heap ca cl cls) (ha : SlV w.heap aa al xs) (hb : SlV w.heap ba bl ys) (hr : ∀ x ∈ xs ++ ys, inR x.1) :
    CALL Pg F_l17_HandQueue [cfgV c0 c1 c2 c3 ca cl cc, .slice aa al ac, .slice ba bl bc] w fun v w' => Eff w w' [] ∧ v = .bool true := by
  apply C_l17_HandQueue
  unfold D_l17_HandQueue
  obtain ⟨e1, hu1⟩ := u_shop
  have hal := ha.1
  have hbl := hb.1
  subst hal
  subst hbl
  intro b1 w1 hE1 hs1 hb1
  refine (speaks_spec (hf.eff hE1)).mono fun v w2 ⟨hE2, hv⟩ => ?_
  subst hv
  rw [BOOLV_bool]
  refine ITE_intro (fun h => by cases h) (fun _ => ?_)
  have hE02 := hE1.trans0 hE2
  have hb12 := hE2.obj0 hb1
  rw [CFG_ld hb12]
  refine (r04_May_spec (hc.eff hE02)).mono fun v w3 ⟨hE3, t, hv, ht⟩ => ?_
  subst hv
  rw [BOOLV_bool]
  have hE03 := hE02.trans0 hE3
  have hb13 := hE3.obj0 hb12
  refine ITE_intro (fun _ => ⟨hE03, rfl⟩) (fun h => ?_)
  have hm : mayP c0 c1 c2 c3 cls := ht.1 (by simpa using h)
  refine ITE_d (fun _ => ⟨hE03, rfl⟩) (fun hxl => ?_)
  refine ITE_d (fun _ => ⟨hE03, rfl⟩) (fun hyl => ?_)
  rw [CFG_ld hb13]
  refine (Open_spec (hf.eff hE03) (hc.eff hE03) hm).mono fun v w4 ⟨hE4, sp, hv, hsh, _⟩ => ?_
  subst hv
  rw [TUP_pi]
  refine SILN_eqptr hu1 ?_
  rw [BOOLV_bool, ITE_false]
  have hE04 := hE03.trans0 hE4
  have hb14 := hE4.obj0 hb13
  rw [LDi_of (cellH_of hb14 0)]
  refine BINDx rfl ?_
  have hk1 : 1 ≤ cls.length ∧ cls.length ≤ 16 := hm.1.2
  refine (hand_New_at hsh (by omega) _).mono fun v w5 ⟨hE5, h, sk, wS, hv, hh, hst, hES, hES5, hSh⟩ => ?_
  subst hv
  rw [PTRV_ptr]
  have hE05 := hE04.trans0 hE5
  have hE0S := hE04.trans0 hES
  have hszS := hE0S.size
  have hlh := hh.lt
  intro b2 w6 hE6 hs6 hb6
  have hown6 : w6.ownsRow 0 T_api_Request_api_Request 2 (.slice (some ⟨b2, 0, none⟩) 0 0) 0 [] := own_mk hb6 rfl (Nat.le_refl _) (by decide) rfl rfl (Nat.zero_le _)
  have hE06 := hE05.trans0 hE6
  have hsz5 := hE05.size
  have hsz6 := hE6.size
  refine SEML_app (m := xs.length) (news := xs.flatMap encV) elem_iv hown6 (by rw [flat_len]) (sl_src (ha.eff hE06)) (flat_scal xs) (by omega) (by omega) (Nat.zero_le _) fun a3 k3 w7 ho7 hE7 hb7 => ?_
  rw [SLV_slice]
  rw [Nat.zero_add] at ho7 hb7 ⊢
  rw [List.nil_append] at ho7
  have ho7 : Ow w7 (.slice a3 xs.length k3) xs := ho7
  have hge2 : ∀ b ∈ ownL (.slice (some ⟨b2, 0, none⟩) 0 0), b = b2 := by simp [ownL, Value.ownBlock]
  have hlo3 : ∀ b ∈ ownL (.slice a3 xs.length k3), w5.heap.size ≤ b := fun b hb => by
    rcases hb7 b hb with q | q
    · rw [hge2 b q]; exact hs6
    · omega
  have hhi3 := own_lt ho7
  have hE57 : Eff w5 w7 [] := hE6.own hE7 (fun b hb => by rw [hge2 b hb]; exact hs6)
  have hE07 := hE05.trans0 hE57
  have hsz7 := hE57.size
  refine (Ask_first (hh.eff hE57) ho7.sl.2 (by omega)).mono fun v w8 ⟨hv, hE8, q1, k1, hh8, ho8, hn8, hq8⟩ => ?_
  subst hv
  rw [TUP_unit]
  have hE08 : Eff w w8 [] := hE07.own hE8 (by simp; omega)
  have hsz8 := hE8.size
  refine (Ask_spec hh8 ho8 hn8 (hb.eff hE08) (by omega)).mono fun v w9 ⟨hv, hE9, q2, k2, hh9, ho9, hn9, hq9⟩ => ?_
  subst hv
  rw [TUP_unit]
  have hS9 : ∀ b ∈ h :: ownL (.slice q1 xs.length k1), wS.heap.size ≤ b := fun b hb => by
    rcases List.mem_cons.1 hb with q | q
    · omega
    · rw [hq8 b q]; have := hES5.size; omega
  have hES9 : Eff wS w9 [] := ((hES5.trans0 hE57).own hE8 (by simp; omega)).own hE9 hS9
  have hE09 := hE0S.trans0 hES9
  have hlo2 : ∀ b ∈ ownL (.slice q2 (xs.length + ys.length) k2), w7.heap.size ≤ b := fun b hb => by
    rcases hq9 b hb with q | q
    · rw [hq8 b q]; omega
    · omega
  have hn3 : h ∉ ownL (.slice a3 xs.length k3) := fun hm => by have := hlo3 h hm; omega
  have ho39 : Ow w9 (.slice a3 xs.length k3) xs := own_eff (own_eff ho7 hE8 (fun b hb => by simp; intro q; exact hn3 (q ▸ hb))) hE9 (fun b hb => by
    rw [List.mem_cons, not_or]
    refine ⟨fun q => hn3 (q ▸ hb), fun q => ?_⟩
    have := hq8 b q
    have := hhi3 b hb
    omega)
  -- the row that was handed over is written into
  refine LOOP_of (fun vs w' => ∃ (i : Nat) (zs : List Iv), vs = [.int .i64 i] ∧ i ≤ xs.length ∧ zs.length = xs.length ∧ Ow w' (.slice a3 xs.length k3) zs ∧ Eff w9 w' (ownL (.slice a3 xs.length k3)))
    (fun vs _ => match vs with | [.int _ n] => xs.length - n.toNat | _ => 0) ⟨0, xs, rfl, by omega, rfl, ho39, (Eff.refl w9).weak (by simp)⟩ ?_
  intro w10 v11 ⟨i, zs, hv, hi, hzl, hoz, hE10⟩
  cases hv
  rw [INTV_int]
  refine ITE_d (fun h1 => ?_) (fun h1 => ?_)
  · have hoz' : Ow w10 (.slice a3 xs.length k3) zs := hoz
    refine IDX_v hoz'.sl.2 (by omega) h1 fun b o hcA hcB => ?_
    rw [LDi_of hcB]
    refine BINDx rfl ?_
    refine IDX_st1 hoz' (by omega) fun w11 ho11 hE11 => ?_
    exact BINDw (by omega) (by omega) ⟨⟨i + 1, _, rfl, by omega, by rw [List.length_set]; exact hzl, ho11, effg hE10 hE11⟩, by first | omega | (dsimp only; omega)⟩
  have hh10 := hh9.upon hE10 hn3
  have ho10 : Ow w10 (.slice q2 (xs.length + ys.length) k2) (xs ++ ys) := own_eff ho9 hE10 (fun b hb hm => by have := hlo2 b hb; have := hhi3 b hm; omega)
  have hhi2 := own_lt ho10
  have hES10 : Eff wS w10 [] := hES9.own hE10 (fun b hb => by have := hlo3 b hb; have := hES5.size; omega)
  have hlen : (xs ++ ys).length = xs.length + ys.length := List.length_append
  refine (Queue_spec hh10 ho10 (by omega)).mono fun v w12 ⟨hE12, a4, k4, hv, ho4, hlo4⟩ => ?_
  subst hv
  rw [SLV_slice]
  have hES12 := hES10.trans0 hE12
  have hsz10 := hE12.size
  have hlh10 := hh10.lt
  have hn4 : h ∉ ownL (.slice a4 (xs ++ ys).length k4) := fun hm => by have := hlo4 h hm; omega
  have hlo4S : ∀ b ∈ ownL (.slice a4 (xs ++ ys).length k4), wS.heap.size ≤ b := fun b hb => by have := hlo4 b hb; have := hES10.size; omega
  refine LOOP_of (fun vs w' => ∃ (i : Nat) (zs : List Iv), vs = [.bool false, .int .i64 i] ∧ i ≤ (xs ++ ys).length ∧ zs.length = (xs ++ ys).length ∧ (∀ j, i ≤ j → zs.getD j (0, 0) = (xs ++ ys).getD j (0, 0)) ∧ (0 < i → (zs.getD 0 (0, 0)).1 = IntKind.i64.wrap (((xs ++ ys).getD 0 (0, 0)).1 + 1)) ∧
      Ow w' (.slice a4 (xs ++ ys).length k4) zs ∧ Eff w12 w' (ownL (.slice a4 (xs ++ ys).length k4)))
    (fun vs _ => match vs with | [_, .int _ n] => (xs ++ ys).length - n.toNat | _ => 0) ⟨0, xs ++ ys, rfl, by omega, rfl, fun _ _ => rfl, fun h => absurd h (by omega), ho4, (Eff.refl w12).weak (by simp)⟩ ?_
  intro w13 v13 v14 ⟨i, zs, hv, hi, hzl, hzr, hz0, hoz, hE13⟩
  cases hv
  rw [INTV_int, BOOLV_bool]
  have hES13 : Eff wS w13 [] := hES12.own hE13 hlo4S
  have hE013 := hE0S.trans0 hES13
  refine ITE_d (fun h1 => ?_) (fun h1 => ?_)
  · have hil : i < (xs ++ ys).length := by omega
    -- what an entry does: it is what it should be, and its kind is one more
    have key : ∀ {w' : World}, Eff w13 w' [] → ∀ k, k = IntKind.i64.wrap ((zs.getD i (0, 0)).1 + 1) → IDX a4 (xs ++ ys).length i 2 fun b o => ST1 w' ⟨b, o, none⟩ (.int .i64 k) fun w'' => BIND (IntKind.i64.wrap ((i : Int) + 1)) fun n =>
        ((∃ (i : Nat) (zs : List Iv), [Value.bool false, .int .i64 n] = [.bool false, .int .i64 i] ∧ i ≤ (xs ++ ys).length ∧ zs.length = (xs ++ ys).length ∧ (∀ j, i ≤ j → zs.getD j (0, 0) = (xs ++ ys).getD j (0, 0)) ∧ (0 < i → (zs.getD 0 (0, 0)).1 = IntKind.i64.wrap (((xs ++ ys).getD 0 (0, 0)).1 + 1)) ∧
          Ow w'' (.slice a4 (xs ++ ys).length k4) zs ∧ Eff w12 w'' (ownL (.slice a4 (xs ++ ys).length k4))) ∧ (xs ++ ys).length - n.toNat < (xs ++ ys).length - (i : Int).toNat) := by
      intro w' hE' k hk
      refine IDX_st0 (Ow.eff hoz hE') (by omega) fun w'' ho'' hE'' => ?_
      refine BINDw (by omega) (by omega) ⟨⟨i + 1, _, rfl, by omega, by rw [List.length_set]; exact hzl, fun j hj => ?_, fun _ => ?_, ho'', (hE13.trans (hE'.trans hE'')).weak (by intro b hb _; simpa using hb)⟩, by omega⟩
      · rw [List.getD_eq_getElem?_getD, List.getElem?_set_ne (by omega), ← List.getD_eq_getElem?_getD]
        exact hzr j (by omega)
      · by_cases h0 : i = 0
        · subst h0
          rw [List.getD_eq_getElem?_getD, List.getElem?_set_self (by omega)]
          show k = _
          rw [hk, hzr 0 (Nat.le_refl _)]
        · rw [List.getD_eq_getElem?_getD, List.getElem?_set_ne h0, ← List.getD_eq_getElem?_getD]
          exact hz0 (by omega)
    have hzi := hzr i (Nat.le_refl _)
    intro b5 w14 hE14 hs14 hb14
    refine ST2_of trivial trivial hE14 hs14 hb14 fun w16 hE16 hb16 _ => ?_
    refine ITE_d (fun h2 => ?_) (fun h2 => ?_)
    · refine IDX_v (ha.eff (hE013.trans0 hE16)) (by omega) h2 fun b o hcA hcB => ?_
      rw [LDi_of hcA, LDi_of hcB]
      refine ST2_of (w₀ := w13) trivial trivial hE16 hs14 hb16 fun w18 hE18 hb18 _ => ?_
      intro w19 hE19 _
      have hE1319 := hE18.trans0 hE19
      have hb19 := hE19.obj0 hb18
      have hozE : Ow w19 (.slice a4 (xs ++ ys).length k4) zs := Ow.eff hoz hE1319
      refine IDX_v hozE.sl.2 (by omega) h1 fun b o hcA hcB => ?_
      rw [LDi_of hcA, LDi_of hcB, LDi_of (cellH_of hb19 0), LDi_of (cellH_of hb19 1), Int.toNat_natCast, hzi, getD_left (by omega)]
      refine ITE_intro (fun h => by simp at h) (fun _ => ?_)
      refine IDX_v hozE.sl.2 (by omega) h1 fun b o hcA hcB => ?_
      rw [LDi_of hcA, Int.toNat_natCast]
      exact BINDx rfl (key hE1319 _ rfl)
    · refine BINDw (by omega) (by omega) ?_
      refine ITE_d (fun h3 => ?_) (fun h3 => by omega)
      refine BINDw (by omega) (by omega) ?_
      refine IDX_v (hb.eff (hE013.trans0 hE16)) (by omega) (by omega) fun b o hcA hcB => ?_
      rw [LDi_of hcA, LDi_of hcB]
      refine ST2_of (w₀ := w13) trivial trivial hE16 hs14 hb16 fun w18 hE18 hb18 _ => ?_
      intro w19 hE19 _
      have hE1319 := hE18.trans0 hE19
      have hb19 := hE19.obj0 hb18
      have hozE : Ow w19 (.slice a4 (xs ++ ys).length k4) zs := Ow.eff hoz hE1319
      refine IDX_v hozE.sl.2 (by omega) h1 fun b o hcA hcB => ?_
      rw [LDi_of hcA, LDi_of hcB, LDi_of (cellH_of hb19 0), LDi_of (cellH_of hb19 1), Int.toNat_natCast, hzi, getD_right (by omega), show ((i : Int) - xs.length).toNat = i - xs.length by omega]
      refine ITE_intro (fun h => by simp at h) (fun _ => ?_)
      refine IDX_v hozE.sl.2 (by omega) h1 fun b o hcA hcB => ?_
      rw [LDi_of hcA, Int.toNat_natCast]
      exact BINDx rfl (key hE1319 _ rfl)
  have hin : i = (xs ++ ys).length := by omega
  subst hin
  have hh13 := (hh10.eff hE12).upon hE13 hn4
  have ho13 : Ow w13 (.slice q2 (xs.length + ys.length) k2) (xs ++ ys) := own_eff (own_eff0 ho10 hE12) hE13 (fun b hb hm => by have := hhi2 b hb; have := hlo4 b hm; omega)
  refine (Queue_spec hh13 ho13 (by omega)).mono fun v w27 ⟨hE27, a5, k5, hv, ho5, _⟩ => ?_
  subst hv
  rw [SLV_slice]
  intro w28 hE28 _
  refine BINDw (by omega) (by omega) ?_
  refine ITE_eq (fun _ => ?_) (fun h => absurd (by rw [hlen]; omega) h)
  have hE1328 := hE27.trans0 hE28
  have hh28 := hh13.eff hE1328
  have hE028 := hE013.trans0 hE1328
  refine (Idle_spec hh28).mono fun v w29 ⟨hw, hv⟩ => ?_
  subst hw
  subst hv
  rw [BOOLV_bool]
  refine ⟨KEEP_nil, ?_⟩
  have hst29 : StockAt w29 sk cls.length := hst.eff (hES13.trans0 hE1328)
  have ho529 : Ow w29 (.slice a5 (xs ++ ys).length k5) (xs ++ ys) := Ow.eff ho5 hE28
  have hoz29 : Ow w29 (.slice a4 (xs ++ ys).length k4) zs := Ow.eff hoz hE1328
  refine ITE_intro (fun _ => ?_) (fun h => absurd h ?_)
  · refine ITE_eq (fun _ => ?_) (fun h => absurd rfl h)
    refine ITE_eq (fun _ => ?_) (fun h0 => ?_)
    · refine (Own_spec hh28 hst29 hk1.1).mono fun v w30 ⟨hE30, hv⟩ => ?_
      subst hv
      rw [SLV_slice]
      exact ⟨KEEP_nil, hE028.trans0 hE30, rfl⟩
    · refine IDX_v ho529.sl.2 (by omega) (by omega) fun b o hcA hcB => ?_
      rw [LDi_of hcA]
      refine IDX_v hoz29.sl.2 (by omega) (by omega) fun b o hcA hcB => ?_
      rw [LDi_of hcA]
      refine BINDx rfl ?_
      have hmem : inR ((xs ++ ys).getD 0 (0, 0)).1 := by
        have hlt : 0 < (xs ++ ys).length := by omega
        have e : (xs ++ ys).getD 0 (0, 0) = (xs ++ ys)[0] := by rw [List.getD_eq_getElem?_getD, List.getElem?_eq_getElem hlt]; rfl
        rw [e]
        exact hr _ (List.getElem_mem _)
      have e0 : (0 : Int).toNat = 0 := rfl
      rw [e0, hz0 (by omega), wrap_back hmem]
      refine ITE_eq (fun _ => ?_) (fun h => absurd rfl h)
      refine (Own_spec hh28 hst29 hk1.1).mono fun v w31 ⟨hE31, hv⟩ => ?_
      subst hv
      rw [SLV_slice]
      exact ⟨KEEP_nil, hE028.trans0 hE31, rfl⟩
  · rw [hlen]
    have : (((xs.length + ys.length : Nat) : Int) == 0) = decide (xs.length + ys.length = 0) := by rw [Bool.eq_iff_iff, beq_iff_eq, decide_eq_true_eq]; omega
    rw [this]
    simp
end
end Go.Proofs.YthjbakeddjkdkaaGreatDoor
