/- The law TextBlanks. -/
import Derived.Test.YtmanfmpdmmhbfaaDoorText14
namespace Go.Proofs.YtmanfmpdmmhbfaaDoor
open Go.Den
set_option maxRecDepth 100000
set_option maxHeartbeats 4000000

theorem drop_head {S : Str} {i : Nat} (h : i < S.length) : S.drop i = S.getD i 0 :: S.drop (i + 1) := by
  rw [List.drop_eq_getElem_cons h, List.getD_eq_getElem?_getD, List.getElem?_eq_getElem h]; rfl

theorem may_cls {y : Ln} (h : mayL y) : y.cls.length ≤ 28 := by
  rcases h with ⟨_, _, h⟩ | ⟨_, h, _⟩ | ⟨_, h⟩ | ⟨_, h⟩ | ⟨_, h⟩ | ⟨_, _, h⟩
  · exact h
  all_goals (rw [h]; simp)

theorem parse_no {s : ByteArray} {y : Ln} {t : Bool} (hp : ParseP s.data.toList y t) (h : parseF (cut s.data.toList) = none) : t = false := by
  rcases hp with ⟨_, h2⟩ | ⟨h1, _⟩
  · rw [h] at h2; cases h2
  · exact h1

section
variable {w : World} {x : Ln} {xa : Option Addr} {xl xc : Nat}

theorem TextBlanks_spec (hg : Glo w) (hx : LnAt w x xa xl) (hin : inL x) {at_ : Int} (hat : 0 ≤ at_ ∧ at_ ≤ 65535) : CALL Pg F_l25_TextBlanks [lnV x xa xl xc, .int .u16 at_] w fun v w' => Eff w w' [] ∧ v = .bool true := by
  apply C_l25_TextBlanks
  unfold D_l25_TextBlanks
  have hxl := hx.1
  intro b1 w1 hE1 hs1 hb1
  refine (speaks_spec (hg.eff hE1)).mono fun v w2 ⟨hE2, hv⟩ => ?_
  subst hv
  have hE02 := hE1.trans0 hE2
  have hb12 := hE2.obj0 hb1
  rw [BOOLV_bool]
  refine ITE_intro (fun h => by cases h) (fun _ => ?_)
  rw [LDl_of (cellH_of hb12 7)]
  refine ITE_d (fun _ => ⟨hE02, rfl⟩) (fun hl => ?_)
  refine LD11 (x := x) hb12 ?_
  refine (Text_spec (hg.eff hE02) (hx.eff hE02) hin (by omega)).mono fun v w3 ⟨hE3, hv⟩ => ?_
  subst hv
  rw [STRV_string, bs_nil]
  have hE03 := hE02.trans0 hE3
  have hb13 := hE3.obj0 hb12
  refine ITE_d (fun _ => ⟨hE03, rfl⟩) (fun hne => ?_)
  obtain ⟨_, hp0, _⟩ := textF_some hne
  have hlen := text_len hin (by omega)
  refine BINDw (by omega) (by omega) (BINDw (by rw [bs_size]; omega) (by rw [bs_size]; omega) (NZ_of (by rw [bs_size]; omega) ?_))
  rw [bs_size]
  have hmod := Int.tmod_eq_emod_of_nonneg (a := at_) (b := ((textF x).length : Int) + 1) (by omega)
  have hm0 := Int.emod_nonneg at_ (show ((textF x).length : Int) + 1 ≠ 0 by omega)
  have hm1 := Int.emod_lt_of_pos at_ (show (0 : Int) < ((textF x).length : Int) + 1 by omega)
  refine BINDx hmod ?_
  obtain ⟨i, hi⟩ : ∃ i : Nat, at_ % (((textF x).length : Int) + 1) = i := ⟨(at_ % (((textF x).length : Int) + 1)).toNat, by omega⟩
  rw [hi] at hm1 ⊢
  intro w4 hE4 _
  have hE04 := hE03.trans0 hE4
  have hb14 := hE4.obj0 hb13
  refine SILN_subh u_string (by omega) (by rw [bs_size]; omega) ?_
  rw [STRV_string]
  have e1 : (bs (textF x)).data.toList.take (i : Int).toNat = (textF x).take i := by rw [Int.toNat_natCast]
  rw [e1]
  refine SILN_sadd (b := [32]) (by simp only [List.length_take, List.length_cons, List.length_nil]; omega) ?_
  rw [STRV_string]
  refine SILN_subl u_string (by omega) (by rw [bs_size]; omega) ?_
  rw [STRV_string]
  have e2 : (bs (textF x)).data.toList.drop (i : Int).toNat = (textF x).drop i := by rw [Int.toNat_natCast]
  rw [e2]
  refine SILN_sadd (by simp only [List.length_append, List.length_take, List.length_drop, List.length_cons, List.length_nil]; omega) ?_
  rw [STRV_string]
  have hsz : (bs ((textF x).take i ++ [32] ++ (textF x).drop i)).size ≤ 1000000000 := by
    rw [bs_size]
    simp only [List.length_append, List.length_take, List.length_drop, List.length_cons, List.length_nil]; omega
  have hcat : (bs ((textF x).take i ++ [32] ++ (textF x).drop i)).data.toList = (textF x).take i ++ 32 :: (textF x).drop i := by
    show (textF x).take i ++ [32] ++ (textF x).drop i = _
    simp
  constructor
  · refine (Parse_spec (hg.eff hE04) hsz).mono fun v w5 ⟨hE5, y, ya, yl, yc, t, hv, hy, hp⟩ => ?_
    subst hv
    unfold ParseP at hp
    rw [hcat] at hp
    rw [TUP_lnb]
    refine ⟨KEEP_nil, ?_⟩
    intro b2 w6 hE6 hs6 hb6
    refine ⟨KEEP_nil, ST11_of ⟨trivial, trivial, trivial, trivial, trivial, trivial, trivial, trivial, trivial, trivial, trivial⟩ hE6 hs6 hb6 fun w17 hE17 hb217 _ => ⟨KEEP_nil, ?_⟩⟩
    have hE017 := (hE04.trans0 hE5).trans0 hE17
    have hb117 := (hE5.trans0 hE17).obj0 hb14
    have hy17 := hy.eff hE17
    refine ⟨fun vs w' => Eff w w' [] ∧ vs = [.bool false] ∧ w'.heap[b1]? = some (.cells (lnL x xa xl xc).toArray T_text_Line_text_Line (0, 0)), ?_, ?_⟩
    · refine ITE_intro (fun ht => ?_) (fun _ => ⟨hE017, rfl, hb117⟩)
      refine ITE_d (fun h1 => ?_) (fun _ => ⟨hE017, rfl, hb117⟩)
      refine ITE_d (fun h2 => ?_) (fun _ => ⟨hE017, rfl, hb117⟩)
      have h2 : i < (textF x).length := by first | omega | (rw [bs_size] at h2; omega)
      refine SILN_sidx u_string (by omega) (by rw [bs_size]; omega) ?_
      rw [INTV_int]
      refine ITE_ne (fun h3 => ?_) (fun _ => ⟨hE017, rfl, hb117⟩)
      refine BINDw (by omega) (by omega) ?_
      refine SILN_sidx u_string (by omega) (by rw [bs_size]; omega) ?_
      rw [INTV_int]
      refine ITE_ne (fun h4 => ?_) (fun _ => ⟨hE017, rfl, hb117⟩)
      have hpy : parseF (cut ((textF x).take i ++ 32 :: (textF x).drop i)) = some y := by
        rcases hp with ⟨_, h⟩ | ⟨h, _⟩
        · exact h
        · rw [h] at ht; cases ht
      have hd2 := drop_head h2
      have hmore := blank_more (a := (textF x).take i) (b := (textF x).drop i) (x := x) (y := y) (by rw [hd2]; simp) (by
        rw [hd2]
        intro hh
        have hh : (textF x).getD i 0 = 32 := by simpa using hh
        refine h3 ?_
        show (((textF x).getD (i : Int).toNat 0).toNat : Int) = 32
        rw [Int.toNat_natCast, hh]; rfl) (by rw [List.take_append_drop]; exact hp0) hpy
      rw [LDi_of (cellH_of hb117 0)]
      refine ITE_ne (fun h5 => absurd hmore.1 h5) (fun _ => ?_)
      refine LD11 (x := y) hb217 (LD11 (x := x) hb117 ?_)
      have hycl := may_cls (parse_may (cut_ne _) hpy)
      have hyl := hy17.1
      refine (same_spec hy17 (hx.eff hE017) (by omega)).mono fun v w18 ⟨hE18, hv⟩ => ?_
      subst hv
      rw [BOOLV_bool]
      exact ⟨hE017.trans0 hE18, by rw [decide_eq_false hmore.2], hE18.obj0 hb117⟩
    intro w19 v24 ⟨hE019, hv, hb119⟩
    cases hv
    rw [BOOLV_bool]
    refine ITE_intro (fun h => by cases h) (fun _ => ?_)
    refine SILN_sadd (a := [32]) (by simp only [List.length_cons, List.length_nil]; omega) ?_
    rw [STRV_string]
    refine (Parse_spec (hg.eff hE019) (s := bs ([32] ++ textF x)) (by rw [bs_size]; simp only [List.length_append, List.length_cons, List.length_nil]; omega)).mono fun v w20 ⟨hE20, y2, y2a, y2l, y2c, t5, hv, _, hp2⟩ => ?_
    subst hv
    have ht5 : t5 = false := parse_no hp2 (blank_front (textF x))
    subst ht5
    rw [TUP_lnb]
    intro b3 w21 hE21 hs21 hb21
    refine ST11_of ⟨trivial, trivial, trivial, trivial, trivial, trivial, trivial, trivial, trivial, trivial, trivial⟩ hE21 hs21 hb21 fun w32 hE32 _ _ => ?_
    have hE032 := (hE019.trans0 hE20).trans0 hE32
    refine SILN_sadd (b := [32]) (by simp only [List.length_cons, List.length_nil]; omega) ?_
    rw [STRV_string]
    refine (Parse_spec (hg.eff hE032) (s := bs (textF x ++ [32])) (by rw [bs_size]; simp only [List.length_append, List.length_cons, List.length_nil]; omega)).mono fun v w33 ⟨hE33, y3, y3a, y3l, y3c, t6, hv, _, hp3⟩ => ?_
    subst hv
    have ht6 : t6 = false := parse_no hp3 (blank_back hp0)
    subst ht6
    rw [TUP_lnb]
    intro b4 w34 hE34 hs34 hb34
    refine ST11_of ⟨trivial, trivial, trivial, trivial, trivial, trivial, trivial, trivial, trivial, trivial, trivial⟩ hE34 hs34 hb34 fun w45 hE45 _ _ => ?_
    have hE045 := (hE032.trans0 hE33).trans0 hE45
    refine ⟨fun vs w' => Eff w w' [] ∧ vs = [.bool false], ⟨fun vs w' => Eff w w' [] ∧ vs = [.bool false], ?_, ?_⟩, ?_⟩
    · exact ITE_intro (fun h => by cases h) (fun _ => ⟨hE045, rfl⟩)
    · intro w46 v55 ⟨hE, hv⟩
      cases hv
      rw [BOOLV_bool]
      exact ITE_intro (fun h => by cases h) (fun _ => ⟨hE, rfl⟩)
    intro w47 v56 ⟨hE047, hv⟩
    cases hv
    rw [BOOLV_bool]
    refine LOOP_of (fun vs w' => ∃ k : Nat, vs = [.bool false, .int .i64 k] ∧ 1 ≤ k ∧ k ≤ (textF x).length + 1 ∧ Eff w w' [])
      (fun vs _ => match vs with | [_, .int _ n] => (textF x).length + 1 - n.toNat | _ => 0) ⟨1, rfl, by omega, by omega, hE047⟩ ?_
    intro w48 v57 v58 ⟨k, hv, hk0, hk, hE048⟩
    simp only [List.cons.injEq, and_true] at hv
    obtain ⟨rfl, rfl⟩ := hv
    rw [INTV_int, BOOLV_bool]
    refine ITE_d (fun h1 => ?_) (fun h1 => ⟨hE048, rfl⟩)
    have hkl : k < (textF x).length := by first | omega | (rw [bs_size] at h1; omega)
    refine ⟨fun vs w' => w' = w48 ∧ vs = [.bool (decide ((textF x).getD (k - 1) 0 = 32 ∧ 48 ≤ ((textF x).getD k 0).toNat ∧ ((textF x).getD k 0).toNat ≤ 57))], ?_, ?_⟩
    · refine BINDw (by omega) (by omega) ?_
      refine SILN_sidx u_string (by omega) (by rw [bs_size]; omega) ?_
      rw [INTV_int]
      have e1 : ((k : Int) - 1).toNat = k - 1 := by omega
      have e2 : (k : Int).toNat = k := by omega
      show ITE (((((textF x).getD ((k : Int) - 1).toNat 0).toNat : Nat) : Int) == 32) _ _
      rw [e1]
      refine ITE_eq (fun h2 => ?_) (fun h2 => ⟨rfl, by rw [decide_eq_false (fun h => h2 (by rw [h.1]; rfl))]⟩)
      have h2 : (textF x).getD (k - 1) 0 = 32 := UInt8.toNat_inj.1 (by show _ = 32; omega)
      refine SILN_sidx u_string (by omega) (by rw [bs_size]; omega) ?_
      rw [INTV_int]
      show ITE (decide (((((textF x).getD (k : Int).toNat 0).toNat : Nat) : Int) ≥ 48)) _ _
      rw [e2]
      refine ITE_d (fun h3 => ?_) (fun h3 => ⟨rfl, by rw [decide_eq_false (fun h => h3 (by omega))]⟩)
      refine SILN_sidx u_string (by omega) (by rw [bs_size]; omega) ?_
      rw [INTV_int]
      refine ⟨rfl, ?_⟩
      show [Value.bool (decide (((((textF x).getD (k : Int).toNat 0).toNat : Nat) : Int) ≤ 57))] = _
      rw [e2]
      rw [decide_eq_decide.2 (show ((((textF x).getD k 0).toNat : Nat) : Int) ≤ 57 ↔ ((textF x).getD (k - 1) 0 = 32 ∧ 48 ≤ ((textF x).getD k 0).toNat ∧ ((textF x).getD k 0).toNat ≤ 57) from ⟨fun h => ⟨h2, by omega, by omega⟩, fun h => by omega⟩)]
    intro w49 v62 ⟨hw, hv⟩
    subst hw
    cases hv
    rw [BOOLV_bool]
    refine ITE_d (fun h2 => ?_) (fun h2 => ?_)
    · intro w50 hE50 _
      have hE050 := hE048.trans0 hE50
      refine SILN_subh u_string (by omega) (by rw [bs_size]; omega) ?_
      rw [STRV_string]
      have e1 : (bs (textF x)).data.toList.take (k : Int).toNat = (textF x).take k := by rw [Int.toNat_natCast]
      rw [e1]
      refine SILN_sadd (b := [48]) (by simp only [List.length_take, List.length_cons, List.length_nil]; omega) ?_
      rw [STRV_string]
      refine SILN_subl u_string (by omega) (by rw [bs_size]; omega) ?_
      rw [STRV_string]
      have e2 : (bs (textF x)).data.toList.drop (k : Int).toNat = (textF x).drop k := by rw [Int.toNat_natCast]
      rw [e2]
      refine SILN_sadd (by simp only [List.length_append, List.length_take, List.length_drop, List.length_cons, List.length_nil]; omega) ?_
      rw [STRV_string]
      have hno : parseF (cut ((textF x).take k ++ [48] ++ (textF x).drop k)) = none := by
        have ha : (textF x).take k = (textF x).take (k - 1) ++ [32] := by
          have e : (textF x)[k - 1]'(by omega) = 32 := by
            have := h2.1
            rw [List.getD_eq_getElem?_getD, List.getElem?_eq_getElem (by omega)] at this
            exact this
          have h5 := List.take_succ_eq_append_getElem (l := textF x) (i := k - 1) (by omega)
          rw [show k - 1 + 1 = k by omega, e] at h5
          exact h5
        rw [ha, drop_head hkl]
        have := nought_more (a := (textF x).take (k - 1)) (b := (textF x).drop (k + 1)) (c := (textF x).getD k 0) h2.2
        simpa using this
      have hsz : (bs ((textF x).take k ++ [48] ++ (textF x).drop k)).size ≤ 1000000000 := by
        rw [bs_size]
        simp only [List.length_append, List.length_take, List.length_drop, List.length_cons, List.length_nil]; omega
      constructor
      · refine (Parse_spec (hg.eff hE050) hsz).mono fun v w51 ⟨hE51, y4, y4a, y4l, y4c, t11, hv, _, hp4⟩ => ?_
        subst hv
        have ht : t11 = false := parse_no hp4 hno
        subst ht
        rw [TUP_lnb]
        refine ⟨KEEP_nil, ?_⟩
        intro b5 w52 hE52 hs52 hb52
        refine ⟨KEEP_nil, ST11_of ⟨trivial, trivial, trivial, trivial, trivial, trivial, trivial, trivial, trivial, trivial, trivial⟩ hE52 hs52 hb52 fun w63 hE63 _ _ => ⟨KEEP_nil, ?_⟩⟩
        refine ITE_intro (fun h => by cases h) (fun _ => ?_)
        exact BINDw (by omega) (by omega) ⟨⟨k + 1, rfl, by omega, by omega, (hE050.trans0 hE51).trans0 hE63⟩, by first | omega | (dsimp only; omega)⟩
      · intro b5 w64 hE64 hs64 hb64
        refine ⟨KEEP_nil, ?_⟩
        have hE064 := hE050.trans0 hE64
        refine (Parse_spec (hg.eff hE064) hsz).mono fun v w65 ⟨hE65, y4, y4a, y4l, y4c, t12, hv, _, hp4⟩ => ?_
        subst hv
        have ht : t12 = false := parse_no hp4 hno
        subst ht
        rw [TUP_lnb]
        refine ⟨KEEP_nil, ?_⟩
        refine ST11_of (w₀ := w50) ⟨trivial, trivial, trivial, trivial, trivial, trivial, trivial, trivial, trivial, trivial, trivial⟩ (hE64.trans0 hE65) hs64 (hE65.obj0 hb64) fun w76 hE76 _ _ => ⟨KEEP_nil, ?_⟩
        refine ITE_intro (fun h => by cases h) (fun _ => ?_)
        exact BINDw (by omega) (by omega) ⟨⟨k + 1, rfl, by omega, by omega, hE050.trans0 hE76⟩, by first | omega | (dsimp only; omega)⟩
    · exact BINDw (by omega) (by omega) ⟨⟨k + 1, rfl, by omega, by omega, hE048⟩, by first | omega | (dsimp only; omega)⟩
  · intro b2 w5 hE5 hs5 hb5
    refine ⟨KEEP_nil, ?_⟩
    have hE05 := hE04.trans0 hE5
    refine (Parse_new (hg.eff hE05) hsz).mono fun v w6 ⟨hE6, y, ya, yl, yc, t, hv, hy, hn, hp⟩ => ?_
    subst hv
    unfold ParseP at hp
    rw [hcat] at hp
    rw [TUP_lnb]
    refine ⟨KEEP_nil, ?_⟩
    have hb26 := hE6.obj0 hb5
    have hb2l := obj_lt hb5
    refine ST11_of (w₀ := w4) ⟨trivial, trivial, trivial, trivial, trivial, trivial, trivial, trivial, trivial, trivial, trivial⟩ (hE5.trans0 hE6) hs5 hb26 fun w17 hE17 hb217 hE17' => ⟨KEEP_nil, ?_⟩
    have hE017 := hE04.trans0 hE17
    have hb117 := hE17.obj0 hb14
    have hb2l := obj_lt hb5
    have hy17 : LnAt w17 y ya yl := Sl.same hy fun b o hb => by
      obtain ⟨q1, q2⟩ := hn b o hb
      exact hE17'.keep b q2 (by simp; omega)
    refine ⟨fun vs w' => Eff w w' [] ∧ vs = [.bool false] ∧ w'.heap[b1]? = some (.cells (lnL x xa xl xc).toArray T_text_Line_text_Line (0, 0)), ?_, ?_⟩
    · refine ITE_intro (fun ht => ?_) (fun _ => ⟨hE017, rfl, hb117⟩)
      refine ITE_d (fun h1 => ?_) (fun _ => ⟨hE017, rfl, hb117⟩)
      refine ITE_d (fun h2 => ?_) (fun _ => ⟨hE017, rfl, hb117⟩)
      have h2 : i < (textF x).length := by first | omega | (rw [bs_size] at h2; omega)
      refine SILN_sidx u_string (by omega) (by rw [bs_size]; omega) ?_
      rw [INTV_int]
      refine ITE_ne (fun h3 => ?_) (fun _ => ⟨hE017, rfl, hb117⟩)
      refine BINDw (by omega) (by omega) ?_
      refine SILN_sidx u_string (by omega) (by rw [bs_size]; omega) ?_
      rw [INTV_int]
      refine ITE_ne (fun h4 => ?_) (fun _ => ⟨hE017, rfl, hb117⟩)
      have hpy : parseF (cut ((textF x).take i ++ 32 :: (textF x).drop i)) = some y := by
        rcases hp with ⟨_, h⟩ | ⟨h, _⟩
        · exact h
        · rw [h] at ht; cases ht
      have hd2 := drop_head h2
      have hmore := blank_more (a := (textF x).take i) (b := (textF x).drop i) (x := x) (y := y) (by rw [hd2]; simp) (by
        rw [hd2]
        intro hh
        have hh : (textF x).getD i 0 = 32 := by simpa using hh
        refine h3 ?_
        show (((textF x).getD (i : Int).toNat 0).toNat : Int) = 32
        rw [Int.toNat_natCast, hh]; rfl) (by rw [List.take_append_drop]; exact hp0) hpy
      rw [LDi_of (cellH_of hb117 0)]
      refine ITE_ne (fun h5 => absurd hmore.1 h5) (fun _ => ?_)
      refine LD11 (x := y) hb217 (LD11 (x := x) hb117 ?_)
      have hycl := may_cls (parse_may (cut_ne _) hpy)
      have hyl := hy17.1
      refine (same_spec hy17 (hx.eff hE017) (by omega)).mono fun v w18 ⟨hE18, hv⟩ => ?_
      subst hv
      rw [BOOLV_bool]
      exact ⟨hE017.trans0 hE18, by rw [decide_eq_false hmore.2], hE18.obj0 hb117⟩
    intro w19 v24 ⟨hE019, hv, hb119⟩
    cases hv
    rw [BOOLV_bool]
    refine ITE_intro (fun h => by cases h) (fun _ => ?_)
    refine SILN_sadd (a := [32]) (by simp only [List.length_cons, List.length_nil]; omega) ?_
    rw [STRV_string]
    refine (Parse_spec (hg.eff hE019) (s := bs ([32] ++ textF x)) (by rw [bs_size]; simp only [List.length_append, List.length_cons, List.length_nil]; omega)).mono fun v w20 ⟨hE20, y2, y2a, y2l, y2c, t5, hv, _, hp2⟩ => ?_
    subst hv
    have ht5 : t5 = false := parse_no hp2 (blank_front (textF x))
    subst ht5
    rw [TUP_lnb]
    intro b3 w21 hE21 hs21 hb21
    refine ST11_of ⟨trivial, trivial, trivial, trivial, trivial, trivial, trivial, trivial, trivial, trivial, trivial⟩ hE21 hs21 hb21 fun w32 hE32 _ _ => ?_
    have hE032 := (hE019.trans0 hE20).trans0 hE32
    refine SILN_sadd (b := [32]) (by simp only [List.length_cons, List.length_nil]; omega) ?_
    rw [STRV_string]
    refine (Parse_spec (hg.eff hE032) (s := bs (textF x ++ [32])) (by rw [bs_size]; simp only [List.length_append, List.length_cons, List.length_nil]; omega)).mono fun v w33 ⟨hE33, y3, y3a, y3l, y3c, t6, hv, _, hp3⟩ => ?_
    subst hv
    have ht6 : t6 = false := parse_no hp3 (blank_back hp0)
    subst ht6
    rw [TUP_lnb]
    intro b4 w34 hE34 hs34 hb34
    refine ST11_of ⟨trivial, trivial, trivial, trivial, trivial, trivial, trivial, trivial, trivial, trivial, trivial⟩ hE34 hs34 hb34 fun w45 hE45 _ _ => ?_
    have hE045 := (hE032.trans0 hE33).trans0 hE45
    refine ⟨fun vs w' => Eff w w' [] ∧ vs = [.bool false], ⟨fun vs w' => Eff w w' [] ∧ vs = [.bool false], ?_, ?_⟩, ?_⟩
    · exact ITE_intro (fun h => by cases h) (fun _ => ⟨hE045, rfl⟩)
    · intro w46 v55 ⟨hE, hv⟩
      cases hv
      rw [BOOLV_bool]
      exact ITE_intro (fun h => by cases h) (fun _ => ⟨hE, rfl⟩)
    intro w47 v56 ⟨hE047, hv⟩
    cases hv
    rw [BOOLV_bool]
    refine LOOP_of (fun vs w' => ∃ k : Nat, vs = [.bool false, .int .i64 k] ∧ 1 ≤ k ∧ k ≤ (textF x).length + 1 ∧ Eff w w' [])
      (fun vs _ => match vs with | [_, .int _ n] => (textF x).length + 1 - n.toNat | _ => 0) ⟨1, rfl, by omega, by omega, hE047⟩ ?_
    intro w48 v57 v58 ⟨k, hv, hk0, hk, hE048⟩
    simp only [List.cons.injEq, and_true] at hv
    obtain ⟨rfl, rfl⟩ := hv
    rw [INTV_int, BOOLV_bool]
    refine ITE_d (fun h1 => ?_) (fun h1 => ⟨hE048, rfl⟩)
    have hkl : k < (textF x).length := by first | omega | (rw [bs_size] at h1; omega)
    refine ⟨fun vs w' => w' = w48 ∧ vs = [.bool (decide ((textF x).getD (k - 1) 0 = 32 ∧ 48 ≤ ((textF x).getD k 0).toNat ∧ ((textF x).getD k 0).toNat ≤ 57))], ?_, ?_⟩
    · refine BINDw (by omega) (by omega) ?_
      refine SILN_sidx u_string (by omega) (by rw [bs_size]; omega) ?_
      rw [INTV_int]
      have e1 : ((k : Int) - 1).toNat = k - 1 := by omega
      have e2 : (k : Int).toNat = k := by omega
      show ITE (((((textF x).getD ((k : Int) - 1).toNat 0).toNat : Nat) : Int) == 32) _ _
      rw [e1]
      refine ITE_eq (fun h2 => ?_) (fun h2 => ⟨rfl, by rw [decide_eq_false (fun h => h2 (by rw [h.1]; rfl))]⟩)
      have h2 : (textF x).getD (k - 1) 0 = 32 := UInt8.toNat_inj.1 (by show _ = 32; omega)
      refine SILN_sidx u_string (by omega) (by rw [bs_size]; omega) ?_
      rw [INTV_int]
      show ITE (decide (((((textF x).getD (k : Int).toNat 0).toNat : Nat) : Int) ≥ 48)) _ _
      rw [e2]
      refine ITE_d (fun h3 => ?_) (fun h3 => ⟨rfl, by rw [decide_eq_false (fun h => h3 (by omega))]⟩)
      refine SILN_sidx u_string (by omega) (by rw [bs_size]; omega) ?_
      rw [INTV_int]
      refine ⟨rfl, ?_⟩
      show [Value.bool (decide (((((textF x).getD (k : Int).toNat 0).toNat : Nat) : Int) ≤ 57))] = _
      rw [e2]
      rw [decide_eq_decide.2 (show ((((textF x).getD k 0).toNat : Nat) : Int) ≤ 57 ↔ ((textF x).getD (k - 1) 0 = 32 ∧ 48 ≤ ((textF x).getD k 0).toNat ∧ ((textF x).getD k 0).toNat ≤ 57) from ⟨fun h => ⟨h2, by omega, by omega⟩, fun h => by omega⟩)]
    intro w49 v62 ⟨hw, hv⟩
    subst hw
    cases hv
    rw [BOOLV_bool]
    refine ITE_d (fun h2 => ?_) (fun h2 => ?_)
    · intro w50 hE50 _
      have hE050 := hE048.trans0 hE50
      refine SILN_subh u_string (by omega) (by rw [bs_size]; omega) ?_
      rw [STRV_string]
      have e1 : (bs (textF x)).data.toList.take (k : Int).toNat = (textF x).take k := by rw [Int.toNat_natCast]
      rw [e1]
      refine SILN_sadd (b := [48]) (by simp only [List.length_take, List.length_cons, List.length_nil]; omega) ?_
      rw [STRV_string]
      refine SILN_subl u_string (by omega) (by rw [bs_size]; omega) ?_
      rw [STRV_string]
      have e2 : (bs (textF x)).data.toList.drop (k : Int).toNat = (textF x).drop k := by rw [Int.toNat_natCast]
      rw [e2]
      refine SILN_sadd (by simp only [List.length_append, List.length_take, List.length_drop, List.length_cons, List.length_nil]; omega) ?_
      rw [STRV_string]
      have hno : parseF (cut ((textF x).take k ++ [48] ++ (textF x).drop k)) = none := by
        have ha : (textF x).take k = (textF x).take (k - 1) ++ [32] := by
          have e : (textF x)[k - 1]'(by omega) = 32 := by
            have := h2.1
            rw [List.getD_eq_getElem?_getD, List.getElem?_eq_getElem (by omega)] at this
            exact this
          have h5 := List.take_succ_eq_append_getElem (l := textF x) (i := k - 1) (by omega)
          rw [show k - 1 + 1 = k by omega, e] at h5
          exact h5
        rw [ha, drop_head hkl]
        have := nought_more (a := (textF x).take (k - 1)) (b := (textF x).drop (k + 1)) (c := (textF x).getD k 0) h2.2
        simpa using this
      have hsz : (bs ((textF x).take k ++ [48] ++ (textF x).drop k)).size ≤ 1000000000 := by
        rw [bs_size]
        simp only [List.length_append, List.length_take, List.length_drop, List.length_cons, List.length_nil]; omega
      constructor
      · refine (Parse_spec (hg.eff hE050) hsz).mono fun v w51 ⟨hE51, y4, y4a, y4l, y4c, t11, hv, _, hp4⟩ => ?_
        subst hv
        have ht : t11 = false := parse_no hp4 hno
        subst ht
        rw [TUP_lnb]
        refine ⟨KEEP_nil, ?_⟩
        intro b5 w52 hE52 hs52 hb52
        refine ⟨KEEP_nil, ST11_of ⟨trivial, trivial, trivial, trivial, trivial, trivial, trivial, trivial, trivial, trivial, trivial⟩ hE52 hs52 hb52 fun w63 hE63 _ _ => ⟨KEEP_nil, ?_⟩⟩
        refine ITE_intro (fun h => by cases h) (fun _ => ?_)
        exact BINDw (by omega) (by omega) ⟨⟨k + 1, rfl, by omega, by omega, (hE050.trans0 hE51).trans0 hE63⟩, by first | omega | (dsimp only; omega)⟩
      · intro b5 w64 hE64 hs64 hb64
        refine ⟨KEEP_nil, ?_⟩
        have hE064 := hE050.trans0 hE64
        refine (Parse_spec (hg.eff hE064) hsz).mono fun v w65 ⟨hE65, y4, y4a, y4l, y4c, t12, hv, _, hp4⟩ => ?_
        subst hv
        have ht : t12 = false := parse_no hp4 hno
        subst ht
        rw [TUP_lnb]
        refine ⟨KEEP_nil, ?_⟩
        refine ST11_of (w₀ := w50) ⟨trivial, trivial, trivial, trivial, trivial, trivial, trivial, trivial, trivial, trivial, trivial⟩ (hE64.trans0 hE65) hs64 (hE65.obj0 hb64) fun w76 hE76 _ _ => ⟨KEEP_nil, ?_⟩
        refine ITE_intro (fun h => by cases h) (fun _ => ?_)
        exact BINDw (by omega) (by omega) ⟨⟨k + 1, rfl, by omega, by omega, hE050.trans0 hE76⟩, by first | omega | (dsimp only; omega)⟩
    · exact BINDw (by omega) (by omega) ⟨⟨k + 1, rfl, by omega, by omega, hE048⟩, by first | omega | (dsimp only; omega)⟩

end
end Go.Proofs.YtmanfmpdmmhbfaaDoor
