/- The document's line, as a line of the program's; the law TextParses. -/
import Derived.Test.YtmanfmpdmmhbfaaDoorText17
namespace Go.Proofs.YtmanfmpdmmhbfaaDoor
open Go.Den
set_option maxRecDepth 100000
set_option maxHeartbeats 4000000

theorem parse_in {ps : List Str} {x : Ln} (hne : ps ≠ []) (h : parseF ps = some x) : inL x := by
  obtain ⟨p, t, rfl⟩ : ∃ p t, ps = p :: t := by
    cases ps with
    | nil => exact absurd rfl hne
    | cons p t => exact ⟨p, t, rfl⟩
  have z : inR 0 := by unfold inR; omega
  rw [parseF_cons] at h
  split at h
  · obtain ⟨_, a, r, y, wn, n, _, h1, h2, _, h3⟩ := askF_spec h
    have r1 := (numF_iff.1 h1).1
    have r2 := (numF_iff.1 h2).1
    rcases h3 with ⟨_, _, rfl⟩ | ⟨_, rfl⟩
    · exact ⟨r1, z, z, z, z, z, by simp, z, r2⟩
    · exact ⟨r1, z, z, z, z, z, by simp, r2, z⟩
  · rename_i hk
    split at h
    · cases h
    · rename_i ns hns
      have hall := (numsF_spec.1 hns).1
      obtain ⟨_, _, hx⟩ := lineF_spec hk h
      rcases hx with ⟨_, hn, _, hx⟩ | ⟨_, hn, hx⟩ | ⟨_, hn, hx⟩ | ⟨_, hn, hx⟩ | ⟨_, hn, hx⟩
      · rw [hn] at hall
        rw [hx]
        exact ⟨z, z, hall _ (by simp), hall _ (by simp), hall _ (by simp), hall _ (by simp), fun c hc => hall c (by simp [hc]), z, z⟩
      · rw [hn] at hall
        rw [hx]
        exact ⟨hall _ (by simp), hall _ (by simp), z, z, z, z, by simp, z, z⟩
      · rw [hn] at hall
        rw [hx]
        exact ⟨z, hall _ (by simp), z, z, z, z, by simp, z, z⟩
      · rw [hn] at hall
        rw [hx]
        exact ⟨hall _ (by simp), z, z, z, z, z, by simp, z, z⟩
      · rw [hx]
        exact ⟨z, z, z, z, z, z, by simp, z, z⟩

section
variable {w : World}

theorem of_spec {x : Ln} (hm : mayL x) {a : Option Addr} {l c : Nat} (hs : SlI w.heap a l (toL x).ns) (hlc : l ≤ c) :
    CALL Pg F_l25_of [rnV (toL x) a l c] w fun v w' => Eff w w' [] ∧ ∃ a' l' c', v = lnV x a' l' c' ∧ LnAt w' x a' l' := by
  apply C_l25_of
  unfold D_l25_of
  intro b1 w1 hE1 hs1 hb1 b2 w2 hE2 hs2 hb2 w3 hE3 _
  have hl1 := obj_lt hb1
  have hl2 := obj_lt hb2
  have hb13 := (hE2.trans0 hE3).obj0 hb1
  have hb23 := hE3.obj0 hb2
  have hE03 := (hE1.trans0 hE2).trans0 hE3
  rw [LDi_of (n := (toL x).k) (cellH_of hb13 0), LDi_of (n := (toL x).o) (cellH_of hb13 2), LDl_of (cellH_of hb13 3)]
  intro b3 w4 hE4 hs4 hb4
  have hb14 := hE4.obj0 hb13
  have hb24 := hE4.obj0 hb23
  refine ⟨KEEP_cell (cellH_of hb14 0) (KEEP_cell (cellH_of hb14 2) (KEEP_cell (cellH_of hb14 3) KEEP_nil)), ?_⟩
  refine ST11_of ⟨trivial, trivial, trivial, trivial, trivial, trivial, trivial, trivial, trivial, trivial, trivial⟩ hE4 hs4 hb4 fun w15 hE15 hb315 _ => ?_
  have hb115 := hE15.obj0 hb13
  have hb215 := hE15.obj0 hb23
  have hE015 := hE03.trans0 hE15
  refine ⟨KEEP_cell (cellH_of hb115 3) KEEP_nil, ?_⟩
  have hw0 := hE03.size
  have hw3 : w.heap.size ≤ b3 := by omega
  have hw2 : w.heap.size ≤ b2 := by have := hE1.size; omega
  have hne3 : ∀ {b : Nat}, b ∈ [b3] → w.heap.size ≤ b := by simpa using hw3
  have h13 : b1 ≠ b3 := by have := obj_lt hb13; omega
  have h23 : b2 ≠ b3 := by have := obj_lt hb23; omega
  have done : ∀ {w' : World} {a' : Option Addr} {l' c' : Nat}, Eff w w' [] → w'.heap[b2]? = some (.cells (lnL {} none 0 0).toArray T_text_Line_text_Line (0, 0)) → w'.heap[b3]? = some (.cells (lnL x a' l' c').toArray T_text_Line_text_Line (0, 0)) → LnAt w x a' l' →
      (([] : List Value) = [] ∧ ∃ a' l' c', Eff w w' [] ∧ w'.heap[b2]? = some (.cells (lnL {} none 0 0).toArray T_text_Line_text_Line (0, 0)) ∧ w'.heap[b3]? = some (.cells (lnL x a' l' c').toArray T_text_Line_text_Line (0, 0)) ∧ LnAt w x a' l') :=
    fun h1 h2 h3 h4 => ⟨rfl, _, _, _, h1, h2, h3, h4⟩
  refine ⟨fun vs w' => vs = [] ∧ ∃ a' l' c', Eff w w' [] ∧ w'.heap[b2]? = some (.cells (lnL {} none 0 0).toArray T_text_Line_text_Line (0, 0)) ∧ w'.heap[b3]? = some (.cells (lnL x a' l' c').toArray T_text_Line_text_Line (0, 0)) ∧ LnAt w x a' l',
    ⟨fun vs w' => w' = w15 ∧ vs = [.int .i64 (toL x).k], ?_, ?_⟩, ?_⟩
  · rw [LDi_of (n := (toL x).k) (cellH_of hb115 0)]
    exact ⟨rfl, rfl⟩
  · intro w16 v1 ⟨hw, hv⟩
    subst hw
    cases hv
    rw [INTV_int]
    rcases hm with ⟨hk, hx, hcl⟩ | ⟨hk, hx, _⟩ | ⟨hk, hx⟩ | ⟨hk, hx⟩ | ⟨hk, hx⟩ | ⟨hk, hk2, hx⟩
    · obtain ⟨c0, c1, c2, c3, cls, rfl⟩ : ∃ c0 c1 c2 c3 cls, x = { k := 1, c0 := c0, c1 := c1, c2 := c2, c3 := c3, cls := cls } := ⟨_, _, _, _, _, hx⟩
      have hl := hs.1
      have hns : (toL { k := 1, c0 := c0, c1 := c1, c2 := c2, c3 := c3, cls := cls }).ns = c0 :: c1 :: c2 :: c3 :: cls := rfl
      rw [hns] at hl hs
      simp only [List.length_cons] at hl
      refine ITE_eq (fun _ => ?_) (fun h => absurd rfl h)
      intro w17 hE17 _
      have hE017 := hE015.trans0 hE17
      have hs17 := hs.eff hE017
      refine IDX_i hs17 (by omega) (by omega) fun b o hc => ?_
      rw [LDi_of (n := c0) hc]
      refine IDX_i hs17 (by omega) (by omega) fun b o hc => ?_
      rw [LDi_of (n := c1) hc]
      refine IDX_i hs17 (by omega) (by omega) fun b o hc => ?_
      rw [LDi_of (n := c2) hc]
      refine IDX_i hs17 (by omega) (by omega) fun b o hc => ?_
      rw [LDi_of (n := c3) hc]
      refine SILN_l elem_int (by omega) (by omega) ?_
      rw [SLV_slice]
      refine ST1_of trivial (hE17.obj0 hb315) (by simp) fun w18 h18 e18 => ST1_of trivial h18 (by simp) fun w19 h19 e19 => ST1_of trivial h19 (by simp) fun w20 h20 e20 => ST1_of trivial h20 (by simp) fun w21 h21 e21 => ST1_of trivial h21 (by simp) fun w22 h22 e22 => ?_
      have hall := effg (effg (effg (effg e18 e19) e20) e21) e22
      refine ⟨KEEP_nil, done (hE017.own hall fun b hb => hne3 hb) (hall.obj (hE17.obj0 hb215) (by simpa using h23)) h22 ?_⟩
      have hsub := hs.sub (lo := 4) (hi := l) (c := c) (by omega) (Nat.le_refl _) hlc
      have e : ((c0 :: c1 :: c2 :: c3 :: cls).drop 4).take (l - 4) = cls := List.take_of_length_le (by show cls.length ≤ _; omega)
      rw [e] at hsub
      exact hsub
    · obtain ⟨wk, rk, rn, of, rfl⟩ : ∃ wk rk rn of, x = { k := 2, wk := wk, rk := rk, rn := rn, of := of } := ⟨_, _, _, _, hx⟩
      have hns : (toL { k := 2, wk := wk, rk := rk, rn := rn, of := of }).ns = [wk, rn] := rfl
      rw [hns] at hs
      have hl : l = 2 := hs.1
      refine ITE_eq (fun h => absurd h (show ¬ ((2 : Int) = 1) by decide)) (fun _ => ?_)
      refine ITE_eq (fun _ => ?_) (fun h => absurd rfl h)
      intro w17 hE17 _
      have hE017 := hE015.trans0 hE17
      have hs17 := hs.eff hE017
      have hb117 := hE17.obj0 hb115
      refine IDX_i hs17 (by omega) (by omega) fun b o hc => ?_
      rw [LDi_of (n := wk) hc, LDi_of (n := rk) (cellH_of hb117 1)]
      refine IDX_i hs (by omega) (by omega) fun b9 o9 hc9 => ?_
      have hl9 := cellH_lt hc9
      have hc17 : cellH w17.heap b9 o9 = some (.int .i64 rn) := by rw [hE017.cell hl9 (by simp)]; exact hc9
      rw [LDi_of (n := rn) hc17]
      refine ST1_of trivial (hE17.obj0 hb315) (by simp) fun w18 h18 e18 => ?_
      have hb118 := e18.obj hb117 (by simpa using h13)
      refine ⟨KEEP_cell (cellH_of hb118 1) (KEEP_cell ?_ KEEP_nil), ?_⟩
      · rw [e18.cell (cellH_lt hc17) (by simp; omega)]; exact hc17
      refine ST1_of trivial h18 (by simp) fun w19 h19 e19 => ST1_of trivial h19 (by simp) fun w20 h20 e20 => ?_
      have hall := effg (effg e18 e19) e20
      exact ⟨KEEP_nil, done (hE017.own hall fun b hb => hne3 hb) (hall.obj (hE17.obj0 hb215) (by simpa using h23)) h20 ⟨rfl, .inl rfl⟩⟩
    · obtain ⟨wk, tm, rfl⟩ : ∃ wk tm, x = { k := 3, wk := wk, tm := tm } := ⟨_, _, hx⟩
      have hns : (toL { k := 3, wk := wk, tm := tm }).ns = [wk, tm] := rfl
      rw [hns] at hs
      have hl : l = 2 := hs.1
      refine ITE_eq (fun h => absurd h (show ¬ ((3 : Int) = 1) by decide)) (fun _ => ?_)
      refine ITE_eq (fun h => absurd h (show ¬ ((3 : Int) = 2) by decide)) (fun _ => ?_)
      refine ITE_eq (fun _ => ?_) (fun h => absurd rfl h)
      intro w17 hE17 _
      have hE017 := hE015.trans0 hE17
      have hs17 := hs.eff hE017
      refine IDX_i hs17 (by omega) (by omega) fun b o hc => ?_
      rw [LDi_of (n := wk) hc]
      refine IDX_i hs (by omega) (by omega) fun b9 o9 hc9 => ?_
      have hl9 := cellH_lt hc9
      have hc17 : cellH w17.heap b9 o9 = some (.int .i64 tm) := by rw [hE017.cell hl9 (by simp)]; exact hc9
      rw [LDi_of (n := tm) hc17]
      refine ST1_of trivial (hE17.obj0 hb315) (by simp) fun w18 h18 e18 => ?_
      refine ⟨KEEP_cell ?_ KEEP_nil, ?_⟩
      · rw [e18.cell (cellH_lt hc17) (by simp; omega)]; exact hc17
      refine ST1_of trivial h18 (by simp) fun w19 h19 e19 => ?_
      have hall := effg e18 e19
      exact ⟨KEEP_nil, done (hE017.own hall fun b hb => hne3 hb) (hall.obj (hE17.obj0 hb215) (by simpa using h23)) h19 ⟨rfl, .inl rfl⟩⟩
    · obtain ⟨tm, rfl⟩ : ∃ tm, x = { k := 4, tm := tm } := ⟨_, hx⟩
      have hns : (toL { k := 4, tm := tm }).ns = [tm] := rfl
      rw [hns] at hs
      have hl : l = 1 := hs.1
      refine ITE_eq (fun h => absurd h (show ¬ ((4 : Int) = 1) by decide)) (fun _ => ?_)
      refine ITE_eq (fun h => absurd h (show ¬ ((4 : Int) = 2) by decide)) (fun _ => ?_)
      refine ITE_eq (fun h => absurd h (show ¬ ((4 : Int) = 3) by decide)) (fun _ => ?_)
      refine ITE_eq (fun _ => ?_) (fun h => absurd rfl h)
      refine IDX_i (hs.eff hE015) (by omega) (by omega) fun b o hc => ?_
      rw [LDi_of (n := tm) hc]
      refine ST1_of trivial hb315 (by simp) fun w18 h18 e18 => ?_
      exact done (hE015.own e18 fun b hb => hne3 hb) (e18.obj hb215 (by simpa using h23)) h18 ⟨rfl, .inl rfl⟩
    · obtain ⟨wk, rfl⟩ : ∃ wk, x = { k := 5, wk := wk } := ⟨_, hx⟩
      have hns : (toL { k := 5, wk := wk }).ns = [wk] := rfl
      rw [hns] at hs
      have hl : l = 1 := hs.1
      refine ITE_eq (fun h => absurd h (show ¬ ((5 : Int) = 1) by decide)) (fun _ => ?_)
      refine ITE_eq (fun h => absurd h (show ¬ ((5 : Int) = 2) by decide)) (fun _ => ?_)
      refine ITE_eq (fun h => absurd h (show ¬ ((5 : Int) = 3) by decide)) (fun _ => ?_)
      refine ITE_eq (fun h => absurd h (show ¬ ((5 : Int) = 4) by decide)) (fun _ => ?_)
      refine ITE_eq (fun _ => ?_) (fun h => absurd rfl h)
      refine IDX_i (hs.eff hE015) (by omega) (by omega) fun b o hc => ?_
      rw [LDi_of (n := wk) hc]
      refine ST1_of trivial hb315 (by simp) fun w18 h18 e18 => ?_
      exact done (hE015.own e18 fun b hb => hne3 hb) (e18.obj hb215 (by simpa using h23)) h18 ⟨rfl, .inl rfl⟩
    · obtain ⟨k, rfl⟩ : ∃ k, x = { k := k } := ⟨_, hx⟩
      have hk : 6 ≤ k := hk
      have hkk : toL { k := k } = { k := k } := by
        unfold toL
        rw [if_neg (by show ¬ k = 1; omega), if_neg (by show ¬ k = 2; omega), if_neg (by show ¬ k = 3; omega), if_neg (by show ¬ k = 4; omega), if_neg (by show ¬ k = 5; omega)]
      rw [hkk] at hb315 ⊢
      refine ITE_eq (fun (h : k = 1) => by omega) (fun _ => ?_)
      refine ITE_eq (fun (h : k = 2) => by omega) (fun _ => ?_)
      refine ITE_eq (fun (h : k = 3) => by omega) (fun _ => ?_)
      refine ITE_eq (fun (h : k = 4) => by omega) (fun _ => ?_)
      refine ITE_eq (fun (h : k = 5) => by omega) (fun _ => ?_)
      exact done hE015 hb215 hb315 ⟨rfl, .inl rfl⟩
  · intro w32 ⟨_, a', l', c', hE32, hb232, hb332, hx⟩
    refine LD11 (x := x) hb332 ?_
    refine FIN11 (x := x) hE32 hw2 hb232 fun w43 hE43 _ => ⟨hE43, a', l', c', rfl, hx.eff hE43⟩

theorem AGG_ln {x : Ln} {a : Option Addr} {l c : Nat} {K : Int → Int → Int → Int → Int → Int → Int → Option Addr → Nat → Nat → Int → Int → Int → Prop} :
    (AGGV (lnV x a l c) fun cs => GETV cs 0 fun v => INTV .i64 v fun k => GETV cs 1 fun v => INTV .i64 v fun wk => GETV cs 2 fun v => INTV .i64 v fun tm => GETV cs 3 fun v => INTV .i64 v fun c0 => GETV cs 4 fun v => INTV .i64 v fun c1 => GETV cs 5 fun v => INTV .i64 v fun c2 => GETV cs 6 fun v => INTV .i64 v fun c3 => GETV cs 7 fun v => SLV v fun a l c => GETV cs 8 fun v => INTV .i64 v fun rk => GETV cs 9 fun v => INTV .i64 v fun rn => GETV cs 10 fun v => INTV .i64 v fun of => LEN cs 11 (K k wk tm c0 c1 c2 c3 a l c rk rn of)) = K x.k x.wk x.tm x.c0 x.c1 x.c2 x.c3 a l c x.rk x.rn x.of := rfl

theorem may_few {y : Ln} (h : mayL y) : y.cls.length ≤ 28 := by
  rcases h with ⟨_, _, h⟩ | ⟨_, h, _⟩ | ⟨_, h⟩ | ⟨_, h⟩ | ⟨_, h⟩ | ⟨_, _, h⟩
  · exact h
  all_goals (rw [h]; simp)

theorem TextParses_spec (hg : Glo w) (s : ByteArray) : CALL Pg F_l25_TextParses [.string s] w fun v w' => Eff w w' [] ∧ v = .bool true := by
  apply C_l25_TextParses
  unfold D_l25_TextParses
  refine (speaks_spec hg).mono fun v w1 ⟨hE1, hv⟩ => ?_
  subst hv
  rw [BOOLV_bool]
  refine ITE_intro (fun h => by cases h) (fun _ => ?_)
  refine ITE_d (fun _ => ⟨hE1, rfl⟩) (fun hl => ?_)
  refine (Parse_spec (hg.eff hE1) (by omega)).mono fun v w2 ⟨hE2, y, ya, yl, yc, t, hv, hy, hp⟩ => ?_
  subst hv
  rw [TUP_lnb]
  have hE02 := hE1.trans0 hE2
  intro b1 w3 hE3 hs3 hb3
  refine ST11_of ⟨trivial, trivial, trivial, trivial, trivial, trivial, trivial, trivial, trivial, trivial, trivial⟩ hE3 hs3 hb3 fun w14 hE14 hb114 _ => ?_
  have hE014 := hE02.trans0 hE14
  refine (Parse25_spec (by omega)).mono fun v w15 ⟨hE15, r, ra, rl, rc, u, hv, hr, hq, hlc, _⟩ => ?_
  subst hv
  rw [TUP_rnb]
  have hb115 := hE15.obj0 hb114
  intro b2 w16 hE16 hs16 hb16
  refine ST4_of trivial trivial trivial trivial hE16 hs16 hb16 fun w20 hE20 hb220 _ => ?_
  have hE020 := (hE014.trans0 hE15).trans0 hE20
  have hb120 := hE20.obj0 hb115
  have hy20 := hy.eff ((hE14.trans0 hE15).trans0 hE20)
  have hr20 := hr.eff hE20
  unfold ParseP at hp
  unfold RefP at hq
  have htu : t = u := by
    rcases hp with ⟨h1, h2⟩ | ⟨h1, h2, _⟩ <;> rcases hq with ⟨h3, x, h4, _⟩ | ⟨h3, h4⟩
    · rw [h1, h3]
    · rw [h2] at h4; cases h4
    · rw [h2] at h4; cases h4
    · rw [h1, h3]
  subst htu
  refine ITE_intro (fun h => by cases t <;> cases h) (fun _ => ?_)
  rcases hp with ⟨rfl, hp⟩ | ⟨rfl, hp, rfl⟩
  · refine ITE_intro (fun h => by cases h) (fun _ => ?_)
    obtain rfl : r = toL y := by
      rcases hq with ⟨_, x, hx, hr⟩ | ⟨h, _⟩
      · rw [hp] at hx
        rw [hr, Option.some.inj hx]
      · cases h
    have hm : mayL y := parse_may (cut_ne _) hp
    have hin : inL y := parse_in (cut_ne _) hp
    have hfew := may_few hm
    have hyl : yl = y.cls.length := hy.1
    refine ⟨fun vs w' => Eff w w' [] ∧ vs = [.bool true], ?_, ?_⟩
    · intro w22 hE22 _
      have hE022 := hE020.trans0 hE22
      have hb122 := hE22.obj0 hb120
      have hb222 := hE22.obj0 hb220
      refine LD11 (x := y) hb122 (LD4 (r := toL y) hb222 ?_)
      refine (of_spec hm (hr20.eff hE22) hlc).mono fun v w23 ⟨hE23, xa, xl, xc, hv, hx⟩ => ?_
      subst hv
      rw [AGG_ln]
      have hb123 := hE23.obj0 hb122
      have hy23 := hy20.eff (hE22.trans0 hE23)
      refine ⟨KEEP_cell (cellH_of hb123 0) (KEEP_cell (cellH_of hb123 1) (KEEP_cell (cellH_of hb123 2) (KEEP_cell (cellH_of hb123 3) (KEEP_cell (cellH_of hb123 4) (KEEP_cell (cellH_of hb123 5) (KEEP_cell (cellH_of hb123 6) (KEEP_cell (cellH_of hb123 7) (KEEP_cell (cellH_of hb123 8) (KEEP_cell (cellH_of hb123 9) (KEEP_cell (cellH_of hb123 10) KEEP_nil)))))))))), ?_⟩
      refine (same_spec hy23 hx (by omega)).mono fun v w24 ⟨hE24, hv⟩ => ?_
      subst hv
      rw [BOOLV_bool, decide_eq_true rfl]
      refine ⟨KEEP_nil, ?_⟩
      rw [ITE_true]
      have hE024 := (hE022.trans0 hE23).trans0 hE24
      refine LD11 (x := y) (hE24.obj0 hb123) ?_
      refine (Text_spec (hg.eff hE024) (hy23.eff hE24) hin (by omega)).mono fun v w25 ⟨hE25, hv⟩ => ?_
      subst hv
      rw [STRV_string, bs_beq, (parse_text hp).2.2, decide_eq_true rfl]
      exact ⟨KEEP_nil, hE024.trans0 hE25, rfl⟩
    · intro w26 v38 ⟨hE, hv⟩
      cases hv
      rw [BOOLV_bool]
      exact ⟨hE, rfl⟩
  · refine ITE_intro (fun _ => ?_) (fun h => by cases h)
    refine LD11 (x := {}) hb120 ?_
    refine (same_spec (x := {}) (y := {}) hy20 (ya := none) (yl := 0) (yc := 0) ⟨rfl, .inl rfl⟩ (by have : yl = 0 := hy.1; omega)).mono fun v w21 ⟨hE21, hv⟩ => ?_
    subst hv
    rw [BOOLV_bool, decide_eq_true rfl]
    exact ⟨hE020.trans0 hE21, rfl⟩
end
end Go.Proofs.YtmanfmpdmmhbfaaDoor
