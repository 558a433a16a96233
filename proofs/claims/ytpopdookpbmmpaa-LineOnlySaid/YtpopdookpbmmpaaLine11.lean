/- The law LineOnly: what it answers. -/
import Derived.Test.YtpopdookpbmmpaaLine10
namespace Go.Proofs.Ytpopdookpbmmpaa
open Go.Den
set_option maxRecDepth 100000
set_option maxHeartbeats 4000000

/-- Is it one of these workers'? -/
def isOf (workers x : Int) : Bool := decide (0 ≤ x ∧ x < 8 ∧ bitI .and .u8 (shI .shr .u8 workers x) 1 = 1)

/-- The numbers of those that are taken, among the first k. -/
def atsK (p : Ev → Bool) (l : List Ev) (k : Nat) : List Int := ((List.range k).filter fun i => p (l.getD i ev0)).map Int.ofNat

theorem atsK_all (p : Ev → Bool) (l : List Ev) : atsK p l l.length = (ats p l).map Int.ofNat := rfl

theorem atsK_snoc {p : Ev → Bool} {l : List Ev} {k : Nat} : atsK p l (k + 1) = atsK p l k ++ if p (l.getD k ev0) then [(k : Int)] else [] := by
  unfold atsK
  rw [List.range_succ, List.filter_append, List.map_append]
  congr 1
  simp only [List.filter_cons, List.filter_nil]
  split <;> rfl

theorem atsK_len (p : Ev → Bool) (l : List Ev) (k : Nat) : (atsK p l k).length ≤ k := by
  unfold atsK
  rw [List.length_map]
  exact Nat.le_trans (List.length_filter_le _ _) (by simp)

theorem fil_snoc {p : Ev → Bool} {l : List Ev} {k : Nat} (hk : k < l.length) : (l.take (k + 1)).filter p = (l.take k).filter p ++ if p (l.getD k ev0) then [l.getD k ev0] else [] := by
  have e : l.take (k + 1) = l.take k ++ [l.getD k ev0] := by
    rw [List.take_succ_eq_append_getElem hk]; simp [List.getD_eq_getElem?_getD, hk]
  rw [e, List.filter_append]
  congr 1
  simp only [List.filter_cons, List.filter_nil]

section
variable {w : World} {l : List Ev} {la : Option Addr} {ll lc : Nat}

theorem LineOnly_spec (hs : SlE w.heap la ll l) (workers : Int) : CALL Pg F_l21_LineOnly [.slice la ll lc, .int .u8 workers] w fun v w' => Eff w w' [] ∧ v = .bool true := by
  apply C_l21_LineOnly
  unfold D_l21_LineOnly
  have hll := hs.1
  refine l21_speaks_spec.mono fun v w1 ⟨hE1, hv⟩ => ?_
  subst hv
  rw [BOOLV_bool]
  refine ITE_intro (fun h => by cases h) (fun _ => ?_)
  refine ITE_d (fun _ => ⟨hE1, rfl⟩) (fun h1 => ?_)
  refine (r21_Right_spec (hs.eff hE1) (by omega)).mono fun u w2 ⟨hE2, t2, hu, ht2⟩ => ?_
  subst hu
  rw [BOOLV_bool]
  have hE02 := hE1.trans0 hE2
  refine ITE_intro (fun _ => ⟨hE02, rfl⟩) (fun h => ?_)
  have hR := ht2.1 (by simpa using h)
  intro b1 w3 hE3 hs3 hb3
  have hE03 := hE02.trans0 hE3
  let p : Ev → Bool := fun e => isOf workers e.w
  have hp : ∀ e : Ev, p e = isOf workers e.w := fun _ => rfl
  refine LOOP_of (fun vs w' => ∃ (k : Nat) (v u : Value), vs = [v, u, .int .i64 k] ∧ k ≤ ll ∧ Eff w2 w' [] ∧ OwE w' v ((l.take k).filter p) ∧ OwI w' u (atsK p l k) ∧ (∀ b ∈ ownL v, w2.heap.size ≤ b ∧ b ∉ ownL u) ∧ ∀ b ∈ ownL u, w2.heap.size ≤ b)
    (fun vs _ => match vs with | [_, _, .int _ n] => ll - n.toNat | _ => 0)
    ⟨0, _, _, rfl, by omega, hE3, ⟨rfl, .inl ⟨rfl, rfl⟩⟩, own_mk hb3 rfl (Nat.le_refl _) (by simp) rfl rfl (Nat.zero_le _), by simp [ownL, Value.ownBlock], by simpa [ownL, Value.ownBlock] using hs3⟩ ?_
  intro w4 v3 v4 v5 ⟨k, v, u, hv, hk, hE4, hm, hat, hmn, han⟩
  simp only [List.cons.injEq, and_true] at hv
  obtain ⟨rfl, rfl, rfl⟩ := hv
  have hml : ((l.take k).filter p).length ≤ k := Nat.le_trans (List.length_filter_le _ _) (by simp; omega)
  have hal := atsK_len p l k
  obtain ⟨ma, mc, rfl⟩ := own_slice hm
  obtain ⟨aa, ac, rfl⟩ := own_slice hat
  rw [INTV_int, SLV_slice, SLV_slice]
  have hE04 := hE02.trans0 hE4
  refine ITE_d (fun h3 => ?_) (fun h3 => ?_)
  · have hkl : k < l.length := by omega
    have hfs := fil_snoc (p := p) hkl
    have has := atsK_snoc (p := p) (l := l) (k := k)
    refine IDX_e (hs.eff hE04) (by omega) (by omega) fun b q hc => LD9 hc ?_
    rw [atE_nat]
    generalize he : l.getD k ev0 = e at *
    intro b3 w5 hE5 hs5 hb5
    refine ST9_of hE5 hs5 hb5 fun w14 hE14 hb14 _ => ?_
    have hb14' : w14.heap[b3]? = some (.cells (encE e).toArray T_api_Event_api_Event (0, 0)) := hb14
    have hE214 := hE4.trans0 hE14
    have skip : p e = false → (∃ (k' : Nat) (v u : Value), [Value.slice ma ((l.take k).filter p).length mc, .slice aa (atsK p l k).length ac, .int .i64 ((k : Int) + 1)] = [v, u, .int .i64 k'] ∧ k' ≤ ll ∧ Eff w2 w14 [] ∧ OwE w14 v ((l.take k').filter p) ∧ OwI w14 u (atsK p l k') ∧ (∀ b ∈ ownL v, w2.heap.size ≤ b ∧ b ∉ ownL u) ∧ ∀ b ∈ ownL u, w2.heap.size ≤ b) := fun h => by
      refine ⟨k + 1, _, _, rfl, by omega, hE214, ?_, ?_, hmn, han⟩
      · rw [hfs, h, if_neg (by simp), List.append_nil]; exact hm.eff hE14
      · rw [has, h, if_neg (by simp), List.append_nil]; exact hat.eff hE14
    have notp : ¬ (0 ≤ e.w ∧ e.w < 8 ∧ bitI .and .u8 (shI .shr .u8 workers e.w) 1 = 1) → p e = false := fun h => by rw [hp]; unfold isOf; exact decide_eq_false h
    have h00 := cellH_of hb14' 0
    rw [LDi_of (n := e.w) h00]
    refine ITE_d (fun h4 => ?_) (fun h4 => BINDw (by omega) (by omega) ⟨skip (notp fun h => by omega), by first | omega | (dsimp only; omega)⟩)
    rw [LDi_of (n := e.w) h00]
    refine ITE_d (fun h5 => ?_) (fun h5 => BINDw (by omega) (by omega) ⟨skip (notp fun h => by omega), by first | omega | (dsimp only; omega)⟩)
    rw [LDi_of (n := e.w) h00]
    refine GE0_of h4 (BINDx rfl (BINDx rfl ?_))
    refine ITE_eq (fun h6 => ?_) (fun h6 => BINDw (by omega) (by omega) ⟨skip (notp fun h => h6 h.2.2), by first | omega | (dsimp only; omega)⟩)
    have hpe : p e = true := by rw [hp]; unfold isOf; exact decide_eq_true ⟨h4, h5, h6⟩
    refine LD9b hb14' ?_
    intro b4 w15 hE15 hs15 hb15
    have hE215 := hE214.trans0 hE15
    refine SEML_ev (x := e) ((hm.eff hE14).eff hE15) (by omega) hb15 fun a' c' w16 hm16 hE16 hn16 => ?_
    rw [SLV_slice]
    have hE216 : Eff w2 w16 [] := hE215.own hE16 (fun b hb => (hmn b hb).1)
    have hat16 : OwI w16 (.slice aa (atsK p l k).length ac) (atsK p l k) := own_eff ((hat.eff hE14).eff hE15) hE16 (fun b hb hb2 => (hmn b hb2).2 hb)
    intro b5 w17 hE17 hs17 hb17
    refine SEML_int (hat16.eff hE17) (by omega) hb17 fun a'' c'' w18 hat18 hE18 hn18 => ?_
    rw [SLV_slice]
    have hE217 := hE216.trans0 hE17
    have ltA : ∀ b ∈ ownL (.slice aa (atsK p l k).length ac), b < w4.heap.size := fun b hb => by
      rcases hat.2 with ⟨h6, _⟩ | ⟨g, cap, cur, h6, _, hg, _⟩
      · rw [h6] at hb; simp [ownL, Value.ownBlock] at hb
      · rw [h6] at hb; simp [ownL, Value.ownBlock] at hb; rw [hb]; exact obj_lt hg
    have hm16n : ∀ b ∈ ownL (.slice a' (((l.take k).filter p).length + 1) c'), w2.heap.size ≤ b ∧ b ∉ ownL (.slice aa (atsK p l k).length ac) ∧ b < w17.heap.size := fun b hb => by
      have hlt : b < w17.heap.size := by
        rcases hm16.2 with ⟨h6, _⟩ | ⟨g, cap, cur, h6, _, hg, _⟩
        · rw [h6] at hb; simp [ownL, Value.ownBlock] at hb
        · rw [h6] at hb; simp [ownL, Value.ownBlock] at hb; rw [hb]; exact obj_lt (hE17.obj0 hg)
      rcases hn16 b hb with h | h
      · exact ⟨(hmn b h).1, (hmn b h).2, hlt⟩
      · refine ⟨by rw [h]; exact hE215.size, fun hb2 => ?_, hlt⟩
        have h7 := ltA b hb2
        have := (hE14.trans0 hE15).size
        omega
    have hm18 : OwE w18 (.slice a' (((l.take k).filter p).length + 1) c') ((l.take k).filter p ++ [e]) := own_eff (hm16.eff hE17) hE18 (fun b hb => (hm16n b hb).2.1)
    refine BINDw (by omega) (by omega) ⟨⟨k + 1, _, _, rfl, by omega, hE217.own hE18 han, ?_, ?_, fun b hb => ⟨(hm16n b hb).1, fun hb2 => ?_⟩, fun b hb => ?_⟩, by first | omega | (dsimp only; omega)⟩
    · rw [hfs, hpe, if_pos rfl]; exact hm18
    · rw [has, hpe, if_pos rfl]; exact hat18
    · rcases hn18 b hb2 with h | h
      · exact (hm16n b hb).2.1 h
      · have := (hm16n b hb).2.2; omega
    · rcases hn18 b hb with h | h
      · exact han b h
      · rw [h]; exact hE217.size
  have hkl : k = l.length := by omega
  subst hkl
  rw [List.take_length] at hm hml hmn ⊢
  rw [atsK_all] at hat hal hmn han ⊢
  have hsm := hm.sl.2
  have hsA := hat.sl.2
  obtain ⟨at_, hatd⟩ : ∃ at_ : List Int, at_ = (ats p l).map Int.ofNat := ⟨_, rfl⟩
  have hatl : at_.length = (ats p l).length := by rw [hatd]; simp
  have hatg : ∀ i : Nat, i < at_.length → at_.getD i 0 = (((ats p l).getD i 0 : Nat) : Int) := fun i hi => by
    rw [hatd]
    rw [hatl] at hi
    simp [List.getD_eq_getElem?_getD, hi]
  rw [← hatd] at hat hal hmn han hsA ⊢
  have hatm : ∀ i : Int, 0 ≤ i → i < l.length → (i ∈ at_ ↔ p (atE l i) = true) := fun i h0 h1 => by
    rw [hatd, List.mem_map]
    constructor
    · rintro ⟨j, hj, rfl⟩
      have := (mem_ats.1 hj).2
      unfold atE
      simpa using this
    · intro h
      exact ⟨i.toNat, mem_ats.2 ⟨by omega, h⟩, by simp; omega⟩
  have hatn : at_.Nodup := by
    rw [hatd]
    refine List.Pairwise.map _ ?_ (ats_sorted p l)
    intro a b hab he
    have : (a : Int) = b := he
    omega
  refine (Order_spec (hs.eff hE04) (by omega)).mono fun u w19 ⟨hE19, o, a5, c5, hu, ho, hoo, _⟩ => ?_
  subst hu
  rw [SLV_slice]
  have hol := ho.len
  have hE019 := hE04.trans0 hE19
  have hso := hoo.sl.2
  -- what is wanted
  refine LOOP_of (fun vs w' => ∃ (n : Nat) (v : Value), vs = [v, .int .i64 n] ∧ n ≤ o.length ∧ Eff w19 w' [] ∧ OwI w' v ((o.take n).filter fun i => p (atE l i)) ∧ ∀ b ∈ ownL v, w19.heap.size ≤ b)
    (fun vs _ => match vs with | [_, .int _ n] => o.length - n.toNat | _ => 0) ⟨0, _, rfl, by omega, Eff.refl _, ⟨rfl, .inl ⟨rfl, rfl⟩⟩, by simp [ownL, Value.ownBlock]⟩ ?_
  intro w20 v9 v10 ⟨n, v, hv, hn, hE20, hwt, hwn⟩
  simp only [List.cons.injEq, and_true] at hv
  obtain ⟨rfl, rfl⟩ := hv
  obtain ⟨wa, wc, rfl⟩ := own_slice hwt
  rw [INTV_int, SLV_slice]
  have hwl : ((o.take n).filter fun i => p (atE l i)).length ≤ n := Nat.le_trans (List.length_filter_le _ _) (by simp; omega)
  refine ITE_d (fun h4 => ?_) (fun h4 => ?_)
  · refine IDX_i (hso.eff hE20) (by omega) (by omega) fun b q hc => ?_
    rw [LDi_of hc, show (n : Int).toNat = n by omega]
    have hts := take_snoc (U := o) (i := n) (by omega)
    have hin : o.getD n 0 ∈ o := getD_mem (by omega)
    obtain ⟨x, hx⟩ : ∃ x, x = o.getD n 0 := ⟨_, rfl⟩
    rw [← hx] at hts hin ⊢
    have hxr := ho.mem.1 hin
    refine LOOP_of (fun vs w' => ∃ (j : Nat) (v : Value), vs = [v, .int .i64 j] ∧ j ≤ at_.length ∧ Eff w19 w' [] ∧ OwI w' v (((o.take n).filter fun i => p (atE l i)) ++ if x ∈ at_.take j then [x] else []) ∧ ∀ b ∈ ownL v, w19.heap.size ≤ b)
      (fun vs _ => match vs with | [_, .int _ n] => at_.length - n.toNat | _ => 0) ⟨0, _, rfl, by omega, hE20, by simpa using hwt, hwn⟩ ?_
    intro w21 v11 v12 ⟨j, v, hv, hj, hE21, hwt2, hwn2⟩
    simp only [List.cons.injEq, and_true] at hv
    obtain ⟨rfl, rfl⟩ := hv
    obtain ⟨wa2, wc2, rfl⟩ := own_slice hwt2
    rw [INTV_int, SLV_slice]
    have hwl2 : (((o.take n).filter fun i => p (atE l i)) ++ if x ∈ at_.take j then [x] else []).length ≤ n + 1 := by
      rw [List.length_append]
      split <;> simp <;> omega
    refine ITE_d (fun h5 => ?_) (fun h5 => ?_)
    · refine IDX_i (hsA.eff ((hE19.trans0 hE21))) (by omega) (by omega) fun b q hc => ?_
      rw [LDi_of hc, show (j : Int).toNat = j by omega]
      have htj := take_snoc (U := at_) (i := j) (by omega)
      have hnj : at_.getD j 0 ∉ at_.take j := fun h => by
        have : (at_.take (j + 1)).Nodup := hatn.sublist (List.take_sublist _ _)
        rw [htj, List.nodup_append] at this
        exact this.2.2 _ h _ (by simp) rfl
      refine ITE_eq (fun h6 => ?_) (fun h6 => ?_)
      · rw [h6] at htj hnj
        rw [if_neg hnj, List.append_nil] at hwt2 hwl2 hwn2 ⊢
        intro b8 w22 hE22 hs22 hb22
        refine SEML_int (hwt2.eff hE22) (by omega) hb22 fun a' c' w23 hw23 hE23 hn23 => ?_
        rw [SLV_slice]
        have hE1922 := hE21.trans0 hE22
        refine BINDw (by omega) (by omega) ⟨⟨j + 1, _, rfl, by omega, hE1922.own hE23 hwn2, ?_, fun b hb => ?_⟩, by first | omega | (dsimp only; omega)⟩
        · rw [htj, if_pos (show x ∈ at_.take j ++ [x] by simp)]
          exact hw23
        · rcases hn23 b hb with h | h
          · exact hwn2 b h
          · rw [h]; exact hE1922.size
      · refine BINDw (by omega) (by omega) ⟨⟨j + 1, _, rfl, by omega, hE21, ?_, hwn2⟩, by first | omega | (dsimp only; omega)⟩
        have : (x ∈ at_.take (j + 1)) ↔ x ∈ at_.take j := by
          rw [htj]
          simp only [List.mem_append, List.mem_cons, List.not_mem_nil, or_false]
          exact ⟨fun h => h.resolve_right (fun e => h6 e.symm), .inl⟩
        simp only [this]
        exact hwt2
    · have hjl : j = at_.length := by omega
      subst hjl
      refine BINDw (by omega) (by omega) ⟨⟨n + 1, _, rfl, by omega, hE21, ?_, hwn2⟩, by first | omega | (dsimp only; omega)⟩
      have e : (o.take (n + 1)).filter (fun i => p (atE l i)) = ((o.take n).filter fun i => p (atE l i)) ++ if x ∈ at_.take at_.length then [x] else [] := by
        rw [hts, List.filter_append, List.take_length]
        congr 1
        simp only [List.filter_cons, List.filter_nil]
        by_cases h6 : x ∈ at_
        · rw [if_pos h6, if_pos ((hatm x hxr.1 hxr.2.1).1 h6)]
        · rw [if_neg h6, if_neg (fun h => h6 ((hatm x hxr.1 hxr.2.1).2 h))]
      rw [e]
      exact hwt2
  have hno : n = o.length := by omega
  subst hno
  rw [List.take_length] at hwt hwl hwn ⊢
  have hsw := hwt.sl.2
  -- what there is
  have hE219 := hE19.trans0 hE20
  refine (Order_spec (hsm.eff hE219) (by omega)).mono fun u w24 ⟨hE24, om, a9, c9, hu, hom, hoom, _⟩ => ?_
  subst hu
  rw [SLV_slice]
  have homl := hom.len
  have hsom := hoom.sl.2
  have honly := only_ord (p := p) ho hom
  refine LOOP_of (fun vs w' => ∃ (n : Nat) (v : Value), vs = [.bool false, v, .int .i64 n] ∧ n ≤ om.length ∧ Eff w24 w' [] ∧ OwI w' v ((om.take n).map fun i => (((ats p l).getD i.toNat 0 : Nat) : Int)) ∧ ∀ b ∈ ownL v, w24.heap.size ≤ b)
    (fun vs _ => match vs with | [_, _, .int _ n] => om.length - n.toNat | _ => 0) ⟨0, _, rfl, by omega, Eff.refl _, ⟨rfl, .inl ⟨rfl, rfl⟩⟩, by simp [ownL, Value.ownBlock]⟩ ?_
  intro w25 v15 v16 v17 ⟨n, v, hv, hn2, hE25, hg, hgn⟩
  simp only [List.cons.injEq, and_true] at hv
  obtain ⟨rfl, rfl, rfl⟩ := hv
  obtain ⟨ga, gc, rfl⟩ := own_slice hg
  rw [INTV_int, SLV_slice, BOOLV_bool]
  have hgl : ((om.take n).map fun i => (((ats p l).getD i.toNat 0 : Nat) : Int)).length = n := by simp; omega
  refine ITE_d (fun h5 => ?_) (fun h5 => ?_)
  · refine IDX_i (hsom.eff hE25) (by omega) (by omega) fun b q hc => ?_
    rw [LDi_of hc, show (n : Int).toNat = n by omega]
    have hts := take_snoc (U := om) (i := n) (by omega)
    have hin : om.getD n 0 ∈ om := getD_mem (by omega)
    obtain ⟨x, hx⟩ : ∃ x, x = om.getD n 0 := ⟨_, rfl⟩
    rw [← hx] at hts hin ⊢
    have hxr := hom.mem.1 hin
    rw [fil_len] at hxr
    refine ITE_d (fun h6 => by omega) (fun h6 => ?_)
    refine ITE_d (fun h7 => by omega) (fun h7 => ?_)
    refine IDX_i (((hsA.eff hE219).eff hE24).eff hE25) (by omega) (by omega) fun b q hc => ?_
    rw [LDi_of hc, hatg _ (by omega)]
    intro b11 w26 hE26 hs26 hb26
    refine SEML_int (hg.eff hE26) (by omega) hb26 fun a' c' w27 hg27 hE27 hn27 => ?_
    rw [SLV_slice]
    have hE2426 := hE25.trans0 hE26
    refine BINDw (by omega) (by omega) ⟨⟨n + 1, _, rfl, by omega, hE2426.own hE27 hgn, ?_, fun b hb => ?_⟩, by first | omega | (dsimp only; omega)⟩
    · rw [hts, List.map_append]
      exact hg27
    · rcases hn27 b hb with h | h
      · exact hgn b h
      · rw [h]; exact hE2426.size
  have hno : n = om.length := by omega
  subst hno
  rw [List.take_length] at hg hgl hgn ⊢
  rw [← honly] at hg hgl hgn ⊢
  have hsg := hg.sl.2
  have hE2425 := hE24.trans0 hE25
  refine ITE_ne (fun h => absurd rfl h) (fun _ => ?_)
  refine LOOP_of (fun vs w' => ∃ k : Nat, vs = [.bool false, .int .i64 k] ∧ k ≤ (o.filter fun i => p (atE l i)).length ∧ Eff w25 w' [])
    (fun vs _ => match vs with | [_, .int _ n] => (o.filter fun i => p (atE l i)).length - n.toNat | _ => 0) ⟨0, rfl, by omega, Eff.refl _⟩ ?_
  intro w28 v19 v20 ⟨k, hv, hk2, hE28⟩
  simp only [List.cons.injEq, and_true] at hv
  obtain ⟨rfl, rfl⟩ := hv
  rw [INTV_int, BOOLV_bool]
  refine ITE_d (fun h6 => ?_) (fun h6 => ?_)
  · intro w29 hE29 _
    have hE2529 := hE28.trans0 hE29
    refine IDX_i (hsg.eff hE2529) (by omega) (by omega) fun b q hc => ?_
    rw [LDi_of hc]
    refine IDX_i ((hsw.eff hE2425).eff hE2529) (by omega) (by omega) fun b q hc => ?_
    rw [LDi_of hc]
    exact ITE_ne (fun h => absurd rfl h) (fun _ => BINDw (by omega) (by omega) ⟨⟨k + 1, rfl, by omega, hE2529⟩, by first | omega | (dsimp only; omega)⟩)
  have hRm : RightP (l.filter p) := only_right (isOf workers) hp hR
  have hE428 := (hE219.trans0 hE2425).trans0 hE28
  refine (line_Right_spec (hsm.eff hE428) (by omega)).mono fun u w30 ⟨hE30, t5, hu, ht5⟩ => ?_
  subst hu
  rw [BOOLV_bool, ht5.2 hRm, ITE_true]
  have hE430 := hE428.trans0 hE30
  refine (Order_spec (hsm.eff hE430) (by omega)).mono fun u w31 ⟨hE31, o2, a12, c12, hu, ho2, hoo2, _⟩ => ?_
  subst hu
  rw [SLV_slice]
  have ho2l := ho2.len
  have hE431 := hE430.trans0 hE31
  refine (line_Fits_spec (hsm.eff hE431) (by omega) hoo2.sl.2 (by omega)).mono fun u w32 ⟨hE32, t6, hu, ht6⟩ => ?_
  subst hu
  rw [BOOLV_bool, ht6.2 (fits_ord hRm ho2)]
  exact ⟨(hE04.trans0 hE431).trans0 hE32, rfl⟩
end
end Go.Proofs.Ytpopdookpbmmpaa
