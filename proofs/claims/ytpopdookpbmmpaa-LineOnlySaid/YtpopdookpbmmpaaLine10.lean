/- The law LineLater: what it answers. -/
import Derived.Test.YtpopdookpbmmpaaLine9
namespace Go.Proofs.Ytpopdookpbmmpaa
open Go.Den
set_option maxRecDepth 100000
set_option maxHeartbeats 4000000

/-- Events in a slice of one's own. -/
abbrev OwE (w : World) (v : Value) (xs : List Ev) : Prop := w.ownsRow 0 T_api_Event_api_Event 9 v xs.length (xs.flatMap encE)
theorem elem_ev : Elem Pg T_Lapi_Event T_api_Event_api_Event 9 72 := Elem.of (by kernel_rfl)

section
variable {w : World}

theorem OwE.sl {a : Option Addr} {l c : Nat} {xs : List Ev} (h : OwE w (.slice a l c) xs) : l = xs.length ∧ SlE w.heap a l xs := own_sl encE_len (by omega) h
theorem OwE.eff {w' : World} {v : Value} {xs : List Ev} (h : OwE w v xs) (hE : Eff w w' []) : OwE w' v xs := own_eff0 h hE

theorem SEML_ev {v : Value} {xs : List Ev} {x : Ev} {vb : Nat} {K : Value → World → Prop} (ho : OwE w v xs) (hl : xs.length ≤ 100000000000) (hvb : w.heap[vb]? = some (.cells (encE x).toArray T_api_Event_api_Event (0, 0)))
    (hK : ∀ a' c' w', OwE w' (.slice a' (xs.length + 1) c') (xs ++ [x]) → Eff w w' (ownL v) → (∀ b ∈ ownL (.slice a' (xs.length + 1) c'), b ∈ ownL v ∨ b = w.heap.size) → K (.slice a' (xs.length + 1) c') w') :
    SEML Pg w (Builtin.append_ #[T_Lapi_Event, T_Lapi_Event] T_Lapi_Event #[v, .slice (some ⟨vb, 0, none⟩) 1 1]) K := by
  refine SEML_app (m := 1) (news := encE x) elem_ev ho rfl (.inr ⟨vb, 0, rfl, fun j u hu => by rw [cellH_of hvb, Nat.zero_add]; exact hu⟩) (by simp only [encE, List.mem_cons, List.not_mem_nil, or_false]; rintro u (rfl | rfl | rfl | rfl | rfl | rfl | rfl | rfl | rfl) <;> trivial)
    (by omega) (by omega) (Nat.zero_le _) fun a' c' w' h1 h2 h3 => hK a' c' w' ?_ h2 h3
  unfold OwE
  rw [List.flatMap_append, List.length_append]
  simpa using h1

variable {l : List Ev} {la : Option Addr} {ll lc : Nat}

theorem take_map_snoc {f : Ev → Ev} {k : Nat} (hk : k < l.length) : (l.take (k + 1)).map f = (l.take k).map f ++ [f (l.getD k ev0)] := by
  have e : l.take (k + 1) = l.take k ++ [l.getD k ev0] := by
    rw [List.take_succ_eq_append_getElem hk]; simp [List.getD_eq_getElem?_getD, hk]
  rw [e, List.map_append]; rfl

theorem LineLater_spec (hs : SlE w.heap la ll l) {x : Int} (hx : 0 ≤ x ∧ x ≤ 65535) {o : List Int} {oa : Option Addr} {ol oc : Nat} (ho : SlI w.heap oa ol o) :
    CALL Pg F_l21_LineLater [.slice la ll lc, .int .u16 x, .slice oa ol oc] w fun v w' => Eff w w' [] ∧ v = .bool true := by
  apply C_l21_LineLater
  unfold D_l21_LineLater
  have hll := hs.1
  refine l21_speaks_spec.mono fun v w1 ⟨hE1, hv⟩ => ?_
  subst hv
  rw [BOOLV_bool]
  refine ITE_intro (fun h => by cases h) (fun _ => ?_)
  refine ITE_d (fun _ => ⟨hE1, rfl⟩) (fun h1 => ?_)
  refine ITE_d (fun _ => ⟨hE1, rfl⟩) (fun h2 => ?_)
  refine LOOP_of (fun vs w' => ∃ (k : Nat) (v : Value), vs = [.bool false, v, .int .i64 k] ∧ k ≤ ll ∧ Eff w1 w' [] ∧ OwE w' v ((l.take k).map (later x)) ∧ (∀ b ∈ ownL v, w1.heap.size ≤ b) ∧ ∀ j, j < k → 1 ≤ (l.getD j ev0).b ∧ 0 ≤ (l.getD j ev0).p ∧ 0 ≤ (l.getD j ev0).e)
    (fun vs _ => match vs with | [_, _, .int _ n] => ll - n.toNat | _ => 0) ⟨0, _, rfl, by omega, Eff.refl _, ⟨rfl, .inl ⟨rfl, rfl⟩⟩, by simp [ownL, Value.ownBlock], by simp⟩ ?_
  intro w2 v2 v3 v4 ⟨k, v, hv, hk, hE2, hm, hmn, hall⟩
  simp only [List.cons.injEq, and_true] at hv
  obtain ⟨rfl, rfl, rfl⟩ := hv
  have hml : ((l.take k).map (later x)).length = k := by simp; omega
  obtain ⟨ma, mc, rfl⟩ := own_slice hm
  rw [INTV_int, SLV_slice, BOOLV_bool]
  have hE02 := hE1.trans0 hE2
  refine ITE_d (fun h3 => ?_) (fun h3 => ?_)
  · have hkl : k < l.length := by omega
    refine IDX_e (hs.eff hE02) (by omega) (by omega) fun b p hc => LD9 hc ?_
    rw [atE_nat]
    generalize he : l.getD k ev0 = e at *
    intro b2 w3 hE3 hs3 hb3
    refine ST9_of hE3 hs3 hb3 fun w12 hE12 hb12 _ => ?_
    have hE012 := hE02.trans0 hE12
    rw [LDi_of (cellH_of hb12 6)]
    refine ITE_d (fun _ => ⟨hE012, rfl⟩) (fun h4 => ?_)
    rw [LDi_of (cellH_of hb12 7)]
    refine ITE_d (fun _ => ⟨hE012, rfl⟩) (fun h5 => ?_)
    rw [LDi_of (cellH_of hb12 8)]
    refine ITE_d (fun _ => ⟨hE012, rfl⟩) (fun h6 => ?_)
    rw [LDi_of (cellH_of hb12 6)]
    refine ITE_d (fun _ => ⟨hE012, rfl⟩) (fun h7 => ?_)
    rw [LDi_of (cellH_of hb12 7)]
    refine ITE_d (fun _ => ⟨hE012, rfl⟩) (fun h8 => ?_)
    rw [LDi_of (cellH_of hb12 8)]
    refine ITE_d (fun _ => ⟨hE012, rfl⟩) (fun h9 => ?_)
    rw [LDi_of (cellH_of hb12 6)]
    refine BINDw (by omega) (by omega) (BINDw (by omega) (by omega) ?_)
    refine ST1_of trivial hb12 (by simp) fun w13 hb13 hE13 => ?_
    have hb13 : w13.heap[b2]? = some (.cells (encE { e with b := e.b + x }).toArray T_api_Event_api_Event (0, 0)) := hb13
    have hE213 : Eff w2 w13 [] := hE12.own hE13 (by simpa using hs3)
    refine ⟨fun vs w' => vs = [] ∧ Eff w2 w' [] ∧ w'.heap[b2]? = some (.cells (encE { e with b := e.b + x, p := (later x e).p }).toArray T_api_Event_api_Event (0, 0)), ⟨fun vs w' => vs = [.bool (decide (e.p > 0))] ∧ w' = w13, ?_, ?_⟩, ?_⟩
    · rw [LDi_of (cellH_of hb13 7)]; exact ⟨rfl, rfl⟩
    · intro w14 v5 ⟨hv, hw⟩
      subst hw
      cases hv
      rw [BOOLV_bool]
      refine ITE_d (fun h10 => ?_) (fun h10 => ⟨rfl, hE213, ?_⟩)
      · rw [LDi_of (n := e.p) (cellH_of hb13 7)]
        refine BINDw (by omega) (by omega) (BINDw (by omega) (by omega) ?_)
        refine ST1_of trivial hb13 (by simp [encE]) fun w15 hb15 hE15 => ⟨rfl, hE213.own hE15 (by simpa using hs3), ?_⟩
        rw [hb15]
        unfold later encE
        dsimp only
        rw [if_pos (by omega)]
        rfl
      · rw [hb13]
        unfold later
        dsimp only
        rw [if_neg (by omega)]
    intro w16 ⟨_, hE16, hb16⟩
    refine ⟨fun vs w' => vs = [] ∧ Eff w2 w' [] ∧ w'.heap[b2]? = some (.cells (encE (later x e)).toArray T_api_Event_api_Event (0, 0)), ⟨fun vs w' => vs = [.bool (decide (e.e > 0))] ∧ w' = w16, ?_, ?_⟩, ?_⟩
    · rw [LDi_of (cellH_of hb16 8)]; exact ⟨rfl, rfl⟩
    · intro w17 v6 ⟨hv, hw⟩
      subst hw
      cases hv
      rw [BOOLV_bool]
      refine ITE_d (fun h10 => ?_) (fun h10 => ⟨rfl, hE16, ?_⟩)
      · rw [LDi_of (n := e.e) (cellH_of hb16 8)]
        refine BINDw (by omega) (by omega) (BINDw (by omega) (by omega) ?_)
        refine ST1_of trivial hb16 (by simp [encE]) fun w18 hb18 hE18 => ⟨rfl, hE16.own hE18 (by simpa using hs3), ?_⟩
        rw [hb18]
        unfold later encE
        dsimp only
        rw [if_pos (show 0 < e.e by omega)]
        rfl
      · rw [hb16]
        have : (later x e) = { e with b := e.b + x, p := (later x e).p } := by
          unfold later
          dsimp only
          rw [if_neg (show ¬ 0 < e.e by omega)]
        rw [← this]
    intro w19 ⟨_, hE19, hb19⟩
    refine LD9b hb19 ?_
    intro b3 w20 hE20 hs20 hb20
    have hE220 := hE19.trans0 hE20
    refine SEML_ev (x := later x e) (hm.eff hE220) (by omega) hb20 fun a' c' w21 hm21 hE21 hn21 => ?_
    rw [SLV_slice]
    have hE120 := hE2.trans0 hE220
    refine BINDw (by omega) (by omega) ⟨⟨k + 1, _, rfl, by omega, hE120.own hE21 hmn, ?_, fun b hb => ?_, fun j hj => ?_⟩, by first | omega | (dsimp only; omega)⟩
    · rw [take_map_snoc hkl, he]
      exact hm21
    · rcases hn21 b hb with h | h
      · exact hmn b h
      · rw [h]; exact hE120.size
    · rcases Nat.lt_or_ge j k with h | h
      · exact hall j h
      · have : j = k := by omega
        rw [this, he]; omega
  have hkl : k = l.length := by omega
  subst hkl
  rw [List.take_length] at hm hmn hml ⊢
  have hgood : ∀ e ∈ l, 1 ≤ e.b ∧ 0 ≤ e.p ∧ 0 ≤ e.e := fun e he => by
    obtain ⟨j, hj, rfl⟩ := List.getElem_of_mem he
    have := hall j hj
    have e1 : l.getD j ev0 = l[j] := by simp [hj]
    rw [e1] at this; exact this
  have hsm := hm.sl.2
  refine (Order_spec (hs.eff hE02) (by omega)).mono fun u w22 ⟨hE22, oa1, a3, c3, hu, hoa, howa, _⟩ => ?_
  subst hu
  rw [SLV_slice]
  refine (Order_spec (hsm.eff hE22) (by omega)).mono fun u w23 ⟨hE23, ob, a4, c4, hu, hob, howb, _⟩ => ?_
  have hsame := hoa.unique (later_ord hx.1 hob)
  subst hu hsame
  rw [SLV_slice]
  have hE223 := hE22.trans0 hE23
  have hA := (howa.eff hE23).sl.2
  have hB := howb.sl.2
  have hol := hoa.len
  refine LOOP_of (fun vs w' => ∃ k : Nat, vs = [.bool false, .int .i64 k] ∧ k ≤ oa1.length ∧ Eff w23 w' [])
    (fun vs _ => match vs with | [_, .int _ n] => oa1.length - n.toNat | _ => 0) ⟨0, rfl, by omega, Eff.refl _⟩ ?_
  intro w24 v10 v11 ⟨k, hv, hk2, hE24⟩
  simp only [List.cons.injEq, and_true] at hv
  obtain ⟨rfl, rfl⟩ := hv
  rw [INTV_int, BOOLV_bool]
  refine ITE_d (fun h4 => ?_) (fun h4 => ?_)
  · intro w25 hE25 _
    have hE2325 := hE24.trans0 hE25
    refine ITE_d (fun h5 => by omega) (fun h5 => ?_)
    refine IDX_i (hA.eff hE2325) (by omega) (by omega) fun b p hc => ?_
    rw [LDi_of hc]
    refine IDX_i (hB.eff hE2325) (by omega) (by omega) fun b p hc => ?_
    rw [LDi_of hc]
    exact ITE_ne (fun h => absurd rfl h) (fun _ => BINDw (by omega) (by omega) ⟨⟨k + 1, rfl, by omega, hE2325⟩, by first | omega | (dsimp only; omega)⟩)
  refine ITE_eq (fun _ => ?_) (fun h => absurd rfl h)
  have hE224 := hE223.trans0 hE24
  have hE024 := hE02.trans0 hE224
  refine (line_Right_spec (hs.eff hE024) (by omega)).mono fun u w26 ⟨hE26, t6, hu, ht6⟩ => ?_
  subst hu
  rw [BOOLV_bool]
  have hE226 := hE224.trans0 hE26
  refine (line_Right_spec (hsm.eff hE226) (by omega)).mono fun u w27 ⟨hE27, t7, hu, ht7⟩ => ?_
  subst hu
  rw [BOOLV_bool]
  refine ITE_same ht6 (ht7.trans (later_right hx.1 hgood)) ?_
  have hE227 := hE226.trans0 hE27
  have hE027 := hE02.trans0 hE227
  refine (line_Fits_spec (hs.eff hE027) (by omega) (ho.eff hE027) (by omega)).mono fun u w28 ⟨hE28, t8, hu, ht8⟩ => ?_
  subst hu
  rw [BOOLV_bool]
  have hE228 := hE227.trans0 hE28
  have hE028 := hE02.trans0 hE228
  refine (line_Fits_spec (hsm.eff hE228) (by omega) (ho.eff hE028) (by omega)).mono fun u w29 ⟨hE29, t9, hu, ht9⟩ => ?_
  subst hu
  rw [BOOLV_bool]
  exact ⟨hE028.trans0 hE29, by rw [same_true ht8 (ht9.trans (later_fits hx.1 hgood))]⟩
end
end Go.Proofs.Ytpopdookpbmmpaa
