/- Whether events can be so, and the document's order and fits. -/
import Derived.Test.YtpopdookpbmmpaaLine6
namespace Go.Proofs.Ytpopdookpbmmpaa
open Go.Den
set_option maxRecDepth 100000
set_option maxHeartbeats 4000000

theorem TUP_e {a0 a1 a2 a3 a4 a5 a6 a7 a8 : Int} {y : Bool} {K : Int → Int → Int → Int → Int → Int → Int → Int → Int → Bool → Prop} :
    (TUPV (.tuple #[.agg #[.int .i64 a0, .int .i64 a1, .int .i64 a2, .int .i64 a3, .int .i64 a4, .int .i64 a5, .int .i64 a6, .int .i64 a7, .int .i64 a8], .bool y]) fun cs => GETV cs 0 fun v => AGGV v fun ds =>
      GETV ds 0 fun v => INTV .i64 v fun n0 => GETV ds 1 fun v => INTV .i64 v fun n1 => GETV ds 2 fun v => INTV .i64 v fun n2 => GETV ds 3 fun v => INTV .i64 v fun n3 => GETV ds 4 fun v => INTV .i64 v fun n4 =>
      GETV ds 5 fun v => INTV .i64 v fun n5 => GETV ds 6 fun v => INTV .i64 v fun n6 => GETV ds 7 fun v => INTV .i64 v fun n7 => GETV ds 8 fun v => INTV .i64 v fun n8 => LEN ds 9 (GETV cs 1 fun u => BOOLV u fun t => LEN cs 2 (K n0 n1 n2 n3 n4 n5 n6 n7 n8 t))) = K a0 a1 a2 a3 a4 a5 a6 a7 a8 y := rfl

theorem zero_ev_run : ∀ w, (zeroValue T_api_Event_api_Event).run Pg w = .ok (vE ev0) w := by
  obtain ⟨z, hz, h | h⟩ := zero_run (P := Pg) (t := T_api_Event_api_Event) (l := encE ev0) (by kernel_rfl)
  · subst h; exact hz
  · simp [encE] at h

section
variable {w : World} {l : List Ev} {la : Option Addr} {ll lc : Nat}

/-- An event is read, all of it. -/
theorem LD9 {b o : Nat} {e : Ev} {K : Int → Int → Int → Int → Int → Int → Int → Int → Int → Prop} (hc : ∀ j v, (encE e)[j]? = some v → cellH w.heap b (o + j) = some v) (hK : K e.w e.rk e.rn e.ac e.an e.st e.b e.p e.e) :
    LDi .i64 w ⟨b, o, none⟩ fun n0 => LDi .i64 w ⟨b, o + 1, none⟩ fun n1 => LDi .i64 w ⟨b, o + 2, none⟩ fun n2 => LDi .i64 w ⟨b, o + 3, none⟩ fun n3 => LDi .i64 w ⟨b, o + 4, none⟩ fun n4 => LDi .i64 w ⟨b, o + 5, none⟩ fun n5 =>
      LDi .i64 w ⟨b, o + 6, none⟩ fun n6 => LDi .i64 w ⟨b, o + 7, none⟩ fun n7 => LDi .i64 w ⟨b, o + 8, none⟩ fun n8 => K n0 n1 n2 n3 n4 n5 n6 n7 n8 := by
  have e0 := hc 0 _ rfl
  rw [Nat.add_zero] at e0
  rw [LDi_of e0, LDi_of (hc 1 _ rfl), LDi_of (hc 2 _ rfl), LDi_of (hc 3 _ rfl), LDi_of (hc 4 _ rfl), LDi_of (hc 5 _ rfl), LDi_of (hc 6 _ rfl), LDi_of (hc 7 _ rfl), LDi_of (hc 8 _ rfl)]
  exact hK

/-- .. out of a block of its own. -/
theorem LD9b {b : Nat} {e : Ev} {t : TypeId} {K : Int → Int → Int → Int → Int → Int → Int → Int → Int → Prop} (hb : w.heap[b]? = some (.cells (encE e).toArray t (0, 0))) (hK : K e.w e.rk e.rn e.ac e.an e.st e.b e.p e.e) :
    LDi .i64 w ⟨b, 0, none⟩ fun n0 => LDi .i64 w ⟨b, 1, none⟩ fun n1 => LDi .i64 w ⟨b, 2, none⟩ fun n2 => LDi .i64 w ⟨b, 3, none⟩ fun n3 => LDi .i64 w ⟨b, 4, none⟩ fun n4 => LDi .i64 w ⟨b, 5, none⟩ fun n5 =>
      LDi .i64 w ⟨b, 6, none⟩ fun n6 => LDi .i64 w ⟨b, 7, none⟩ fun n7 => LDi .i64 w ⟨b, 8, none⟩ fun n8 => K n0 n1 n2 n3 n4 n5 n6 n7 n8 := by
  rw [LDi_of (cellH_of hb 0), LDi_of (cellH_of hb 1), LDi_of (cellH_of hb 2), LDi_of (cellH_of hb 3), LDi_of (cellH_of hb 4), LDi_of (cellH_of hb 5), LDi_of (cellH_of hb 6), LDi_of (cellH_of hb 7), LDi_of (cellH_of hb 8)]
  exact hK

theorem r21_Fits_spec (hs : SlE w.heap la ll l) (hl : ll ≤ 1000000000) {o : List Int} {oa : Option Addr} {ol oc : Nat} (ho : SlI w.heap oa ol o) (hol : ol ≤ 1000000000) :
    CALL Pg F_r21_Fits [.slice la ll lc, .slice oa ol oc] w fun v w' => Eff w w' [] ∧ ∃ t, v = .bool t ∧ (t = true ↔ FitsP l o) := by
  apply C_r21_Fits
  unfold D_r21_Fits
  have hll := hs.1
  have hool := ho.1
  have no : ∀ w', Eff w w' [] → ¬ FitsP l o → Eff w w' [] ∧ ∃ t, Value.bool false = .bool t ∧ (t = true ↔ FitsP l o) := fun w' hE h => ⟨hE, false, rfl, by simp [h]⟩
  have g0 : ∀ k : Nat, k < ol → o.getD k 0 ∈ o := fun k hk => getD_mem (by omega)
  refine SEML_make (by omega) fun g w1 hE1 hg hr1 => ?_
  rw [SLV_slice]
  refine LOOP_of (fun vs w' => ∃ (k : Nat) (ms : List Int), vs = [.bool false, .int .i64 k] ∧ k ≤ ol ∧ Eff w1 w' [g] ∧ Row w' g [] ms ∧ ms.length = ll ∧ (∀ i : Nat, i < ll → ms.getD i 0 = if (i : Int) ∈ o.take k then 1 else 0) ∧ (∀ i ∈ o.take k, 0 ≤ i ∧ i < ll) ∧ (o.take k).Nodup)
    (fun vs _ => match vs with | [_, .int _ n] => ol - n.toNat | _ => 0) ⟨0, _, rfl, by omega, (Eff.refl _).weak (by simp), hr1, by simp, fun i hi => by simp [List.getD_eq_getElem?_getD, hi], by simp, by simp⟩ ?_
  intro w2 v2 v3 ⟨k, ms, hv, hk, hE2, hr2, hml, hms, hr, hn⟩
  simp only [List.cons.injEq, and_true] at hv
  obtain ⟨rfl, rfl⟩ := hv
  rw [INTV_int, BOOLV_bool]
  have hE02 : Eff w w2 [] := hE1.own hE2 (by simpa using hg)
  refine ITE_d (fun h1 => ?_) (fun h1 => ?_)
  · have e : (k : Int).toNat = k := by omega
    have hts := take_snoc (U := o) (i := k) (by omega)
    have hin := g0 k (by omega)
    refine IDX_i (ho.eff hE02) (by omega) (by omega) fun b p hc => ?_
    rw [LDi_of hc, e]
    refine ITE_d (fun h4 => no w2 hE02 fun hF => by have := hF.1 _ hin; omega) (fun h4 => ?_)
    refine IDX_i (ho.eff hE02) (by omega) (by omega) fun b p hc => ?_
    rw [LDi_of hc, e]
    refine ITE_d (fun h5 => no w2 hE02 fun hF => by have := hF.1 _ hin; omega) (fun h5 => ?_)
    refine IDX_i (ho.eff hE02) (by omega) (by omega) fun b p hc => ?_
    rw [LDi_of hc, e]
    obtain ⟨x, hx⟩ : ∃ x, x = o.getD k 0 := ⟨_, rfl⟩
    rw [← hx] at hin hts h4 h5 ⊢
    obtain ⟨y, hy⟩ : ∃ y : Nat, x = y := ⟨x.toNat, by omega⟩
    have hyt : x.toNat = y := by omega
    have hval := hms y (by omega)
    refine RD hr2 hml.symm (by omega) (by omega) ?_
    rw [hyt]
    refine BINDw (by split at hval <;> omega) (by split at hval <;> omega) ?_
    refine WR hr2 hml.symm (by omega) (by omega) fun w3 hr3 hE3 => ?_
    have hE03 : Eff w w3 [] := hE1.own (effg hE2 hE3) (by simpa using hg)
    rw [hyt] at hr3
    refine IDX_i (ho.eff hE03) (by omega) (by omega) fun b p hc => ?_
    rw [LDi_of hc, e, ← hx]
    refine RD hr3 (by rw [List.length_set]; exact hml.symm) (by omega) (by omega) ?_
    rw [hyt]
    have hset : (ms.set y (ms.getD y 0 + 1)).getD y 0 = ms.getD y 0 + 1 := by simp [List.getD_eq_getElem?_getD, show y < ms.length by omega]
    rw [hset]
    refine ITE_d (fun h6 => ?_) (fun h6 => ?_)
    · refine no w3 hE03 fun hF => ?_
      have h7 : (o.take (k + 1)).Nodup := hF.2.1.sublist (List.take_sublist _ _)
      rw [hts, List.nodup_append] at h7
      split at hval
      · rename_i h8
        exact h7.2.2 _ h8 x (by simp) (by omega)
      · omega
    · have hnot : x ∉ o.take k := fun h => by
        rw [if_pos (by rw [← hy]; exact h)] at hval; omega
      refine BINDw (by omega) (by omega) ⟨⟨k + 1, _, rfl, by omega, effg hE2 hE3, hr3, by rw [List.length_set]; exact hml, fun i hi => ?_, fun i hi => ?_, ?_⟩, by first | omega | (dsimp only; omega)⟩
      · by_cases h8 : i = y
        · subst h8
          rw [hset, if_pos (by rw [hts, ← hy]; simp), hval, if_neg (by rw [← hy]; exact hnot)]; rfl
        · have h9 : (ms.set y (ms.getD y 0 + 1)).getD i 0 = ms.getD i 0 := by
            simp only [List.getD_eq_getElem?_getD]
            rw [List.getElem?_set_ne (by omega)]
          rw [h9, hms i hi, hts]
          have : (i : Int) ≠ x := by omega
          simp [this]
      · rw [hts, List.mem_append] at hi
        rcases hi with hi | hi
        · exact hr i hi
        · simp at hi; omega
      · rw [hts, List.nodup_append]
        refine ⟨hn, by simp, fun a ha b hb hab => ?_⟩
        simp at hb
        subst hb hab
        exact hnot ha
  have hk' : k = o.length := by omega
  subst hk'
  rw [List.take_length] at hms hr hn
  refine LOOP_of (fun vs w' => ∃ j : Nat, vs = [.bool false, .int .i64 j] ∧ j ≤ ll ∧ w' = w2 ∧ ∀ i : Nat, i < j → 0 < (l.getD i ev0).e → (i : Int) ∈ o)
    (fun vs _ => match vs with | [_, .int _ n] => ll - n.toNat | _ => 0) ⟨0, rfl, by omega, rfl, by simp⟩ ?_
  intro w4 v4 v5 ⟨j, hv, hj, hw, hall⟩
  subst hw
  simp only [List.cons.injEq, and_true] at hv
  obtain ⟨rfl, rfl⟩ := hv
  rw [INTV_int, BOOLV_bool]
  refine ITE_d (fun h2 => ?_) (fun h2 => ?_)
  · refine IDX_e (hs.eff hE02) (by omega) (by omega) fun b p hc => ?_
    rw [LDi_of (hc 8 _ rfl), atE_nat]
    have go : ((0 < (l.getD j ev0).e → (j : Int) ∈ o)) → ∀ i : Nat, i < j + 1 → 0 < (l.getD i ev0).e → (i : Int) ∈ o := fun h i hi he => by
      rcases Nat.lt_or_ge i j with h3 | h3
      · exact hall i h3 he
      · have : i = j := by omega
        subst this; exact h he
    refine ITE_d (fun h3 => ?_) (fun h3 => BINDw (by omega) (by omega) ⟨⟨j + 1, rfl, by omega, rfl, go (fun h => by omega)⟩, by first | omega | (dsimp only; omega)⟩)
    refine RD hr2 hml.symm (by omega) (by omega) ?_
    have hval := hms j (by omega)
    rw [show (j : Int).toNat = j by omega, hval]
    refine ITE_eq (fun h4 => no w4 hE02 fun hF => ?_) (fun h4 => BINDw (by omega) (by omega) ⟨⟨j + 1, rfl, by omega, rfl, go (fun h => ?_)⟩, by first | omega | (dsimp only; omega)⟩)
    · rw [if_pos (hF.2.2.1 j (by omega) h3)] at h4; cases h4
    · split at h4
      · assumption
      · exact absurd rfl h4
  refine LOOP_of (fun vs w' => ∃ k : Nat, vs = [.bool false, .int .i64 k] ∧ k ≤ ol ∧ Eff w4 w' [] ∧ ∀ a b, b < a → a < k → ¬ Ahead (atE l (o.getD a 0)) (atE l (o.getD b 0)))
    (fun vs _ => match vs with | [_, .int _ n] => ol - n.toNat | _ => 0) ⟨0, rfl, by omega, Eff.refl _, by intros; omega⟩ ?_
  intro w5 v6 v7 ⟨k, hv, hk3, hE5, hpw⟩
  simp only [List.cons.injEq, and_true] at hv
  obtain ⟨rfl, rfl⟩ := hv
  rw [INTV_int, BOOLV_bool]
  have hE05 := hE02.trans0 hE5
  refine ITE_d (fun h3 => ?_) (fun h3 => ?_)
  · refine LOOP_of (fun vs w' => ∃ j : Nat, vs = [.bool false, .int .i64 j] ∧ j ≤ k ∧ Eff w4 w' [] ∧ ∀ b, b < j → ¬ Ahead (atE l (o.getD k 0)) (atE l (o.getD b 0)))
      (fun vs _ => match vs with | [_, .int _ n] => k - n.toNat | _ => 0) ⟨0, rfl, by omega, hE5, by simp⟩ ?_
    intro w6 v8 v9 ⟨j, hv, hj2, hE6, hall2⟩
    simp only [List.cons.injEq, and_true] at hv
    obtain ⟨rfl, rfl⟩ := hv
    rw [INTV_int, BOOLV_bool]
    refine ITE_d (fun h4 => ?_) (fun h4 => ?_)
    · intro w7 hE7 _
      have hE07 := (hE02.trans0 hE6).trans0 hE7
      have hk1 := hr _ (g0 k (by omega))
      have hj1 := hr _ (g0 j (by omega))
      refine IDX_i (ho.eff hE07) (by omega) (by omega) fun b p hc => ?_
      rw [LDi_of hc, show (k : Int).toNat = k by omega]
      refine IDX_e (hs.eff hE07) hk1.1 hk1.2 fun b p hc => LD9 hc ?_
      refine IDX_i (ho.eff hE07) (by omega) (by omega) fun b p hc => ?_
      rw [LDi_of hc, show (j : Int).toNat = j by omega]
      refine IDX_e (hs.eff hE07) hj1.1 hj1.2 fun b p hc => LD9 hc ?_
      refine (r21_Ahead_spec _ _).mono fun v w8 ⟨hE8, hv⟩ => ?_
      subst hv
      rw [BOOLV_bool]
      refine ⟨KEEP_nil, ITE_d (fun h5 => no w8 (hE07.trans0 hE8) fun hF => ?_) (fun h5 => ?_)⟩
      · have := List.pairwise_iff_getElem.1 hF.2.2.2 j k (by omega) (by omega) (by omega)
        have e1 : o.getD j 0 = o[j]'(by omega) := by simp [show j < o.length by omega]
        have e2 : o.getD k 0 = o[k]'(by omega) := by simp [show k < o.length by omega]
        rw [← e1, ← e2] at this
        exact this h5
      · refine BINDw (by omega) (by omega) ⟨⟨j + 1, rfl, by omega, (hE6.trans0 hE7).trans0 hE8, fun b hb => ?_⟩, by first | omega | (dsimp only; omega)⟩
        rcases Nat.lt_or_ge b j with h6 | h6
        · exact hall2 b h6
        · have : b = j := by omega
          rw [this]; exact h5
    · refine BINDw (by omega) (by omega) ⟨⟨k + 1, rfl, by omega, hE6, fun a b hb ha => ?_⟩, by first | omega | (dsimp only; omega)⟩
      rcases Nat.lt_or_ge a k with h6 | h6
      · exact hpw a b hb h6
      · have : a = k := by omega
        rw [this] at hb ⊢; exact hall2 b (by omega)
  · have hpw2 : o.Pairwise fun i k => ¬ Ahead (atE l k) (atE l i) := by
      refine List.pairwise_iff_getElem.2 fun i j hi hj hij => ?_
      have := hpw j i hij (by omega)
      have e1 : o.getD j 0 = o[j] := by simp [hj]
      have e2 : o.getD i 0 = o[i] := by simp [hi]
      rw [e1, e2] at this
      exact this
    exact ⟨hE05, true, rfl, by simp; exact ⟨fun i hi => by have := hr i hi; omega, hn, fun i hi he => hall i (by omega) he, hpw2⟩⟩

/-- What the map of the last ones tells. -/
def LastF (l : List Ev) (i : Nat) (f : Int → Option Value) : Prop :=
  ∀ wk, (∃ j, j < i ∧ (l.getD j ev0).w = wk ∧ (∀ j', j < j' → j' < i → (l.getD j' ev0).w ≠ wk) ∧ f wk = some (vE (l.getD j ev0))) ∨ (f wk = none ∧ ∀ j, j < i → (l.getD j ev0).w ≠ wk)

theorem near_unique {i j k : Nat} (h1 : Near l i j) (h2 : Near l i k) : j = k := by
  obtain ⟨a1, a2, a3⟩ := h1
  obtain ⟨b1, b2, b3⟩ := h2
  rcases Nat.lt_trichotomy j k with h | h | h
  · exact absurd b2 (a3 k h b1)
  · exact h
  · exact absurd a2 (b3 j h a1)

theorem line_Right_spec (hs : SlE w.heap la ll l) (hl : ll ≤ 1000000000) :
    CALL Pg F_line_Right [.slice la ll lc] w fun v w' => Eff w w' [] ∧ ∃ t, v = .bool t ∧ (t = true ↔ RightP l) := by
  apply C_line_Right
  unfold D_line_Right
  have hll := hs.1
  have no : ∀ w', Eff w w' [] → ¬ RightP l → Eff w w' [] ∧ ∃ t, Value.bool false = .bool t ∧ (t = true ↔ RightP l) := fun w' hE h => ⟨hE, false, rfl, by simp [h]⟩
  intro b1 w1 hE1 hs1 hb1
  refine LOOP_of (fun vs w' => ∃ (i : Nat) (f : Int → Option Value), vs = [.bool false, .int .i64 i] ∧ i ≤ ll ∧ Eff w1 w' [b1] ∧ MapO w' b1 f ∧ LastF l i f ∧ ∀ j, j < i → RightAt l j)
    (fun vs _ => match vs with | [_, .int _ n] => ll - n.toNat | _ => 0) ⟨0, _, rfl, by omega, (Eff.refl _).weak (by simp), MapO.new hb1, fun wk => .inr ⟨rfl, by simp⟩, by simp⟩ ?_
  intro w2 v1 v2 ⟨i, f, hv, hi, hE2, hm, hf, hall⟩
  simp only [List.cons.injEq, and_true] at hv
  obtain ⟨rfl, rfl⟩ := hv
  rw [INTV_int, BOOLV_bool]
  have hE02 : Eff w w2 [] := hE1.own hE2 (by simpa using hs1)
  refine ITE_d (fun h1 => ?_) (fun h1 => ⟨hE02, true, rfl, by simp; exact fun j hj => hall j (by omega)⟩)
  refine IDX_e (hs.eff hE02) (by omega) (by omega) fun b p hc => LD9 hc ?_
  rw [atE_nat]
  generalize he : l.getD i ev0 = e at *
  intro b3 w3 hE3 hs3 hb3
  refine ST9_of hE3 hs3 hb3 fun w12 hE12 hb12 _ => ?_
  have hE012 := hE02.trans0 hE12
  have hb12' : w12.heap[b3]? = some (.cells (encE e).toArray T_api_Event_api_Event (0, 0)) := hb12
  have hm12 := hm.eff0 hE12
  refine ⟨fun vs w' => vs = [.bool false] ∧ w' = w12 ∧ OkE e, ⟨fun vs w' => w' = w12 ∧ ∃ t, vs = [.bool t] ∧ (t = true ↔ ¬ OkE e), ?_, ?_⟩, ?_⟩
  · have yes : ¬ OkE e → (w12 = w12 ∧ ∃ t, [Value.bool true] = [.bool t] ∧ (t = true ↔ ¬ OkE e)) := fun h => ⟨rfl, true, rfl, by simp [h]⟩
    have isd : ∀ q : Prop, [Decidable q] → (q ↔ ¬ OkE e) → (w12 = w12 ∧ ∃ t, [Value.bool (decide q)] = [.bool t] ∧ (t = true ↔ ¬ OkE e)) := fun q _ h => ⟨rfl, _, rfl, by rw [decide_eq_true_eq]; exact h⟩
    have isn : OkE e → (w12 = w12 ∧ ∃ t, [Value.bool false] = [.bool t] ∧ (t = true ↔ ¬ OkE e)) := fun h => ⟨rfl, false, rfl, by simp [h]⟩
    rw [LDi_of (cellH_of hb12 6)]
    refine ITE_d (fun h2 => yes (by unfold OkE; omega)) (fun h2 => ?_)
    rw [LDi_of (cellH_of hb12 7)]
    refine ITE_d (fun h3 => yes (by unfold OkE; omega)) (fun h3 => ?_)
    rw [LDi_of (cellH_of hb12 8)]
    refine ITE_d (fun h4 => yes (by unfold OkE; omega)) (fun h4 => ?_)
    rw [LDi_of (cellH_of hb12 7)]
    refine ITE_d (fun h5 => ?_) (fun h5 => ?_)
    · rw [LDi_of (cellH_of hb12 7), LDi_of (cellH_of hb12 6)]
      refine ITE_d (fun h6 => yes (by unfold OkE; omega)) (fun h6 => ?_)
      rw [LDi_of (cellH_of hb12 8)]
      refine ITE_d (fun h7 => ?_) (fun h7 => isn (by unfold OkE; omega))
      rw [LDi_of (cellH_of hb12 7)]
      refine ITE_d (fun h8 => yes (by unfold OkE; omega)) (fun h8 => ?_)
      rw [LDi_of (cellH_of hb12 7), LDi_of (cellH_of hb12 8)]
      exact isd _ (by unfold OkE; omega)
    · rw [LDi_of (cellH_of hb12 8)]
      refine ITE_d (fun h7 => ?_) (fun h7 => isn (by unfold OkE; omega))
      rw [LDi_of (cellH_of hb12 7)]
      refine ITE_d (fun h8 => yes (by unfold OkE; omega)) (fun h8 => ?_)
      rw [LDi_of (cellH_of hb12 7), LDi_of (cellH_of hb12 8)]
      exact isd _ (by unfold OkE; omega)
  · intro w13 v3 ⟨hw, t, hv, ht⟩
    subst hw
    cases hv
    rw [BOOLV_bool]
    refine ITE_intro (fun h => no w13 hE012 fun hR => ?_) (fun h => ⟨rfl, rfl, ?_⟩)
    · have := (hR i (by omega)).1
      rw [he] at this
      exact ht.1 h this
    · rw [h] at ht
      by_cases hk : OkE e
      · exact hk
      · exact absurd (ht.2 hk) (by simp)
  intro w14 v4 ⟨hv, hw, hok⟩
  subst hw
  cases hv
  rw [BOOLV_bool, LDi_of (cellH_of hb12 0)]
  refine SILX_lookup (q := .i64) (kt := T_int) (e := T_api_Event_api_Event) hm12 (by kernel_rfl) (by kernel_rfl) zero_ev_run fun F => ?_
  obtain ⟨was, known, hlook, hnear⟩ : ∃ (was : Ev) (known : Bool), lookV (vE ev0) (f e.w) = .tuple #[vE was, .bool known] ∧
      (known = true ∧ (∃ j, Near l i j ∧ l.getD j ev0 = was) ∨ known = false ∧ ∀ j, ¬ Near l i j) := by
    rcases hf e.w with ⟨j, hj, hjw, hjn, hfj⟩ | ⟨hfn, hno⟩
    · exact ⟨_, true, by rw [hfj, lookV_some], .inl ⟨rfl, j, ⟨hj, by rw [he]; exact hjw, fun j' h1 h2 => by rw [he]; exact hjn j' h1 h2⟩, rfl⟩⟩
    · exact ⟨ev0, false, by rw [hfn, lookV_none], .inr ⟨rfl, fun j ⟨hj, hjw, _⟩ => hno j hj (by rw [he] at hjw; exact hjw)⟩⟩
  rw [hlook, TUP_e]
  intro b4 w15 hE15 hs15 hb15
  refine ST9_of hE15 hs15 hb15 fun w24 hE24 hb24 _ => ?_
  have hb24' : w24.heap[b4]? = some (.cells (encE was).toArray T_api_Event_api_Event (0, 0)) := hb24
  have hb3_24 := hE24.obj0 hb12'
  have hE024 := hE012.trans0 hE24
  refine ⟨fun vs w' => Eff w24 w' [] ∧ ∃ t, vs = [.bool t] ∧ (t = true ↔ ¬ ∀ j, Near l i j → Ahead (l.getD j ev0) e), ?_, ?_⟩
  · rcases hnear with ⟨rfl, j, hj, rfl⟩ | ⟨rfl, hno⟩
    · rw [ITE_true]
      refine LD9b hb24' (LD9b hb3_24 ?_)
      refine (line_Ahead_spec _ _).mono fun v w25 ⟨hE25, hv⟩ => ?_
      subst hv
      rw [BOOLV_bool]
      refine ⟨hE25, _, rfl, ?_⟩
      simp only [Bool.not_eq_true', decide_eq_false_iff_not]
      constructor
      · intro h hA; exact h (hA j hj)
      · intro h hA
        refine h fun j' hj' => ?_
        rw [near_unique hj' hj]; exact hA
    · rw [ITE_false]
      exact ⟨Eff.refl _, false, rfl, by simp; exact fun j hj => absurd hj (hno j)⟩
  · intro w26 v18 ⟨hE26, t, hv, ht⟩
    cases hv
    rw [BOOLV_bool]
    have hE026 := hE024.trans0 hE26
    refine ITE_intro (fun h => no w26 hE026 fun hR => ?_) (fun h => ?_)
    · have := (hR i (by omega)).2
      rw [he] at this
      exact ht.1 h this
    · have hA : ∀ j, Near l i j → Ahead (l.getD j ev0) e := by
        rw [h] at ht
        by_cases hk : ∀ j, Near l i j → Ahead (l.getD j ev0) e
        · exact hk
        · exact absurd (ht.2 hk) (by simp)
      have hb3_26 := hE26.obj0 hb3_24
      have h00 := cellH_of hb3_26 0
      rw [LDi_of (n := e.w) h00]
      refine LD9b hb3_26 ?_
      have hE226 := (hE12.trans0 hE24).trans0 hE26
      refine SEMU_update (q := .i64) (kt := T_int) (e := T_api_Event_api_Event) (hm.eff0 hE226) (by kernel_rfl) (by kernel_rfl) fun w27 hm27 hE27 => ?_
      refine BINDw (by omega) (by omega) ⟨⟨i + 1, _, rfl, by omega, effg (effr hE2 hE226) hE27, hm27, fun wk => ?_, fun j hj => ?_⟩, by first | omega | (dsimp only; omega)⟩
      · by_cases hwk : wk = e.w
        · left
          refine ⟨i, by omega, by rw [he, hwk], fun j' h1 h2 => by omega, ?_⟩
          dsimp only
          rw [if_pos hwk, he]
        · dsimp only
          rw [if_neg hwk]
          rcases hf wk with ⟨j, hj, hjw, hjn, hfj⟩ | ⟨hfn, hno⟩
          · refine .inl ⟨j, by omega, hjw, fun j' h1 h2 => ?_, hfj⟩
            by_cases hji : j' = i
            · rw [hji, he]; exact fun h => hwk h.symm
            · exact hjn j' h1 (by omega)
          · refine .inr ⟨hfn, fun j hj => ?_⟩
            by_cases hji : j = i
            · rw [hji, he]; exact fun h => hwk h.symm
            · exact hno j (by omega)
      · rcases Nat.lt_or_ge j i with h6 | h6
        · exact hall j h6
        · have : j = i := by omega
          subst this
          exact ⟨by rw [he]; exact hok, by rw [he]; exact hA⟩

theorem r21_Right_spec (hs : SlE w.heap la ll l) (hl : ll ≤ 1000000000) :
    CALL Pg F_r21_Right [.slice la ll lc] w fun v w' => Eff w w' [] ∧ ∃ t, v = .bool t ∧ (t = true ↔ RightP l) := by
  apply C_r21_Right
  unfold D_r21_Right
  have hll := hs.1
  have no : ∀ w', Eff w w' [] → ¬ RightP l → Eff w w' [] ∧ ∃ t, Value.bool false = .bool t ∧ (t = true ↔ RightP l) := fun w' hE h => ⟨hE, false, rfl, by simp [h]⟩
  refine LOOP_of (fun vs w' => ∃ i : Nat, vs = [.bool false, .int .i64 i] ∧ i ≤ ll ∧ Eff w w' [] ∧ ∀ j, j < i → RightAt l j)
    (fun vs _ => match vs with | [_, .int _ n] => ll - n.toNat | _ => 0) ⟨0, rfl, by omega, Eff.refl _, by simp⟩ ?_
  intro w1 v1 v2 ⟨i, hv, hi, hE01, hall⟩
  simp only [List.cons.injEq, and_true] at hv
  obtain ⟨rfl, rfl⟩ := hv
  rw [INTV_int, BOOLV_bool]
  refine ITE_d (fun h1 => ?_) (fun h1 => ⟨hE01, true, rfl, by simp; exact fun j hj => hall j (by omega)⟩)
  refine IDX_e (hs.eff hE01) (by omega) (by omega) fun b p hc => LD9 hc ?_
  rw [atE_nat]
  generalize he : l.getD i ev0 = e at *
  intro b2 w2 hE2 hs2 hb2
  refine ST9_of hE2 hs2 hb2 fun w11 hE11 hb11 _ => ?_
  have hE011 := hE01.trans0 hE11
  have hb11' : w11.heap[b2]? = some (.cells (encE e).toArray T_api_Event_api_Event (0, 0)) := hb11
  have bad : ∀ w', Eff w w' [] → ¬ OkE e → Eff w w' [] ∧ ∃ t, Value.bool false = .bool t ∧ (t = true ↔ RightP l) := fun w' hE h => no w' hE fun hR => by
    have := (hR i (by omega)).1
    rw [he] at this
    exact h this
  rw [LDi_of (cellH_of hb11 6)]
  refine ITE_d (fun h2 => bad w11 hE011 (by unfold OkE; omega)) (fun h2 => ?_)
  rw [LDi_of (cellH_of hb11 7)]
  refine ITE_d (fun h3 => bad w11 hE011 (by unfold OkE; omega)) (fun h3 => ?_)
  rw [LDi_of (cellH_of hb11 8)]
  refine ITE_d (fun h4 => bad w11 hE011 (by unfold OkE; omega)) (fun h4 => ?_)
  refine ⟨fun vs w' => vs = [.bool false] ∧ w' = w11 ∧ (0 < e.p → e.b ≤ e.p), ⟨fun vs w' => w' = w11 ∧ vs = [.bool (decide (¬ (0 < e.p → e.b ≤ e.p)))], ?_, ?_⟩, ?_⟩
  · rw [LDi_of (cellH_of hb11 7)]
    refine ITE_d (fun h5 => ?_) (fun h5 => ⟨rfl, by rw [decide_eq_false (by omega)]⟩)
    rw [LDi_of (cellH_of hb11 7), LDi_of (cellH_of hb11 6)]
    exact ⟨rfl, by rw [decide_eq_decide.2 (show e.p < e.b ↔ ¬ (0 < e.p → e.b ≤ e.p) by omega)]⟩
  · intro w12 v3 ⟨hw, hv⟩
    subst hw
    cases hv
    rw [BOOLV_bool]
    exact ITE_d (fun h5 => bad w12 hE011 (by unfold OkE; omega)) (fun h5 => ⟨rfl, rfl, by omega⟩)
  intro w13 v4 ⟨hv, hw, hok1⟩
  subst hw
  cases hv
  rw [BOOLV_bool]
  refine ⟨fun vs w' => vs = [.bool false] ∧ w' = w13 ∧ (0 < e.e → 1 ≤ e.p ∧ e.p ≤ e.e), ⟨fun vs w' => w' = w13 ∧ vs = [.bool (decide (¬ (0 < e.e → 1 ≤ e.p ∧ e.p ≤ e.e)))], ?_, ?_⟩, ?_⟩
  · rw [LDi_of (cellH_of hb11 8)]
    refine ITE_d (fun h5 => ?_) (fun h5 => ⟨rfl, by rw [decide_eq_false (by omega)]⟩)
    rw [LDi_of (cellH_of hb11 7)]
    refine ITE_d (fun h6 => ⟨rfl, by rw [decide_eq_true (by omega)]⟩) (fun h6 => ?_)
    rw [LDi_of (cellH_of hb11 7), LDi_of (cellH_of hb11 8)]
    exact ⟨rfl, by rw [decide_eq_decide.2 (show e.p > e.e ↔ ¬ (0 < e.e → 1 ≤ e.p ∧ e.p ≤ e.e) by omega)]⟩
  · intro w12 v3 ⟨hw, hv⟩
    subst hw
    cases hv
    rw [BOOLV_bool]
    exact ITE_d (fun h5 => bad w12 hE011 (by unfold OkE; omega)) (fun h5 => ⟨rfl, rfl, by omega⟩)
  intro w15 v6 ⟨hv, hw, hok2⟩
  subst hw
  cases hv
  rw [BOOLV_bool]
  have hok : OkE e := ⟨by omega, by omega, by omega, hok1, hok2⟩
  refine LOOP_of (fun vs w' => ∃ (k : Nat) (q : Int), vs = [.int .i64 q, .int .i64 k] ∧ k ≤ i ∧ Eff w15 w' [] ∧ (q = -1 ∧ (∀ j, j < k → (l.getD j ev0).w ≠ e.w) ∨ ∃ j : Nat, q = j ∧ j < k ∧ (l.getD j ev0).w = e.w ∧ ∀ j', j < j' → j' < k → (l.getD j' ev0).w ≠ e.w))
    (fun vs _ => match vs with | [_, .int _ n] => i - n.toNat | _ => 0) ⟨0, -1, rfl, by omega, Eff.refl _, .inl ⟨rfl, by simp⟩⟩ ?_
  intro w16 v7 v8 ⟨k, q, hv, hk, hE16, hq⟩
  simp only [List.cons.injEq, and_true] at hv
  obtain ⟨rfl, rfl⟩ := hv
  rw [INTV_int, INTV_int]
  refine ITE_d (fun h5 => ?_) (fun h5 => ?_)
  · intro w17 hE17 _
    have hE1517 := hE16.trans0 hE17
    have hb17 := hE1517.obj0 hb11
    refine IDX_e (hs.eff (hE011.trans0 hE1517)) (by omega) (by omega) fun b p hc => ?_
    have e0 := hc 0 _ rfl
    rw [Nat.add_zero] at e0
    rw [LDi_of e0, atE_nat, LDi_of (cellH_of hb17 0)]
    refine ITE_eq (fun h6 => ?_) (fun h6 => ?_)
    · exact BINDw (by omega) (by omega) ⟨⟨k + 1, k, rfl, by omega, hE1517, .inr ⟨k, rfl, by omega, h6, fun j' h1 h2 => by omega⟩⟩, by first | omega | (dsimp only; omega)⟩
    · refine BINDw (by omega) (by omega) ⟨⟨k + 1, q, rfl, by omega, hE1517, ?_⟩, by first | omega | (dsimp only; omega)⟩
      have step : ∀ j', (j' < k → (l.getD j' ev0).w ≠ e.w) → j' < k + 1 → (l.getD j' ev0).w ≠ e.w := fun j' h h2 => by
        rcases Nat.lt_or_ge j' k with h3 | h3
        · exact h h3
        · have : j' = k := by omega
          rw [this]; exact h6
      rcases hq with ⟨h7, h8⟩ | ⟨j, h7, h8, h9, h10⟩
      · exact .inl ⟨h7, fun j hj => step j (h8 j) hj⟩
      · exact .inr ⟨j, h7, by omega, h9, fun j' h1 h2 => step j' (h10 j' h1) h2⟩
  have hki : k = i := by omega
  subst hki
  refine ⟨fun vs w' => Eff w15 w' [] ∧ ∃ t, vs = [.bool t] ∧ (t = true ↔ ¬ ∀ j, Near l k j → Ahead (l.getD j ev0) e), ?_, ?_⟩
  · intro w18 hE18 _
    have hE1518 := hE16.trans0 hE18
    rcases hq with ⟨rfl, hno⟩ | ⟨j, rfl, hj, hjw, hjn⟩
    · refine ITE_d (fun h6 => by omega) (fun h6 => ?_)
      exact ⟨hE1518, false, rfl, by simp; exact fun j hj => absurd (by have := hj.2.1; rw [he] at this; exact this) (hno j hj.1)⟩
    · have hnr : Near l k j := ⟨hj, by rw [he]; exact hjw, fun j' h1 h2 => by rw [he]; exact hjn j' h1 h2⟩
      refine ITE_d (fun h6 => ?_) (fun h6 => by omega)
      refine IDX_e (hs.eff (hE011.trans0 hE1518)) (by omega) (by omega) fun b p hc => LD9 hc ?_
      refine LD9b (hE1518.obj0 hb11') ?_
      rw [atE_nat]
      refine (r21_Ahead_spec _ _).mono fun v w19 ⟨hE19, hv⟩ => ?_
      subst hv
      rw [BOOLV_bool]
      refine ⟨KEEP_nil, hE1518.trans0 hE19, _, rfl, ?_⟩
      simp only [Bool.not_eq_true', decide_eq_false_iff_not]
      constructor
      · intro h hA; exact h (hA j hnr)
      · intro h hA
        refine h fun j' hj' => ?_
        rw [near_unique hj' hnr]; exact hA
  · intro w20 v10 ⟨hE20, t, hv, ht⟩
    cases hv
    rw [BOOLV_bool]
    have hE020 := hE011.trans0 hE20
    refine ITE_intro (fun h => no w20 hE020 fun hR => ?_) (fun h => ?_)
    · have := (hR k (by omega)).2
      rw [he] at this
      exact ht.1 h this
    · have hA : ∀ j, Near l k j → Ahead (l.getD j ev0) e := by
        rw [h] at ht
        by_cases hk : ∀ j, Near l k j → Ahead (l.getD j ev0) e
        · exact hk
        · exact absurd (ht.2 hk) (by simp)
      refine BINDw (by omega) (by omega) ⟨⟨k + 1, rfl, by omega, hE020, fun j hj => ?_⟩, by first | omega | (dsimp only; omega)⟩
      rcases Nat.lt_or_ge j k with h6 | h6
      · exact hall j h6
      · have : j = k := by omega
        subst this
        exact ⟨by rw [he]; exact hok, by rw [he]; exact hA⟩

end
end Go.Proofs.Ytpopdookpbmmpaa
