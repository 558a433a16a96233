/- The laws LineOrders and LineFits: what they answer. -/
import Derived.Test.YtpopdookpbmmpaaLine8
import Derived.Test.YtpopdookpbmmpaaL2
import Derived.Test.YtpopdookpbmmpaaDenR
namespace Go.Proofs.Ytpopdookpbmmpaa
open Go.Den
set_option maxRecDepth 100000
set_option maxHeartbeats 4000000

theorem ITE_same {t s : Bool} {p : Prop} {A B : Prop} (h1 : t = true ↔ p) (h2 : s = true ↔ p) (hA : A) : ITE (t == s) A B := by
  have : t = s := by rw [Bool.eq_iff_iff]; exact h1.trans h2.symm
  subst this
  exact ITE_intro (fun _ => hA) (fun h => by simp at h)

theorem same_true {t s : Bool} {p : Prop} (h1 : t = true ↔ p) (h2 : s = true ↔ p) : (t == s) = true := by
  have : t = s := by rw [Bool.eq_iff_iff]; exact h1.trans h2.symm
  subst this
  simp

def two : List Ev := [⟨0, 0, 0, 0, 0, 0, 1, 4, 5⟩, ⟨1, 0, 0, 0, 0, 0, 2, 3, 3⟩]

theorem two_right : RightP two := by
  intro i hi
  have hi : i < 2 := hi
  rcases i with _ | _ | i
  · refine ⟨by unfold OkE two; decide, fun k hk => ?_⟩
    have := hk.1; omega
  · refine ⟨by unfold OkE two; decide, fun k hk => ?_⟩
    have h1 := hk.1
    have h2 := hk.2.1
    have : k = 0 := by omega
    subst this
    exact absurd h2 (by decide)
  · omega

theorem two_ord : IsOrd two [1, 0] := by
  refine ⟨?_, ?_⟩
  · have : cnt two = [0, 1] := by decide
    rw [this]; exact List.Perm.swap 0 1 []
  · rw [List.pairwise_cons]
    refine ⟨fun a ha => ?_, by simp⟩
    simp at ha
    subst ha
    left
    decide

theorem two_not : ¬ FitsP two [1] := fun h => by
  have := h.2.2.1 0 (by decide) (by decide)
  simp at this

section
variable {w : World}

theorem sl_one {α : Type} {enc : α → List Value} {size : Nat} {w : World} {b : Nat} {t : TypeId} {xs : List α} (hsz : ∀ x, (enc x).length = size) (hpos : 0 < size) (hb : w.heap[b]? = some (.cells (xs.flatMap enc).toArray t (0, 0))) (hl : xs.length ≤ 1000000) :
    Sl enc size w.heap (some ⟨b, 0, none⟩) xs.length xs := by
  have hlen : (xs.flatMap enc).length = xs.length * size := by
    clear hb hl
    induction xs with
    | nil => simp
    | cons x xs ih => simp only [List.flatMap_cons, List.length_append, ih, hsz, List.length_cons, Nat.succ_mul]; omega
  have ho : w.ownsRow 0 t size (.slice (some ⟨b, 0, none⟩) xs.length xs.length) xs.length (xs.flatMap enc) :=
    own_mk hb hlen (Nat.le_refl _) (by simp only [maxLen]; omega) (by rw [← hlen, List.take_length]) hlen (Nat.zero_le _)
  exact (own_sl hsz hpos ho).2

theorem encE_len (e : Ev) : (encE e).length = 9 := rfl

theorem l21_speaks_spec : CALL Pg F_l21_speaks [] w fun u w' => Eff w w' [] ∧ u = .bool true := by
  apply C_l21_speaks
  unfold D_l21_speaks
  intro b1 w1 hE1 hs1 hb1
  have hsl : SlE w1.heap (some ⟨b1, 0, none⟩) 2 two := sl_one (xs := two) encE_len (by omega) hb1 (by decide)
  refine (Order_spec hsl (by omega)).mono fun u w2 ⟨hE2, o, a1, c1, hu, hord, ho, hn⟩ => ?_
  have hoe := hord.unique two_ord
  subst hu hoe
  rw [SLV_slice]
  have hsl2 := hsl.eff hE2
  have hE02 := hE1.trans0 hE2
  have hsI := ho.sl.2
  have hcap : ([1, 0] : List Int).length ≤ c1 := own_cap ho
  refine ITE_eq (fun _ => ?_) (fun h => absurd rfl h)
  refine IDX_i hsI (by omega) (by decide) fun b p hc => ?_
  rw [LDi_of hc]
  refine ITE_eq (fun _ => ?_) (fun h => absurd rfl h)
  refine IDX_i hsI (by omega) (by decide) fun b p hc => ?_
  rw [LDi_of hc]
  refine ITE_eq (fun _ => ?_) (fun h => absurd rfl h)
  refine (line_Right_spec hsl2 (by omega)).mono fun u w3 ⟨hE3, t, hu, ht⟩ => ?_
  subst hu
  rw [BOOLV_bool, ht.2 two_right, ITE_true]
  refine (line_Fits_spec (hsl2.eff hE3) (by omega) (hsI.eff hE3) (by decide)).mono fun u w4 ⟨hE4, t, hu, ht⟩ => ?_
  subst hu
  rw [BOOLV_bool, ht.2 (fits_ord two_right two_ord), ITE_true]
  refine SILN_h elem_int (by omega) (by simp at hcap ⊢; omega) ?_
  rw [SLV_slice]
  have hE24 := hE3.trans0 hE4
  have hsub := (hsI.eff hE24).sub (lo := 0) (hi := 1) (c := c1) (by omega) (by decide) hcap
  refine (line_Fits_spec (hsl2.eff hE24) (by omega) (o := [1]) hsub (by decide)).mono fun u w5 ⟨hE5, t, hu, ht⟩ => ?_
  subst hu
  have htf : t = false := by
    rcases t with _ | _
    · rfl
    · exact absurd (ht.1 rfl) two_not
  subst htf
  rw [BOOLV_bool]
  refine ITE_intro (fun _ => ?_) (fun h => by cases h)
  have hE25 := hE24.trans0 hE5
  refine IDX_e (hsl2.eff hE25) (by omega) (by omega) fun b p hc => LD9 hc ?_
  refine (line_Ahead_spec (atE two 1) ⟨0, 0, 0, 0, 0, 0, 4, 0, 0⟩).mono fun u w6 ⟨hE6, hu⟩ => ?_
  subst hu
  rw [BOOLV_bool]
  exact ⟨(hE02.trans0 hE25).trans0 hE6, by rw [decide_eq_true (by unfold Ahead atE two; decide)]⟩

theorem KEEP_ev {b o : Nat} {e : Ev} {r : List Fact} (hc : ∀ j v, (encE e)[j]? = some v → cellH w.heap b (o + j) = some v) (hr : KEEP w r) :
    KEEP w (.cell ⟨b, o, none⟩ (.int .i64 e.w) :: .cell ⟨b, o + 1, none⟩ (.int .i64 e.rk) :: .cell ⟨b, o + 2, none⟩ (.int .i64 e.rn) :: .cell ⟨b, o + 3, none⟩ (.int .i64 e.ac) :: .cell ⟨b, o + 4, none⟩ (.int .i64 e.an) ::
      .cell ⟨b, o + 5, none⟩ (.int .i64 e.st) :: .cell ⟨b, o + 6, none⟩ (.int .i64 e.b) :: .cell ⟨b, o + 7, none⟩ (.int .i64 e.p) :: .cell ⟨b, o + 8, none⟩ (.int .i64 e.e) :: r) := by
  have e0 := hc 0 _ rfl
  rw [Nat.add_zero] at e0
  exact KEEP_cell e0 (KEEP_cell (hc 1 _ rfl) (KEEP_cell (hc 2 _ rfl) (KEEP_cell (hc 3 _ rfl) (KEEP_cell (hc 4 _ rfl) (KEEP_cell (hc 5 _ rfl) (KEEP_cell (hc 6 _ rfl) (KEEP_cell (hc 7 _ rfl) (KEEP_cell (hc 8 _ rfl) hr))))))))

variable {l : List Ev} {la : Option Addr} {ll lc : Nat}

theorem LineOrders_spec (hs : SlE w.heap la ll l) {o : List Int} {oa : Option Addr} {ol oc : Nat} (ho : SlI w.heap oa ol o) :
    CALL Pg F_l21_LineOrders [.slice la ll lc, .slice oa ol oc] w fun v w' => Eff w w' [] ∧ v = .bool true := by
  apply C_l21_LineOrders
  unfold D_l21_LineOrders
  have hll := hs.1
  refine l21_speaks_spec.mono fun v w1 ⟨hE1, hv⟩ => ?_
  subst hv
  rw [BOOLV_bool]
  refine ITE_intro (fun h => by cases h) (fun _ => ?_)
  refine ITE_d (fun _ => ⟨hE1, rfl⟩) (fun h1 => ?_)
  refine ITE_d (fun _ => ⟨hE1, rfl⟩) (fun h2 => ?_)
  refine (Order_spec (hs.eff hE1) (by omega)).mono fun u w2 ⟨hE2, got, a1, c1, hu, hg, hog, _⟩ => ?_
  subst hu
  rw [SLV_slice]
  have hE02 := hE1.trans0 hE2
  refine (r21_Order_spec (hs.eff hE02) (by omega)).mono fun u w3 ⟨hE3, want, a2, c2, hu, hw, how, _⟩ => ?_
  have hgw := hg.unique hw
  subst hu hgw
  rw [SLV_slice]
  have hE03 := hE02.trans0 hE3
  have hog3 := (hog.eff hE3).sl.2
  have how3 := how.sl.2
  have hgl := hg.len
  refine ITE_ne (fun h => absurd rfl h) (fun _ => ?_)
  refine LOOP_of (fun vs w' => ∃ k : Nat, vs = [.bool false, .int .i64 k] ∧ k ≤ got.length ∧ Eff w3 w' [])
    (fun vs _ => match vs with | [_, .int _ n] => got.length - n.toNat | _ => 0) ⟨0, rfl, by omega, Eff.refl _⟩ ?_
  intro w4 v4 v5 ⟨k, hv, hk, hE4⟩
  simp only [List.cons.injEq, and_true] at hv
  obtain ⟨rfl, rfl⟩ := hv
  rw [INTV_int, BOOLV_bool]
  refine ITE_d (fun h3 => ?_) (fun h3 => ?_)
  · intro w5 hE5 _
    have hE35 := hE4.trans0 hE5
    refine IDX_i (hog3.eff hE35) (by omega) (by omega) fun b p hc => ?_
    rw [LDi_of hc]
    refine IDX_i (how3.eff hE35) (by omega) (by omega) fun b p hc => ?_
    rw [LDi_of hc]
    refine ITE_ne (fun h => absurd rfl h) (fun _ => BINDw (by omega) (by omega) ⟨⟨k + 1, rfl, by omega, hE35⟩, by first | omega | (dsimp only; omega)⟩)
  refine LOOP_of (fun vs w' => ∃ k : Nat, vs = [.bool false, .int .i64 k] ∧ k ≤ ll ∧ Eff w3 w' [])
    (fun vs _ => match vs with | [_, .int _ n] => ll - n.toNat | _ => 0) ⟨0, rfl, by omega, hE4⟩ ?_
  clear hE4 h3 hk k
  intro w6 v6 v7 ⟨k, hv, hk, hE6⟩
  simp only [List.cons.injEq, and_true] at hv
  obtain ⟨rfl, rfl⟩ := hv
  rw [INTV_int, BOOLV_bool]
  refine ITE_d (fun h3 => ?_) (fun h3 => ?_)
  · refine LOOP_of (fun vs w' => ∃ j : Nat, vs = [.bool false, .int .i64 j] ∧ j ≤ ll ∧ Eff w3 w' [])
      (fun vs _ => match vs with | [_, .int _ n] => ll - n.toNat | _ => 0) ⟨0, rfl, by omega, hE6⟩ ?_
    intro w7 v8 v9 ⟨j, hv, hj, hE7⟩
    simp only [List.cons.injEq, and_true] at hv
    obtain ⟨rfl, rfl⟩ := hv
    rw [INTV_int, BOOLV_bool]
    refine ITE_d (fun h4 => ?_) (fun h4 => BINDw (by omega) (by omega) ⟨⟨k + 1, rfl, by omega, hE7⟩, by first | omega | (dsimp only; omega)⟩)
    intro w8 hE8 _
    have hE38 := hE7.trans0 hE8
    have hs8 := hs.eff (hE03.trans0 hE38)
    refine IDX_e hs8 (by omega) (by omega) fun b p hc => LD9 hc ?_
    refine IDX_e hs8 (by omega) (by omega) fun b p hc => LD9 hc ?_
    refine IDX_e hs8 (by omega) (by omega) fun b5 p5 hc5 => LD9 hc5 ?_
    refine IDX_e hs8 (by omega) (by omega) fun b6 p6 hc6 => LD9 hc6 ?_
    refine (line_Ahead_spec _ _).mono fun v w9 ⟨hE9, hv⟩ => ?_
    subst hv
    rw [BOOLV_bool]
    refine ⟨KEEP_ev (fun j v hv => hE9.cell0 (hc5 j v hv)) (KEEP_ev (fun j v hv => hE9.cell0 (hc6 j v hv)) KEEP_nil), ?_⟩
    refine (r21_Ahead_spec _ _).mono fun v w10 ⟨hE10, hv⟩ => ?_
    subst hv
    rw [BOOLV_bool]
    refine ⟨KEEP_nil, ITE_intro (fun h => by simp at h) (fun _ => BINDw (by omega) (by omega) ⟨⟨j + 1, rfl, by omega, (hE38.trans0 hE9).trans0 hE10⟩, by first | omega | (dsimp only; omega)⟩)⟩
  have hE06 := hE03.trans0 hE6
  refine (line_Right_spec (hs.eff hE06) (by omega)).mono fun u w11 ⟨hE11, t7, hu, ht7⟩ => ?_
  subst hu
  rw [BOOLV_bool]
  have hE011 := hE06.trans0 hE11
  refine (r21_Right_spec (hs.eff hE011) (by omega)).mono fun u w12 ⟨hE12, t8, hu, ht8⟩ => ?_
  subst hu
  rw [BOOLV_bool]
  have hE012 := hE011.trans0 hE12
  refine ITE_same ht7 ht8 ?_
  refine (line_Fits_spec (hs.eff hE012) (by omega) (ho.eff hE012) (by omega)).mono fun u w13 ⟨hE13, t9, hu, ht9⟩ => ?_
  subst hu
  rw [BOOLV_bool]
  have hE013 := hE012.trans0 hE13
  refine (r21_Fits_spec (hs.eff hE013) (by omega) (ho.eff hE013) (by omega)).mono fun u w14 ⟨hE14, t10, hu, ht10⟩ => ?_
  subst hu
  rw [BOOLV_bool]
  have hE014 := hE013.trans0 hE14
  refine ITE_same ht9 ht10 ?_
  have hE314 := (((hE6.trans0 hE11).trans0 hE12).trans0 hE13).trans0 hE14
  refine (line_Fits_spec (hs.eff hE014) (by omega) (hog3.eff hE314) (by omega)).mono fun u w15 ⟨hE15, t11, hu, ht11⟩ => ?_
  subst hu
  rw [BOOLV_bool]
  refine (r21_Fits_spec (hs.eff (hE014.trans0 hE15)) (by omega) (how3.eff (hE314.trans0 hE15)) (by omega)).mono fun u w16 ⟨hE16, t12, hu, ht12⟩ => ?_
  subst hu
  rw [BOOLV_bool]
  exact ⟨(hE014.trans0 hE15).trans0 hE16, by rw [same_true ht11 ht12]⟩

theorem LineFits_spec (hs : SlE w.heap la ll l) : CALL Pg F_l21_LineFits [.slice la ll lc] w fun v w' => Eff w w' [] ∧ v = .bool true := by
  apply C_l21_LineFits
  unfold D_l21_LineFits
  have hll := hs.1
  refine l21_speaks_spec.mono fun v w1 ⟨hE1, hv⟩ => ?_
  subst hv
  rw [BOOLV_bool]
  refine ITE_intro (fun h => by cases h) (fun _ => ?_)
  refine ITE_d (fun _ => ⟨hE1, rfl⟩) (fun h1 => ?_)
  refine (r21_Right_spec (hs.eff hE1) (by omega)).mono fun u w2 ⟨hE2, t2, hu, ht2⟩ => ?_
  subst hu
  rw [BOOLV_bool]
  have hE02 := hE1.trans0 hE2
  refine ITE_intro (fun _ => ⟨hE02, rfl⟩) (fun h => ?_)
  have hR := ht2.1 (by simpa using h)
  refine (line_Right_spec (hs.eff hE02) (by omega)).mono fun u w3 ⟨hE3, t3, hu, ht3⟩ => ?_
  subst hu
  rw [BOOLV_bool, ht3.2 hR, ITE_true]
  have hE03 := hE02.trans0 hE3
  refine (Order_spec (hs.eff hE03) (by omega)).mono fun u w4 ⟨hE4, got, a1, c1, hu, hg, hog, _⟩ => ?_
  subst hu
  rw [SLV_slice]
  have hgl := hg.len
  have hE04 := hE03.trans0 hE4
  refine (line_Fits_spec (hs.eff hE04) (by omega) hog.sl.2 (by omega)).mono fun u w5 ⟨hE5, t4, hu, ht4⟩ => ?_
  subst hu
  rw [BOOLV_bool]
  exact ⟨hE04.trans0 hE5, by rw [ht4.2 (fits_ord hR hg)]⟩

theorem evs_open {w : World} {a : Option Addr} {l c : Nat} (h : Rds w [.sl [.int .i64, .int .i64, .int .i64, .int .i64, .int .i64, .int .i64, .int .i64, .int .i64, .int .i64]] [.slice a l c]) : ∃ es : List Ev, SlE w.heap a l es := by
  obtain ⟨es, _, _, _, hs, _⟩ := h.slice encE (by simp) (fun cs hcs => by
    cases hcs with | int _ h =>
    cases h with | int _ h =>
    cases h with | int _ h =>
    cases h with | int _ h =>
    cases h with | int _ h =>
    cases h with | int _ h =>
    cases h with | int _ h =>
    cases h with | int _ h =>
    cases h with | int _ h =>
    cases h
    exact ⟨⟨_, _, _, _, _, _, _, _, _⟩, rfl⟩)
  exact ⟨es, hs⟩
end
end Go.Proofs.Ytpopdookpbmmpaa
