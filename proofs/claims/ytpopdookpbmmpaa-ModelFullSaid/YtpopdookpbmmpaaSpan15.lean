/- The law SpanDoes: what it answers. -/
import Derived.Test.YtpopdookpbmmpaaSpan14
import Derived.Test.YtpopdookpbmmpaaS5
namespace Go.Proofs.Ytpopdookpbmmpaa
open Go.Den
set_option maxRecDepth 100000

/-! ### The map's intervals, and the document's -/
section
variable {xs ys : List Iv}

theorem perm_over (hp : xs.Perm ys) (i : Iv) : overF xs i = overF ys i := by
  unfold overF
  rw [Bool.eq_iff_iff, List.any_eq_true, List.any_eq_true]
  constructor
  · rintro ⟨x, hx, h⟩; exact ⟨x, hp.mem_iff.1 hx, h⟩
  · rintro ⟨x, hx, h⟩; exact ⟨x, hp.mem_iff.2 hx, h⟩

theorem perm_fit (hp : xs.Perm ys) (i : Iv) : Fit xs i ↔ Fit ys i := by
  unfold Fit; rw [perm_over hp]

theorem asc_mem (ha : Asc xs) {x y : Iv} (hx : x ∈ xs) (hy : y ∈ xs) (h : x.1 = y.1) : x = y := by
  obtain ⟨i, hi, rfl⟩ := List.getElem_of_mem hx
  obtain ⟨j, hj, rfl⟩ := List.getElem_of_mem hy
  have e1 : xs.getD i (0, 0) = xs[i] := by simp [hi]
  have e2 : xs.getD j (0, 0) = xs[j] := by simp [hj]
  have : i = j := asc_unique ha hi hj (by rw [e1, e2]; exact h)
  subst this; rfl

theorem perm_get (ha : Asc xs) (hp : xs.Perm ys) {y : Iv} (hy : y ∈ ys) : getF xs y.1 = some y := by
  rcases h : getF xs y.1 with _ | z
  · unfold getF at h
    rw [List.find?_eq_none] at h
    exact absurd (beq_self_eq_true y.1) (h y (hp.mem_iff.2 hy))
  · obtain ⟨hz, hz1⟩ := getF_some h
    rw [asc_mem ha hz (hp.mem_iff.2 hy) hz1]

theorem perm_none (hp : xs.Perm ys) {at_ : Int} (h : ∀ y ∈ ys, y.1 ≠ at_) : getF xs at_ = none := by
  unfold getF
  rw [List.find?_eq_none]
  intro x hx
  simpa using h x (hp.mem_iff.1 hx)

theorem perm_ins (hp : xs.Perm ys) {x : Iv} {k : Nat} : (insL xs x k).Perm (ys ++ [x]) := by
  unfold insL
  refine (List.perm_middle.trans ?_).trans (List.perm_append_singleton x ys).symm
  rw [List.take_append_drop]
  exact hp.cons x

theorem drop_filter (ha : Asc xs) {k : Nat} (hk : k < xs.length) : dropL xs k = xs.filter fun y => y.1 != (xs.getD k (0, 0)).1 := by
  have hx : xs = xs.take k ++ xs.getD k (0, 0) :: xs.drop (k + 1) := by
    have e : xs.getD k (0, 0) = xs[k] := by simp [hk]
    rw [e, ← List.drop_eq_getElem_cons hk, List.take_append_drop]
  have hne : ∀ i, i < xs.length → i ≠ k → (xs.getD i (0, 0)).1 ≠ (xs.getD k (0, 0)).1 := fun i hi hik h => hik (asc_unique ha hi hk h)
  have h1 : (xs.take k).filter (fun y => y.1 != (xs.getD k (0, 0)).1) = xs.take k := by
    rw [List.filter_eq_self]
    intro y hy
    obtain ⟨i, hi, rfl⟩ := List.getElem_of_mem hy
    have hi' : i < k := by simp at hi; omega
    have := hne i (by omega) (by omega)
    have e : xs.getD i (0, 0) = xs[i]'(by omega) := by simp [show i < xs.length by omega]
    rw [e] at this
    simpa using this
  have h2 : (xs.drop (k + 1)).filter (fun y => y.1 != (xs.getD k (0, 0)).1) = xs.drop (k + 1) := by
    rw [List.filter_eq_self]
    intro y hy
    obtain ⟨i, hi, rfl⟩ := List.getElem_of_mem hy
    have hi' : k + 1 + i < xs.length := by simp at hi; omega
    have := hne (k + 1 + i) hi' (by omega)
    have e : xs.getD (k + 1 + i) (0, 0) = xs[k + 1 + i] := by simp [hi']
    rw [e] at this
    simpa using this
  generalize xs.getD k (0, 0) = z at *
  have h3 : xs.filter (fun y => y.1 != z.1) = (xs.take k ++ z :: xs.drop (k + 1)).filter (fun y => y.1 != z.1) := by rw [← hx]
  rw [h3, List.filter_append, List.filter_cons_of_neg (by simp), h1, h2]
  rfl

theorem perm_drop (ha : Asc xs) (hp : xs.Perm ys) {k : Nat} (hk : k < xs.length) : (dropL xs k).Perm (ys.filter fun y => y.1 != (xs.getD k (0, 0)).1) := by
  rw [drop_filter ha hk]
  exact hp.filter _

theorem perm_drop0 (hp : xs.Perm ys) {at_ : Int} (h : getF xs at_ = none) : xs.Perm (ys.filter fun y => y.1 != at_) := by
  have : ys.filter (fun y => y.1 != at_) = ys := by
    rw [List.filter_eq_self]
    intro y hy
    unfold getF at h
    rw [List.find?_eq_none] at h
    simpa using h y (hp.mem_iff.2 hy)
  rw [this]; exact hp
end

abbrev Opr := Int × Iv
def encO (x : Opr) : List Value := [.int .i64 x.1, .int .i64 x.2.1, .int .i64 x.2.2]

theorem IDX_o {h : Array Obj} {a : Option Addr} {l : Nat} {xs : List Opr} {i : Int} {K : Nat → Nat → Prop} (hs : Sl encO 3 h a l xs) (h0 : 0 ≤ i) (h1 : i < l)
    (hK : ∀ b o (x : Opr), cellH h b o = some (.int .i64 x.1) → cellH h b (o + 1) = some (.int .i64 x.2.1) → cellH h b (o + 2) = some (.int .i64 x.2.2) → K b o) : IDX a l i 3 K :=
  IDX_sl hs h0 h1 fun b o x _ hc => hK b o x (hc 0 _ rfl) (hc 1 _ rfl) (hc 2 _ rfl)

/-- Three cells of a block of one's own are set. -/
theorem ST3_of {w₀ w : World} {b : Nat} {x y z u v r : Value} {t : TypeId} {K : World → Prop} (hu : SCAL u) (hv : SCAL v) (hr : SCAL r) (hE : Eff w₀ w []) (hb0 : w₀.heap.size ≤ b)
    (hb : w.heap[b]? = some (.cells [x, y, z].toArray t (0, 0))) (hK : ∀ w', Eff w₀ w' [] → w'.heap[b]? = some (.cells [u, v, r].toArray t (0, 0)) → Eff w w' [b] → K w') :
    ST1 w ⟨b, 0, none⟩ u fun w1 => ST1 w1 ⟨b, 1, none⟩ v fun w2 => ST1 w2 ⟨b, 2, none⟩ r K := by
  refine ST1_of hu hb (by simp) fun w1 hb1 hE1 => ST1_of hv hb1 (by simp) fun w2 hb2 hE2 => ST1_of hr hb2 (by simp) fun w3 hb3 hE3 => ?_
  refine hK w3 ?_ hb3 ?_
  · exact ((hE.own hE1 (by simpa using hb0)).own hE2 (by simpa using hb0)).own hE3 (by simpa using hb0)
  · exact ((hE1.trans hE2).trans hE3).weak (by simp)

theorem TUP_slb {a : Option Addr} {l c : Nat} {y : Bool} {K : Option Addr → Nat → Nat → Bool → Prop} :
    (TUPV (.tuple #[.slice a l c, .bool y]) fun cs => GETV cs 0 fun v => SLV v fun a l c => GETV cs 1 fun u => BOOLV u fun t => LEN cs 2 (K a l c t)) = K a l c y := rfl

section
variable {w : World}

/-- What stands beside the map while one call goes on. -/
structure Beside (w1 w : World) (m : Nat) (xs ys : List Iv) (v : Value) (b3 b4 b5 : Nat) (o : Opr) (got is_ : Iv) : Prop where
  mp : Mp w1 w m xs
  was : Was w m v ys
  perm : xs.Perm ys
  h3 : w.heap[b3]? = some (.cells [.int .i64 o.1, .int .i64 o.2.1, .int .i64 o.2.2].toArray T_chandlerylaw06_Op_l06_Op (0, 0))
  h4 : w.heap[b4]? = some (.cells [.int .i64 got.1, .int .i64 got.2].toArray T_api_Interval_api_Interval (0, 0))
  h5 : w.heap[b5]? = some (.cells [.int .i64 is_.1, .int .i64 is_.2].toArray T_api_Interval_api_Interval (0, 0))
  a3 : Away w m b3
  a4 : Away w m b4
  a5 : Away w m b5
  n43 : b4 ≠ b3
  n45 : b4 ≠ b5
  g4 : w1.heap.size ≤ b4
  n4 : b4 ∉ ownL v

theorem Beside.eff0 {w1 w w' : World} {m : Nat} {xs ys : List Iv} {v : Value} {b3 b4 b5 : Nat} {o : Opr} {got is_ : Iv} (h : Beside w1 w m xs ys v b3 b4 b5 o got is_) (hE : Eff w w' []) : Beside w1 w' m xs ys v b3 b4 b5 o got is_ :=
  ⟨h.mp.eff0 hE, h.was.eff0 hE, h.perm, hE.obj0 h.h3, hE.obj0 h.h4, hE.obj0 h.h5, h.a3.eff0 hE, h.a4.eff0 hE, h.a5.eff0 hE, h.n43, h.n45, h.g4, h.n4⟩

theorem Beside.set4 {w1 w w' : World} {m : Nat} {xs ys : List Iv} {v : Value} {b3 b4 b5 : Nat} {o : Opr} {got is_ g : Iv} (h : Beside w1 w m xs ys v b3 b4 b5 o got is_) (hE : Eff w w' [b4])
    (h4 : w'.heap[b4]? = some (.cells [.int .i64 g.1, .int .i64 g.2].toArray T_api_Interval_api_Interval (0, 0))) : Beside w1 w' m xs ys v b3 b4 b5 o g is_ := by
  have up : ∀ b, Away w m b → Away w' m b := fun b ⟨q1, q2, v, q3, q4⟩ => ⟨Nat.lt_of_lt_of_le q1 hE.size, q2, v, hE.obj q3 (by simpa using fun e => h.a4.2.1 e.symm), q4⟩
  refine ⟨h.mp.upon hE (fun b hb => ?_), ⟨own_eff h.was.own hE (fun b hb => ?_), fun b hb => up b (h.was.away b hb)⟩, h.perm, hE.obj h.h3 (by simpa using fun e => h.n43 e.symm), h4, hE.obj h.h5 (by simpa using fun e => h.n45 e.symm), up _ h.a3, up _ h.a4, up _ h.a5, h.n43, h.n45, h.g4, h.n4⟩
  · simp at hb; subst hb; exact ⟨h.a4, h.g4⟩
  · simp; intro e; subst e; exact h.n4 hb

/-- Behind a call that changes the map alone. -/
theorem Beside.turn {w1 w w' : World} {m : Nat} {xs xs' ys ys' : List Iv} {v v' : Value} {b3 b4 b5 : Nat} {o : Opr} {got is_ : Iv} (h : Beside w1 w m xs ys v b3 b4 b5 o got is_) (hm : Mp w1 w' m xs')
    (hk : ∀ b, Away w m b → Away w' m b ∧ w'.heap[b]? = w.heap[b]?) (hw : Was w' m v' ys') (hp : xs'.Perm ys') (hn : b4 ∉ ownL v') : Beside w1 w' m xs' ys' v' b3 b4 b5 o got is_ :=
  ⟨hm, hw, hp, by rw [(hk _ h.a3).2, h.h3], by rw [(hk _ h.a4).2, h.h4], by rw [(hk _ h.a5).2, h.h5], (hk _ h.a3).1, (hk _ h.a4).1, (hk _ h.a5).1, h.n43, h.n45, h.g4, hn⟩

theorem rng_mid {xs ys : List Iv} (hr : Rng xs) (hp : xs.Perm ys) : ∀ y ∈ ys, Mid y := fun y hy => by
  have := hr y (hp.mem_iff.2 hy)
  unfold Mid; omega

theorem SpanDoes_spec {a : Option Addr} {l c : Nat} {os : List Opr} (hs : Sl encO 3 w.heap a l os) : CALL Pg F_l06_SpanDoes [.slice a l c] w fun v w' => Eff w w' [] ∧ v = .bool true := by
  apply C_l06_SpanDoes
  unfold D_l06_SpanDoes
  refine speaks_spec.mono fun v w1 ⟨hE1, hv⟩ => ?_
  subst hv
  rw [BOOLV_bool]
  refine ITE_intro (fun h => by simp at h) (fun _ => ?_)
  have hll := hs.1
  refine ITE_d (fun _ => ⟨hE1, rfl⟩) (fun hl => ?_)
  intro m w2 hE2 hs2 hb2
  refine LOOP_of (fun vs w' => ∃ (k : Nat) (xs ys : List Iv) (v : Value), vs = [v, .bool false, .int .i64 k] ∧ k ≤ l ∧ xs.length ≤ k ∧ Mp w1 w' m xs ∧ Was w' m v ys ∧ xs.Perm ys)
    (fun vs _ => match vs with | [_, _, .int _ n] => l - n.toNat | _ => 0) ⟨0, [], [], _, rfl, by omega, by simp, Mp.new hE2 hs2 hb2, ⟨nil_ow, by simp [ownL, Value.ownBlock]⟩, List.Perm.refl _⟩ ?_
  intro w3 v2 v3 v4 ⟨k, xs, ys, v, hv, hk, hxk, hm, hw, hp⟩
  simp only [List.cons.injEq, and_true] at hv
  obtain ⟨rfl, rfl, rfl⟩ := hv
  rename_i v
  obtain ⟨ya, yc, rfl⟩ := own_slice hw.own
  have hyl : ys.length = xs.length := hp.length_eq.symm
  rw [INTV_int, BOOLV_bool, SLV_slice]
  have hE03 := hE1.trans0 hm.eff
  refine ITE_d (fun h1 => ?_) (fun h1 => ?_)
  · refine IDX_o (hs.eff hE03) (by omega) (by omega) fun b o x g0 g1 g2 => ?_
    rw [LDi_of g0, LDi_of g1, LDi_of g2]
    intro b3 w4 hE4 hs4 hb4
    refine ST3_of trivial trivial trivial hE4 hs4 hb4 fun w7 hE7 hb7 _ => ?_
    rw [LDi_of (cellH_of hb7 1), LDi_of (cellH_of hb7 2)]
    refine (far_spec x.2).mono fun v w8 ⟨hE8, hv⟩ => ?_
    subst hv
    rw [BOOLV_bool]
    have hE38 := hE7.trans0 hE8
    have hm8 := hm.eff0 hE38
    have hw8 := hw.eff0 hE38
    have hb8 := hE8.obj0 hb7
    refine ITE_d (fun _ => BINDw (by omega) (by omega) ⟨⟨k + 1, xs, ys, _, rfl, by omega, by omega, hm8, hw8, hp⟩, by first | omega | (dsimp only; omega)⟩) (fun hfar => ?_)
    rw [LDi_of (cellH_of hb8 1)]
    refine (r06_Find_spec hw8.own.sl.2 (by omega) x.2.1).mono fun u w9 ⟨hE9, q, hu, hq⟩ => ?_
    subst hu
    rw [INTV_int]
    intro b4 w10 hE10 hs10 hb10 b5 w11 hE11 hs11 hb11
    have hE811 := (hE9.trans0 hE10).trans0 hE11
    have hlt3 := obj_lt hb8
    have hlt4 := obj_lt hb10
    have hsz9 := hE9.size
    have hsz38 := hE38.size
    have own8 : ∀ b ∈ ownL (.slice ya ys.length yc), b < w3.heap.size := own_lt hw.own
    have a3_8 : Away w8 m b3 := hm.away hE38 hs4 (obj_lt hb8)
    have hB : Beside w1 w11 m xs ys (.slice ya ys.length yc) b3 b4 b5 x (0, 0) (0, 0) := by
      refine ⟨hm8.eff0 hE811, hw8.eff0 hE811, hp, hE811.obj0 hb8, hE11.obj0 hb10, hb11, a3_8.eff0 hE811, ?_, ?_, ?_, ?_, ?_, ?_⟩
      · exact hm8.away hE811 (by omega) (obj_lt (hE11.obj0 hb10))
      · exact hm8.away hE811 (by have := hE10.size; omega) (obj_lt hb11)
      · omega
      · omega
      · have := hm8.eff.size; omega
      · intro h; have := own8 b4 h; omega
    have hqy : 0 ≤ q → q < l ∧ ys.getD q.toNat (0, 0) ∈ ys ∧ (ys.getD q.toNat (0, 0)).1 = x.2.1 ∧ q < (ys.length : Int) := fun h => by
      rcases hq with ⟨h1, _⟩ | ⟨_, h2, h3⟩
      · omega
      · have e : ys.getD q.toNat (0, 0) = ys[q.toNat]'(by omega) := by simp [show q.toNat < ys.length by omega]
        exact ⟨by omega, by rw [e]; exact List.getElem_mem _, h3, h2⟩
    let is_ : Iv := if 0 ≤ q ∧ (x.1 = 1 ∨ x.1 = 2) then ys.getD q.toNat (0, 0) else (0, 0)
    refine ⟨fun vs w' => vs = [] ∧ Beside w1 w' m xs ys (.slice ya ys.length yc) b3 b4 b5 x (0, 0) is_, ⟨fun vs w' => vs = [.bool (decide (0 ≤ q ∧ (x.1 = 1 ∨ x.1 = 2)))] ∧ w' = w11, ?_, ?_⟩, ?_⟩
    · refine ITE_d (fun h2 => ?_) (fun h2 => ⟨by rw [decide_eq_false (by omega)], rfl⟩)
      rw [LDi_of (cellH_of hB.h3 0)]
      refine ITE_eq (fun h3 => ⟨by rw [decide_eq_true (by omega)], rfl⟩) (fun h3 => ?_)
      rw [LDi_of (cellH_of hB.h3 0)]
      refine ⟨?_, rfl⟩
      rw [show (x.1 == 2) = decide (0 ≤ q ∧ (x.1 = 1 ∨ x.1 = 2)) from by rw [Bool.eq_iff_iff]; simp; omega]
    · intro w12 v7 ⟨hv, hww⟩
      subst hww
      cases hv
      rw [BOOLV_bool]
      refine ITE_d (fun h2 => ?_) (fun h2 => ⟨rfl, ?_⟩)
      · obtain ⟨_, hmem, _, hql⟩ := hqy h2.1
        refine IDX_v hB.was.own.sl.2 h2.1 (by omega) fun b o g1 g2 => ?_
        rw [LDi_of g1, LDi_of g2]
        refine ST2_of trivial trivial hE11 hs11 hb11 fun w14 hE14 hb14 hF14 => ?_
        refine ⟨rfl, ?_⟩
        have hn5 : b5 ∉ ownL (.slice ya ys.length yc) := fun h => by have := own8 b5 h; have := hE10.size; omega
        have hne5 : b5 ≠ m := hB.a5.2.1
        have up : ∀ b, Away w12 m b → Away w14 m b := fun b ⟨q1, q2, v, q3, q4⟩ => ⟨Nat.lt_of_lt_of_le q1 hF14.size, q2, v, hF14.obj q3 (by simpa using fun e => hne5 e.symm), q4⟩
        refine ⟨hB.mp.upon hF14 (fun b hb => ?_), ⟨own_eff hB.was.own hF14 (fun b hb => ?_), fun b hb => up b (hB.was.away b hb)⟩, hp, hF14.obj hB.h3 (by simp; omega), hF14.obj hB.h4 (by simpa using hB.n45), ?_, up _ hB.a3, up _ hB.a4, up _ hB.a5, hB.n43, hB.n45, hB.g4, hB.n4⟩
        · simp at hb; subst hb
          exact ⟨hB.a5, by have := hm8.eff.size; have := hE10.size; omega⟩
        · simp; intro e; subst e; exact hn5 hb
        · show w14.heap[b5]? = _
          rw [hb14]
          simp only [is_]
          rw [if_pos h2]
      · have e : is_ = (0, 0) := by simp only [is_]; rw [if_neg h2]
        rw [e]; exact hB
    intro w15 ⟨_, hB⟩
    refine ⟨fun vs w' => ∃ (t : Bool) (xs' ys' : List Iv) (v' : Value), vs = [.bool t, v', .bool t] ∧ xs'.length ≤ k + 1 ∧ Beside w1 w' m xs' ys' v' b3 b4 b5 x is_ is_, ⟨fun vs w' => vs = [.int .i64 x.1] ∧ w' = w15, ?_, ?_⟩, ?_⟩
    · rw [LDi_of (cellH_of hB.h3 0)]; exact ⟨rfl, rfl⟩
    · intro w16 v8 ⟨hv, hww⟩
      subst hww
      cases hv
      rw [INTV_int]
      have hyl2 : ys.length ≤ 100 := by omega
      refine ITE_eq (fun h2 => ?_) (fun h2 => ?_)
      · -- Put
        have e : is_ = (0, 0) := by simp only [is_]; rw [if_neg (by omega)]
        rw [e] at hB ⊢
        rw [LDi_of (cellH_of hB.h3 1), LDi_of (cellH_of hB.h3 2)]
        refine (hB.mp.putA (i := x.2) (by omega)).mono fun u w17 ⟨xs', hm17, hk17, hr⟩ => ?_
        have h317 : w17.heap[b3]? = _ := (hk17 _ hB.a3).2.trans hB.h3
        have hw17 := hB.was.keep hk17
        have hmidx : Mid x.2 := by unfold Mid; omega
        obtain ⟨t, hu, ht⟩ : ∃ t, u = .bool t ∧ (¬ Fit xs x.2 ∧ t = false ∧ xs' = xs ∨ Fit xs x.2 ∧ t = true ∧ ∃ k, Low xs x.2.1 k ∧ xs' = insL xs x.2 k) := by
          rcases hr with ⟨h3, h4, h5⟩ | ⟨h3, h4, h5⟩
          · exact ⟨false, h4, .inl ⟨h3, rfl, h5⟩⟩
          · exact ⟨true, h4, .inr ⟨h3, rfl, h5⟩⟩
        clear hr
        subst hu
        rw [BOOLV_bool, LDi_of (cellH_of h317 1), LDi_of (cellH_of h317 2)]
        refine (r06_Put_spec hw17.own.sl.2 (by omega) (rng_mid hm.rng hp) hmidx).mono fun u w18 ⟨hE18, hr2⟩ => ?_
        have hk18 : ∀ b, Away w16 m b → Away w18 m b ∧ w18.heap[b]? = w16.heap[b]? := fun b hb => by
          obtain ⟨h5, h6⟩ := hk17 b hb
          exact ⟨h5.eff0 hE18, by rw [hE18.keep b h5.1 (by simp), h6]⟩
        have hm18 := hm17.eff0 hE18
        rcases hr2 with ⟨hf, rfl⟩ | ⟨hf, a2, c2, rfl, ho2, hn2⟩
        · rw [TUP_slb]
          rcases ht with ⟨_, rfl, rfl⟩ | ⟨hf2, _⟩
          · exact ⟨false, xs', ys, _, rfl, by omega, hB.turn hm18 hk18 (hw17.eff0 hE18) hp hB.n4⟩
          · exact absurd ((perm_fit hp _).1 hf2) hf
        · rw [TUP_slb]
          rcases ht with ⟨hf2, _⟩ | ⟨_, rfl, j, hj, rfl⟩
          · exact absurd ((perm_fit hp _).2 hf) hf2
          · refine ⟨true, _, _, _, rfl, by rw [insL_len hj.1]; omega, hB.turn hm18 hk18 ⟨by simpa using ho2, fun b hb => hm17.away hE18 (hn2 b hb) (own_lt ho2 b hb)⟩ (perm_ins hp) fun h => ?_⟩
            have := hn2 b4 h
            have := (hk17 _ hB.a4).1.1
            omega
      refine ITE_eq (fun h3 => ?_) (fun h3 => ?_)
      · -- Drop
        rw [LDi_of (cellH_of hB.h3 1)]
        refine (hB.mp.dropA x.2.1).mono fun u w19 ⟨xs', hm19, hk19, hr⟩ => ?_
        have hB19 := fun (hpp : xs'.Perm ys) => hB.turn hm19 hk19 (hB.was.keep hk19) hpp hB.n4
        have h419 : w19.heap[b4]? = _ := (hk19 _ hB.a4).2.trans hB.h4
        have h319 : w19.heap[b3]? = _ := (hk19 _ hB.a3).2.trans hB.h3
        have hw19 := hB.was.keep hk19
        obtain ⟨g, hu, hg⟩ : ∃ g : Iv, u = .tuple #[.agg #[.int .i64 g.1, .int .i64 g.2], .bool (decide (0 ≤ q))] ∧ g = is_ ∧ xs'.Perm (ys.filter fun y => y.1 != x.2.1) ∧ xs'.length ≤ xs.length := by
          rcases hr with ⟨hg, hu, rfl⟩ | ⟨j, hj, hj1, hgj, hu, rfl⟩
          · have hq0 : ¬ 0 ≤ q := fun h => by
              obtain ⟨_, hmem, h1, _⟩ := hqy h
              have := perm_get hm.asc hp hmem
              rw [h1, hg] at this; cases this
            refine ⟨(0, 0), by rw [hu, decide_eq_false hq0], ?_, perm_drop0 hp hg, Nat.le_refl _⟩
            simp only [is_]; rw [if_neg (fun h => hq0 h.1)]
          · have hq0 : 0 ≤ q := by
              rcases hq with ⟨_, h⟩ | ⟨h, _⟩
              · rw [perm_none hp h] at hgj; cases hgj
              · exact h
            obtain ⟨_, hmem, h1, _⟩ := hqy hq0
            have hgg := perm_get hm.asc hp hmem
            rw [h1, hgj] at hgg
            refine ⟨xs.getD j (0, 0), by rw [hu, decide_eq_true hq0], ?_, ?_, by rw [dropL_len hj]; omega⟩
            · simp only [is_]; rw [if_pos ⟨hq0, .inl h3⟩]; simpa using hgg
            · rw [← hj1]; exact perm_drop hm.asc hp hj
        obtain ⟨rfl, hpp, hxl⟩ := hg
        subst hu
        rw [TUP_aiib]
        have hge4 : w1.heap.size ≤ b4 := hB.g4
        refine ST2_of (w₀ := w1) trivial trivial hm19.eff hge4 h419 fun w21 hE21 hb21 hF21 => ?_
        have up : ∀ b, Away w19 m b → b ≠ b4 → Away w21 m b ∧ w21.heap[b]? = w19.heap[b]? := fun b ⟨q1, q2, v, q3, q4⟩ hne => ⟨⟨Nat.lt_of_lt_of_le q1 hF21.size, q2, v, hF21.obj q3 (by simpa using fun e => hB.a4.2.1 e.symm), q4⟩, hF21.keep b q1 (by simpa using hne)⟩
        have h321 := hF21.obj h319 (by simpa using fun e => hB.n43 e.symm)
        rw [LDi_of (cellH_of h321 1)]
        have hw21 : Was w21 m (.slice ya ys.length yc) ys := ⟨own_eff hw19.own hF21 (fun b hb => by simp; intro e; subst e; exact hB.n4 hb), fun b hb => (up b (hw19.away b hb) (fun e => hB.n4 (e ▸ hb))).1⟩
        have hm21 := hm19.upon hF21 (fun b hb => by simp at hb; subst hb; exact ⟨(hk19 _ hB.a4).1, hge4⟩)
        have a421 : Away w21 m b4 := by
          obtain ⟨q1, q2, v, q3, q4⟩ := (hk19 _ hB.a4).1
          exact ⟨Nat.lt_of_lt_of_le q1 hF21.size, q2, v, hF21.obj q3 (by simpa using fun e => hB.a4.2.1 e.symm), q4⟩
        refine (r06_Drop_spec hw21.own.sl.2 (by omega) x.2.1).mono fun u w22 ⟨hE22, a3, l3, c3, hu, ho3, hn3⟩ => ?_
        subst hu
        rw [SLV_slice]
        have hm22 := hm21.eff0 hE22
        refine ⟨decide (0 ≤ q), xs', _, _, rfl, by omega, hm22, ⟨ho3, fun b hb => hm21.away hE22 (hn3 b hb) (own_lt ho3 b hb)⟩, hpp, hE22.obj0 h321, hE22.obj0 hb21, hE22.obj0 ?_, (up _ (hk19 _ hB.a3).1 (fun e => hB.n43 e.symm)).1.eff0 hE22, a421.eff0 hE22, (up _ (hk19 _ hB.a5).1 (fun e => hB.n45 e.symm)).1.eff0 hE22, hB.n43, hB.n45, hge4, fun h => ?_⟩
        · rw [(up _ (hk19 _ hB.a5).1 (fun e => hB.n45 e.symm)).2, (hk19 _ hB.a5).2, hB.h5]
        · have := hn3 b4 h; have := a421.1; omega
      refine ITE_eq (fun h4 => ?_) (fun h4 => ?_)
      · -- Get
        rw [LDi_of (cellH_of hB.h3 1)]
        refine (hB.mp.get x.2.1).mono fun u w23 ⟨hE23, hu⟩ => ?_
        subst hu
        rw [TUP_aiib]
        have hB23 := hB.eff0 hE23
        refine ST2_of (w₀ := w1) trivial trivial hB23.mp.eff hB23.g4 hB23.h4 fun w25 hE25 hb25 hF25 => ?_
        have hg : (getF xs x.2.1).getD (0, 0) = is_ ∧ (getF xs x.2.1).isSome = decide (0 ≤ q) := by
          rcases hq with ⟨h5, h6⟩ | ⟨h5, h6, h7⟩
          · rw [perm_none hp h6, decide_eq_false (by omega)]
            refine ⟨?_, rfl⟩
            simp only [is_]; rw [if_neg (by omega)]; rfl
          · obtain ⟨_, hmem, h1, _⟩ := hqy h5
            have := perm_get hm.asc hp hmem
            rw [h1] at this
            rw [this, decide_eq_true h5]
            refine ⟨?_, rfl⟩
            simp only [is_]; rw [if_pos ⟨h5, .inr h4⟩]; rfl
        rw [hg.2]
        refine ⟨decide (0 ≤ q), xs, ys, _, rfl, by omega, hB23.set4 hF25 ?_⟩
        rw [hb25, hg.1]
      have e : is_ = (0, 0) := by simp only [is_]; rw [if_neg (by omega)]
      rw [e] at hB ⊢
      refine ITE_eq (fun h5 => ?_) (fun h5 => ?_)
      · -- Over
        intro w26 hE26 _
        have hB26 := hB.eff0 hE26
        rw [LDi_of (cellH_of hB26.h3 1), LDi_of (cellH_of hB26.h3 2), LDi_of (cellH_of hB26.h3 1), LDi_of (cellH_of hB26.h3 2)]
        refine (hB26.mp.over (i := x.2) (by omega)).mono fun u w27 ⟨hE27, hu⟩ => ?_
        subst hu
        have hB27 := hB26.eff0 hE27
        rw [BOOLV_bool]
        refine ⟨KEEP_cell (cellH_of hB27.h3 1) (KEEP_cell (cellH_of hB27.h3 2) KEEP_nil), ?_⟩
        refine (r06_Any_spec hB27.was.own.sl.2 (by omega) (rng_mid hm.rng hp) (i := x.2) (by unfold Mid; omega)).mono fun u w28 ⟨hE28, hu⟩ => ?_
        subst hu
        rw [BOOLV_bool, ← perm_over hp]
        exact ⟨KEEP_nil, _, xs, ys, _, rfl, by omega, hB27.eff0 hE28⟩
      · exact ⟨true, xs, ys, _, rfl, by omega, hB⟩
    · intro w29 v26 v27 v28 ⟨t, xs', ys', v', hv, hxl, hB⟩
      simp only [List.cons.injEq, and_true] at hv
      obtain ⟨rfl, rfl, rfl⟩ := hv
      rename_i v'
      obtain ⟨a4, c4, rfl⟩ := own_slice hB.was.own
      rw [BOOLV_bool, SLV_slice, BOOLV_bool]
      refine ITE_intro (fun h => by simp at h) (fun _ => ?_)
      rw [LDi_of (cellH_of hB.h4 0), LDi_of (cellH_of hB.h4 1), LDi_of (cellH_of hB.h5 0), LDi_of (cellH_of hB.h5 1)]
      refine ITE_intro (fun h => by simp at h) (fun _ => ?_)
      exact BINDw (by omega) (by omega) ⟨⟨k + 1, xs', ys', _, rfl, by omega, by omega, hB.mp, hB.was, hB.perm⟩, by first | omega | (dsimp only; omega)⟩
  · refine hm.was.mono fun u w30 ⟨hE30, hm30, ⟨a5, c5, hu⟩, hw30, _⟩ => ?_
    subst hu
    rw [SLV_slice]
    have hE030 := hE03.trans0 hE30
    have hwy := hw.eff0 hE30
    refine LOOP_of (fun vs w' => ∃ j : Nat, vs = [.bool false, .int .i64 (sumF (xs.take j)), .int .i64 j] ∧ j ≤ xs.length ∧ Eff w30 w' [])
      (fun vs _ => match vs with | [_, _, .int _ n] => xs.length - n.toNat | _ => 0) ⟨0, by simp [sumF], by omega, Eff.refl _⟩ ?_
    intro w31 v30 v31 v32 ⟨j, hv, hj, hE31⟩
    simp only [List.cons.injEq, and_true] at hv
    obtain ⟨rfl, rfl, rfl⟩ := hv
    rw [INTV_int, INTV_int, BOOLV_bool]
    refine ITE_d (fun h2 => ?_) (fun h2 => ?_)
    · have hjl : j < xs.length := by omega
      have e : (j : Int).toNat = j := by omega
      refine IDX_v (hw30.own.sl.2.eff hE31) (by omega) (by omega) fun b o g1 g2 => ?_
      rw [e] at g1 g2
      rw [LDi_of g1, LDi_of g2]
      intro b8 w32 hE32 hs32 hb32
      refine ST2_of trivial trivial hE32 hs32 hb32 fun w34 hE34 hb34 _ => ?_
      rw [LDi_of (cellH_of hb34 0)]
      have hE3034 := hE31.trans0 hE34
      refine (r06_Find_spec (hwy.own.sl.2.eff hE3034) (by omega) _).mono fun u w35 ⟨hE35, q, hu, hq⟩ => ?_
      subst hu
      rw [INTV_int]
      intro w36 hE36 _
      have hE3036 := (hE3034.trans0 hE35).trans0 hE36
      have hb36 := (hE35.trans0 hE36).obj0 hb34
      have hmem : xs.getD j (0, 0) ∈ ys := by
        have e : xs.getD j (0, 0) = xs[j] := by simp [hjl]
        rw [e]; exact hp.mem_iff.1 (List.getElem_mem _)
      rcases hq with ⟨h3, h4⟩ | ⟨h3, h4, h5⟩
      · exact absurd rfl (h4 _ hmem)
      refine ITE_d (fun h => by omega) (fun _ => ?_)
      have hsame : ys.getD q.toNat (0, 0) = xs.getD j (0, 0) := by
        have e : ys.getD q.toNat (0, 0) = ys[q.toNat]'(by omega) := by simp [show q.toNat < ys.length by omega]
        have h6 : ys.getD q.toNat (0, 0) ∈ ys := by rw [e]; exact List.getElem_mem _
        exact asc_mem hm.asc (hp.mem_iff.2 h6) (hp.mem_iff.2 hmem) h5
      refine IDX_v (hwy.own.sl.2.eff hE3036) h3 (by omega) fun b o g1 g2 => ?_
      rw [LDi_of g1, LDi_of g2, LDi_of (cellH_of hb36 0), LDi_of (cellH_of hb36 1), hsame]
      refine ITE_intro (fun h => by simp at h) (fun _ => ?_)
      have hst := sumF_take (xs := xs) (k := j) hjl
      have hlens : Lens xs := fun x hx => (hm.rng x hx).2
      have hb := sumF_le hlens (j + 1)
      have hb1 := sumF_le hlens j
      refine ITE_d (fun h6 => ?_) (fun h6 => ?_)
      · refine BINDw (by omega) (by omega) (IDX_v (hw30.own.sl.2.eff hE3036) (by omega) (by omega) fun b o g1 g2 => ?_)
        rw [show ((j : Int) - 1).toNat = j - 1 by omega] at g1 g2
        rw [LDi_of g1, LDi_of (cellH_of hb36 0)]
        have := hm.asc (j - 1) j (by omega) hjl
        refine ITE_d (fun h => by omega) (fun _ => ?_)
        rw [LDi_of (cellH_of hb36 1), ← hst]
        exact BINDw (by omega) (by omega) (BINDw (by omega) (by omega) ⟨⟨j + 1, rfl, by omega, hE3036⟩, by first | omega | (dsimp only; omega)⟩)
      · rw [LDi_of (cellH_of hb36 1), ← hst]
        exact BINDw (by omega) (by omega) (BINDw (by omega) (by omega) ⟨⟨j + 1, rfl, by omega, hE3036⟩, by first | omega | (dsimp only; omega)⟩)
    · have hjl : j = xs.length := by omega
      subst hjl
      refine ITE_eq (fun _ => ?_) (fun h => by omega)
      refine ((hm30.eff0 hE31).bytes (by omega)).mono fun u w37 ⟨hE37, hu⟩ => ?_
      subst hu
      rw [INTV_int, List.take_length]
      exact ⟨(hE030.trans0 hE31).trans0 hE37, by simp⟩

theorem ops_open {w : World} {a : Option Addr} {l c : Nat} (h : Rds w [.sl [.int .i64, .int .i64, .int .i64]] [.slice a l c]) : ∃ os : List Opr, Sl encO 3 w.heap a l os := by
  obtain ⟨os, _, _, _, hs, _⟩ := h.slice encO (by simp) (fun cs hcs => by
    cases hcs with | int _ h =>
    cases h with | int _ h =>
    cases h with | int _ h =>
    cases h
    exact ⟨(_, _, _), rfl⟩)
  exact ⟨os, hs⟩

end
end Go.Proofs.Ytpopdookpbmmpaa
