/- Events in the order in which they count: plain laws, no program in sight. -/
import Derived.Test.YtpopdookpbmmpaaDen
namespace Go.Proofs.Ytpopdookpbmmpaa

structure Ev where
  w : Int
  rk : Int
  rn : Int
  ac : Int
  an : Int
  st : Int
  b : Int
  p : Int
  e : Int
deriving DecidableEq
def ev0 : Ev := ⟨0, 0, 0, 0, 0, 0, 0, 0, 0⟩

/-! ### Sorted by a key, then by number -/
def lx (key : Int → Int) (a b : Int) : Prop := key a < key b ∨ key a = key b ∧ a < b

theorem lx_irrefl {key : Int → Int} {a : Int} : ¬ lx key a a := by unfold lx; omega
theorem lx_asymm {key : Int → Int} {a b : Int} (h : lx key a b) : ¬ lx key b a := by unfold lx at *; omega
theorem lx_trans {key : Int → Int} {a b c : Int} (h : lx key a b) (k : lx key b c) : lx key a c := by unfold lx at *; omega

theorem lx_unique {key : Int → Int} : ∀ {xs ys : List Int}, xs.Perm ys → xs.Pairwise (lx key) → ys.Pairwise (lx key) → xs = ys
  | [], ys, h, _, _ => by simpa using h.symm
  | x :: xs, [], h, _, _ => by simp at h
  | x :: xs, y :: ys, h, hx, hy => by
    have hxy : x = y := by
      have h1 : x ∈ y :: ys := h.mem_iff.1 (by simp)
      have h2 : y ∈ x :: xs := h.mem_iff.2 (by simp)
      rcases List.mem_cons.1 h1 with h1 | h1
      · exact h1
      rcases List.mem_cons.1 h2 with h2 | h2
      · exact h2.symm
      have h3 := (List.pairwise_cons.1 hx).1 y h2
      have h4 := (List.pairwise_cons.1 hy).1 x h1
      exact absurd h4 (lx_asymm h3)
    subst hxy
    rw [lx_unique (List.Perm.cons_inv h) (List.pairwise_cons.1 hx).2 (List.pairwise_cons.1 hy).2]

/-! ### Events -/
def pt (l : List Ev) (i : Int) : Int := (l.getD i.toNat ev0).p
def cnt (l : List Ev) : List Int := ((List.range l.length).filter fun i => decide (0 < (l.getD i ev0).p)).map Int.ofNat
def IsOrd (l : List Ev) (o : List Int) : Prop := o.Perm (cnt l) ∧ o.Pairwise (lx (pt l))

theorem IsOrd.unique {l : List Ev} {o o' : List Int} (h : IsOrd l o) (h' : IsOrd l o') : o = o' :=
  lx_unique (h.1.trans h'.1.symm) h.2 h'.2

theorem mem_cnt {l : List Ev} {i : Int} : i ∈ cnt l ↔ 0 ≤ i ∧ i < l.length ∧ 0 < pt l i := by
  unfold cnt pt
  simp only [List.mem_map, List.mem_filter, List.mem_range, decide_eq_true_eq]
  constructor
  · rintro ⟨j, ⟨hj, hp⟩, rfl⟩
    exact ⟨by simp, by simpa using hj, by simpa using hp⟩
  · rintro ⟨h0, h1, h2⟩
    exact ⟨i.toNat, ⟨by omega, h2⟩, by simp; omega⟩

theorem cnt_sorted (l : List Ev) : (cnt l).Pairwise (· < ·) := by
  unfold cnt
  rw [List.pairwise_map]
  refine List.Pairwise.filter _ ?_
  exact List.pairwise_lt_range.imp (by intro a b h; show (a : Int) < b; omega)

theorem cnt_nodup (l : List Ev) : (cnt l).Nodup := (cnt_sorted l).imp (by intro a b h; omega)

theorem IsOrd.mem {l : List Ev} {o : List Int} (h : IsOrd l o) {i : Int} : i ∈ o ↔ 0 ≤ i ∧ i < l.length ∧ 0 < pt l i := by
  rw [h.1.mem_iff, mem_cnt]
theorem IsOrd.nodup {l : List Ev} {o : List Int} (h : IsOrd l o) : o.Nodup := h.1.nodup_iff.2 (cnt_nodup l)
theorem IsOrd.len {l : List Ev} {o : List Int} (h : IsOrd l o) : o.length ≤ l.length := by
  rw [h.1.length_eq]
  unfold cnt
  rw [List.length_map]
  exact Nat.le_trans (List.length_filter_le _ _) (by simp)

def Ahead (a b : Ev) : Prop := 0 < a.e ∧ a.e < b.b
instance (a b : Ev) : Decidable (Ahead a b) := by unfold Ahead; infer_instance
def OkE (e : Ev) : Prop := 1 ≤ e.b ∧ 0 ≤ e.p ∧ 0 ≤ e.e ∧ (0 < e.p → e.b ≤ e.p) ∧ (0 < e.e → 1 ≤ e.p ∧ e.p ≤ e.e)
instance (e : Ev) : Decidable (OkE e) := by unfold OkE; infer_instance
/-- k is the last one ahead of i of the same worker. -/
def Near (l : List Ev) (i k : Nat) : Prop := k < i ∧ (l.getD k ev0).w = (l.getD i ev0).w ∧ ∀ j, k < j → j < i → (l.getD j ev0).w ≠ (l.getD i ev0).w
def RightAt (l : List Ev) (i : Nat) : Prop := OkE (l.getD i ev0) ∧ ∀ k, Near l i k → Ahead (l.getD k ev0) (l.getD i ev0)
def RightP (l : List Ev) : Prop := ∀ i, i < l.length → RightAt l i
def atE (l : List Ev) (i : Int) : Ev := l.getD i.toNat ev0
def FitsP (l : List Ev) (o : List Int) : Prop :=
  (∀ i ∈ o, 0 ≤ i ∧ i < l.length) ∧ o.Nodup ∧ (∀ i : Nat, i < l.length → 0 < (l.getD i ev0).e → (i : Int) ∈ o) ∧ o.Pairwise fun i k => ¬ Ahead (atE l k) (atE l i)

theorem fits_ord {l : List Ev} {o : List Int} (hr : RightP l) (ho : IsOrd l o) : FitsP l o := by
  refine ⟨fun i hi => ?_, ho.nodup, fun i hi he => ?_, ?_⟩
  · have := ho.mem.1 hi; exact ⟨this.1, this.2.1⟩
  · have h1 := (hr i hi).1
    unfold OkE at h1
    exact ho.mem.2 ⟨by omega, by omega, by unfold pt; simp only [Int.toNat_natCast]; omega⟩
  · refine (List.Pairwise.imp_of_mem ?_ ho.2)
    intro i k hi hk hlx ha
    have hi := ho.mem.1 hi
    have hk := ho.mem.1 hk
    have h1 := (hr i.toNat (by omega)).1
    have h2 := (hr k.toNat (by omega)).1
    unfold lx pt at hlx
    unfold pt at hi hk
    unfold OkE at h1 h2
    unfold Ahead atE at ha
    omega

/-! ### All so much later -/
def later (by_ : Int) (e : Ev) : Ev := { e with b := e.b + by_, p := if 0 < e.p then e.p + by_ else e.p, e := if 0 < e.e then e.e + by_ else e.e }

theorem getD_map {f : Ev → Ev} {l : List Ev} {i : Nat} (hi : i < l.length) : (l.map f).getD i ev0 = f (l.getD i ev0) := by
  simp [List.getD_eq_getElem?_getD, hi]

section
variable {l : List Ev} {d : Int}

theorem later_cnt (hd : 0 ≤ d) : cnt (l.map (later d)) = cnt l := by
  unfold cnt
  rw [List.length_map]
  congr 1
  refine List.filter_congr fun i hi => ?_
  rw [getD_map (by simpa using hi)]
  refine decide_eq_decide.2 ?_
  unfold later
  dsimp only
  split <;> omega

theorem later_lx {a b : Int} (ha : a ∈ cnt l) (hb : b ∈ cnt l) : lx (pt (l.map (later d))) a b ↔ lx (pt l) a b := by
  have ha := mem_cnt.1 ha
  have hb := mem_cnt.1 hb
  unfold lx pt at *
  rw [getD_map (by omega), getD_map (by omega)]
  unfold later
  dsimp only
  rw [if_pos ha.2.2, if_pos hb.2.2]
  omega

theorem later_ord (hd : 0 ≤ d) {o : List Int} (h : IsOrd (l.map (later d)) o) : IsOrd l o := by
  have h1 := h.1
  rw [later_cnt hd] at h1
  refine ⟨h1, List.Pairwise.imp_of_mem ?_ h.2⟩
  intro a b ha hb hab
  exact (later_lx (h1.mem_iff.1 ha) (h1.mem_iff.1 hb)).1 hab

theorem later_ahead {a b : Ev} (hd : 0 ≤ d) : Ahead (later d a) (later d b) ↔ Ahead a b := by
  unfold Ahead later
  dsimp only
  split <;> omega

theorem later_okE {e : Ev} (hd : 0 ≤ d) (h : 1 ≤ e.b ∧ 0 ≤ e.p ∧ 0 ≤ e.e) : OkE (later d e) ↔ OkE e := by
  unfold OkE later
  dsimp only
  split <;> split <;> omega

theorem later_right (hd : 0 ≤ d) (hl : ∀ e ∈ l, 1 ≤ e.b ∧ 0 ≤ e.p ∧ 0 ≤ e.e) : RightP (l.map (later d)) ↔ RightP l := by
  unfold RightP
  rw [List.length_map]
  refine forall_congr' fun i => forall_congr' fun hi => ?_
  have hg : ∀ j, j < l.length → 1 ≤ (l.getD j ev0).b ∧ 0 ≤ (l.getD j ev0).p ∧ 0 ≤ (l.getD j ev0).e := fun j hj => by
    have e : l.getD j ev0 = l[j] := by simp [hj]
    rw [e]; exact hl _ (List.getElem_mem hj)
  unfold RightAt
  rw [getD_map hi, later_okE hd (hg i hi)]
  refine and_congr_right fun _ => forall_congr' fun k => ?_
  have hn : Near (l.map (later d)) i k ↔ Near l i k := by
    unfold Near
    rw [getD_map hi]
    refine and_congr_right fun hk => ?_
    rw [getD_map (by omega)]
    have hw : ∀ e : Ev, (later d e).w = e.w := fun _ => rfl
    rw [hw, hw]
    refine and_congr_right fun _ => forall_congr' fun j => forall_congr' fun _ => forall_congr' fun hj => ?_
    rw [getD_map (by omega), hw]
  constructor
  · intro h hk
    have := h (hn.2 hk)
    rw [getD_map (by have := hk.1; omega)] at this
    exact (later_ahead hd).1 this
  · intro h hk
    have hk := hn.1 hk
    rw [getD_map (by have := hk.1; omega)]
    exact (later_ahead hd).2 (h hk)

theorem later_fits (hd : 0 ≤ d) (hl : ∀ e ∈ l, 1 ≤ e.b ∧ 0 ≤ e.p ∧ 0 ≤ e.e) {o : List Int} : FitsP (l.map (later d)) o ↔ FitsP l o := by
  unfold FitsP
  rw [List.length_map]
  refine and_congr_right fun h1 => and_congr_right fun _ => ?_
  have hg : ∀ j, j < l.length → 1 ≤ (l.getD j ev0).b := fun j hj => by
    have e : l.getD j ev0 = l[j] := by simp [hj]
    rw [e]; exact (hl _ (List.getElem_mem hj)).1
  refine and_congr ?_ ?_
  · refine forall_congr' fun i => forall_congr' fun hi => ?_
    rw [getD_map hi]
    have : 0 < (later d (l.getD i ev0)).e ↔ 0 < (l.getD i ev0).e := by
      unfold later
      dsimp only
      split <;> omega
    rw [this]
  · have key : ∀ i k : Int, i ∈ o → k ∈ o → (¬ Ahead (atE (l.map (later d)) k) (atE (l.map (later d)) i) ↔ ¬ Ahead (atE l k) (atE l i)) := by
      intro i k hi hk
      have hi := h1 i hi
      have hk := h1 k hk
      unfold atE
      rw [getD_map (by omega), getD_map (by omega), later_ahead hd]
    constructor
    · exact List.Pairwise.imp_of_mem fun {i k} hi hk h => (key i k hi hk).1 h
    · exact List.Pairwise.imp_of_mem fun {i k} hi hk h => (key i k hi hk).2 h
end

/-! ### Some workers alone -/
/-- The numbers of those that are taken. -/
def ats (p : Ev → Bool) (l : List Ev) : List Nat := (List.range l.length).filter fun i => p (l.getD i ev0)

theorem ats_sorted (p : Ev → Bool) (l : List Ev) : (ats p l).Pairwise (· < ·) := List.Pairwise.filter _ List.pairwise_lt_range

theorem mem_ats {p : Ev → Bool} {l : List Ev} {i : Nat} : i ∈ ats p l ↔ i < l.length ∧ p (l.getD i ev0) = true := by
  unfold ats; simp

theorem filter_ats (p : Ev → Bool) (l : List Ev) : l.filter p = (ats p l).map fun i => l.getD i ev0 := by
  unfold ats
  have key : ∀ n, n ≤ l.length → (l.take n).filter p = ((List.range n).filter fun i => p (l.getD i ev0)).map fun i => l.getD i ev0 := by
    intro n
    induction n with
    | zero => intro _; simp
    | succ n ih =>
      intro hn
      have e : l.take (n + 1) = l.take n ++ [l.getD n ev0] := by
        rw [List.take_add_one]; congr 1
        simp [List.getD_eq_getElem?_getD, show n < l.length by omega]
      rw [e, List.range_succ, List.filter_append, List.filter_append, List.map_append, ih (by omega)]
      congr 1
      simp only [List.filter_cons, List.filter_nil]
      split <;> simp
  have := key l.length (Nat.le_refl _)
  rwa [List.take_length] at this

section
variable {p : Ev → Bool} {l : List Ev}

theorem fil_getD {i : Nat} (hi : i < (ats p l).length) : (l.filter p).getD i ev0 = l.getD ((ats p l).getD i 0) ev0 := by
  rw [filter_ats]
  simp [List.getD_eq_getElem?_getD, hi]

theorem fil_len : (l.filter p).length = (ats p l).length := by rw [filter_ats, List.length_map]

theorem ats_lt {i j : Nat} (hij : i < j) (hj : j < (ats p l).length) : (ats p l).getD i 0 < (ats p l).getD j 0 := by
  have := List.pairwise_iff_getElem.1 (ats_sorted p l) i j (by omega) hj hij
  simpa [List.getD_eq_getElem?_getD, hj, show i < (ats p l).length by omega] using this

theorem ats_mem {i : Nat} (hi : i < (ats p l).length) : (ats p l).getD i 0 < l.length ∧ p (l.getD ((ats p l).getD i 0) ev0) = true := by
  have e : (ats p l).getD i 0 = (ats p l)[i] := by simp [hi]
  rw [e]
  exact mem_ats.1 (List.getElem_mem hi)

theorem ats_ex {k : Nat} (hk : k < l.length) (hp : p (l.getD k ev0) = true) : ∃ i, i < (ats p l).length ∧ (ats p l).getD i 0 = k := by
  obtain ⟨i, hi, h⟩ := List.getElem_of_mem (mem_ats.2 ⟨hk, hp⟩)
  exact ⟨i, hi, by simp [List.getD_eq_getElem?_getD, hi, h]⟩

theorem ats_lt_inv {i j : Nat} (hi : i < (ats p l).length) (_ : j < (ats p l).length) (h : (ats p l).getD i 0 < (ats p l).getD j 0) : i < j := by
  rcases Nat.lt_trichotomy i j with h1 | h1 | h1
  · exact h1
  · rw [h1] at h; omega
  · have := ats_lt (p := p) (l := l) h1 hi; omega

/-- Where it goes by workers, who could be so still can. -/
theorem only_right (q : Int → Bool) (hq : ∀ e : Ev, p e = q e.w) (h : RightP l) : RightP (l.filter p) := by
  intro i hi
  rw [fil_len] at hi
  obtain ⟨h1, h2⟩ := ats_mem hi
  obtain ⟨h3, h4⟩ := h _ h1
  unfold RightAt
  rw [fil_getD hi]
  refine ⟨h3, fun k hk => ?_⟩
  obtain ⟨hki, hkw, hkn⟩ := hk
  rw [fil_getD (by omega)] at hkw ⊢
  rw [fil_getD hi] at hkw hkn
  refine h4 _ ⟨ats_lt hki hi, hkw, fun j hj1 hj2 hw => ?_⟩
  have hpj : p (l.getD j ev0) = true := by rw [hq, hw, ← hq]; exact h2
  obtain ⟨j', hj', rfl⟩ := ats_ex (by omega) hpj
  have := hkn j' (ats_lt_inv (by omega) hj' hj1) (ats_lt_inv hj' hi hj2)
  rw [fil_getD hj'] at this
  exact this hw

/-- Their order is that among all. -/
theorem only_ord {o om : List Int} (ho : IsOrd l o) (hm : IsOrd (l.filter p) om) : o.filter (fun i => p (atE l i)) = om.map fun i => (((ats p l).getD i.toNat 0 : Nat) : Int) := by
  have hin : ∀ i ∈ om, 0 ≤ i ∧ i.toNat < (ats p l).length := fun i hi => by
    have := hm.mem.1 hi
    rw [fil_len] at this
    omega
  have hpt : ∀ i ∈ om, pt (l.filter p) i = pt l (((ats p l).getD i.toNat 0 : Nat) : Int) := fun i hi => by
    unfold pt
    rw [fil_getD (hin i hi).2]
    simp
  have hs1 : (o.filter fun i => p (atE l i)).Pairwise (lx (pt l)) := ho.2.filter _
  have hs2 : (om.map fun i => (((ats p l).getD i.toNat 0 : Nat) : Int)).Pairwise (lx (pt l)) := by
    rw [List.pairwise_map]
    refine List.Pairwise.imp_of_mem ?_ hm.2
    intro a b ha hb hab
    unfold lx at hab ⊢
    rw [hpt a ha, hpt b hb] at hab
    rcases hab with h | ⟨h, h1⟩
    · exact .inl h
    · have ha := hin a ha
      have hb := hin b hb
      refine .inr ⟨h, ?_⟩
      have := ats_lt (p := p) (l := l) (i := a.toNat) (j := b.toNat) (by omega) hb.2
      omega
  refine lx_unique ?_ hs1 hs2
  have hn1 : (o.filter fun i => p (atE l i)).Nodup := ho.nodup.filter _
  have hn2 : (om.map fun i => (((ats p l).getD i.toNat 0 : Nat) : Int)).Nodup := hs2.imp fun {a b} h e => by subst e; exact lx_irrefl h
  refine (List.perm_ext_iff_of_nodup hn1 hn2).2 fun i => ?_
  rw [List.mem_filter, ho.mem, List.mem_map]
  constructor
  · rintro ⟨⟨h0, h1, h2⟩, h3⟩
    unfold atE at h3
    obtain ⟨j, hj, hji⟩ := ats_ex (k := i.toNat) (by omega) h3
    refine ⟨j, hm.mem.2 ⟨by omega, by rw [fil_len]; omega, ?_⟩, ?_⟩
    · unfold pt at h2 ⊢
      rw [fil_getD (by simpa using hj)]
      simp only [Int.toNat_natCast]
      rw [hji]; exact h2
    · simp only [Int.toNat_natCast]
      rw [hji]; omega
  · rintro ⟨j, hj, rfl⟩
    obtain ⟨h1, h2⟩ := ats_mem (hin j hj).2
    have h3 := (hm.mem.1 hj).2.2
    rw [hpt j hj] at h3
    refine ⟨⟨by omega, by omega, h3⟩, ?_⟩
    unfold atE
    simpa using h2
end
end Go.Proofs.Ytpopdookpbmmpaa
