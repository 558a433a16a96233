/- The document's order of events. -/
import Derived.Test.YtpopdookpbmmpaaLine7
namespace Go.Proofs.Ytpopdookpbmmpaa
open Go.Den
set_option maxRecDepth 100000
set_option maxHeartbeats 4000000

theorem nodup_len : ∀ {xs ys : List Int}, xs.Nodup → (∀ x ∈ xs, x ∈ ys) → xs.length ≤ ys.length
  | [], ys, _, _ => by simp
  | x :: xs, ys, hn, hs => by
    have hx := hs x (by simp)
    have h1 := nodup_len (xs := xs) (ys := ys.erase x) (List.nodup_cons.1 hn).2 (fun y hy => by
      have hne : y ≠ x := fun e => (List.nodup_cons.1 hn).1 (e ▸ hy)
      exact (List.mem_erase_of_ne hne).2 (hs y (by simp [hy])))
    have h2 := List.length_erase_of_mem hx
    have h3 := List.length_pos_of_mem hx
    simp only [List.length_cons]
    omega

theorem cnt_len (l : List Ev) : (cnt l).length ≤ l.length := cntK_len l l.length

/-- Still to be chosen. -/
def Cand (l : List Ev) (out : List Int) (j : Nat) : Prop := (j : Int) ∈ cnt l ∧ (j : Int) ∉ out
/-- The least of the first k that are still to be chosen. -/
def Best (l : List Ev) (out : List Int) (k : Nat) (q : Int) : Prop :=
  q = -1 ∧ (∀ j, j < k → ¬ Cand l out j) ∨ ∃ b : Nat, q = b ∧ b < k ∧ Cand l out b ∧ ∀ j, j < k → Cand l out j → j = b ∨ lx (pt l) b j

section
variable {w : World} {l : List Ev} {la : Option Addr} {ll lc : Nat}

theorem r21_Order_spec (hs : SlE w.heap la ll l) (hl : ll ≤ 1000000000) :
    CALL Pg F_r21_Order [.slice la ll lc] w fun u w' => Eff w w' [] ∧ ∃ o a' c', u = .slice a' o.length c' ∧ IsOrd l o ∧ OwI w' u o ∧ ∀ b ∈ ownL u, w.heap.size ≤ b := by
  apply C_r21_Order
  unfold D_r21_Order
  have hll := hs.1
  intro b1 w1 hE1 hs1 hb1
  refine SEML_make (by omega) fun g w2 hE2 hg hr2 => ?_
  rw [SLV_slice]
  have hE02 := hE1.trans0 hE2
  have hg0 : w.heap.size ≤ g := Nat.le_trans hE1.size hg
  have hb1g : b1 ≠ g := by have := obj_lt hb1; omega
  refine LOOP_of (fun vs w' => ∃ (out ms : List Int) (v : Value), vs = [.slice none 0 0, v] ∧ Eff w w' [] ∧ Row w' g [] ms ∧ ms.length = ll ∧ (∀ i : Nat, i < ll → ms.getD i 0 = if (i : Int) ∈ out then 1 else 0) ∧ OwI w' v out ∧ (∀ b ∈ ownL v, w.heap.size ≤ b ∧ b ≠ g) ∧
      (∀ x ∈ out, x ∈ cnt l) ∧ out.Pairwise (lx (pt l)) ∧ ∀ x ∈ out, ∀ y ∈ cnt l, y ∉ out → lx (pt l) x y)
    (fun vs _ => match vs with | [_, .slice _ n _] => ll - n | _ => 0)
    ⟨[], _, _, rfl, hE02, hr2, by simp, fun i hi => by simp [List.getD_eq_getElem?_getD, hi], own_mk (hE2.obj0 hb1) rfl (Nat.le_refl _) (by simp) rfl rfl (Nat.zero_le _), by
      simp only [ownL, Value.ownBlock, List.mem_cons, List.not_mem_nil, or_false]
      rintro b rfl
      exact ⟨hs1, hb1g⟩, by simp, by simp, by simp⟩ ?_
  intro w3 v2 v3 ⟨out, ms, v, hv, hE3, hr3, hml, hms, ho, hn, hsub, hpw, hless⟩
  simp only [List.cons.injEq, and_true] at hv
  obtain ⟨rfl, rfl⟩ := hv
  obtain ⟨a2, c2, rfl⟩ := own_slice ho
  rw [SLV_slice, SLV_slice]
  have hnd : out.Nodup := hpw.imp fun {a b} h e => by subst e; exact lx_irrefl h
  have hcl := cnt_len l
  have hmem : ∀ i : Nat, (i : Int) ∈ cnt l ↔ i < ll ∧ 0 < (l.getD i ev0).p := fun i => by
    rw [mem_cnt]
    unfold pt
    simp only [Int.toNat_natCast]
    constructor
    · rintro ⟨_, h1, h2⟩; exact ⟨by omega, h2⟩
    · rintro ⟨h1, h2⟩; exact ⟨by omega, by omega, h2⟩
  refine LOOP_of (fun vs w' => ∃ (k : Nat) (q : Int), vs = [.int .i64 q, .int .i64 k] ∧ k ≤ ll ∧ Eff w3 w' [] ∧ Best l out k q)
    (fun vs _ => match vs with | [_, .int _ n] => ll - n.toNat | _ => 0) ⟨0, -1, rfl, by omega, Eff.refl _, .inl ⟨rfl, by simp⟩⟩ ?_
  intro w4 v4 v5 ⟨k, q, hv, hk, hE4, hq⟩
  simp only [List.cons.injEq, and_true] at hv
  obtain ⟨rfl, rfl⟩ := hv
  rw [INTV_int, INTV_int]
  refine ITE_d (fun h1 => ?_) (fun h1 => ?_)
  · intro w5 hE5 _
    have hE35 := hE4.trans0 hE5
    have hE05 := hE3.trans0 hE35
    have e : (k : Int).toNat = k := by omega
    have hkc := hmem k
    -- how it goes on
    have keep : ¬ Cand l out k → Best l out (k + 1) q := fun h => by
      rcases hq with ⟨h2, h3⟩ | ⟨b, h2, h3, h4, h5⟩
      · refine .inl ⟨h2, fun j hj => ?_⟩
        rcases Nat.lt_or_ge j k with h6 | h6
        · exact h3 j h6
        · have : j = k := by omega
          rw [this]; exact h
      · refine .inr ⟨b, h2, by omega, h4, fun j hj hc => ?_⟩
        rcases Nat.lt_or_ge j k with h6 | h6
        · exact h5 j h6 hc
        · have : j = k := by omega
          rw [this] at hc; exact absurd hc h
    have next : ∀ q', Best l out (k + 1) q' → (∃ (k' : Nat) (q2 : Int), [Value.int .i64 q', Value.int .i64 ((k : Int) + 1)] = [.int .i64 q2, .int .i64 k'] ∧ k' ≤ ll ∧ Eff w3 w5 [] ∧ Best l out k' q2) := fun q' h => ⟨k + 1, q', rfl, by omega, hE35, h⟩
    refine RD (hr3.eff hE35) hml.symm (by omega) (by omega) ?_
    rw [e, hms k (by omega)]
    refine ITE_eq (fun h2 => ?_) (fun h2 => BINDw (by omega) (by omega) ⟨next _ (keep fun hc => h2 (by rw [if_neg hc.2])), by first | omega | (dsimp only; omega)⟩)
    have hko : (k : Int) ∉ out := fun h => by rw [if_pos h] at h2; cases h2
    refine IDX_e (hs.eff hE05) (by omega) (by omega) fun b p hc => ?_
    rw [LDi_of (hc 7 _ rfl), atE_nat]
    refine ITE_d (fun h3 => ?_) (fun h3 => BINDw (by omega) (by omega) ⟨next _ (keep fun hc => by have := (hkc.1 hc.1).2; omega), by first | omega | (dsimp only; omega)⟩)
    have hkC : Cand l out k := ⟨hkc.2 ⟨by omega, h3⟩, hko⟩
    refine ITE_d (fun h4 => ?_) (fun h4 => ?_)
    · refine BINDw (by omega) (by omega) ⟨next _ (.inr ⟨k, rfl, by omega, hkC, fun j hj hc => ?_⟩), by first | omega | (dsimp only; omega)⟩
      rcases hq with ⟨h5, h6⟩ | ⟨b, h5, _⟩
      · rcases Nat.lt_or_ge j k with h7 | h7
        · exact absurd hc (h6 j h7)
        · left; omega
      · omega
    · obtain ⟨b, hqb, hbk, hbC, hbl⟩ : ∃ b : Nat, q = b ∧ b < k ∧ Cand l out b ∧ ∀ j, j < k → Cand l out j → j = b ∨ lx (pt l) b j := by
        rcases hq with ⟨h5, _⟩ | h
        · omega
        · exact h
      subst hqb
      refine IDX_e (hs.eff hE05) (by omega) (by omega) fun b' p' hc' => ?_
      rw [LDi_of (hc' 7 _ rfl), atE_nat]
      refine IDX_e (hs.eff hE05) (by omega) (by omega) fun b' p' hc' => ?_
      rw [LDi_of (hc' 7 _ rfl), atE_nat]
      refine ITE_d (fun h5 => ?_) (fun h5 => ?_)
      · refine BINDw (by omega) (by omega) ⟨next _ (.inr ⟨k, rfl, by omega, hkC, fun j hj hc => ?_⟩), by first | omega | (dsimp only; omega)⟩
        have hlt : lx (pt l) k b := .inl (by unfold pt; simpa using h5)
        rcases Nat.lt_or_ge j k with h7 | h7
        · right
          rcases hbl j h7 hc with h8 | h8
          · rw [h8]; exact hlt
          · exact lx_trans hlt h8
        · left; omega
      · refine BINDw (by omega) (by omega) ⟨next _ (.inr ⟨b, rfl, by omega, hbC, fun j hj hc => ?_⟩), by first | omega | (dsimp only; omega)⟩
        rcases Nat.lt_or_ge j k with h7 | h7
        · exact hbl j h7 hc
        · right
          have : j = k := by omega
          subst this
          unfold lx pt
          simp only [Int.toNat_natCast]
          omega
  · have hkl : k = ll := by omega
    subst hkl
    have hE04 := hE3.trans0 hE4
    refine ITE_d (fun h2 => ?_) (fun h2 => ?_)
    · have hno : ∀ j, j < k → ¬ Cand l out j := by
        rcases hq with ⟨_, h⟩ | ⟨b, h3, _⟩
        · exact h
        · omega
      have hall : ∀ x ∈ cnt l, x ∈ out := fun x hx => by
        have h3 := mem_cnt.1 hx
        have h4 := hno x.toNat (by omega)
        by_cases h5 : x ∈ out
        · exact h5
        · exact absurd ⟨by rw [show ((x.toNat : Nat) : Int) = x by omega]; exact hx, by rw [show ((x.toNat : Nat) : Int) = x by omega]; exact h5⟩ h4
      refine ⟨hE04, out, a2, c2, rfl, ⟨(List.perm_ext_iff_of_nodup hnd (cnt_nodup l)).2 fun x => ⟨hsub x, hall x⟩, hpw⟩, ho.eff hE4, fun b hb => (hn b hb).1⟩
    · obtain ⟨b, hqb, hbk, hbC, hbl⟩ : ∃ b : Nat, q = b ∧ b < k ∧ Cand l out b ∧ ∀ j, j < k → Cand l out j → j = b ∨ lx (pt l) b j := by
        rcases hq with ⟨h5, _⟩ | h
        · omega
        · exact h
      subst hqb
      have hr4 := hr3.eff hE4
      have hnd2 : (out ++ [(b : Int)]).Nodup := by
        rw [List.nodup_append]
        refine ⟨hnd, by simp, fun x hx y hy hxy => ?_⟩
        simp at hy
        subst hy hxy
        exact hbC.2 hx
      have hlen := nodup_len hnd2 (ys := cnt l) (fun x hx => by
        rcases List.mem_append.1 hx with hx | hx
        · exact hsub x hx
        · simp at hx; rw [hx]; exact hbC.1)
      simp only [List.length_append, List.length_cons, List.length_nil] at hlen
      refine WR hr4 hml.symm (by omega) (by omega) fun w6 hr6 hE6 => ?_
      intro b7 w7 hE7 hs7 hb7
      have hE06 : Eff w w6 [] := hE04.own hE6 (by simpa using hg0)
      have ho6 : OwI w6 (.slice a2 out.length c2) out := own_eff (ho.eff hE4) hE6 (fun b hb => by simpa using (hn b hb).2)
      refine SEML_int (ho6.eff hE7) (by omega) hb7 fun a4 c4 w8 ho8 hE8 hn8 => ?_
      rw [SLV_slice]
      have hE07 := hE06.trans0 hE7
      have hr7 := hr6.eff hE7
      have hglt := obj_lt hr7
      have hr8 : Row w8 g [] (ms.set (b : Int).toNat 1) := hE8.obj hr7 (fun h => (hn g h).2 rfl)
      refine ⟨⟨out ++ [(b : Int)], _, .slice a4 (out.length + 1) c4, rfl, hE07.own hE8 (fun b hb => (hn b hb).1), hr8, by rw [List.length_set]; exact hml, fun i hi => ?_, by simpa using ho8, fun c hc => ?_, fun x hx => ?_, ?_, fun x hx y hy hyn => ?_⟩, ?_⟩
      · rw [show (b : Int).toNat = b by omega]
        by_cases h8 : i = b
        · subst h8
          rw [if_pos (by simp)]
          simp [List.getD_eq_getElem?_getD, show i < ms.length by omega]
        · have h9 : (ms.set b 1).getD i 0 = ms.getD i 0 := by
            simp only [List.getD_eq_getElem?_getD]
            rw [List.getElem?_set_ne (by omega)]
          rw [h9, hms i hi]
          have : (i : Int) ≠ b := by omega
          simp [this]
      · have hc' : c ∈ ownL (.slice a4 (out.length + 1) c4) := by simpa using hc
        rcases hn8 c hc' with h | h
        · exact hn c h
        · rw [h]; exact ⟨hE07.size, by omega⟩
      · rcases List.mem_append.1 hx with hx | hx
        · exact hsub x hx
        · simp at hx; rw [hx]; exact hbC.1
      · rw [List.pairwise_append]
        refine ⟨hpw, by simp, fun x hx y hy => ?_⟩
        simp at hy
        subst hy
        exact hless x hx _ hbC.1 hbC.2
      · have hyn' : y ∉ out ∧ y ≠ b := by simpa using hyn
        rcases List.mem_append.1 hx with hx | hx
        · exact hless x hx y hy hyn'.1
        · simp at hx
          subst hx
          have h3 := mem_cnt.1 hy
          have e : ((y.toNat : Nat) : Int) = y := by omega
          rcases hbl y.toNat (by omega) ⟨by rw [e]; exact hy, by rw [e]; exact hyn'.1⟩ with h | h
          · exact absurd (by omega) hyn'.2
          · rw [e] at h; exact h
      · dsimp only; omega
end
end Go.Proofs.Ytpopdookpbmmpaa
