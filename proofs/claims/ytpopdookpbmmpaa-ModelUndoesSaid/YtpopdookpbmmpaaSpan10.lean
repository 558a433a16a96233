/- The law SpanApart: what it answers. -/
import Derived.Test.YtpopdookpbmmpaaSpan9
import Derived.Test.YtpopdookpbmmpaaS3
namespace Go.Proofs.Ytpopdookpbmmpaa
open Go.Den
set_option maxRecDepth 100000

section
variable {w : World}

theorem not_ov {xs : List Iv} (hr : Rng xs) (hap : Ap xs) {i j : Nat} (hij : i < j) (hj : j < xs.length) : ¬ Ov (xs.getD j (0, 0)) (xs.getD i (0, 0)) := by
  intro h
  have h1 := hap i j hij hj
  have h2 := hr.at hj
  have h3 := hr.at (k := i) (by omega)
  unfold Ov at h
  omega

theorem SpanApart_spec {a : Option Addr} {l c : Nat} {ys : List Iv} {da : Option Addr} {dl dc : Nat} {ds : List Int} (hs : SlV w.heap a l ys) (hd : SlI w.heap da dl ds) :
    CALL Pg F_l06_SpanApart [.slice a l c, .slice da dl dc] w fun v w' => Eff w w' [] ∧ v = .bool true := by
  apply C_l06_SpanApart
  unfold D_l06_SpanApart
  refine speaks_spec.mono fun v w1 ⟨hE1, hv⟩ => ?_
  subst hv
  rw [BOOLV_bool]
  refine ITE_intro (fun h => by simp at h) (fun _ => ?_)
  have hll := hs.1
  have hdl := hd.1
  refine ITE_d (fun _ => ⟨hE1, rfl⟩) (fun hl => ?_)
  refine ITE_d (fun _ => ⟨hE1, rfl⟩) (fun hl2 => ?_)
  intro m w2 hE2 hs2 hb2
  refine LOOP_of (fun vs w' => ∃ (k : Nat) (xs : List Iv), vs = [.int .i64 k] ∧ k ≤ l ∧ xs.length ≤ k ∧ Mp w1 w' m xs)
    (fun vs _ => match vs with | [.int _ n] => l - n.toNat | _ => 0) ⟨0, [], rfl, by omega, by simp, Mp.new hE2 hs2 hb2⟩ ?_
  intro w3 v2 ⟨k, xs, hv, hk, hxk, hm⟩
  simp only [List.cons.injEq, and_true] at hv
  subst hv
  rw [INTV_int]
  have hE03 := hE1.trans0 hm.eff
  refine ITE_d (fun h1 => ?_) (fun h1 => ?_)
  · refine IDX_v (hs.eff hE03) (by omega) (by omega) fun b o g1 g2 => ?_
    rw [LDi_of g1, LDi_of g2]
    generalize ys.getD (k : Int).toNat (0, 0) = y
    intro b3 w4 hE4 hs4 hb4
    refine ST2_of trivial trivial hE4 hs4 hb4 fun w6 hE6 hb6 _ => ?_
    rw [LDi_of (cellH_of hb6 0), LDi_of (cellH_of hb6 1)]
    refine (far_spec y).mono fun v w7 ⟨hE7, hv⟩ => ?_
    subst hv
    rw [BOOLV_bool]
    have hm7 := (hm.eff0 hE6).eff0 hE7
    have hb7 := hE7.obj0 hb6
    refine ITE_intro (fun _ => BINDw (by omega) (by omega) ⟨⟨k + 1, xs, rfl, by omega, by omega, hm7⟩, by first | omega | (dsimp only; omega)⟩) (fun _ => ?_)
    rw [LDi_of (cellH_of hb7 0), LDi_of (cellH_of hb7 1)]
    refine (hm7.put (i := y) (by omega)).mono fun u w8 ⟨xs', hm8, hr⟩ => ?_
    have hlen : xs'.length ≤ k + 1 ∧ ∃ t, u = .bool t := by
      rcases hr with ⟨_, hu, rfl⟩ | ⟨_, hu, j, hj, rfl⟩
      · exact ⟨by omega, _, hu⟩
      · exact ⟨by rw [insL_len hj.1]; omega, _, hu⟩
    obtain ⟨hlen, t, rfl⟩ := hlen
    rw [BOOLV_bool]
    refine ITE_d (fun h2 => ?_) (fun h2 => ?_)
    · refine IDX_i (hd.eff (hE1.trans0 hm8.eff)) (by omega) (by omega) fun b o g1 => ?_
      rw [LDi_of g1]
      refine (hm8.drop _).mono fun u w9 ⟨xs2, hm9, hr9⟩ => ?_
      have h9 : xs2.length ≤ k + 1 ∧ ∃ p q t, u = .tuple #[.agg #[.int .i64 p, .int .i64 q], .bool t] := by
        rcases hr9 with ⟨_, hu, rfl⟩ | ⟨j, hj, _, _, hu, rfl⟩
        · exact ⟨hlen, _, _, _, hu⟩
        · exact ⟨by rw [dropL_len hj]; omega, _, _, _, hu⟩
      obtain ⟨hl9, p, q, t9, rfl⟩ := h9
      rw [TUP_aiib]
      exact BINDw (by omega) (by omega) ⟨⟨k + 1, xs2, rfl, by omega, by omega, hm9⟩, by first | omega | (dsimp only; omega)⟩
    · exact BINDw (by omega) (by omega) ⟨⟨k + 1, xs', rfl, by omega, by omega, hm8⟩, by first | omega | (dsimp only; omega)⟩
  · refine hm.all.mono fun u w10 ⟨hE10, ⟨a1, c1, hu⟩, ho, _⟩ => ?_
    subst hu
    rw [SLV_slice]
    have hsx := ho.sl.2
    have hcap := own_cap ho
    have hE010 := hE03.trans0 hE10
    refine LOOP_of (fun vs w' => ∃ j : Nat, vs = [.bool false, .int .i64 j] ∧ j ≤ xs.length ∧ Eff w10 w' [])
      (fun vs _ => match vs with | [_, .int _ n] => xs.length - n.toNat | _ => 0) ⟨0, rfl, by omega, Eff.refl _⟩ ?_
    intro w11 v1 v2 ⟨j, hv, hj, hE11⟩
    simp only [List.cons.injEq, and_true] at hv
    obtain ⟨rfl, rfl⟩ := hv
    rw [INTV_int, BOOLV_bool]
    refine ITE_d (fun h2 => ?_) (fun h2 => ⟨hE010.trans0 hE11, rfl⟩)
    have hjl : j < xs.length := by omega
    have hrj := hm.rng.at hjl
    refine IDX_v (hsx.eff hE11) (by omega) (by omega) fun b o g1 g2 => ?_
    have e : (j : Int).toNat = j := by omega
    rw [e] at g1 g2
    rw [LDi_of g1, LDi_of g2]
    intro b6 w12 hE12 hs12 hb12
    refine ST2_of trivial trivial hE12 hs12 hb12 fun w14 hE14 hb14 _ => ?_
    rw [LDi_of (cellH_of hb14 1)]
    refine ITE_d (fun h => by omega) (fun _ => ?_)
    rw [LDi_of (cellH_of hb14 0)]
    refine ITE_d (fun h => by omega) (fun _ => ?_)
    have hE1014 := hE11.trans0 hE14
    refine SILN_h elem_iv (by omega) (by omega) ?_
    rw [SLV_slice, e]
    have hsub := (hsx.eff hE1014).sub (lo := 0) (hi := j) (c := c1) (by omega) (by omega) hcap
    rw [Nat.sub_zero, List.drop_zero] at hsub
    refine LOOP_of (fun vs w' => ∃ i : Nat, vs = [.bool false, .int .i64 i] ∧ i ≤ j ∧ Eff w14 w' [])
      (fun vs _ => match vs with | [_, .int _ n] => j - n.toNat | _ => 0) ⟨0, rfl, by omega, Eff.refl _⟩ ?_
    intro w15 v3 v4 ⟨i, hv, hi, hE15⟩
    simp only [List.cons.injEq, and_true] at hv
    obtain ⟨rfl, rfl⟩ := hv
    rw [INTV_int, BOOLV_bool]
    refine ITE_d (fun h3 => ?_) (fun h3 => ?_)
    · refine IDX_v (hsub.eff hE15) (by omega) (by omega) fun b o g1 g2 => ?_
      have e2 : (i : Int).toNat = i := by omega
      have e3 : (xs.take j).getD i (0, 0) = xs.getD i (0, 0) := by
        rw [List.getD_eq_getElem?_getD, List.getElem?_take, if_pos (by omega), ← List.getD_eq_getElem?_getD]
      rw [e2, e3] at g1 g2
      rw [LDi_of g1, LDi_of g2]
      intro b8 w16 hE16 hs16 hb16
      refine ST2_of trivial trivial hE16 hs16 hb16 fun w18 hE18 hb18 _ => ?_
      have hE1418 := hE15.trans0 hE18
      have hb618 := hE1418.obj0 hb14
      have hri := hm.rng.at (k := i) (by omega)
      rw [LDi_of (cellH_of hb618 0), LDi_of (cellH_of hb618 1), LDi_of (cellH_of hb18 0), LDi_of (cellH_of hb18 1)]
      refine (r06_Over_spec (x := xs.getD j (0, 0)) (y := xs.getD i (0, 0)) (by omega)).mono fun u w19 ⟨hE19, hu⟩ => ?_
      subst hu
      rw [BOOLV_bool, decide_eq_false (not_ov hm.rng hm.ap (by omega) hjl), ITE_false]
      exact BINDw (by omega) (by omega) ⟨⟨i + 1, rfl, by omega, hE1418.trans0 hE19⟩, by first | omega | (dsimp only; omega)⟩
    · exact BINDw (by omega) (by omega) ⟨⟨j + 1, rfl, by omega, hE1014.trans0 hE15⟩, by first | omega | (dsimp only; omega)⟩

end
end Go.Proofs.Ytpopdookpbmmpaa
