/- The law SpanBack: what it answers. -/
import Derived.Test.YtpopdookpbmmpaaSpan12
namespace Go.Proofs.Ytpopdookpbmmpaa
open Go.Den
set_option maxRecDepth 100000

section
variable {w : World}

theorem SpanBack_spec {a : Option Addr} {l c : Nat} {ys : List Iv} (hs : SlV w.heap a l ys) (x : Iv) : CALL Pg F_l06_SpanBack [.slice a l c, .agg #[.int .i64 x.1, .int .i64 x.2]] w fun v w' => Eff w w' [] ∧ v = .bool true := by
  apply C_l06_SpanBack
  unfold D_l06_SpanBack
  intro b1 w1 hE1 _ hb1
  refine speaks_spec.mono fun v w2 ⟨hE2, hv⟩ => ?_
  subst hv
  rw [BOOLV_bool]
  refine ITE_intro (fun h => by simp at h) (fun _ => ?_)
  have hE02 := hE1.trans0 hE2
  have hll := hs.1
  refine ITE_d (fun _ => ⟨hE02, rfl⟩) (fun hl => ?_)
  have hb2 := hE2.obj0 hb1
  rw [LDi_of (cellH_of hb2 0), LDi_of (cellH_of hb2 1)]
  refine (far_spec x).mono fun v w3 ⟨hE3, hv⟩ => ?_
  subst hv
  rw [BOOLV_bool]
  have hE03 := hE02.trans0 hE3
  refine ITE_d (fun _ => ⟨hE03, rfl⟩) (fun hfar => ?_)
  have hb3 := hE3.obj0 hb2
  intro m w4 hE4 hs4 hb4
  refine LOOP_of (fun vs w' => ∃ (k : Nat) (xs : List Iv), vs = [.int .i64 k] ∧ k ≤ l ∧ xs.length ≤ k ∧ Mp w3 w' m xs)
    (fun vs _ => match vs with | [.int _ n] => l - n.toNat | _ => 0) ⟨0, [], rfl, by omega, by simp, Mp.new hE4 hs4 hb4⟩ ?_
  intro w5 v2 ⟨k, xs, hv, hk, hxk, hm⟩
  simp only [List.cons.injEq, and_true] at hv
  subst hv
  rw [INTV_int]
  have hE05 := hE03.trans0 hm.eff
  refine ITE_d (fun h1 => ?_) (fun h1 => ?_)
  · refine IDX_v (hs.eff hE05) (by omega) (by omega) fun b o g1 g2 => ?_
    rw [LDi_of g1, LDi_of g2]
    generalize ys.getD (k : Int).toNat (0, 0) = y
    intro b3 w6 hE6 hs6 hb6
    refine ST2_of trivial trivial hE6 hs6 hb6 fun w8 hE8 hb8 _ => ?_
    rw [LDi_of (cellH_of hb8 0), LDi_of (cellH_of hb8 1)]
    refine (far_spec y).mono fun v w9 ⟨hE9, hv⟩ => ?_
    subst hv
    rw [BOOLV_bool]
    have hm9 := (hm.eff0 hE8).eff0 hE9
    have hb9 := hE9.obj0 hb8
    refine ITE_intro (fun _ => ?_) (fun _ => BINDw (by omega) (by omega) ⟨⟨k + 1, xs, rfl, by omega, by omega, hm9⟩, by first | omega | (dsimp only; omega)⟩)
    rw [LDi_of (cellH_of hb9 0), LDi_of (cellH_of hb9 1)]
    refine (hm9.put (i := y) (by omega)).mono fun u w10 ⟨xs', hm10, hr⟩ => ?_
    have hlen : xs'.length ≤ k + 1 ∧ ∃ t, u = .bool t := by
      rcases hr with ⟨_, hu, rfl⟩ | ⟨_, hu, j, hj, rfl⟩
      · exact ⟨by omega, _, hu⟩
      · exact ⟨by rw [insL_len hj.1]; omega, _, hu⟩
    obtain ⟨hlen, t, rfl⟩ := hlen
    rw [BOOLV_bool]
    exact BINDw (by omega) (by omega) ⟨⟨k + 1, xs', rfl, by omega, by omega, hm10⟩, by first | omega | (dsimp only; omega)⟩
  refine hm.was.mono fun u w11 ⟨hE11, hm11, ⟨a1, c1, hu⟩, hw11, _⟩ => ?_
  subst hu
  rw [SLV_slice]
  refine ⟨fun vs w' => vs = [.bool false] ∧ Mp w3 w' m xs ∧ Was w' m (.slice a1 xs.length c1) xs, ⟨fun vs w' => ∃ t xs', vs = [.bool t] ∧ Mp w3 w' m xs' ∧ Was w' m (.slice a1 xs.length c1) xs ∧
      (t = false ∧ xs' = xs ∨ t = true ∧ ∃ k, Low xs x.1 k ∧ xs' = insL xs x k), ?_, ?_⟩, ?_⟩
  · have hb11 := hm11.eff.obj0 hb3
    rw [LDi_of (cellH_of hb11 0), LDi_of (cellH_of hb11 1)]
    refine (hm11.putA (i := x) (by omega)).mono fun u w12 ⟨xs', hm12, hk12, hr⟩ => ?_
    rcases hr with ⟨_, rfl, rfl⟩ | ⟨_, rfl, j, hj, rfl⟩
    · rw [BOOLV_bool]; exact ⟨false, _, rfl, hm12, hw11.keep hk12, .inl ⟨rfl, rfl⟩⟩
    · rw [BOOLV_bool]; exact ⟨true, _, rfl, hm12, hw11.keep hk12, .inr ⟨rfl, j, hj, rfl⟩⟩
  · intro w13 v8 ⟨t, xs', hv, hm13, hw13, ht⟩
    cases hv
    rw [BOOLV_bool]
    rcases ht with ⟨rfl, rfl⟩ | ⟨rfl, j, hj, rfl⟩
    · rw [ITE_false]; exact ⟨rfl, hm13, hw13⟩
    rw [ITE_true]
    have hb13 := hm13.eff.obj0 hb3
    rw [LDi_of (cellH_of hb13 0)]
    refine (hm13.dropA x.1).mono fun u w14 ⟨xs2, hm14, hk14, hr⟩ => ?_
    have hjl : j < (insL xs x j).length := by rw [insL_len hj.1]; have := hj.1; omega
    have hgj : (insL xs x j).getD j (0, 0) = x := by rw [insL_getD hj.1, if_neg (by omega), if_pos rfl]
    have hgf : getF (insL xs x j) x.1 ≠ none := by
      unfold getF
      rw [Ne, List.find?_eq_none]
      intro h
      have := h x (by unfold insL; simp)
      simp at this
    rcases hr with ⟨h, _⟩ | ⟨k2, hk2, hk3, _, rfl, rfl⟩
    · exact absurd h hgf
    have hkj : k2 = j := asc_unique hm13.asc hk2 hjl (by rw [hk3, hgj])
    subst hkj
    rw [hgj, drop_ins hj.1] at *
    rw [TUP_aiib]
    intro b5 w15 hE15 hs15 hb15
    refine ST2_of trivial trivial hE15 hs15 hb15 fun w17 hE17 hb17 _ => ?_
    have hm17 := hm14.eff0 hE17
    have hb1' := hm17.eff.obj0 hb3
    refine ITE_intro (fun h => by simp at h) (fun _ => ?_)
    rw [LDi_of (cellH_of hb17 0), LDi_of (cellH_of hb17 1), LDi_of (cellH_of hb1' 0), LDi_of (cellH_of hb1' 1)]
    refine ITE_intro (fun h => by simp at h) (fun _ => ?_)
    exact ⟨rfl, hm17, (hw13.keep hk14).eff0 hE17⟩
  intro w18 v14 ⟨hv, hm18, hw18⟩
  cases hv
  rw [BOOLV_bool]
  refine hm18.was.mono fun u w19 ⟨hE19, hm19, ⟨a2, c2, hu⟩, hn19, hnew⟩ => ?_
  subst hu
  rw [SLV_slice]
  refine ITE_ne (fun h => absurd rfl h) (fun _ => ?_)
  have hw19 := hw18.eff0 hE19
  have hdis : ∀ b ∈ ownL (.slice a1 xs.length c1), b ∉ ownL (.slice a2 xs.length c2) := fun b hb hb2 => by
    have h1 := own_lt hw18.own b hb
    have h2 := hnew b hb2
    omega
  refine LOOP_of (fun vs w' => ∃ j : Nat, vs = [.bool false, .int .i64 j] ∧ j ≤ xs.length ∧ Eff w19 w' (ownL (.slice a2 xs.length c2)) ∧
      (j < xs.length → ∃ (g : Nat) (cur : List Value), a2 = some ⟨g, 0, none⟩ ∧ w'.heap[g]? = some (.cells cur.toArray T_api_Interval_api_Interval (0, 0)) ∧ cur.length = c2 * 2 ∧ xs.length ≤ c2 ∧
        ∀ i, j ≤ i → i < xs.length → cur[i * 2]? = some (.int .i64 (xs.getD i (0, 0)).1) ∧ cur[i * 2 + 1]? = some (.int .i64 (xs.getD i (0, 0)).2)))
    (fun vs _ => match vs with | [_, .int _ n] => xs.length - n.toNat | _ => 0) ⟨0, rfl, by omega, (Eff.refl _).weak (by simp), fun h0 => ?_⟩ ?_
  · obtain ⟨g, cur, rfl, _, hg, hcur, hnc, _, _, _⟩ := own_form hn19.own h0
    refine ⟨g, cur, rfl, hg, hcur, hnc, fun i _ hi => ?_⟩
    rcases hn19.own.sl.2.2 with h | ⟨b, o, hbo, hc⟩
    · rw [h] at hi; simp at hi
    · simp only [Option.some.injEq, Addr.mk.injEq, and_true] at hbo
      obtain ⟨rfl, rfl⟩ := hbo
      have e : xs[i]? = some (xs.getD i (0, 0)) := by simp [hi]
      have h1 := hc i _ e 0 (.int .i64 (xs.getD i (0, 0)).1) rfl
      have h2 := hc i _ e 1 (.int .i64 (xs.getD i (0, 0)).2) rfl
      rw [cellH_of hg] at h1 h2
      rw [Nat.zero_add] at h1 h2
      exact ⟨h1, h2⟩
  intro w20 v16 v17 ⟨j, hv, hj, hE20, hcells⟩
  simp only [List.cons.injEq, and_true] at hv
  obtain ⟨rfl, rfl⟩ := hv
  rw [INTV_int, BOOLV_bool]
  have hm20 := hm19.upon hE20 (fun b hb => ⟨hn19.away b hb, Nat.le_trans hm18.eff.size (hnew b hb)⟩)
  have ho20 : Ow w20 (.slice a1 xs.length c1) xs := own_eff hw19.own hE20 hdis
  refine ITE_d (fun h2 => ?_) (fun h2 => ?_)
  · obtain ⟨g, cur, rfl, hg, hcur, hnc, hci⟩ := hcells (by omega)
    intro w21 hE21 _
    have hg21 := hE21.obj0 hg
    have ho21 := ho20.eff hE21
    have e : (j : Int).toNat = j := by omega
    obtain ⟨q1, q2⟩ := hci j (Nat.le_refl _) (by omega)
    have hrj := hm20.rng.at (k := j) (by omega)
    refine ⟨by omega, by omega, ?_⟩
    dsimp only
    rw [e, Nat.zero_add, LDi_of (by rw [cellH_of hg21]; exact q1), LDi_of (by rw [cellH_of hg21]; exact q2)]
    refine IDX_v ho21.sl.2 (by omega) (by omega) fun b o g1 g2 => ?_
    rw [e] at g1 g2
    rw [LDi_of g1, LDi_of g2]
    refine ITE_intro (fun h => by simp at h) (fun _ => ?_)
    refine ⟨by omega, by omega, ?_⟩
    dsimp only
    rw [e, Nat.zero_add, LDi_of (by rw [cellH_of hg21]; exact q1)]
    refine BINDw (by omega) (by omega) ⟨by omega, by omega, ?_⟩
    dsimp only
    rw [e, Nat.zero_add]
    refine ST1_of trivial hg21 (by rw [hcur]; omega) fun w22 hg22 hE22 => ?_
    refine BINDw (by omega) (by omega) ⟨⟨j + 1, rfl, by omega, ?_, fun h3 => ?_⟩, by first | omega | (dsimp only; omega)⟩
    · exact ((hE20.trans hE21).trans hE22).weak (by simp [ownL, Value.ownBlock])
    · refine ⟨g, _, rfl, hg22, by simp [hcur], hnc, fun i hi hi2 => ?_⟩
      obtain ⟨r1, r2⟩ := hci i (by omega) hi2
      rw [List.getElem?_set_ne (by omega), List.getElem?_set_ne (by omega)]
      exact ⟨r1, r2⟩
  · refine hm20.all.mono fun u w23 ⟨hE23, ⟨a3, c3, hu⟩, ho3, _⟩ => ?_
    subst hu
    rw [SLV_slice]
    have hE023 := hE03.trans0 (hm20.eff.trans0 hE23)
    have ho23 := ho20.eff hE23
    refine LOOP_of (fun vs w' => ∃ i : Nat, vs = [.bool false, .int .i64 i] ∧ i ≤ xs.length ∧ Eff w23 w' [])
      (fun vs _ => match vs with | [_, .int _ n] => xs.length - n.toNat | _ => 0) ⟨0, rfl, by omega, Eff.refl _⟩ ?_
    intro w24 v19 v20 ⟨i, hv, hi, hE24⟩
    simp only [List.cons.injEq, and_true] at hv
    obtain ⟨rfl, rfl⟩ := hv
    rw [INTV_int, BOOLV_bool]
    refine ITE_d (fun h3 => ?_) (fun h3 => ⟨hE023.trans0 hE24, rfl⟩)
    refine IDX_v (ho3.sl.2.eff hE24) (by omega) (by omega) fun b o g1 g2 => ?_
    rw [LDi_of g1, LDi_of g2]
    intro b11 w25 hE25 hs25 hb25
    refine ST2_of trivial trivial hE25 hs25 hb25 fun w27 hE27 hb27 _ => ?_
    intro w28 hE28 _
    have hb28 := hE28.obj0 hb27
    have hE2428 := hE27.trans0 hE28
    rw [LDi_of (cellH_of hb28 0), LDi_of (cellH_of hb28 1)]
    refine IDX_v ((ho23.sl.2.eff hE24).eff hE2428) (by omega) (by omega) fun b o g1 g2 => ?_
    rw [LDi_of g1, LDi_of g2]
    refine ITE_intro (fun h => by simp at h) (fun _ => ?_)
    exact BINDw (by omega) (by omega) ⟨⟨i + 1, rfl, by omega, hE24.trans0 hE2428⟩, by first | omega | (dsimp only; omega)⟩

end
end Go.Proofs.Ytpopdookpbmmpaa
