/- The law SpanFills: what it answers. -/
import Derived.Test.YtpopdookpbmmpaaSpan15
import Derived.Test.YtpopdookpbmmpaaS6
namespace Go.Proofs.Ytpopdookpbmmpaa
open Go.Den
set_option maxRecDepth 100000

/-- Single addresses. -/
def U (xs : List Iv) : Prop := ∀ y ∈ xs, y.2 = 1 ∧ 0 ≤ y.1 ∧ y.1 < 256

theorem u_eq {xs : List Iv} (h : U xs) {y : Iv} (hy : y ∈ xs) : y = (y.1, 1) := by
  have := (h y hy).1
  rw [← this]

theorem u_asc_ge {xs : List Iv} (h : U xs) (ha : Asc xs) : ∀ i, i < xs.length → (i : Int) ≤ (xs.getD i (0, 0)).1 := by
  intro i
  induction i with
  | zero =>
    intro hi
    have e : xs.getD 0 (0, 0) = xs[0] := by simp [hi]
    rw [e]
    have := (h _ (List.getElem_mem hi)).2
    omega
  | succ i ih =>
    intro hi
    have h1 := ih (by omega)
    have h2 := ha i (i + 1) (by omega) hi
    omega

theorem u_len {xs : List Iv} (h : U xs) (ha : Asc xs) : xs.length ≤ 256 := by
  rcases Nat.lt_or_ge 256 xs.length with h1 | h1
  · have h2 := u_asc_ge h ha 256 h1
    have e : xs.getD 256 (0, 0) = xs[256] := by simp [h1]
    rw [e] at h2
    have := (h _ (List.getElem_mem h1)).2
    omega
  · exact h1

theorem u_sum {xs : List Iv} (h : U xs) : sumF xs = xs.length := by
  unfold sumF
  induction xs with
  | nil => rfl
  | cons x xs ih =>
    have h1 := ih (fun y hy => h y (List.mem_cons_of_mem _ hy))
    have h2 := (h x (by simp)).1
    rw [List.map_cons, List.sum_cons, h1, h2, List.length_cons]
    omega

theorem asc_nodup {xs : List Iv} (ha : Asc xs) : xs.Nodup := by
  refine List.pairwise_iff_getElem.2 fun i j hi hj hij he => ?_
  have h1 := ha i j hij hj
  have e1 : xs.getD i (0, 0) = xs[i] := by simp [hi]
  have e2 : xs.getD j (0, 0) = xs[j] := by simp [hj]
  rw [e1, e2, he] at h1
  omega

/-- All addresses are there. -/
def Full (xs : List Iv) : Prop := ∀ v : Int, 0 ≤ v → v < 256 → (v, (1 : Int)) ∈ xs

theorem full_len {xs : List Iv} (h : U xs) (ha : Asc xs) (hf : Full xs) : xs.length = 256 := by
  have hn : ((List.range 256).map fun n : Nat => (((n : Int), (1 : Int)) : Iv)).Nodup := by
    refine List.Pairwise.map _ ?_ List.nodup_range
    intro a b hab he
    simp at he
    omega
  have hp : xs.Perm ((List.range 256).map fun n : Nat => (((n : Int), (1 : Int)) : Iv)) := by
    refine (List.perm_ext_iff_of_nodup (asc_nodup ha) hn).2 fun y => ?_
    rw [List.mem_map]
    constructor
    · intro hy
      have := h y hy
      refine ⟨y.1.toNat, by simp; omega, ?_⟩
      rw [u_eq h hy]
      simp; omega
    · rintro ⟨n, hn, rfl⟩
      exact hf _ (by omega) (by simp at hn; omega)
  have := hp.length_eq
  simpa using this

theorem full_over {xs : List Iv} (h : U xs) (hf : Full xs) (i : Iv) : overF xs i = decide (1 ≤ i.2 ∧ i.1 < 256 ∧ (0 ≤ i.1 ∨ i.2 > -i.1)) := by
  rw [Bool.eq_iff_iff, decide_eq_true_eq]
  unfold overF
  rw [List.any_eq_true]
  constructor
  · rintro ⟨y, hy, ho⟩
    have ho := of_decide_eq_true ho
    have := h y hy
    unfold Ov at ho
    omega
  · rintro ⟨h1, h2, h3⟩
    rcases Int.lt_or_le i.1 0 with h4 | h4
    · exact ⟨(0, 1), hf 0 (by omega) (by omega), decide_eq_true (by unfold Ov; dsimp only; omega)⟩
    · exact ⟨(i.1, 1), hf i.1 (by omega) (by omega), decide_eq_true (by unfold Ov; dsimp only; omega)⟩

theorem IDX_k {k : IntKind} {h : Array Obj} {a : Option Addr} {l : Nat} {xs : List Int} {i : Int} {K : Nat → Nat → Prop} (hs : Sl (encI k) 1 h a l xs) (h0 : 0 ≤ i) (h1 : i < l)
    (hK : ∀ b o, cellH h b o = some (.int k (xs.getD i.toNat 0)) → K b o) : IDX a l i 1 K :=
  IDX_sl hs h0 h1 fun b o x hx hc => hK b o (by
    rw [List.getD_eq_getElem?_getD, hx]
    simpa using hc 0 (.int k x) rfl)

section
variable {w₀ w : World} {m : Nat} {xs : List Iv}

theorem Mp.putU (h : Mp w₀ w m xs) (hu : U xs) {x : Int} (h0 : 0 ≤ x) (h1 : x < 256) :
    CALL Pg F_pspan_Map_Put [.pointer (some ⟨m, 0, none⟩), .agg #[.int .i64 x, .int .i64 1]] w fun u w' =>
      ∃ xs' t, u = .bool t ∧ Mp w₀ w' m xs' ∧ U xs' ∧ (x, (1 : Int)) ∈ xs' ∧ (∀ y ∈ xs, y ∈ xs') ∧ (t = false ∧ xs' = xs ∨ t = true ∧ xs'.length = xs.length + 1) := by
  have hl := u_len hu h.asc
  refine (h.put (i := (x, 1)) (by omega)).mono fun u w' ⟨xs', hm, hr⟩ => ?_
  rcases hr with ⟨hf, rfl, rfl⟩ | ⟨hf, rfl, k, hk, rfl⟩
  · refine ⟨xs', false, rfl, hm, hu, ?_, fun y hy => hy, .inl ⟨rfl, rfl⟩⟩
    have ho : overF xs' (x, 1) = true := by
      rcases h2 : overF xs' (x, 1) with _ | _
      · exact absurd ⟨h0, by dsimp only; omega, by dsimp only; omega, by dsimp only; omega, h2⟩ hf
      · rfl
    unfold overF at ho
    rw [List.any_eq_true] at ho
    obtain ⟨y, hy, ho⟩ := ho
    have ho := of_decide_eq_true ho
    have h3 := hu y hy
    unfold Ov at ho
    dsimp only at ho
    have h4 : y.1 = x := by omega
    have := u_eq hu hy
    rw [h4] at this
    rw [← this]; exact hy
  · refine ⟨_, true, rfl, hm, fun y hy => ?_, by unfold insL; simp, fun y hy => ?_, .inr ⟨rfl, insL_len hk.1⟩⟩
    · unfold insL at hy
      rw [List.mem_append, List.mem_cons] at hy
      rcases hy with h2 | rfl | h2
      · exact hu y (List.mem_of_mem_take h2)
      · exact ⟨rfl, h0, h1⟩
      · exact hu y (List.mem_of_mem_drop h2)
    · unfold insL
      rw [← List.take_append_drop k xs] at hy
      rw [List.mem_append, List.mem_cons]
      rcases List.mem_append.1 hy with h2 | h2
      · exact .inl h2
      · exact .inr (.inr h2)

theorem Mp.dropU (h : Mp w₀ w m xs) (hu : U xs) (x : Int) :
    CALL Pg F_pspan_Map_Drop [.pointer (some ⟨m, 0, none⟩), .int .i64 x] w fun u w' =>
      ∃ xs' p q t, u = .tuple #[.agg #[.int .i64 p, .int .i64 q], .bool t] ∧ Mp w₀ w' m xs' ∧ U xs' ∧ ∀ y ∈ xs, y ∈ xs' ∨ y.1 = x := by
  refine (h.drop x).mono fun u w' ⟨xs', hm, hr⟩ => ?_
  rcases hr with ⟨_, rfl, rfl⟩ | ⟨k, hk, hk1, _, rfl, rfl⟩
  · exact ⟨xs', _, _, _, rfl, hm, hu, fun y hy => .inl hy⟩
  · refine ⟨_, _, _, _, rfl, hm, fun y hy => ?_, fun y hy => ?_⟩
    · unfold dropL at hy
      rcases List.mem_append.1 hy with h2 | h2
      · exact hu y (List.mem_of_mem_take h2)
      · exact hu y (List.mem_of_mem_drop h2)
    · rw [drop_filter h.asc hk, List.mem_filter, hk1]
      by_cases h2 : y.1 = x
      · exact .inr h2
      · exact .inl ⟨hy, by simpa using h2⟩

theorem SpanFills_spec {w : World} {a : Option Addr} {l c : Nat} {os : List Int} (hs : Sl (encI .u8) 1 w.heap a l os) (ho : ∀ x ∈ os, 0 ≤ x ∧ x < 256) (i : Iv) :
    CALL Pg F_l06_SpanFills [.slice a l c, .agg #[.int .i64 i.1, .int .i64 i.2]] w fun v w' => Eff w w' [] ∧ v = .bool true := by
  apply C_l06_SpanFills
  unfold D_l06_SpanFills
  have hll := hs.1
  have hat : ∀ k : Nat, k < l → os.getD k 0 ∈ os := fun k hk => by
    have e : os.getD k 0 = os[k]'(by omega) := by simp [show k < os.length by omega]
    rw [e]; exact List.getElem_mem _
  intro b1 w1 hE1 hs1 hb1
  refine speaks_spec.mono fun v w2 ⟨hE2, hv⟩ => ?_
  subst hv
  rw [BOOLV_bool]
  refine ITE_intro (fun h => by simp at h) (fun _ => ?_)
  have hE02 := hE1.trans0 hE2
  refine ITE_d (fun _ => ⟨hE02, rfl⟩) (fun hl => ?_)
  have hb2 := hE2.obj0 hb1
  rw [LDi_of (cellH_of hb2 0), LDi_of (cellH_of hb2 1)]
  refine (far_spec i).mono fun v w3 ⟨hE3, hv⟩ => ?_
  subst hv
  rw [BOOLV_bool]
  have hE03 := hE02.trans0 hE3
  refine ITE_d (fun _ => ⟨hE03, rfl⟩) (fun hfar => ?_)
  have hb3 := hE3.obj0 hb2
  intro m w4 hE4 hs4 hb4
  refine LOOP_of (fun vs w' => ∃ (k : Nat) (xs : List Iv), vs = [.int .i64 xs.length, .int .i64 k] ∧ k ≤ l ∧ Mp w3 w' m xs ∧ U xs)
    (fun vs _ => match vs with | [_, .int _ n] => l - n.toNat | _ => 0) ⟨0, [], rfl, by omega, Mp.new hE4 hs4 hb4, fun y hy => by cases hy⟩ ?_
  intro w5 v3 v4 ⟨k, xs, hv, hk, hm, hu⟩
  simp only [List.cons.injEq, and_true] at hv
  obtain ⟨rfl, rfl⟩ := hv
  simp only [INTV_int]
  have hul := u_len hu hm.asc
  refine ITE_d (fun h1 => ?_) (fun h1 => ?_)
  · refine IDX_k (hs.eff (hE03.trans0 hm.eff)) (by omega) (by omega) fun b o g1 => ?_
    have e : (k : Int).toNat = k := by omega
    rw [e] at g1
    have hx := ho _ (hat k (by omega))
    rw [LDi_of g1]
    refine BINDw (by omega) (by omega) ?_
    refine (hm.putU hu hx.1 hx.2).mono fun u w6 ⟨xs', t, hu', hm', hu2, _, _, hr⟩ => ?_
    subst hu'
    rw [BOOLV_bool]
    have hul2 := u_len hu2 hm'.asc
    rcases hr with ⟨rfl, rfl⟩ | ⟨rfl, hlen⟩
    · rw [ITE_false]
      exact BINDw (by omega) (by omega) ⟨⟨k + 1, xs', rfl, by omega, hm', hu2⟩, by first | omega | (dsimp only; omega)⟩
    · rw [ITE_true]
      exact BINDw (by omega) (by omega) (BINDw (by omega) (by omega) ⟨⟨k + 1, xs', by rw [hlen]; simp, by omega, hm', hu2⟩, by first | omega | (dsimp only; omega)⟩)
  clear hk h1 k
  have hm5 := hm
  refine LOOP_of (fun vs w' => ∃ (k : Nat) (xs : List Iv), vs = [.int .i64 xs.length, .int .i64 k] ∧ k ≤ 256 ∧ Mp w3 w' m xs ∧ U xs ∧ ∀ v : Int, 0 ≤ v → v < k → (v, (1 : Int)) ∈ xs)
    (fun vs _ => match vs with | [_, .int _ n] => 256 - n.toNat | _ => 0) ⟨0, xs, rfl, by omega, hm, hu, fun v _ _ => by omega⟩ ?_
  clear hm5 hm hu hul
  intro w7 v6 v7 ⟨k, xs, hv, hk, hm, hu, hall⟩
  simp only [List.cons.injEq, and_true] at hv
  obtain ⟨rfl, rfl⟩ := hv
  simp only [INTV_int]
  have hul := u_len hu hm.asc
  refine ITE_d (fun h1 => ?_) (fun h1 => ?_)
  · refine (hm.putU hu (x := k) (by omega) h1).mono fun u w8 ⟨xs', t, hu', hm', hu2, hin, hsub, hr⟩ => ?_
    subst hu'
    rw [BOOLV_bool]
    have hul2 := u_len hu2 hm'.asc
    have hall' : ∀ v : Int, 0 ≤ v → v < ((k + 1 : Nat) : Int) → (v, (1 : Int)) ∈ xs' := fun v h2 h3 => by
      by_cases h4 : v = k
      · rw [h4]; exact hin
      · exact hsub _ (hall v h2 (by omega))
    rcases hr with ⟨rfl, rfl⟩ | ⟨rfl, hlen⟩
    · rw [ITE_false]
      exact BINDw (by omega) (by omega) ⟨⟨k + 1, xs', rfl, by omega, hm', hu2, hall'⟩, by first | omega | (dsimp only; omega)⟩
    · rw [ITE_true]
      exact BINDw (by omega) (by omega) (BINDw (by omega) (by omega) ⟨⟨k + 1, xs', by rw [hlen]; simp, by omega, hm', hu2, hall'⟩, by first | omega | (dsimp only; omega)⟩)
  have hfull : Full xs := fun v h2 h3 => hall v h2 (by omega)
  have hlen := full_len hu hm.asc hfull
  refine ⟨fun vs w' => vs = [.bool false] ∧ Mp w3 w' m xs, ⟨fun vs w' => vs = [.bool false] ∧ Mp w3 w' m xs, ?_, ?_⟩, ?_⟩
  · intro w9 hE9 _
    have hm9 := hm.eff0 hE9
    refine ITE_ne (fun h => by omega) (fun _ => ?_)
    refine (hm9.bytes (by omega)).mono fun u w10 ⟨hE10, hu'⟩ => ?_
    subst hu'
    rw [INTV_int, u_sum hu]
    have hm10 := hm9.eff0 hE10
    refine ⟨KEEP_nil, ITE_ne (fun h => by omega) (fun _ => ?_)⟩
    have hb10 := hm10.eff.obj0 hb3
    rw [LDi_of (cellH_of hb10 0), LDi_of (cellH_of hb10 1), LDi_of (cellH_of hb10 1)]
    refine (hm10.over (i := i) (by omega)).mono fun u w11 ⟨hE11, hu'⟩ => ?_
    subst hu'
    have hm11 := hm10.eff0 hE11
    have hb11 := hE11.obj0 hb10
    rw [BOOLV_bool, full_over hu hfull]
    refine ⟨KEEP_cell (cellH_of hb11 1) KEEP_nil, ?_⟩
    refine ITE_d (fun h2 => ?_) (fun h2 => ⟨by rw [decide_eq_false (by omega)]; rfl, hm11⟩)
    rw [LDi_of (cellH_of hb11 0)]
    refine ITE_d (fun h3 => ?_) (fun h3 => ⟨by rw [decide_eq_false (by omega)]; rfl, hm11⟩)
    rw [LDi_of (cellH_of hb11 0)]
    refine ITE_d (fun h4 => ⟨by rw [decide_eq_true (by omega)]; rfl, hm11⟩) (fun h4 => ?_)
    rw [LDi_of (cellH_of hb11 1), LDi_of (cellH_of hb11 0)]
    refine BINDw (by omega) (by omega) ⟨?_, hm11⟩
    rw [show decide (1 ≤ i.2 ∧ i.1 < 256 ∧ (0 ≤ i.1 ∨ i.2 > -i.1)) = decide (i.2 > 0 - i.1) from decide_eq_decide.2 (by omega)]
    simp
  · intro w12 v11 ⟨hv, hm12⟩
    cases hv
    rw [BOOLV_bool, ITE_false]
    exact ⟨rfl, hm12⟩
  intro w13 v12 ⟨hv, hm13⟩
  cases hv
  rw [BOOLV_bool]
  refine LOOP_of (fun vs w' => ∃ (k : Nat) (xs : List Iv), vs = [.int .i64 k] ∧ k ≤ l ∧ Mp w3 w' m xs ∧ U xs ∧ ∀ v : Int, 0 ≤ v → v < 256 → (v, (1 : Int)) ∈ xs ∨ v ∈ os)
    (fun vs _ => match vs with | [.int _ n] => l - n.toNat | _ => 0) ⟨0, xs, rfl, by omega, hm13, hu, fun v h2 h3 => .inl (hfull v h2 h3)⟩ ?_
  clear hm hu hul hk hall h1 hfull hlen hm13 k xs
  intro w14 v13 ⟨k, xs, hv, hk, hm, hu, hall⟩
  simp only [List.cons.injEq, and_true] at hv
  subst hv
  rw [INTV_int]
  refine ITE_d (fun h1 => ?_) (fun h1 => ?_)
  · refine IDX_k (hs.eff (hE03.trans0 hm.eff)) (by omega) (by omega) fun b o g1 => ?_
    have e : (k : Int).toNat = k := by omega
    rw [e] at g1
    have hx := ho _ (hat k (by omega))
    rw [LDi_of g1]
    refine BINDw (by omega) (by omega) ?_
    refine (hm.dropU hu _).mono fun u w15 ⟨xs', p, q, t, hu', hm', hu2, hsub⟩ => ?_
    subst hu'
    rw [TUP_aiib]
    refine BINDw (by omega) (by omega) ⟨⟨k + 1, xs', rfl, by omega, hm', hu2, fun v h2 h3 => ?_⟩, by first | omega | (dsimp only; omega)⟩
    rcases hall v h2 h3 with h4 | h4
    · rcases hsub _ h4 with h5 | h5
      · exact .inl h5
      · right
        have h5 : v = os.getD k 0 := h5
        rw [h5]; exact hat k (by omega)
    · exact .inr h4
  refine LOOP_of (fun vs w' => ∃ (k : Nat) (xs : List Iv), vs = [.bool false, .int .i64 k] ∧ k ≤ l ∧ Mp w3 w' m xs ∧ U xs ∧ ∀ v : Int, 0 ≤ v → v < 256 → (v, (1 : Int)) ∈ xs ∨ v ∈ os.drop k)
    (fun vs _ => match vs with | [_, .int _ n] => l - n.toNat | _ => 0) ⟨0, xs, rfl, by omega, hm, hu, hall⟩ ?_
  clear hm hu hk hall h1 k xs
  intro w16 v19 v20 ⟨k, xs, hv, hk, hm, hu, hall⟩
  simp only [List.cons.injEq, and_true] at hv
  obtain ⟨rfl, rfl⟩ := hv
  rw [INTV_int, BOOLV_bool]
  refine ITE_d (fun h1 => ?_) (fun h1 => ?_)
  · refine IDX_k (hs.eff (hE03.trans0 hm.eff)) (by omega) (by omega) fun b o g1 => ?_
    have e : (k : Int).toNat = k := by omega
    rw [e] at g1
    have hx := ho _ (hat k (by omega))
    rw [LDi_of g1]
    refine BINDw (by omega) (by omega) ?_
    refine (hm.putU hu hx.1 hx.2).mono fun u w17 ⟨xs', t, hu', hm', hu2, hin, hsub, hr⟩ => ?_
    subst hu'
    rw [BOOLV_bool]
    have hall' : ∀ v : Int, 0 ≤ v → v < 256 → (v, (1 : Int)) ∈ xs' ∨ v ∈ os.drop (k + 1) := fun v h2 h3 => by
      rcases hall v h2 h3 with h4 | h4
      · exact .inl (hsub _ h4)
      · rw [List.drop_eq_getElem_cons (by omega)] at h4
        rcases List.mem_cons.1 h4 with h5 | h5
        · left
          have e : os.getD k 0 = os[k]'(by omega) := by simp [show k < os.length by omega]
          rw [h5, ← e]; exact hin
        · exact .inr h5
    refine ITE_intro (fun h2 => ?_) (fun h2 => BINDw (by omega) (by omega) ⟨⟨k + 1, xs', rfl, by omega, hm', hu2, hall'⟩, by first | omega | (dsimp only; omega)⟩)
    refine BINDw (by omega) (by omega) ?_
    refine (hm'.get _).mono fun u w18 ⟨hE18, hu'⟩ => ?_
    subst hu'
    have hg := perm_get hm'.asc (List.Perm.refl xs') hin
    dsimp only at hg
    rw [hg, TUP_aiib]
    intro b6 w19 hE19 hs19 hb19
    refine ST2_of trivial trivial hE19 hs19 hb19 fun w21 hE21 hb21 _ => ?_
    refine ITE_intro (fun h => by simp at h) (fun _ => ?_)
    exact BINDw (by omega) (by omega) ⟨⟨k + 1, xs', rfl, by omega, (hm'.eff0 hE18).eff0 hE21, hu2, hall'⟩, by first | omega | (dsimp only; omega)⟩
  · have hul := u_len hu hm.asc
    refine (hm.bytes (by omega)).mono fun u w22 ⟨hE22, hu'⟩ => ?_
    subst hu'
    have hfull : Full xs := fun v h2 h3 => by
      rcases hall v h2 h3 with h4 | h4
      · exact h4
      · rw [List.drop_of_length_le (by omega)] at h4; cases h4
    rw [INTV_int, u_sum hu, full_len hu hm.asc hfull]
    exact ⟨(hE03.trans0 hm.eff).trans0 hE22, rfl⟩

end
end Go.Proofs.Ytpopdookpbmmpaa
