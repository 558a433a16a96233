/- Replays; the laws ModelDoes and ModelReplays: what they answer. -/
import Derived.Test.YtpopdookpbmmpaaModel3
import Derived.Test.YtpopdookpbmmpaaLine9
import Derived.Test.YtpopdookpbmmpaaM3
namespace Go.Proofs.Ytpopdookpbmmpaa
open Go.Den
set_option maxRecDepth 100000
set_option maxHeartbeats 4000000

/-! ### Plain laws -/
def actR (ys : List Iv) (i : Iv) (at_ : Int) : Nat → List Iv
  | 1 => ys ++ [i]
  | 2 => ys.filter fun y => y.1 != at_
  | _ => ys

theorem actR_len {ys : List Iv} {i : Iv} {at_ : Int} : ∀ {n : Nat}, (actR ys i at_ n).length ≤ ys.length + 1
  | 0 => Nat.le_succ _
  | 1 => by
    show (ys ++ [i]).length ≤ _
    simp
  | 2 => by
    show (ys.filter fun y => y.1 != at_).length ≤ _
    have := List.length_filter_le (fun y : Iv => y.1 != at_) ys
    omega
  | _ + 3 => Nat.le_succ _

theorem actR_iff {ys ys' : List Iv} {i : Iv} {at_ : Int} : ∀ {n : Nat}, ActsR ys i at_ n ys' ↔ ys' = actR ys i at_ n
  | 0 => Iff.rfl
  | 1 => Iff.rfl
  | 2 => Iff.rfl
  | _ + 3 => Iff.rfl

theorem verdict_no {c1 : Int} {cl : List Int} {zs : List Iv} {rk rn ac an : Int} (h : (verdict c1 cl zs rk rn ac an).1 = false) : (verdict c1 cl zs rk rn ac an).2 = 0 := by
  unfold verdict at *
  split
  · rename_i h1
    rw [if_pos h1] at h
    split
    · rfl
    · rename_i h2
      rw [if_neg h2] at h
      split
      · rfl
      · rename_i h3
        rw [if_neg h3] at h
        split
        · rename_i h4
          rw [if_pos h4] at h; cases h
        · rfl
  · rename_i h1
    rw [if_neg h1] at h
    split
    · rename_i h2
      rw [if_pos h2] at h
      cases hg : getF zs rn with
      | none => rfl
      | some i =>
        rw [hg] at h
        dsimp only at h ⊢
        split
        · rename_i h3
          rw [if_pos h3] at h; cases h
        · rfl
    · rfl

theorem verdict_fit {c1 : Int} {cl : List Int} {zs : List Iv} {rk rn ac an : Int} (h : (verdict c1 cl zs rk rn ac an).2 = 1) : rk = 1 ∧ sizeF c1 cl rn ≠ 0 ∧ ac = 0 ∧ grainP c1 an ∧ an + sizeF c1 cl rn ≤ 65536 + 1024 * c1 ∧ Fit zs (an, sizeF c1 cl rn) := by
  unfold verdict at h
  split at h
  · rename_i h1
    split at h
    · cases h
    · rename_i h2
      split at h
      · cases h
      · rename_i h3
        split at h
        · rename_i h4
          exact ⟨h1, h2, by omega, h4⟩
        · cases h
  · split at h
    · split at h
      · cases h
      · split at h
        · split at h <;> cases h
        · cases h
    · cases h

/-- Intervals as the document keeps them. -/
def Good (ys : List Iv) : Prop := Rng ys ∧ Uniq ys

theorem good_act {c1 : Int} {cl : List Int} {ys : List Iv} {rk rn ac an : Int} (h : Good ys) : Good (actR ys (an, sizeF c1 cl rn) rn (verdict c1 cl ys rk rn ac an).2) := by
  obtain ⟨n, hn⟩ : ∃ n, n = (verdict c1 cl ys rk rn ac an).2 := ⟨_, rfl⟩
  rw [← hn]
  match n, hn with
  | 0, _ => exact h
  | 1, hn =>
    obtain ⟨_, _, _, _, _, hf⟩ := verdict_fit hn.symm
    refine ⟨fun y hy => ?_, fun x hx y hy hxy => ?_⟩
    · have hy : y ∈ ys ++ [(an, sizeF c1 cl rn)] := hy
      rcases List.mem_append.1 hy with hy | hy
      · exact h.1 y hy
      · have hy : y = (an, sizeF c1 cl rn) := by simpa using hy
        rw [hy]
        unfold Fit at hf
        omega
    · have hx : x ∈ ys ++ [(an, sizeF c1 cl rn)] := hx
      have hy : y ∈ ys ++ [(an, sizeF c1 cl rn)] := hy
      have no : ∀ z ∈ ys, z.1 ≠ an := fun z hz hza => by
        have h1 := h.1 z hz
        have h2 : overF ys (an, sizeF c1 cl rn) = true := by
          unfold overF
          rw [List.any_eq_true]
          refine ⟨z, hz, decide_eq_true ?_⟩
          unfold Fit at hf
          unfold Ov
          dsimp only at hf ⊢
          omega
        rw [hf.2.2.2.2] at h2; cases h2
      rcases List.mem_append.1 hx with hx | hx <;> rcases List.mem_append.1 hy with hy | hy
      · exact h.2 x hx y hy hxy
      · have hy : y = (an, sizeF c1 cl rn) := by simpa using hy
        rw [hy] at hxy
        exact absurd hxy (no x hx)
      · have hx : x = (an, sizeF c1 cl rn) := by simpa using hx
        rw [hx] at hxy
        exact absurd hxy.symm (no y hy)
      · have hx : x = (an, sizeF c1 cl rn) := by simpa using hx
        have hy : y = (an, sizeF c1 cl rn) := by simpa using hy
        rw [hx, hy]
  | 2, _ => exact ⟨fun y hy => h.1 y (List.mem_filter.1 hy).1, fun x hx y hy => h.2 x (List.mem_filter.1 hx).1 y (List.mem_filter.1 hy).1⟩
  | _ + 3, _ => exact h

theorem good_mid {ys : List Iv} (h : Good ys) : ∀ y ∈ ys, Mid y := fun y hy => by
  have := h.1 y hy
  unfold Mid; omega

/-- Events, one behind the other: what is live behind them, and which may not be. -/
def repF (c1 : Int) (cl : List Int) (l : List Ev) : List Int → List Iv → List Iv × Int
  | [], ys => (ys, -1)
  | i :: o, ys => if (verdict c1 cl ys (atE l i).rk (atE l i).rn (atE l i).ac (atE l i).an).1 = true then
      repF c1 cl l o (actR ys ((atE l i).an, sizeF c1 cl (atE l i).rn) (atE l i).rn (verdict c1 cl ys (atE l i).rk (atE l i).rn (atE l i).ac (atE l i).an).2) else (ys, i)

theorem repF_nil {c1 : Int} {cl : List Int} {l : List Ev} {ys : List Iv} : repF c1 cl l [] ys = (ys, -1) := rfl
theorem repF_cons {c1 : Int} {cl : List Int} {l : List Ev} {i : Int} {o : List Int} {ys : List Iv} : repF c1 cl l (i :: o) ys = if (verdict c1 cl ys (atE l i).rk (atE l i).rn (atE l i).ac (atE l i).an).1 = true then
      repF c1 cl l o (actR ys ((atE l i).an, sizeF c1 cl (atE l i).rn) (atE l i).rn (verdict c1 cl ys (atE l i).rk (atE l i).rn (atE l i).ac (atE l i).an).2) else (ys, i) := rfl

theorem sumF_perm {xs ys : List Iv} (hp : xs.Perm ys) : sumF xs = sumF ys := by
  unfold sumF
  induction hp with
  | nil => rfl
  | cons x _ ih => simp only [List.map_cons, List.sum_cons, ih]
  | swap x y l => simp only [List.map_cons, List.sum_cons]; omega
  | trans _ _ h1 h2 => rw [h1, h2]

theorem acts_len {xs xs' : List Iv} {i : Iv} {at_ : Int} : ∀ {n : Nat}, Acts xs i at_ n xs' → xs'.length ≤ xs.length + 1
  | 0, h => by rw [show xs' = xs from h]; omega
  | 1, ⟨_, k, hk, h⟩ => by rw [h, insL_len hk.1]; omega
  | 2, ⟨k, hk, _, h⟩ => by rw [h, dropL_len hk]; omega
  | _ + 3, h => by rw [show xs' = xs from h]; omega

section
variable {P : Program} {w : World}
theorem SILN_neqptr {t e : TypeId} {ox oy : Operand} {a : Addr} {K : Value → Prop} (ht : P.underlying t = some (.pointer e)) (hK : K (.bool true)) : SILN P (binE BinOp.neq t ox oy (.pointer (some a)) (.pointer none)) K := by
  refine SILN_of (fun w' => ?_) hK
  have h : ∀ d : Nat, (Op.equalIn (d + 1) t (.pointer (some a)) (.pointer none)).run P w' = .ok false w' := fun d => by simp [Op.equalIn, run_underlying ht]
  simp [binE, eqGuard, binOp, Op.equal, Op.maxDepth, h 9999]
end

theorem TUP_pi {q : Option Addr} {x : Int} {K : Option Addr → Int → Prop} : (TUPV (.tuple #[.pointer q, .int .i64 x]) fun cs => GETV cs 0 fun v => PTRV v fun q => GETV cs 1 fun u => INTV .i64 u fun n => LEN cs 2 (K q n)) = K q x := rfl
theorem TUP_sli {a : Option Addr} {l c : Nat} {x : Int} {K : Option Addr → Nat → Nat → Int → Prop} : (TUPV (.tuple #[.slice a l c, .int .i64 x]) fun cs => GETV cs 0 fun v => SLV v fun a l c => GETV cs 1 fun u => INTV .i64 u fun n => LEN cs 2 (K a l c n)) = K a l c x := rfl

section
variable {w : World} {c0 c1 c2 c3 : Int} {ca : Option Addr} {cl cc : Nat} {cls : List Int} {l : List Ev} {la : Option Addr} {ll lc : Nat}

theorem own_blk {w : World} {base e size n c : Nat} {a : Option Addr} {l : Nat} {xs : List Value} (h : w.ownsRow base e size (.slice a l c) n xs) {b o : Nat} (ha : a = some ⟨b, o, none⟩) : b ∈ ownL (.slice a l c) ∧ b < w.heap.size := by
  rcases h.2 with ⟨h6, _⟩ | ⟨g, cap, cur, h6, _, hg, _⟩
  · injection h6 with q1
    rw [q1] at ha; cases ha
  · have h6' := h6
    injection h6 with q1
    rw [q1] at ha
    simp only [Option.some.injEq, Addr.mk.injEq] at ha
    refine ⟨?_, by rw [← ha.1]; exact obj_lt hg⟩
    rw [h6']
    simp [ownL, Value.ownBlock, ha.1]

theorem model_Replay_spec (hc : Cfg w.heap ca cl cls) (hm : mayP c0 c1 c2 c3 cls) (hs : SlE w.heap la ll l) (hl : ll ≤ 1000000) :
    CALL Pg F_model_Replay [cfgV c0 c1 c2 c3 ca cl cc, .slice la ll lc] w fun v w' => Eff w w' [] ∧ ∃ o m ca' cl' cc' w₀ xs, IsOrd l o ∧ v = .tuple #[.pointer (some ⟨m, 0, none⟩), .int .i64 (repF c1 cls l o []).2] ∧ Eff w w₀ [] ∧ Mod c0 c1 c2 c3 ca' cl' cc' cls w₀ w' m xs ∧ xs.Perm (repF c1 cls l o []).1 ∧ xs.length ≤ ll := by
  apply C_model_Replay
  unfold D_model_Replay
  have hll := hs.1
  intro b1 w1 hE1 hs1 hb1
  rw [LDi_of (cellH_of hb1 0), LDi_of (cellH_of hb1 1), LDi_of (cellH_of hb1 2), LDi_of (cellH_of hb1 3), LDl_of (cellH_of hb1 4)]
  refine (model_New_spec (hc.eff hE1) hm).mono fun v w2 ⟨m, ca', cl', cc', hv, hmod⟩ => ?_
  subst hv
  rw [PTRV_pointer]
  have hE02 := hE1.trans0 hmod.mg.eff
  refine (Order_spec (hs.eff hE02) (by omega)).mono fun u w3 ⟨hE3, o', a2, cc2, hu, ho', hoo, hon⟩ => ?_
  subst hu
  rw [SLV_slice]
  have hol := ho'.len
  have hmod3 := hmod.eff0 hE3
  have haw : ∀ b x, a2 = some ⟨b, x, none⟩ → AwayG (cfgL c0 c1 c2 c3 ca' cl' cc') T_model_Model_model_Model w3 m b := fun b x hb => by
    obtain ⟨q1, q2⟩ := own_blk hoo hb
    exact hmod.mg.away hE3 (hon b q1) q2
  refine LOOP_of (fun vs w' => ∃ (n : Nat) (xs ys : List Iv), vs = [.pointer none, .int .i64 0, .int .i64 n] ∧ n ≤ o'.length ∧ xs.length ≤ n ∧ Mod c0 c1 c2 c3 ca' cl' cc' cls w1 w' m xs ∧ xs.Perm ys ∧ repF c1 cls l o' [] = repF c1 cls l (o'.drop n) ys ∧ SlI w'.heap a2 o'.length o' ∧
      ∀ b x, a2 = some ⟨b, x, none⟩ → AwayG (cfgL c0 c1 c2 c3 ca' cl' cc') T_model_Model_model_Model w' m b)
    (fun vs _ => match vs with | [_, _, .int _ n] => o'.length - n.toNat | _ => 0) ⟨0, [], [], rfl, by omega, by simp, hmod3, List.Perm.refl _, rfl, hoo.sl.2, haw⟩ ?_
  intro w4 v3 v4 v5 ⟨n, xs, ys, hv, hn, hxn, hM, hp, hrep, hso, hawy⟩
  simp only [List.cons.injEq, and_true] at hv
  obtain ⟨rfl, rfl, rfl⟩ := hv
  rw [INTV_int, INTV_int, PTRV_pointer]
  have hE04 := hE1.trans0 hM.mg.eff
  refine ITE_d (fun h1 => ?_) (fun h1 => ?_)
  · refine IDX_i hso (by omega) (by omega) fun b q hcell => ?_
    rw [LDi_of hcell, show (n : Int).toNat = n by omega]
    have hin : o'.getD n 0 ∈ o' := getD_mem (by omega)
    have hdr := cons_drop (U := o') (i := n) (by omega)
    obtain ⟨x, hx⟩ : ∃ x, x = o'.getD n 0 := ⟨_, rfl⟩
    rw [← hx] at hin hdr ⊢
    have hxr := ho'.mem.1 hin
    intro w5 hE5 _
    have hs5 := hs.eff (hE04.trans0 hE5)
    refine IDX_e hs5 hxr.1 (by omega) fun b q hce => ?_
    rw [LDi_of (hce 1 _ rfl), LDi_of (n := (atE l x).rn) (show cellH w5.heap b (q + 1 + 1) = _ from hce 2 _ rfl)]
    refine IDX_e hs5 hxr.1 (by omega) fun b q hce => ?_
    rw [LDi_of (hce 3 _ rfl), LDi_of (n := (atE l x).an) (show cellH w5.heap b (q + 3 + 1) = _ from hce 4 _ rfl)]
    refine (Do_spec (hM.eff0 hE5) (by omega) (atE l x).rk (atE l x).rn (atE l x).ac (atE l x).an).mono fun v w6 ⟨xs', hv, hM6, hk6, ha⟩ => ?_
    subst hv
    rw [BOOLV_bool]
    have hasc := hM.mg.asc
    have hvs := verdict_same hasc hp c1 cls (atE l x).rk (atE l x).rn (atE l x).ac (atE l x).an
    have hlen := acts_len ha
    have hp' : xs'.Perm (actR ys ((atE l x).an, sizeF c1 cls (atE l x).rn) (atE l x).rn (verdict c1 cls ys (atE l x).rk (atE l x).rn (atE l x).ac (atE l x).an).2) := by
      rw [hvs] at ha
      exact acts_perm hasc hp ha (actR_iff.2 rfl)
    rw [hdr, repF_cons] at hrep
    rw [← hvs] at hrep
    have hE06 : Eff w w6 [] := hE1.trans0 hM6.mg.eff
    refine ⟨KEEP_nil, ITE_intro (fun h => ?_) (fun h => ?_)⟩
    · have h2 : (verdict c1 cls xs (atE l x).rk (atE l x).rn (atE l x).ac (atE l x).an).1 = false := by simpa using h
      rw [if_neg (by rw [h2]; simp)] at hrep
      have h3 := verdict_no h2
      rw [h3] at ha
      have hxx : xs' = xs := ha
      exact ⟨hE06, o', m, ca', cl', cc', w1, xs', ho', by rw [hrep], hE1, hM6, by rw [hxx, hrep]; exact hp, by rw [hxx]; omega⟩
    · have h2 : (verdict c1 cls xs (atE l x).rk (atE l x).rn (atE l x).ac (atE l x).an).1 = true := by simpa using h
      rw [if_pos h2] at hrep
      rw [hvs] at hrep
      refine BINDw (by omega) (by omega) ⟨⟨n + 1, xs', _, rfl, by omega, by omega, hM6, hp', hrep, ?_, ?_⟩, by first | omega | (dsimp only; omega)⟩
      · exact Sl.same (hso.eff hE5) fun b y hb => (hk6 b ((hawy b y hb).eff0 hE5)).2
      · exact fun b y hb => (hk6 b ((hawy b y hb).eff0 hE5)).1
  · have hno : n = o'.length := by omega
    rw [hno, List.drop_length, repF_nil] at hrep
    exact ⟨hE04, o', m, ca', cl', cc', w1, xs, ho', by rw [hrep], hE1, hM, by rw [hrep]; exact hp, by omega⟩

theorem r22_Replay_spec (hc : Cfg w.heap ca cl cls) (hm : mayP c0 c1 c2 c3 cls) (hs : SlE w.heap la ll l) (hl : ll ≤ 100000) {o : List Int} (ho : IsOrd l o) :
    CALL Pg F_r22_Replay [cfgV c0 c1 c2 c3 ca cl cc, .slice la ll lc] w fun v w' => Eff w w' [] ∧ ∃ a' l' c', v = .tuple #[.slice a' l' c', .int .i64 (repF c1 cls l o []).2] ∧ SlV w'.heap a' l' (repF c1 cls l o []).1 ∧ l' ≤ ll := by
  apply C_r22_Replay
  unfold D_r22_Replay
  have hll := hs.1
  intro b1 w1 hE1 hs1 hb1 b2 w2 hE2 hs2 hb2
  have hE02 := hE1.trans0 hE2
  refine (r21_Order_spec (hs.eff hE02) (by omega)).mono fun u w3 ⟨hE3, o', a2, cc2, hu, ho', hoo, hon⟩ => ?_
  have hoe := ho'.unique ho
  subst hu hoe
  rw [SLV_slice]
  have hol := ho'.len
  have hE03 := hE02.trans0 hE3
  have hgood0 : Good [] := ⟨fun y hy => (by cases hy), fun x hx => (by cases hx)⟩
  have hsy0 : SlV w3.heap (some ⟨b2, 0, none⟩) 0 [] := ⟨rfl, .inl rfl⟩
  refine LOOP_of (fun vs w' => ∃ (n : Nat) (ys : List Iv) (a' : Option Addr) (c' : Nat), vs = [.slice none 0 0, .int .i64 0, .slice a' ys.length c', .int .i64 n] ∧ n ≤ o'.length ∧ ys.length ≤ n ∧ Eff w3 w' [] ∧ SlV w'.heap a' ys.length ys ∧ Good ys ∧ repF c1 cls l o' [] = repF c1 cls l (o'.drop n) ys)
    (fun vs _ => match vs with | [_, _, _, .int _ n] => o'.length - n.toNat | _ => 0) ⟨0, [], some ⟨b2, 0, none⟩, 0, rfl, by omega, by simp, Eff.refl _, hsy0, hgood0, rfl⟩ ?_
  intro w4 v2 v3 v4 v5 ⟨n, ys, a', c', hv, hn, hyn, hE4, hsy, hgood, hrep⟩
  simp only [List.cons.injEq, and_true] at hv
  obtain ⟨rfl, rfl, rfl, rfl⟩ := hv
  rw [INTV_int, SLV_slice, INTV_int, SLV_slice]
  have hE04 := hE03.trans0 hE4
  refine ITE_d (fun h1 => ?_) (fun h1 => ?_)
  · intro w5 hE5 _
    have hE05 := hE04.trans0 hE5
    have hE35 := hE4.trans0 hE5
    have hb15 := ((hE2.trans0 hE3).trans0 hE35).obj0 hb1
    rw [LDi_of (cellH_of hb15 0), LDi_of (cellH_of hb15 1), LDi_of (cellH_of hb15 2), LDi_of (cellH_of hb15 3), LDl_of (cellH_of hb15 4)]
    have hin : o'.getD n 0 ∈ o' := getD_mem (by omega)
    have hdr := cons_drop (U := o') (i := n) (by omega)
    obtain ⟨x, hx⟩ : ∃ x, x = o'.getD n 0 := ⟨_, rfl⟩
    refine IDX_i (hoo.sl.2.eff hE35) (by omega) (by omega) fun b q hcell => ?_
    rw [LDi_of hcell, show (n : Int).toNat = n by omega]
    rw [← hx] at hin hdr ⊢
    have hxr := ho'.mem.1 hin
    have hs5 := hs.eff hE05
    refine IDX_e hs5 hxr.1 (by omega) fun b q hce => ?_
    rw [LDi_of (hce 1 _ rfl), LDi_of (n := (atE l x).rn) (show cellH w5.heap b (q + 1 + 1) = _ from hce 2 _ rfl)]
    refine IDX_i (hoo.sl.2.eff hE35) (by omega) (by omega) fun b q hcell => ?_
    rw [LDi_of hcell, show (n : Int).toNat = n by omega, ← hx]
    refine IDX_e hs5 hxr.1 (by omega) fun b q hce => ?_
    rw [LDi_of (hce 3 _ rfl), LDi_of (n := (atE l x).an) (show cellH w5.heap b (q + 3 + 1) = _ from hce 4 _ rfl)]
    refine (r22_Do_spec (hc.eff hE05) hm (hsy.eff hE5) (by omega) (good_mid hgood) hgood.2 (atE l x).rk (atE l x).rn (atE l x).ac (atE l x).an).mono fun v w6 ⟨hE6, a5, l5, c5, ys', hv, ha, hnew⟩ => ?_
    subst hv
    rw [TUP_slb]
    have hae := actR_iff.1 ha
    rw [hdr, repF_cons] at hrep
    refine ⟨KEEP_nil, ITE_intro (fun h => ?_) (fun h => ?_)⟩
    · have h2 : (verdict c1 cls ys (atE l x).rk (atE l x).rn (atE l x).ac (atE l x).an).1 = false := by simpa using h
      rw [if_neg (by rw [h2]; simp)] at hrep
      intro w7 hE7 _
      have hE57 := hE6.trans0 hE7
      refine IDX_i (hoo.sl.2.eff (hE35.trans0 hE57)) (by omega) (by omega) fun b q hcell => ?_
      rw [LDi_of hcell, show (n : Int).toNat = n by omega, ← hx, hrep]
      exact ⟨hE05.trans0 hE57, a', ys.length, c', rfl, (hsy.eff hE5).eff hE57, by omega⟩
    · have h2 : (verdict c1 cls ys (atE l x).rk (atE l x).rn (atE l x).ac (atE l x).an).1 = true := by simpa using h
      rw [if_pos h2, ← hae] at hrep
      have hsy' : l5 = ys'.length ∧ SlV w6.heap a5 ys'.length ys' := by
        rcases hnew with ⟨rfl, rfl, rfl, rfl⟩ | ⟨how, _⟩
        · exact ⟨rfl, (hsy.eff hE5).eff hE6⟩
        · have h3 := how.sl
          have h4 := h3.2
          rw [h3.1] at h4
          exact ⟨h3.1, h4⟩
      obtain ⟨rfl, hsy'⟩ := hsy'
      have hl' : ys'.length ≤ ys.length + 1 := by
        rw [hae]
        exact actR_len
      exact BINDw (by omega) (by omega) ⟨⟨n + 1, ys', a5, c5, rfl, by omega, by omega, hE35.trans0 hE6, hsy', by rw [hae]; exact good_act hgood, hrep⟩, by first | omega | (dsimp only; omega)⟩
  · have hno : n = o'.length := by omega
    rw [hno, List.drop_length, repF_nil] at hrep
    rw [hrep]
    exact ⟨hE04, a', ys.length, c', rfl, hsy, by omega⟩
end
end Go.Proofs.Ytpopdookpbmmpaa
