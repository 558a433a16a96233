/- A worker: what it is asked for; a step of it, where there is nothing to do, or what it is asked for cannot be. -/
import Derived.Test.YthjbakeddjkdkaaGreatDoorHand4
namespace Go.Proofs.YthjbakeddjkdkaaGreatDoor
open Go.Den
set_option maxRecDepth 100000
set_option maxHeartbeats 4000000

abbrev Iv := Int × Int
def encV (x : Iv) : List Value := [.int .i64 x.1, .int .i64 x.2]
theorem encV_len (x : Iv) : (encV x).length = 2 := rfl
theorem elem_iv : Elem Pg T_Lapi_Request T_api_Request_api_Request 2 16 := Elem.of (by kernel_rfl)
abbrev SlV := @Sl Iv encV 2
theorem IDX_v {h : Array Obj} {a : Option Addr} {l : Nat} {xs : List Iv} {i : Int} {K : Nat → Nat → Prop} (hs : SlV h a l xs) (h0 : 0 ≤ i) (h1 : i < l)
    (hK : ∀ b o, cellH h b o = some (.int .i64 (xs.getD i.toNat (0, 0)).1) → cellH h b (o + 1) = some (.int .i64 (xs.getD i.toNat (0, 0)).2) → K b o) : IDX a l i 2 K :=
  IDX_sl hs h0 h1 fun b o x hx hc => hK b o (by
    rw [List.getD_eq_getElem?_getD, hx]
    simpa using hc 0 (.int .i64 x.1) rfl) (by
    rw [List.getD_eq_getElem?_getD, hx]
    simpa using hc 1 (.int .i64 x.2) rfl)
/-- These requests are in a slice of one's own. -/
abbrev Ow (w : World) (v : Value) (xs : List Iv) : Prop := w.ownsRow 0 T_api_Request_api_Request 2 v xs.length (xs.flatMap encV)
theorem flat_len (xs : List Iv) : (xs.flatMap encV).length = xs.length * 2 := by
  induction xs with
  | nil => rfl
  | cons x xs ih => rw [List.flatMap_cons, List.length_append, ih, encV_len, List.length_cons]; omega
theorem flat_scal (xs : List Iv) : ∀ u ∈ xs.flatMap encV, SCAL u := by
  intro u hu
  obtain ⟨x, _, hu⟩ := List.mem_flatMap.1 hu
  simp only [encV, List.mem_cons, List.not_mem_nil, or_false] at hu
  rcases hu with rfl | rfl <;> trivial
section
variable {w : World}
theorem Ow.sl {a : Option Addr} {l c : Nat} {xs : List Iv} (h : Ow w (.slice a l c) xs) : l = xs.length ∧ SlV w.heap a l xs := own_sl encV_len (by omega) h
theorem Ow.eff {w' : World} {v : Value} {xs : List Iv} (h : Ow w v xs) (hE : Eff w w' []) : Ow w' v xs := own_eff0 h hE
theorem nil_ow : Ow w (.slice none 0 0) [] := ⟨rfl, .inl ⟨rfl, rfl⟩⟩
/-- What a slice of requests reads as, cell by cell. -/
theorem sl_src {a : Option Addr} {l : Nat} {xs : List Iv} (hs : SlV w.heap a l xs) : xs.flatMap encV = [] ∨ ∃ b p, a = some ⟨b, p, none⟩ ∧ ∀ j u, (xs.flatMap encV)[j]? = some u → cellH w.heap b (p + j) = some u := by
  rcases hs.2 with rfl | ⟨b, p, rfl, hc⟩
  · left; rfl
  right
  refine ⟨b, p, rfl, fun j u hj => ?_⟩
  have key : ∀ (ys : List Iv) (j : Nat), (ys.flatMap encV)[j]? = some u → ∃ i x k, ys[i]? = some x ∧ (encV x)[k]? = some u ∧ j = i * 2 + k := by
    intro ys
    induction ys with
    | nil => intro j hj; simp at hj
    | cons y ys ih =>
      intro j hj
      rw [List.flatMap_cons] at hj
      rcases Nat.lt_or_ge j 2 with h | h
      · rw [List.getElem?_append_left (by rw [encV_len]; exact h)] at hj
        exact ⟨0, y, j, rfl, hj, by omega⟩
      · rw [List.getElem?_append_right (by rw [encV_len]; exact h), encV_len] at hj
        obtain ⟨i, x, k, h1, h2, h3⟩ := ih _ hj
        exact ⟨i + 1, x, k, by simpa using h1, h2, by omega⟩
  obtain ⟨i, x, k, h1, h2, rfl⟩ := key xs j hj
  have := hc i x h1 k u h2
  rw [← this]; congr 1; omega
theorem Clone_spec {a : Option Addr} {l c : Nat} {xs : List Iv} (hs : SlV w.heap a l xs) (hl : xs.length ≤ 1000000000000) :
    CALL Pg F_slices_Clone_Lapi_Request_api_Request [.slice a l c] w fun v w' => Eff w w' [] ∧ (∃ a' c', v = .slice a' xs.length c') ∧ Ow w' v xs ∧ ∀ b ∈ ownL v, w.heap.size ≤ b := by
  apply C_slices_Clone_Lapi_Request_api_Request
  unfold D_slices_Clone_Lapi_Request_api_Request
  have hll := hs.1
  refine SILN_eqnil (e := T_api_Request_api_Request) (by kernel_rfl) ?_
  rw [BOOLV_bool]
  refine ITE_intro (fun h => ?_) (fun _ => ?_)
  · have ha : a = none := by simpa using h
    have : xs = [] := by
      rcases hs.2 with h | ⟨b, o, h, _⟩
      · exact h
      · rw [ha] at h; cases h
    subst this
    exact ⟨Eff.refl w, ⟨none, 0, rfl⟩, nil_ow, by simp [ownL, Value.ownBlock]⟩
  · intro b1 w1 hE1 hs1 hb1
    have hown : w1.ownsRow 0 T_api_Request_api_Request 2 (.slice (some ⟨b1, 0, none⟩) 0 0) 0 [] := own_mk hb1 rfl (Nat.le_refl _) (by simp) rfl rfl (Nat.zero_le _)
    refine SEML_app (m := l) (news := xs.flatMap encV) elem_iv hown (by rw [flat_len, hll]) (sl_src (hs.eff hE1)) (flat_scal xs) (by omega) (by omega) (Nat.zero_le _) fun a' c' w2 hown2 hE2 hn => ?_
    rw [SLV_slice]
    have hb0 : ∀ b ∈ ownL (.slice (some ⟨b1, 0, none⟩) 0 0), w.heap.size ≤ b := by simpa [ownL, Value.ownBlock] using hs1
    refine ⟨hE1.own hE2 hb0, ⟨a', c', by rw [Nat.zero_add, hll]⟩, ?_, fun b hb => ?_⟩
    · rw [Nat.zero_add, List.nil_append, hll] at hown2
      rw [Nat.zero_add, hll]
      exact hown2
    · rcases hn b hb with h | h
      · exact hb0 b h
      · rw [h]; exact hE1.size
end
section
variable {P : Program}
theorem SILN_errnil {t : TypeId} {ms : _} {ox : Operand} {c : Value} {K : Value → Prop} (ht : P.underlying t = some (.interface ms)) (hK : K (.bool true)) : SILN P (binE BinOp.eql t ox (.const c) .nilIface .nilIface) K := by
  refine SILN_of (fun w' => ?_) hK
  have h : ∀ d : Nat, (Op.equalIn (d + 1) t .nilIface .nilIface).run P w' = .ok true w' := fun d => by simp [Op.equalIn, run_underlying ht]
  simp [binE, eqGuard, binOp, Op.equal, Op.maxDepth, h 9999]
theorem SILN_eqptr {t e : TypeId} {ox oy : Operand} {a : Addr} {K : Value → Prop} (ht : P.underlying t = some (.pointer e)) (hK : K (.bool false)) : SILN P (binE BinOp.eql t ox oy (.pointer (some a)) (.pointer none)) K := by
  refine SILN_of (fun w' => ?_) hK
  have h : ∀ d : Nat, (Op.equalIn (d + 1) t (.pointer (some a)) (.pointer none)).run P w' = .ok false w' := fun d => by simp [Op.equalIn, run_underlying ht]
  simp [binE, eqGuard, binOp, Op.equal, Op.maxDepth, h 9999]
end

theorem u_job : ∃ ms, Pg.underlying T_hand_job_hand_job = some (.interface ms) := by
  have h : (match Pg.underlying T_hand_job_hand_job with | some (.interface _) => true | _ => false) = true := by kernel_rfl
  revert h
  cases hu : Pg.underlying T_hand_job_hand_job with
  | none => intro h; cases h
  | some d => cases d <;> intro h <;> first | exact ⟨_, rfl⟩ | cases h

/-- A worker in block h: its shop, its stock, what it is asked for; it does nothing now. -/
def HandAt (w : World) (h sp sk : Nat) (qa : Option Addr) (ql qc : Nat) : Prop := ∃ x k n : Int,
  w.heap[h]? = some (.cells [.pointer (some ⟨sp, 0, none⟩), .int .i64 x, .pointer (some ⟨sk, 0, none⟩), .slice qa ql qc, .nilIface, .int .i64 k, .int .i64 n].toArray T_hand_Hand_hand_Hand (0, 0))
theorem HandAt.eff {w w' : World} {h sp sk : Nat} {qa : Option Addr} {ql qc : Nat} (hh : HandAt w h sp sk qa ql qc) (hE : Eff w w' []) : HandAt w' h sp sk qa ql qc := by
  obtain ⟨x, k, n, h1⟩ := hh
  exact ⟨x, k, n, hE.obj0 h1⟩

section
variable {w : World} {c0 c1 c2 c3 : Int} {cls : List Int} {h sp sk : Nat} {qa : Option Addr} {ql qc : Nat}

theorem hand_New_spec (hs : Shop w sp c0 c1 c2 c3 cls) (hl : cls.length ≤ 1000) (x : Int) :
    CALL Pg F_hand_New [.pointer (some ⟨sp, 0, none⟩), .int .i64 x] w fun v w' => Eff w w' [] ∧ ∃ h sk, v = .pointer (some ⟨h, 0, none⟩) ∧ w.heap.size ≤ h ∧ HandAt w' h sp sk none 0 0 ∧ StockAt w' sk cls.length := by
  apply C_hand_New
  unfold D_hand_New
  obtain ⟨a', c', p1, p2, p3, h1, h2⟩ := hs
  rw [NNp, LDi_of (cellH_of h1 0), LDi_of (cellH_of h1 1), LDi_of (cellH_of h1 2), LDi_of (cellH_of h1 3), LDl_of (cellH_of h1 4)]
  refine (stock_New_spec (cls := cls) ⟨h2, by omega⟩ hl).mono fun v w1 ⟨hE1, sk, hv, _, hst⟩ => ?_
  subst hv
  rw [PTRV_ptr]
  intro b2 w2 hE2 hs2 hb2
  exact ⟨hE1.trans0 hE2, b2, sk, rfl, Nat.le_trans hE1.size hs2, ⟨x, 0, 0, hb2⟩, hst.eff hE2⟩

theorem Idle_spec (hh : HandAt w h sp sk qa ql qc) : CALL Pg F_phand_Hand_Idle [.pointer (some ⟨h, 0, none⟩)] w fun v w' => w' = w ∧ v = .bool (decide (ql = 0)) := by
  apply C_phand_Hand_Idle
  unfold D_phand_Hand_Idle
  obtain ⟨x, k, n, h1⟩ := hh
  obtain ⟨ms, hu⟩ := u_job
  rw [NNp, LDV_of (cellH_of h1 4)]
  refine SILN_errnil hu ?_
  rw [BOOLV_bool]
  refine ITE_intro (fun _ => ?_) (fun h => by cases h)
  rw [NNp, LDl_of (cellH_of h1 3)]
  exact ⟨rfl, by rw [show ((ql : Int) == 0) = decide (ql = 0) from by rw [Bool.eq_iff_iff, beq_iff_eq, decide_eq_true_eq]; omega]⟩

theorem Ask_spec {xs ys : List Iv} (hh : HandAt w h sp sk qa ql qc) (ho : Ow w (.slice qa ql qc) xs) (hn : h ∉ ownL (.slice qa ql qc)) {a : Option Addr} {l c : Nat} (hy : SlV w.heap a l ys) (hl : xs.length + ys.length ≤ 1000000) :
    CALL Pg F_phand_Hand_Ask [.pointer (some ⟨h, 0, none⟩), .slice a l c] w fun v w' => v = .tuple #[] ∧ Eff w w' (h :: ownL (.slice qa ql qc)) ∧ ∃ qa' qc', HandAt w' h sp sk qa' (xs.length + ys.length) qc' ∧ Ow w' (.slice qa' (xs.length + ys.length) qc') (xs ++ ys) ∧ h ∉ ownL (.slice qa' (xs.length + ys.length) qc') ∧
      ∀ b ∈ ownL (.slice qa' (xs.length + ys.length) qc'), b ∈ ownL (.slice qa ql qc) ∨ b = w.heap.size := by
  apply C_phand_Hand_Ask
  unfold D_phand_Hand_Ask
  obtain ⟨x, k, n, h1⟩ := hh
  have hql : ql = xs.length := ho.sl.1
  have hll := hy.1
  subst hql
  subst hll
  have hhl := obj_lt h1
  rw [NNp, LDl_of (cellH_of h1 3)]
  refine SEML_app (m := ys.length) (news := ys.flatMap encV) elem_iv ho (by rw [flat_len]) (sl_src hy) (flat_scal ys) (by omega) (by omega) (Nat.zero_le _) fun a' c' w1 ho1 hE1 hb1 => ?_
  rw [SLV_slice, NNp]
  have hn' : h ∉ ownL (.slice a' (xs.length + ys.length) c') := fun hm => by
    rcases hb1 h hm with q | q
    · exact hn q
    · omega
  refine ST1_of trivial (hE1.obj h1 hn) (by simp) fun w2 h2 hE2 => ?_
  refine ⟨rfl, (hE1.trans hE2).weak (by intro b hb _; simp at hb ⊢; rcases hb with q | q <;> simp [q]), a', c', ⟨x, k, n, h2⟩, ?_, hn', hb1⟩
  have ho2 := own_eff ho1 hE2 (fun b hb => by simp; intro q; exact hn' (q ▸ hb))
  unfold Ow
  rw [List.flatMap_append, List.length_append]
  exact ho2

theorem Queue_spec {xs : List Iv} (hh : HandAt w h sp sk qa ql qc) (ho : Ow w (.slice qa ql qc) xs) (hl : xs.length ≤ 1000000) :
    CALL Pg F_phand_Hand_Queue [.pointer (some ⟨h, 0, none⟩)] w fun v w' => Eff w w' [] ∧ ∃ a c, v = .slice a xs.length c ∧ Ow w' v xs ∧ ∀ b ∈ ownL v, w.heap.size ≤ b := by
  apply C_phand_Hand_Queue
  unfold D_phand_Hand_Queue
  obtain ⟨x, k, n, h1⟩ := hh
  rw [NNp, LDl_of (cellH_of h1 3)]
  refine (Clone_spec ho.sl.2 (by omega)).mono fun v w1 ⟨hE1, ⟨a, c, hv⟩, ho1, hb1⟩ => ?_
  subst hv
  rw [SLV_slice]
  exact ⟨hE1, a, c, rfl, ho1, hb1⟩

theorem Own_spec {n : Nat} (hh : HandAt w h sp sk qa ql qc) (hst : StockAt w sk n) (hn : 1 ≤ n) :
    CALL Pg F_phand_Hand_Own [.pointer (some ⟨h, 0, none⟩), .int .i64 0] w fun v w' => Eff w w' [] ∧ v = .slice none 0 0 := by
  apply C_phand_Hand_Own
  unfold D_phand_Hand_Own
  obtain ⟨x, k, n, h1⟩ := hh
  rw [NNp, LDp_of (cellH_of h1 2)]
  refine (Blocks_spec hst hn).mono fun v w1 ⟨hE1, hv⟩ => ?_
  subst hv
  rw [SLV_slice]
  exact ⟨hE1, rfl⟩
end
end Go.Proofs.YthjbakeddjkdkaaGreatDoor
