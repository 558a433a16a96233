/- The document's own way with a text: pieces, numbers, kinds. -/
import Derived.Test.YtmanfmpdmmhbfaaDoorText12
import Derived.Test.YtmanfmpdmmhbfaaDoorT3
namespace Go.Proofs.YtmanfmpdmmhbfaaDoor
open Go.Den
set_option maxRecDepth 100000
set_option maxHeartbeats 4000000

/-- Strings in a slice of one's own. -/
abbrev OwS (w : World) (v : Value) (xs : List Str) : Prop := w.ownsRow 0 T_string 1 v xs.length (xs.flatMap encS)

/-! ### Bytes as strings -/
theorem u_bytes : Pg.underlying 64 = some (.slice T_uint8) := by kernel_rfl
theorem u_uint8 : Pg.underlying T_uint8 = some (.int .u8) := by kernel_rfl
theorem u_nine : Pg.underlying 9 = some .string := by kernel_rfl

theorem wrap_u8 {x : Int} (h0 : 0 ≤ x) (h1 : x < 256) : IntKind.u8.wrap x = x := by
  simp only [IntKind.wrap, IntKind.signed, IntKind.bits]
  simp
  omega

theorem tmod_neg {n : Int} (h : n < 0) : n.tmod 10 = -((n.natAbs % 10 : Nat) : Int) := by
  obtain ⟨m, hm⟩ : ∃ m : Nat, n = -(m : Int) := ⟨n.natAbs, by omega⟩
  subst hm
  rw [Int.neg_tmod, Int.tmod_eq_emod_of_nonneg (by omega)]; omega
theorem tdiv_neg {n : Int} (h : n < 0) : n.tdiv 10 = -((n.natAbs / 10 : Nat) : Int) := by
  obtain ⟨m, hm⟩ : ∃ m : Nat, n = -(m : Int) := ⟨n.natAbs, by omega⟩
  subst hm
  rw [Int.neg_tdiv, Int.tdiv_eq_ediv_of_nonneg (by omega)]; omega
theorem getD_at {l : Str} {i : Nat} (h : i < l.length) : l.getD i 0 = l[i] := by simp [h]
theorem tmod_pos {n : Int} (h : ¬ n < 0) : n.tmod 10 = ((n.toNat % 10 : Nat) : Int) := by
  rw [Int.tmod_eq_emod_of_nonneg (by omega)]; omega
theorem tdiv_pos {n : Int} (h : ¬ n < 0) : n.tdiv 10 = ((n.toNat / 10 : Nat) : Int) := by
  rw [Int.tdiv_eq_ediv_of_nonneg (by omega)]; omega

section
variable {w : World}

theorem OwS.sl {a : Option Addr} {l c : Nat} {xs : List Str} (h : OwS w (.slice a l c) xs) : l = xs.length ∧ SlS w.heap a l xs := own_sl (fun _ => rfl) (by omega) h
theorem OwS.eff {w' : World} {v : Value} {xs : List Str} (h : OwS w v xs) (hE : Eff w w' []) : OwS w' v xs := own_eff0 h hE
theorem OwS.nil : OwS w (.slice none 0 0) [] := ⟨rfl, .inl ⟨rfl, rfl⟩⟩

theorem SEML_str {v : Value} {xs : List Str} {x : Str} {vb : Nat} {K : Value → World → Prop} (ho : OwS w v xs) (hl : xs.length ≤ 1000000000000) (hvb : w.heap[vb]? = some (.cells [.string (bs x)].toArray T_string (0, 0)))
    (hK : ∀ a' c' w', OwS w' (.slice a' (xs.length + 1) c') (xs ++ [x]) → Eff w w' (ownL v) → (∀ b ∈ ownL (.slice a' (xs.length + 1) c'), b ∈ ownL v ∨ b = w.heap.size) → K (.slice a' (xs.length + 1) c') w') :
    SEML Pg w (Builtin.append_ #[T_Lstring, T_Lstring] T_Lstring #[v, .slice (some ⟨vb, 0, none⟩) 1 1]) K := by
  refine SEML_app (m := 1) (news := [.string (bs x)]) elem_str ho rfl (.inr ⟨vb, 0, rfl, fun j u hu => by rw [cellH_of hvb, Nat.zero_add]; exact hu⟩) (by simp only [List.mem_cons, List.not_mem_nil, or_false]; rintro u rfl; trivial)
    (by omega) (by omega) (Nat.zero_le _) fun a' c' w' h1 h2 h3 => hK a' c' w' ?_ h2 h3
  unfold OwS
  rw [List.flatMap_append, List.length_append]
  exact h1

theorem SILX_byte {n : Int} {b : Nat} {K : Value → List Fact → Prop} (h0 : 0 ≤ n) (h1 : n < 256) (hb : w.heap[b]? = some (.cells [.int .u8 n].toArray T_uint8 (0, 0))) (hK : ∀ F, K (.string (bs [UInt8.ofNat n.toNat])) F) :
    SILX Pg w (convert 64 9 (.slice (some ⟨b, 0, none⟩) 1 1)) K := by
  refine ⟨_, [.cell ⟨b, 0, none⟩ (.int .u8 n)], KEEP_cell (cellH_of hb 0) KEEP_nil, fun w' hF => ?_, hK _⟩
  have hc : w'.cell? ⟨b, 0, none⟩ = some (.int .u8 n) := hF _ (List.mem_cons_self ..)
  refine run_convert_bytes_back (P := Pg) w' 64 9 T_uint8 ⟨b, 0, none⟩ 1 [UInt8.ofNat n.toNat] u_bytes u_uint8 u_nine fun j hj => ?_
  have : j = 0 := by simpa using hj
  subst this
  have e : ((UInt8.ofNat n.toNat).toNat : Int) = n := by rw [byte_toNat (by omega)]; omega
  simp only [List.getElem_cons_zero, e]
  rw [Addr.add_eq]; exact hc

/-! ### A number's word -/
theorem Num_spec : ∀ (k : Nat) (n : Int) (w : World), n.natAbs < k → inR n → CALL Pg F_r25_Num [.int .i64 n] w fun v w' => Eff w w' [] ∧ v = .string (bs (Lib.itoa n)) := by
  intro k
  induction k with
  | zero => intro n w h; omega
  | succ k ih =>
    intro n w hk hn
    have hn' := hn
    unfold inR at hn'
    apply C_r25_Num
    unfold D_r25_Num
    have h48 : ∀ d : Nat, d < 10 → UInt8.ofNat ((48 + d : Int)).toNat = UInt8.ofNat (48 + d) := fun d _ => by congr 1
    refine ITE_d (fun h => ?_) (fun h => ?_)
    · have ht := tmod_neg h
      refine NZ_of (by omega) (BINDx ht (BINDw (by omega) (by omega) (BINDx (wrap_u8 (by omega) (by omega)) ?_)))
      have hd : (48 - -((n.natAbs % 10 : Nat) : Int)) = 48 + ((n.natAbs % 10 : Nat) : Int) := by omega
      rw [hd]
      intro b1 w1 hE1 hs1 hb1
      refine SILX_byte (by omega) (by omega) hb1 fun F => ?_
      rw [STRV_string, h48 _ (by omega)]
      refine ITE_d (fun h2 => ?_) (fun h2 => ?_)
      · refine SILN_sadd (a := [45]) (by simp) ?_
        rw [STRV_string]
        refine ⟨hE1, ?_⟩
        unfold Lib.itoa
        rw [if_pos h, dig_small (by omega), Nat.mod_eq_of_lt (show n.natAbs < 10 by omega)]
        rfl
      · have hq := tdiv_neg h
        refine NZ_of (by omega) (BINDw (by omega) (by omega) ?_)
        refine (ih (n.tdiv 10) w1 (by omega) (by unfold inR; omega)).mono fun v w2 ⟨hE2, hv⟩ => ?_
        subst hv
        rw [STRV_string]
        have hi : Lib.itoa (n.tdiv 10) = 45 :: Lib.decDigits (n.natAbs / 10) := by
          unfold Lib.itoa
          rw [if_pos (by omega), show (n.tdiv 10).natAbs = n.natAbs / 10 by omega]
        have hl := itoa_len (n := n.tdiv 10) (by unfold inR; omega)
        refine SILN_sadd (by simp only [List.length_cons, List.length_nil]; omega) ?_
        rw [STRV_string]
        refine ⟨hE1.trans0 hE2, ?_⟩
        rw [hi]
        unfold Lib.itoa
        rw [if_pos h, dig_big (u := n.natAbs) (by omega)]
        rfl
    · have ht := tmod_pos h
      refine NZ_of (by omega) (BINDx ht (BINDw (by omega) (by omega) (BINDx (wrap_u8 (by omega) (by omega)) ?_)))
      intro b1 w1 hE1 hs1 hb1
      refine SILX_byte (by omega) (by omega) hb1 fun F => ?_
      rw [STRV_string, h48 _ (by omega)]
      refine ITE_d (fun h2 => ?_) (fun h2 => ?_)
      · refine ⟨hE1, ?_⟩
        unfold Lib.itoa
        rw [if_neg h, dig_small (by omega), Nat.mod_eq_of_lt (show n.toNat < 10 by omega)]
      · have hq := tdiv_pos h
        refine NZ_of (by omega) (BINDw (by omega) (by omega) ?_)
        refine (ih (n.tdiv 10) w1 (by omega) (by unfold inR; omega)).mono fun v w2 ⟨hE2, hv⟩ => ?_
        subst hv
        rw [STRV_string]
        have hi : Lib.itoa (n.tdiv 10) = Lib.decDigits (n.toNat / 10) := by
          unfold Lib.itoa
          rw [if_neg (by omega), show (n.tdiv 10).toNat = n.toNat / 10 by omega]
        have hl := itoa_len (n := n.tdiv 10) (by unfold inR; omega)
        refine SILN_sadd (by simp only [List.length_cons, List.length_nil]; omega) ?_
        rw [STRV_string]
        refine ⟨hE1.trans0 hE2, ?_⟩
        rw [hi]
        unfold Lib.itoa
        rw [if_neg h, dig_big (u := n.toNat) (by omega)]

theorem num_spec {n : Int} (hn : inR n) : CALL Pg F_r25_Num [.int .i64 n] w fun v w' => Eff w w' [] ∧ v = .string (bs (Lib.itoa n)) := Num_spec _ n w (Nat.lt_succ_self _) hn

/-! ### A word's number -/
theorem step_take {ws : Str} {k : Nat} (h : k < ws.length) : (ws.take (k + 1)).foldl stepN 0 = stepN ((ws.take k).foldl stepN 0) (ws.getD k 0) := by
  have e : ws.getD k 0 = ws[k] := by simp [h]
  rw [e, List.take_succ_eq_append_getElem h, List.foldl_append]; rfl

theorem step_inR {n : Int} (h : inR n) (c : UInt8) : inR (stepN n c) := by
  unfold stepN
  split
  · exact wrap_inR _
  · exact h

theorem Number_spec {s : ByteArray} (hs : s.size ≤ 1000000000) : CALL Pg F_r25_Number [.string s] w fun v w' => Eff w w' [] ∧ ∃ n t, v = .tuple #[.int .i64 n, .bool t] ∧ inR n ∧ NumP s.data.toList n t := by
  apply C_r25_Number
  unfold D_r25_Number
  refine ITE_d (fun h => ⟨Eff.refl _, 0, false, rfl, by unfold inR; omega, .inr ⟨?_, rfl⟩⟩) (fun h => ?_)
  · rcases hn : numF s.data.toList with _ | n
    · rfl
    · obtain ⟨h1, h2⟩ := numF_iff.1 hn
      have := itoa_len h1
      rw [h2, ← size_list] at this
      omega
  have hsz := size_list s
  refine LOOP_of (fun vs w' => ∃ k : Nat, vs = [.int .i64 ((s.data.toList.take k).foldl stepN 0), .int .i64 k] ∧ k ≤ s.size ∧ w' = w ∧ inR ((s.data.toList.take k).foldl stepN 0))
    (fun vs _ => match vs with | [_, .int _ n] => s.size - n.toNat | _ => 0) ⟨0, rfl, by omega, rfl, show inR 0 by unfold inR; omega⟩ ?_
  intro w1 v1 v2 ⟨k, hv, hk, hw, hin⟩
  subst hw
  cases hv
  rw [INTV_int, INTV_int]
  refine ITE_d (fun h1 => ?_) (fun h1 => ?_)
  · have hkl : k < s.size := by omega
    have hst := step_take (ws := s.data.toList) (k := k) (by omega)
    have hnew := step_inR hin (s.data.toList.getD k 0)
    obtain ⟨c, hc⟩ : ∃ c, c = s.data.toList.getD k 0 := ⟨_, rfl⟩
    rw [← hc] at hst hnew
    have hcb := c.toNat_lt
    refine SILN_sidx u_string (by omega) h1 ?_
    rw [INTV_int, Int.toNat_natCast, ← hc]
    have back : ∀ x, x = stepN ((s.data.toList.take k).foldl stepN 0) c → (∃ k_1 : Nat, [Value.int .i64 x, .int .i64 ((k : Int) + 1)] = [.int .i64 ((s.data.toList.take k_1).foldl stepN 0), .int .i64 k_1] ∧ k_1 ≤ s.size ∧ w1 = w1 ∧ inR ((s.data.toList.take k_1).foldl stepN 0)) := fun x hx =>
      ⟨k + 1, by rw [hst, hx]; rfl, by omega, rfl, by rw [hst]; exact hnew⟩
    refine ITE_d (fun h2 => ?_) (fun h2 => ?_)
    · refine SILN_sidx u_string (by omega) h1 ?_
      rw [INTV_int, Int.toNat_natCast, ← hc]
      refine ITE_d (fun h3 => ?_) (fun h3 => ?_)
      · refine BINDx rfl ?_
        refine SILN_sidx u_string (by omega) h1 ?_
        rw [INTV_int, Int.toNat_natCast, ← hc]
        refine BINDx (wrap_u8 (by omega) (by omega)) (BINDw (by omega) (by omega) (BINDx rfl ?_))
        refine BINDw (by omega) (by omega) ⟨back _ ?_, by first | omega | (dsimp only; omega)⟩
        unfold stepN
        rw [if_pos (by omega)]
        congr 2
        omega
      · refine BINDw (by omega) (by omega) ⟨back _ ?_, by first | omega | (dsimp only; omega)⟩
        unfold stepN
        rw [if_neg (by omega)]
    · refine BINDw (by omega) (by omega) ⟨back _ ?_, by first | omega | (dsimp only; omega)⟩
      unfold stepN
      rw [if_neg (by omega)]
  · have hkl : k = s.data.toList.length := by omega
    rw [hkl, List.take_length] at hin ⊢
    refine ⟨fun vs w' => w' = w1 ∧ vs = [.int .i64 (refN s.data.toList)], ⟨fun vs w' => w' = w1 ∧ vs = [.bool (decide (¬ (s.data.toList.head? = some 45 ∨ s.data.toList = [])))], ?_, ?_⟩, ?_⟩
    · refine ITE_d (fun h2 => ?_) (fun h2 => ⟨rfl, ?_⟩)
      · refine SILN_sidx u_string (by omega) (by omega) ?_
        rw [INTV_int]
        refine ⟨rfl, ?_⟩
        obtain ⟨c, r, hcr⟩ : ∃ c r, s.data.toList = c :: r := by
          rcases hl : s.data.toList with _ | ⟨c, r⟩
          · rw [hl, List.length_nil] at hsz; omega
          · exact ⟨c, r, rfl⟩
        rw [hcr]
        show [Value.bool (((c.toNat : Int) != 45))] = _
        congr 2
        rw [Bool.eq_iff_iff, bne_iff_ne, decide_eq_true_eq]
        constructor
        · rintro h (h3 | h3)
          · have : c = 45 := by simpa using h3
            rw [this] at h; exact h rfl
          · cases h3
        · intro h h3
          refine h (.inl ?_)
          have : c = 45 := UInt8.toNat_inj.1 (by show c.toNat = 45; omega)
          rw [this]; rfl
      · have : s.data.toList = [] := List.length_eq_zero_iff.1 (by have h3 : ¬ ((s.size : Int) > 0) := h2; omega)
        rw [this]; rfl
    · intro w2 v2 ⟨hw, hv⟩
      subst hw
      cases hv
      rw [BOOLV_bool]
      refine ITE_d (fun h2 => ?_) (fun h2 => ⟨rfl, ?_⟩)
      · refine BINDx rfl ⟨rfl, ?_⟩
        unfold refN loopN
        rw [if_neg h2]
      · unfold refN loopN
        rw [if_pos (Classical.not_not.1 h2)]
    · intro w3 v3 ⟨hw, hv⟩
      subst hw
      cases hv
      rw [INTV_int]
      have hr : inR (refN s.data.toList) := by
        unfold refN loopN
        split
        · exact hin
        · exact wrap_inR _
      refine (num_spec hr).mono fun v w4 ⟨hE4, hv⟩ => ?_
      subst hv
      rw [STRV_string, bs_beq]
      refine ⟨hE4, _, _, rfl, hr, ?_⟩
      by_cases h2 : Lib.itoa (refN s.data.toList) = s.data.toList
      · exact .inl ⟨numF_iff.2 ⟨hr, h2⟩, decide_eq_true h2⟩
      · refine .inr ⟨?_, decide_eq_false h2⟩
        rcases hn : numF s.data.toList with _ | n
        · rfl
        · obtain ⟨h3, h4⟩ := numF_iff.1 hn
          rw [← h4, refN_itoa h3] at h2
          exact absurd rfl h2

/-! ### Pieces -/
/-- What is cut off so far: whole pieces, then the piece under way, then the rest. -/
theorem Cut_spec {s : ByteArray} (hs : s.size ≤ 1000000000) : CALL Pg F_r25_Cut [.string s, .int .u8 32] w fun v w' => Eff w w' [] ∧ ∃ a c, v = .slice a (cut s.data.toList).length c ∧ (cut s.data.toList).length ≤ c ∧ SlS w'.heap a (cut s.data.toList).length (cut s.data.toList) := by
  apply C_r25_Cut
  unfold D_r25_Cut
  have hsz := size_list s
  intro b1 w1 hE1 hs1 hb1
  refine LOOP_of (fun vs w' => ∃ (ps : List Str) (a2 : Option Addr) (c2 : Nat) (i j : Nat), vs = [.slice a2 ps.length c2, .int .i64 i, .int .i64 j] ∧ i ≤ j ∧ j ≤ s.size + 1 ∧ i ≤ s.size + 1 ∧ ps.length ≤ i ∧ Eff w w' [] ∧ OwS w' (.slice a2 ps.length c2) ps ∧ (∀ b ∈ ownL (.slice a2 ps.length c2), w.heap.size ≤ b) ∧
      (32 : UInt8) ∉ (s.data.toList.drop i).take (j - i) ∧ (i ≤ s.size → cut s.data.toList = ps ++ cut (s.data.toList.drop i)) ∧ (j = s.size + 1 → i = j) ∧ (i = s.size + 1 → cut s.data.toList = ps))
    (fun vs _ => match vs with | [_, _, .int _ n] => s.size + 1 - n.toNat | _ => 0) ⟨[], some ⟨b1, 0, none⟩, 0, 0, 0, rfl, Nat.le_refl _, by omega, by omega, by simp, hE1, ?_, ?_, by simp, fun _ => rfl, fun h => by omega, fun h => by omega⟩ ?_
  · exact own_mk (w := w1) (cur := []) hb1 rfl (Nat.le_refl _) (by decide) rfl rfl (Nat.zero_le _)
  · intro b hb
    have : b = b1 := by simpa [ownL, Value.ownBlock] using hb
    omega
  intro w2 v1 v2 v3 ⟨ps, a2, c2, i, j, hv, hij, hj, hi, hpi, hE2, ho, hown, hno, hcut, hend, hall⟩
  simp only [List.cons.injEq, and_true] at hv
  obtain ⟨rfl, rfl, rfl⟩ := hv
  rw [INTV_int, INTV_int, SLV_slice]
  refine ITE_d (fun h1 => ?_) (fun h1 => ?_)
  · refine ⟨fun vs w' => w' = w2 ∧ vs = [.bool (decide (j = s.size ∨ s.data.toList.getD j 0 = 32))], ?_, ?_⟩
    · refine ITE_eq (fun h2 => ⟨rfl, by rw [decide_eq_true (.inl (by omega))]⟩) (fun h2 => ?_)
      refine SILN_sidx u_string (by omega) (by omega) ?_
      rw [INTV_int, Int.toNat_natCast]
      refine ⟨rfl, ?_⟩
      congr 2
      rw [Bool.eq_iff_iff, beq_iff_eq, decide_eq_true_eq]
      constructor
      · intro h; exact .inr (UInt8.toNat_inj.1 (by show _ = 32; omega))
      · rintro (h | h)
        · omega
        · rw [h]; rfl
    · intro w3 v4 ⟨hw, hv⟩
      subst hw
      cases hv
      rw [BOOLV_bool]
      refine ITE_d (fun h2 => ?_) (fun h2 => ?_)
      · refine SILN_sub u_string (by omega) (by omega) (by omega) ?_
        rw [STRV_string, Int.toNat_natCast, Int.toNat_natCast]
        intro b2 w4 hE4 hs4 hb4
        have ho4 := ho.eff hE4
        refine SEML_str ho4 (by omega) hb4 fun a' c' w5 ho5 hE5 hb5 => ?_
        rw [SLV_slice]
        have hsplit : s.data.toList.drop i = (s.data.toList.drop i).take (j - i) ++ s.data.toList.drop j := by
          have e : s.data.toList.drop j = (s.data.toList.drop i).drop (j - i) := by rw [List.drop_drop]; congr 1; omega
          rw [e, List.take_append_drop]
        refine BINDw (by omega) (by omega) (BINDw (by omega) (by omega) ⟨⟨ps ++ [(s.data.toList.drop i).take (j - i)], a', c', j + 1, j + 1, by simp, Nat.le_refl _, by omega, by omega, by simp; omega, (hE2.trans0 hE4).own hE5 hown, by simpa using ho5, ?_, by simp, ?_, fun _ => rfl, ?_⟩, by first | omega | (dsimp only; omega)⟩)
        · intro b hb
          rw [List.length_append] at hb
          rcases hb5 b hb with h | h
          · exact hown b h
          · rw [h]; exact (hE2.trans0 hE4).size
        · intro hj1
          have hjl : j < s.data.toList.length := by omega
          have h32 : s.data.toList.getD j 0 = 32 := by
            rcases h2 with h2 | h2
            · omega
            · exact h2
          have hdj : s.data.toList.drop j = 32 :: s.data.toList.drop (j + 1) := by
            rw [List.drop_eq_getElem_cons hjl]
            have : s.data.toList[j] = 32 := by
              rw [← getD_at hjl]; exact h32
            rw [this]
          have h9 := congrArg cut hsplit
          rw [hdj, cut_mid, cut_word hno] at h9
          rw [hcut (by omega), h9]
          simp
        · intro hj1
          have hjs : j = s.size := by omega
          have hdj : s.data.toList.drop j = [] := List.drop_eq_nil_of_le (by omega)
          have h9 := congrArg cut hsplit
          rw [hdj, List.append_nil, cut_word hno] at h9
          rw [hcut (by omega), h9]
      · rw [not_or] at h2
        refine BINDw (by omega) (by omega) ⟨⟨ps, a2, c2, i, j + 1, rfl, by omega, by omega, hi, hpi, hE2, ho, hown, ?_, hcut, fun h => by omega, hall⟩, by first | omega | (dsimp only; omega)⟩
        have hjl : j < s.data.toList.length := by omega
        have e : (s.data.toList.drop i).take (j + 1 - i) = (s.data.toList.drop i).take (j - i) ++ [s.data.toList.getD j 0] := by
          rw [show j + 1 - i = (j - i) + 1 by omega, List.take_succ_eq_append_getElem (by rw [List.length_drop]; omega)]
          congr 2
          rw [getD_at hjl, List.getElem_drop]
          congr 1; omega
        rw [e, List.mem_append, not_or]
        refine ⟨hno, ?_⟩
        rw [List.mem_singleton]
        exact fun h => h2.2 h.symm
  · have hj1 : j = s.size + 1 := by omega
    have hi1 : i = s.size + 1 := by rw [hend hj1]; exact hj1
    rw [hall hi1]
    exact ⟨hE2, a2, c2, rfl, own_cap ho, ho.sl.2⟩

/-! ### Kinds of lines -/
def namesS : Str := [45, 32, 99, 111, 110, 102, 105, 103, 32, 97, 115, 107, 32, 112, 105, 99, 107, 32, 116, 117, 114, 110, 115, 32, 97, 108, 111, 110, 101, 32, 102, 105, 110, 105, 115, 104, 32, 101, 118, 101, 110, 116, 115, 32, 115, 116, 97, 116, 115, 32, 108, 105, 118, 101, 32, 99, 104, 101, 99, 107]
theorem names_cut : cut namesS = [45] :: names.tail := by decide
theorem names_at : ∀ i : Nat, i < 11 → 0 < i → (cut namesS).getD i [] = names.getD i [] := by decide

theorem kind25_spec {s : ByteArray} : CALL Pg F_r25_kind [.string s] w fun v w' => Eff w w' [] ∧ v = .int .i64 (kindF s.data.toList : Nat) := by
  apply C_r25_kind
  unfold D_r25_kind
  refine (Cut_spec (s := bs namesS) (by decide)).mono fun v w1 ⟨hE1, a, c, hv, hc, hsl⟩ => ?_
  subst hv
  rw [SLV_slice]
  have e : (bs namesS).data.toList = namesS := rfl
  rw [e] at hsl ⊢
  have hlen : (cut namesS).length = 11 := by rw [names_cut]; rfl
  rw [hlen] at hsl ⊢
  refine LOOP_of (fun vs w' => ∃ i : Nat, vs = [.int .i64 0, .int .i64 i] ∧ 1 ≤ i ∧ i ≤ 11 ∧ w' = w1 ∧ ∀ j, 0 < j → j < i → names.getD j [] ≠ s.data.toList)
    (fun vs _ => match vs with | [_, .int _ n] => 11 - n.toNat | _ => 0) ⟨1, rfl, by omega, by omega, rfl, fun j h1 h2 => by omega⟩ ?_
  intro w2 v1 v2 ⟨i, hv, hi1, hi2, hw, hno⟩
  subst hw
  cases hv
  rw [INTV_int, INTV_int]
  refine ITE_d (fun h1 => ?_) (fun h1 => ?_)
  · refine IDX_s hsl (by omega) h1 fun b o hc => ?_
    rw [LDs_of hc, bs_beq, Int.toNat_natCast, names_at i (by omega) (by omega)]
    refine ITE_d (fun h2 => ⟨hE1, ?_⟩) (fun h2 => ?_)
    · rw [← h2, kindF_name i (by omega) (by omega)]
    · refine BINDw (by omega) (by omega) ⟨⟨i + 1, rfl, by omega, by omega, rfl, fun j h3 h4 => ?_⟩, by first | omega | (dsimp only; omega)⟩
      by_cases hj : j = i
      · rw [hj]; exact h2
      · exact hno j h3 (by omega)
  · have hi : i = 11 := by omega
    subst hi
    refine ⟨hE1, ?_⟩
    have : kindF s.data.toList = 0 := by
      rcases Nat.eq_zero_or_pos (kindF s.data.toList) with h | h
      · exact h
      · obtain ⟨h2, h3⟩ := kindF_some (Nat.ne_of_gt h)
        exact absurd h3 (hno _ h h2)
    rw [this]; rfl

/-! ### What may be asked for -/
def kindsS : Str := [45, 32, 97, 108, 108, 111, 99, 32, 102, 114, 101, 101, 32, 117, 115, 97, 98, 108, 101]
theorem kinds_cut : cut kindsS = [45] :: kinds.tail := by decide
theorem kinds_at : ∀ i : Nat, i < 4 → 0 < i → (cut kindsS).getD i [] = kinds.getD i [] := by decide

theorem request25_spec {s : ByteArray} : CALL Pg F_r25_request [.string s] w fun v w' => Eff w w' [] ∧ v = .int .i64 (reqF s.data.toList : Nat) := by
  apply C_r25_request
  unfold D_r25_request
  refine (Cut_spec (s := bs kindsS) (by decide)).mono fun v w1 ⟨hE1, a, c, hv, hc, hsl⟩ => ?_
  subst hv
  rw [SLV_slice]
  have e : (bs kindsS).data.toList = kindsS := rfl
  rw [e] at hsl ⊢
  have hlen : (cut kindsS).length = 4 := by rw [kinds_cut]; rfl
  rw [hlen] at hsl ⊢
  refine LOOP_of (fun vs w' => ∃ i : Nat, vs = [.int .i64 0, .int .i64 i] ∧ 1 ≤ i ∧ i ≤ 4 ∧ w' = w1 ∧ ∀ j, 0 < j → j < i → kinds.getD j [] ≠ s.data.toList)
    (fun vs _ => match vs with | [_, .int _ n] => 4 - n.toNat | _ => 0) ⟨1, rfl, by omega, by omega, rfl, fun j h1 h2 => by omega⟩ ?_
  intro w2 v1 v2 ⟨i, hv, hi1, hi2, hw, hno⟩
  subst hw
  cases hv
  rw [INTV_int, INTV_int]
  refine ITE_d (fun h1 => ?_) (fun h1 => ?_)
  · refine IDX_s hsl (by omega) h1 fun b o hc => ?_
    rw [LDs_of hc, bs_beq, Int.toNat_natCast, kinds_at i (by omega) (by omega)]
    refine ITE_d (fun h2 => ⟨hE1, ?_⟩) (fun h2 => ?_)
    · rw [← h2, reqF_name i (by omega) (by omega)]
    · refine BINDw (by omega) (by omega) ⟨⟨i + 1, rfl, by omega, by omega, rfl, fun j h3 h4 => ?_⟩, by first | omega | (dsimp only; omega)⟩
      by_cases hj : j = i
      · rw [hj]; exact h2
      · exact hno j h3 (by omega)
  · have hi : i = 4 := by omega
    subst hi
    refine ⟨hE1, ?_⟩
    have : reqF s.data.toList = 0 := by
      rcases Nat.eq_zero_or_pos (reqF s.data.toList) with h | h
      · exact h
      · obtain ⟨h2, h3⟩ := reqF_some (Nat.ne_of_gt h)
        exact absurd h3 (hno _ h h2)
    rw [this]; rfl
end
end Go.Proofs.YtmanfmpdmmhbfaaDoor
