/- What the library's functions answer here; the words; numbers of words. -/
import Derived.Test.YtmanfmpdmmhbfaaDoorText4
import Derived.Test.YtmanfmpdmmhbfaaDoorShelf
import Derived.Test.YtmanfmpdmmhbfaaDoorT1
import Derived.WalkSmall
namespace Go.Proofs.YtmanfmpdmmhbfaaDoor
open Go.Den
set_option maxRecDepth 100000
set_option maxHeartbeats 4000000

theorem u_string : Pg.underlying T_string = some .string := by kernel_rfl
theorem u_error : ∃ ms, Pg.underlying T_error = some (.interface ms) := ⟨#[("Error", 72)], by kernel_rfl⟩
theorem k_string : Pg.plainKey T_string = true := by kernel_rfl
theorem i_string : ∃ j, Pg.info? T_string = some j ∧ j.size = 1 := by
  have h : (Pg.info? T_string).map (·.size) = some 1 := by kernel_rfl
  obtain ⟨j, hj, hs⟩ := Option.map_eq_some_iff.1 h
  exact ⟨j, hj, hs⟩
theorem a_11 : Pg.underlying T_11_string = some (.array 11 T_string) := by kernel_rfl
theorem a_4 : Pg.underlying T_4_string = some (.array 4 T_string) := by kernel_rfl

/-! ### Splitting -/
theorem blank_or (s : Str) : (32 : UInt8) ∉ s ∧ Lib.indexByte s 32 = -1 ∨ ∃ a b, s = a ++ 32 :: b ∧ (32 : UInt8) ∉ a ∧ Lib.indexByte s 32 = a.length := by
  induction s with
  | nil => exact .inl ⟨by simp, rfl⟩
  | cons c s ih =>
    by_cases hc : c = 32
    · subst hc
      exact .inr ⟨[], s, rfl, by simp, rfl⟩
    · have hb : (c == 32) = false := by simpa using hc
      rcases ih with ⟨h1, h2⟩ | ⟨a, b, h1, h2, h3⟩
      · refine .inl ⟨?_, ?_⟩
        · rw [List.mem_cons, not_or]; exact ⟨fun h => hc h.symm, h1⟩
        · rw [Lib.indexByte, hb, h2]; rfl
      · refine .inr ⟨c :: a, b, by rw [h1]; rfl, ?_, ?_⟩
        · rw [List.mem_cons, not_or]; exact ⟨fun h => hc h.symm, h2⟩
        · rw [Lib.indexByte, hb, h3]
          have : ¬ ((a.length : Int) == -1) = true := by simp
          rw [if_neg (by simp), if_neg this]
          simp

theorem split_cut : ∀ (n : Nat) (s : Str), s.length ≤ n → Lib.splitK [32] 0 (Lib.count s [32]) s = cut s := by
  intro n
  induction n with
  | zero =>
    intro s h
    have : s = [] := List.length_eq_zero_iff.1 (by omega)
    subst this
    rfl
  | succ n ih =>
    intro s h
    rcases blank_or s with ⟨h1, h2⟩ | ⟨a, b, h1, h2, h3⟩
    · have hi : Lib.index s [32] = -1 := by rw [Lib.index_one]; exact h2
      rw [Lib.count_miss hi, cut_word h1]; rfl
    · have hi : Lib.index s [32] = a.length := by rw [Lib.index_one]; exact h3
      rw [Lib.count_hit (by simp) hi, Nat.add_comm, Lib.splitK]
      have hm : ¬ (Lib.index s [32] == -1) = true := by rw [hi]; simp
      rw [if_neg hm, hi]
      have e1 : s.take ((a.length : Int).toNat + 0) = a := by rw [h1]; simp
      have e2 : s.drop ((a.length : Int).toNat + [(32 : UInt8)].length) = b := by rw [h1]; simp
      have e3 : s.drop (a.length + [(32 : UInt8)].length) = b := by rw [h1]; simp
      rw [e1, e2, e3, ih b (by rw [h1] at h; simp at h; omega), h1, cut_mid, cut_word h2]
      rfl

def encS (l : Str) : List Value := [.string (bs l)]
abbrev SlS := @Sl Str encS 1

theorem IDX_s {h : Array Obj} {a : Option Addr} {l : Nat} {xs : List Str} {i : Int} {K : Nat → Nat → Prop} (hs : SlS h a l xs) (h0 : 0 ≤ i) (h1 : i < l)
    (hK : ∀ b o, cellH h b o = some (.string (bs (xs.getD i.toNat []))) → K b o) : IDX a l i 1 K :=
  IDX_sl hs h0 h1 fun b o x hx hc => hK b o (by
    rw [List.getD_eq_getElem?_getD, hx]
    simpa using hc 0 (.string (bs x)) rfl)

theorem sl_one {α : Type} {enc : α → List Value} {size : Nat} {w : World} {b : Nat} {t : TypeId} {xs : List α} (hsz : ∀ x, (enc x).length = size) (hpos : 0 < size) (hb : w.heap[b]? = some (.cells (xs.flatMap enc).toArray t (0, 0))) (hl : xs.length ≤ 10000000000) :
    Sl enc size w.heap (some ⟨b, 0, none⟩) xs.length xs := by
  have hlen : (xs.flatMap enc).length = xs.length * size := by
    clear hb hl
    induction xs with
    | nil => simp
    | cons x xs ih => simp only [List.flatMap_cons, List.length_append, ih, hsz, List.length_cons, Nat.succ_mul]; omega
  have ho : w.ownsRow 0 t size (.slice (some ⟨b, 0, none⟩) xs.length xs.length) xs.length (xs.flatMap enc) :=
    own_mk hb hlen (Nat.le_refl _) (by simp only [maxLen]; omega) (by rw [← hlen, List.take_length]) hlen (Nat.zero_le _)
  exact (own_sl hsz hpos ho).2

theorem cut_len (s : Str) : (cut s).length ≤ s.length + 1 := by
  induction s with
  | nil => simp [cut]
  | cons c s ih =>
    by_cases hc : c = 32
    · subst hc
      rw [cut_blank]
      simp only [List.length_cons]; omega
    · obtain ⟨h, t, ht⟩ := cut_cons s
      rw [cut_other hc ht]
      rw [ht] at ih
      simp only [List.length_cons] at ih ⊢; omega

/-- What the library's variables hold. -/
structure Glo (w : World) : Prop where
  mx : ∃ m, cellH w.heap 0 0 = some (.int .i64 m)
  pow : Lib.TabIs Pg w "internal/strconv.uint64pow10" .u64 Lib.pow10Tab
  syn : ∃ te pe, cellH w.heap 4 0 = some (.iface te pe)
  rng : ∃ te pe, cellH w.heap 5 0 = some (.iface te pe)

theorem cellH_lt {h : Array Obj} {b o : Nat} {v : Value} (hc : cellH h b o = some v) : b < h.size := by
  rcases Nat.lt_or_ge b h.size with hb | hb
  · exact hb
  · unfold cellH at hc
    rw [Array.getElem?_eq_none hb] at hc; cases hc

theorem Glo.eff {w w' : World} (h : Glo w) (hE : Eff w w' []) : Glo w' := by
  obtain ⟨m, hm⟩ := h.mx
  obtain ⟨t1, p1, h1⟩ := h.syn
  obtain ⟨t2, p2, h2⟩ := h.rng
  refine ⟨⟨m, hE.cell0 hm⟩, ?_, ⟨t1, p1, hE.cell0 h1⟩, ⟨t2, p2, hE.cell0 h2⟩⟩
  have hp := h.pow
  have hlt : ∃ g, Pg.globalNamed "internal/strconv.uint64pow10" = some g ∧ g < w.heap.size := by
    unfold Lib.TabIs World.var? at hp
    cases hg : Pg.globalNamed "internal/strconv.uint64pow10" with
    | none => rw [hg] at hp; simp at hp
    | some g =>
      refine ⟨g, rfl, ?_⟩
      rw [hg] at hp
      rcases Nat.lt_or_ge g w.heap.size with hb | hb
      · exact hb
      · simp [Array.getElem?_eq_none hb] at hp
  obtain ⟨g, hg, hgl⟩ := hlt
  exact Go.var?_below hE.below hg hgl hp

section
variable {w : World}

theorem CALL_of {f : FuncId} {xs : List Value} {Q : Ending → World → Prop} {K : Value → World → Prop} (h : Calls Pg f xs.toArray w Q) (hk : ∀ e w', Q e w' → ∃ v, e = .returned v ∧ K v w') : CALL Pg f xs w K :=
  Calls.mono h fun e w' he => by
    obtain ⟨v, rfl, hv⟩ := hk e w' he
    exact hv

theorem Itoa_spec (hg : Glo w) {n : Int} (hn : inR n) : CALL Pg F_strconv_Itoa [.int .i64 n] w fun v w' => Eff w w' [] ∧ v = .string (bs (Lib.itoa n)) :=
  CALL_of (Tryd.strconv_Itoa n hn.1 hn.2 w hg.pow) fun e w' ⟨he, k, os, hw⟩ => ⟨_, he, by
    subst hw
    refine ⟨rfl, rfl, rfl, ?_, fun b hb _ => ?_⟩
    · show _ ≤ (w.heap ++ os).size
      rw [Array.size_append]; omega
    · show (w.heap ++ os)[b]? = _
      rw [Array.getElem?_append_left hb], rfl⟩

theorem Split_spec (hg : Glo w) {s : ByteArray} (hs : s.size ≤ 1000000000) : CALL Pg F_strings_Split [.string s, .string (bs [32])] w fun v w' => Eff w w' [] ∧ ∃ a, v = .slice a (cut s.data.toList).length (cut s.data.toList).length ∧ SlS w'.heap a (cut s.data.toList).length (cut s.data.toList) := by
  obtain ⟨m, hm⟩ := hg.mx
  refine CALL_of (Tryd.strings_Split s (bs [32]) m w (by omega) (by rw [cell_eq]; exact hm) (by decide)) fun e w' ⟨he, hw⟩ => ⟨_, he, ?_⟩
  have hk : Lib.splitB (bs [32]) 0 (Lib.countB s (bs [32])) s = (cut s.data.toList).map bs := by
    have h1 := Lib.splitB_data (bs [32]) 0 (Lib.countB s (bs [32])) s
    have h2 : Lib.splitK (bs [32]).data.toList 0 (Lib.countB s (bs [32])) s.data.toList = cut s.data.toList := split_cut _ _ (Nat.le_refl _)
    rw [h2] at h1
    rw [← h1, List.map_map]
    have : (bs ∘ fun x : ByteArray => x.data.toList) = id := by
      funext x; exact bs_list x
    rw [this, List.map_id]
  have hlen : Lib.countB s (bs [32]) + 1 = (cut s.data.toList).length := by
    have := Lib.splitB_all (bs [32]) (by decide) 0 _ s rfl
    rw [hk, List.length_map] at this
    exact this.symm
  subst hw
  rw [hk, hlen]
  refine ⟨⟨rfl, rfl, rfl, ?_, fun b hb _ => Lib.alloc_old w _ b hb⟩, _, rfl, ?_⟩
  · show _ ≤ (w.heap.push _).size
    rw [Array.size_push]; omega
  refine sl_one (t := 9) (fun _ => rfl) (by omega) ?_ (by have := cut_len s.data.toList; rw [← size_list] at this; omega)
  rw [heap_alloc_new]
  have : (cut s.data.toList).flatMap encS = ((cut s.data.toList).map bs).map Value.string := by
    induction cut s.data.toList with
    | nil => rfl
    | cons x r ih => rw [List.flatMap_cons, ih]; rfl
  rw [this]

theorem CutPrefix_spec {s : ByteArray} : CALL Pg F_strings_CutPrefix [.string s, .string (bs [35])] w fun v w' => w' = w ∧ v = .tuple #[.string (bs (wordN s.data.toList)), .bool (decide (s.data.toList.head? = some 35))] :=
  CALL_of (Tryd.strings_CutPrefix s (bs [35]) w) fun e w' ⟨he, hw⟩ => ⟨_, he, hw, by
    have h1 : Lib.hasPrefix s.data.toList (bs [35]).data.toList = decide (s.data.toList.head? = some 35) := by
      show List.isPrefixOf [35] s.data.toList = _
      cases s.data.toList with
      | nil => rfl
      | cons c r =>
        rw [Bool.eq_iff_iff]
        simp [List.isPrefixOf]
        exact ⟨fun h => h.symm, fun h => h.symm⟩
    have h2 : Lib.trimPrefix s.data.toList (bs [35]).data.toList = wordN s.data.toList := by
      unfold Lib.trimPrefix wordN
      rw [h1]
      by_cases h : s.data.toList.head? = some 35
      · rw [if_pos (by rw [decide_eq_true h]), if_pos h]
        show s.data.toList.drop 1 = _
        rw [List.drop_one]
      · rw [if_neg (by rw [decide_eq_false h]; simp), if_neg h]
    rw [h1, h2]⟩

theorem Atoi_spec (hg : Glo w) {s : ByteArray} (hs : s.size ≤ 1000000000) : CALL Pg F_strconv_Atoi [.string s] w fun v w' => Eff w w' [] ∧ ∃ n e, v = .tuple #[.int .i64 n, e] ∧ inR n ∧ ((Lib.atoiAll s.data.toList = .ok n ∧ e = .nilIface) ∨ ((∀ m, Lib.atoiAll s.data.toList ≠ .ok m) ∧ ∃ te pe, e = .iface te pe)) := by
  rcases h : Lib.atoiAll s.data.toList with m | _ | _
  · refine CALL_of (Tryd.strconv_Atoi_ok s (by omega) m h w) fun e w' ⟨he, hw⟩ => ⟨_, he, ?_, m, _, rfl, atoi_inR h, .inl ⟨rfl, rfl⟩⟩
    rcases hw with rfl | ⟨t, rfl⟩
    · exact Eff.refl _
    · exact Eff.of_below (Lib.bytesWorld_below _ _ _)
  · obtain ⟨te, pe, hc⟩ := hg.syn
    exact CALL_of (Tryd.strconv_Atoi_syntax s (by omega) ⟨fun v hv => (by rw [h] at hv; cases hv), fun hv => (by rw [h] at hv; cases hv)⟩ _ w (by rw [cell_eq]; exact hc) (.inr ⟨te, pe, rfl⟩)) fun e w' ⟨N, he, _, _, hb⟩ => ⟨_, he, Eff.of_below hb, 0, _, rfl, by decide, .inr ⟨(fun m hm => by cases hm), _, _, rfl⟩⟩
  · obtain ⟨te, pe, hc⟩ := hg.rng
    refine CALL_of (Tryd.strconv_Atoi_range s (by omega) h _ w (by rw [cell_eq]; exact hc) (.inr ⟨te, pe, rfl⟩)) fun e w' ⟨N, he, _, _, hb⟩ => ⟨_, he, Eff.of_below hb, _, _, rfl, ?_, .inr ⟨(fun m hm => by cases hm), _, _, rfl⟩⟩
    unfold Lib.atoiSat
    split <;> decide

theorem TUP_ib {n : Int} {t : Bool} {K : Int → Bool → Prop} : (TUPV (.tuple #[.int .i64 n, .bool t]) fun cs => GETV cs 0 fun v => INTV .i64 v fun n => GETV cs 1 fun u => BOOLV u fun t => LEN cs 2 (K n t)) = K n t := rfl
theorem TUP_sb {s : ByteArray} {t : Bool} {K : ByteArray → Bool → Prop} : (TUPV (.tuple #[.string s, .bool t]) fun cs => GETV cs 0 fun v => STRV v fun n => GETV cs 1 fun u => BOOLV u fun t => LEN cs 2 (K n t)) = K s t := rfl
theorem TUP_slb {a : Option Addr} {l c : Nat} {y : Bool} {K : Option Addr → Nat → Nat → Bool → Prop} :
    (TUPV (.tuple #[.slice a l c, .bool y]) fun cs => GETV cs 0 fun v => SLV v fun a l c => GETV cs 1 fun u => BOOLV u fun t => LEN cs 2 (K a l c t)) = K a l c y := rfl

/-- A word's number: where it is one. -/
def NumP (s : Str) (n : Int) (t : Bool) : Prop := numF s = some n ∧ t = true ∨ numF s = none ∧ t = false

theorem number_spec (hg : Glo w) {s : ByteArray} (hs : s.size ≤ 1000000000) : CALL Pg F_text_number [.string s] w fun v w' => Eff w w' [] ∧ ∃ n t, v = .tuple #[.int .i64 n, .bool t] ∧ inR n ∧ NumP s.data.toList n t := by
  apply C_text_number
  unfold D_text_number
  refine (Atoi_spec hg hs).mono fun v w1 ⟨hE1, n, e, hv, hn, hr⟩ => ?_
  subst hv
  obtain ⟨ms, hu⟩ := u_error
  show SILN Pg _ _
  rcases hr with ⟨h1, rfl⟩ | ⟨h1, te, pe, rfl⟩
  · refine SILN_errnil hu ?_
    rw [BOOLV_bool, ITE_true]
    refine (Itoa_spec (hg.eff hE1) hn).mono fun v w2 ⟨hE2, hv⟩ => ?_
    subst hv
    rw [STRV_string, bs_beq]
    refine ⟨hE1.trans0 hE2, n, _, rfl, hn, ?_⟩
    by_cases h : Lib.itoa n = s.data.toList
    · exact .inl ⟨numF_iff.2 ⟨hn, h⟩, by rw [decide_eq_true h]⟩
    · refine .inr ⟨?_, by rw [decide_eq_false h]⟩
      unfold numF
      rw [h1]
      dsimp only
      rw [if_neg h]
  · refine SILN_erriface hu ?_
    rw [BOOLV_bool, ITE_false]
    refine ⟨hE1, n, _, rfl, hn, .inr ⟨?_, rfl⟩⟩
    unfold numF
    rcases h : Lib.atoiAll s.data.toList with m | _ | _
    · exact absurd h (h1 m)
    · rfl
    · rfl
end
end Go.Proofs.YtmanfmpdmmhbfaaDoor
