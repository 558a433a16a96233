/- The laws of package arena, one by one: what each answers. -/
import Derived.Test.YtapcknlnhpafcaaArena5
import Derived.Test.YtapcknlnhpafcaaG2
namespace Go.Proofs.Ytapcknlnhpafcaa
open Go.Den

section
variable {w : World} {c0 c1 c2 c3 : Int} {a : Option Addr} {l c : Nat} {cl : List Int}

theorem CFG_ld {w : World} {b : Nat} {t : TypeId} {K : Int → Int → Int → Int → Option Addr → Nat → Nat → Prop} (hb : w.heap[b]? = some (.cells (cfgL c0 c1 c2 c3 a l c).toArray t (0, 0))) :
    (LDi .i64 w ⟨b, 0, none⟩ fun n1 => LDi .i64 w ⟨b, 1, none⟩ fun n2 => LDi .i64 w ⟨b, 2, none⟩ fun n3 => LDi .i64 w ⟨b, 3, none⟩ fun n4 => LDl w ⟨b, 4, none⟩ fun a l c => K n1 n2 n3 n4 a l c) = K c0 c1 c2 c3 a l c := by
  obtain ⟨f0, f1, f2, f3, f4⟩ := cfg_cells hb
  rw [LDi_of f0, LDi_of f1, LDi_of f2, LDi_of f3, LDl_of f4]

theorem speaks_spec : CALL Pg F_l05_speaks [] w fun v w' => Eff w w' [] ∧ v = .bool true := by
  apply C_l05_speaks
  unfold D_l05_speaks
  intro b1 w1 hE1 hs1 hb1 b2 w2 hE2 hs2 hb2
  refine ST1_of trivial hb2 (by simp) fun w3 hb3 hE3 => ST1_of trivial hb3 (by simp) fun w4 hb4 hE4 => ST1_of trivial hb4 (by simp) fun w5 hb5 hE5 => ST1_of trivial hb5 (by simp) fun w6 hb6 hE6 => ST1_of trivial hb6 (by simp) fun w7 hb7 hE7 => ?_
  have hs2' : ∀ b ∈ [b2], w1.heap.size ≤ b := by simpa using hs2
  have hE17 : Eff w1 w7 [] := ((((hE2.own hE3 hs2').own hE4 hs2').own hE5 hs2').own hE6 hs2').own hE7 hs2'
  have hb7 : w7.heap[b2]? = some (.cells (cfgL 1 2 1 0 (some ⟨b1, 0, none⟩) 2 2).toArray T_api_Config_api_Config (0, 0)) := hb7
  have hb17 := hE17.obj0 hb1
  have hc : Cfg w7.heap (some ⟨b1, 0, none⟩) 2 [16, 64] := by
    refine ⟨⟨rfl, .inr ⟨b1, 0, rfl, fun i x hx j v hv => ?_⟩⟩, by simp⟩
    rw [cellH_of hb17]
    match i, j with
    | 0, 0 => simp at hx; subst hx; simp [encI] at hv; subst hv; rfl
    | 1, 0 => simp at hx; subst hx; simp [encI] at hv; subst hv; rfl
    | i + 2, _ => simp at hx
    | _, j + 1 => simp [encI] at hv
  have hq : ∀ x ∈ ([16, 64] : List Int), 1 ≤ x ∧ x ≤ 512 := by decide
  rw [CFG_ld hb7]
  refine (arena_Class_spec hc 17).mono fun v w8 ⟨hE8, hv⟩ => ?_
  subst hv
  have hb8 := hE8.obj0 hb7
  rw [TUP_ib, CFG_ld hb8]
  refine (arena_Block_spec (hc.eff hE8) hq (by decide) (by decide) 1 66688).mono fun v w9 ⟨hE9, hv⟩ => ?_
  subst hv
  have hE79 := hE8.trans0 hE9
  rw [TUP_aiib]
  intro b3 w10 hE10 hs10 hb10
  refine ST2_of trivial trivial hE10 hs10 hb10 fun w12 hE12 hb12 _ => ?_
  have hE7b := hE79.trans0 hE12
  have hb12' := hE7b.obj0 hb7
  refine ITE_eq (fun _ => ?_) (fun h => absurd h (by decide))
  show ITE true _ _
  rw [ITE_true, CFG_ld hb12']
  refine (arena_Address_spec (hc.eff hE7b) hq (by decide) 1 1 2).mono fun v w13 ⟨hE13, hv⟩ => ?_
  subst hv
  rw [INTV_int]
  refine ITE_eq (fun _ => ?_) (fun h => absurd h (by decide))
  show ITE true _ _
  have hb13 := hE13.obj0 hb12
  have hE7c := hE7b.trans0 hE13
  rw [ITE_true, LDi_of (cellH_of hb13 0), LDi_of (cellH_of hb13 1)]
  refine ITE_intro (fun _ => ?_) (fun h => absurd h (by decide))
  rw [CFG_ld (hE7c.obj0 hb7)]
  refine arena_Most_spec.mono fun v w14 ⟨hE14, hv⟩ => ?_
  subst hv
  rw [INTV_int]
  refine ITE_eq (fun _ => ?_) (fun h => absurd h (by decide))
  have hE7d := hE7c.trans0 hE14
  rw [CFG_ld (hE7d.obj0 hb7)]
  refine arena_End_spec.mono fun v w15 ⟨hE15, hv⟩ => ?_
  subst hv
  rw [INTV_int]
  refine ITE_eq (fun _ => ?_) (fun h => absurd h (by decide))
  have hE7e := hE7d.trans0 hE15
  rw [CFG_ld (hE7e.obj0 hb7)]
  refine (arena_Run_spec (hc.eff hE7e) (by decide) (by decide) 1025).mono fun v w16 ⟨hE16, hv⟩ => ?_
  subst hv
  rw [INTV_int]
  exact ⟨hE1.trans0 (hE17.trans0 (hE7e.trans0 hE16)), rfl⟩

/-- What every law of arena does first. -/
theorem head_of {b : Nat} {w1 : World} {t : TypeId} {A : World → Prop} {K : Value → World → Prop} (hE1 : Eff w w1 []) (hb : w1.heap[b]? = some (.cells (cfgL c0 c1 c2 c3 a l c).toArray t (0, 0))) (hc : Cfg w.heap a l cl)
    (hno : ∀ w', Eff w w' [] → K (.bool true) w') (hyes : ∀ w', Eff w1 w' [] → w'.heap[b]? = some (.cells (cfgL c0 c1 c2 c3 a l c).toArray t (0, 0)) → Cfg w'.heap a l cl → mayP c0 c1 c2 c3 cl → A w') :
    CALL Pg F_l05_speaks [] w1 fun v_1 w_2 => BOOLV v_1 fun t_1 => ITE (!t_1) (K (.bool false) w_2) (
      LDi .i64 w_2 ⟨b, 0, none⟩ fun n_1 => LDi .i64 w_2 ⟨b, 1, none⟩ fun n_2 => LDi .i64 w_2 ⟨b, 2, none⟩ fun n_3 => LDi .i64 w_2 ⟨b, 3, none⟩ fun n_4 => LDl w_2 ⟨b, 4, none⟩ fun a_1 l_1 c_1 =>
      CALL Pg F_r04_May [.agg #[.int .i64 n_1, .int .i64 n_2, .int .i64 n_3, .int .i64 n_4, .slice a_1 l_1 c_1]] w_2 fun v_2 w_3 => BOOLV v_2 fun t_2 => ITE (!t_2) (K (.bool true) w_3) (A w_3)) := by
  refine speaks_spec.mono fun v w2 ⟨hE2, hv⟩ => ?_
  subst hv
  rw [BOOLV_bool]
  refine ITE_intro (fun h => by simp at h) (fun _ => ?_)
  rw [CFG_ld (hE2.obj0 hb)]
  refine (r04_May_spec (hc.eff (hE1.trans0 hE2))).mono fun v w3 ⟨hE3, m, hv, hm⟩ => ?_
  subst hv
  rw [BOOLV_bool]
  have hE13 := hE2.trans0 hE3
  refine ITE_intro (fun h => hno w3 (hE1.trans0 hE13)) (fun h => ?_)
  exact hyes w3 hE13 (hE13.obj0 hb) (hc.eff (hE1.trans0 hE13)) (hm.1 (by simpa using h))

theorem mayP.sup (h : mayP c0 c1 c2 c3 cl) : 1 ≤ c1 ∧ c1 ≤ 64 := by unfold mayP okU at h; omega
theorem mayP.cls (h : mayP c0 c1 c2 c3 cl) : ∀ x ∈ cl, 1 ≤ x ∧ x ≤ 512 := by
  intro x hx
  obtain ⟨i, hi, rfl⟩ := List.getElem_of_mem hx
  have := h.2 i hi
  unfold okAt at this
  simp [hi] at this
  omega

theorem ArenaPlaces_spec (hc : Cfg w.heap a l cl) (at_ : Int) : CALL Pg F_l05_ArenaPlaces [cfgV c0 c1 c2 c3 a l c, .int .i64 at_] w fun v w' => Eff w w' [] ∧ v = .bool true := by
  apply C_l05_ArenaPlaces
  unfold D_l05_ArenaPlaces
  intro b1 w1 hE1 _ hb1
  refine head_of (K := fun v w' => Eff w w' [] ∧ v = .bool true) hE1 hb1 hc (fun w' h => ⟨h, rfl⟩) fun w3 hE3 hb3 hc3 hm => ?_
  have hs := hm.sup
  rw [CFG_ld hb3]
  refine (arena_Place_spec (by omega) (by omega) at_).mono fun v w4 ⟨hE4, hv⟩ => ?_
  subst hv
  have hE := hE1.trans0 (hE3.trans0 hE4)
  obtain ⟨f0, f1, f2, f3, f4⟩ := cfg_cells (hE4.obj0 hb3)
  rw [TUP_iib]
  have nop : (at_ < 65536 ∨ at_ ≥ 65536 + c1 * 1024 ∨ at_ % 16 ≠ 0) → placeF c1 at_ = (0, 0, false) := fun h => by unfold placeF; rw [if_pos h]
  refine ITE_d (fun h1 => ?_) (fun h1 => ?_)
  · rw [nop (.inl h1)]; exact ⟨hE, rfl⟩
  rw [LDi_of f1]
  refine BINDw (by omega) (by omega) (BINDw (by omega) (by omega) ?_)
  refine ITE_d (fun h2 => ?_) (fun h2 => ?_)
  · rw [nop (.inr (.inl (by omega)))]; exact ⟨hE, rfl⟩
  refine NZ_of (by omega) (BINDx (Int.tmod_eq_emod_of_nonneg (by omega)) (ITE_ne (fun h3 => ?_) (fun h3 => ?_)))
  · rw [nop (.inr (.inr h3))]; exact ⟨hE, rfl⟩
  have yes : placeF c1 at_ = ((at_ - 65536) / 16 / 64, (at_ - 65536) / 16 % 64, true) := by unfold placeF; rw [if_neg (by omega)]
  rw [yes]
  dsimp only
  rw [ITE_true]
  refine ITE_d (fun _ => ?_) (fun h => by omega)
  rw [LDi_of f1]
  refine ITE_d (fun _ => ?_) (fun h => by omega)
  refine ITE_d (fun _ => ?_) (fun h => by omega)
  refine ITE_d (fun _ => ?_) (fun h => by omega)
  refine BINDw (by omega) (by omega) (BINDw (by omega) (by omega) (BINDw (by omega) (by omega) (BINDw (by omega) (by omega) ⟨hE, ?_⟩)))
  congr 1
  rw [beq_iff_eq]
  omega

theorem classF_cases (cl : List Int) (size : Int) : (classF cl size = (0, false) ∧ (size < 1 ∨ ∀ i, i < cl.length → cl.getD i 0 < size)) ∨
    ∃ n : Nat, classF cl size = ((n : Int), true) ∧ n < cl.length ∧ 1 ≤ size ∧ size ≤ cl.getD n 0 ∧ ∀ i, i < n → cl.getD i 0 < size := by
  unfold classF
  split
  · rename_i h; exact .inl ⟨rfl, .inl h⟩
  · rename_i h
    rcases hq : clsF cl size 0 with ⟨m, b⟩
    rcases clsF_spec cl size 0 m b hq with ⟨rfl, rfl, h1⟩ | ⟨rfl, h2, h3, h4, h5⟩
    · exact .inl ⟨rfl, .inr h1⟩
    · refine .inr ⟨m.toNat, by rw [Int.toNat_of_nonneg (by omega)], by omega, by omega, ?_, fun i hi => h5 i (by omega)⟩
      have : (m - (0 : Nat)).toNat = m.toNat := by omega
      rwa [this] at h4

theorem ArenaRuns_spec (hc : Cfg w.heap a l cl) (size : Int) : CALL Pg F_l05_ArenaRuns [cfgV c0 c1 c2 c3 a l c, .int .i64 size] w fun v w' => Eff w w' [] ∧ v = .bool true := by
  apply C_l05_ArenaRuns
  unfold D_l05_ArenaRuns
  intro b1 w1 hE1 _ hb1
  refine head_of (K := fun v w' => Eff w w' [] ∧ v = .bool true) hE1 hb1 hc (fun w' h => ⟨h, rfl⟩) fun w3 hE3 hb3 hc3 hm => ?_
  have hs := hm.sup
  have hcl := hm.cls
  rw [CFG_ld hb3]
  refine (arena_Run_spec hc3 (by omega) (by omega) size).mono fun v w4 ⟨hE4, hv⟩ => ?_
  subst hv
  rw [INTV_int, CFG_ld (hE4.obj0 hb3)]
  refine (arena_Class_spec (hc3.eff hE4) size).mono fun v w5 ⟨hE5, hv⟩ => ?_
  subst hv
  have hE35 := hE4.trans0 hE5
  have hE := hE1.trans0 (hE3.trans0 hE35)
  have hc5 := hc3.eff hE35
  have hl := hc.l_eq
  have hlen := hc.len
  have hL := hm.1.2
  obtain ⟨f0, f1, f2, f3, f4⟩ := cfg_cells (hE35.obj0 hb3)
  rw [TUP_ib]
  rcases classF_cases cl size with ⟨hcf, h1⟩ | ⟨n, hcf, h1, h2, h3, h4⟩
  · rw [hcf, ITE_false]
    by_cases h2 : size < 1 ∨ size > c1 * 1024
    · have hr : runF c1 cl size = 0 := by
        unfold runF; rw [hcf, if_neg (by simp)]
        split
        · rfl
        · rw [if_pos (by omega)]
      rw [hr]
      refine ITE_eq (fun _ => ?_) (fun h => by omega)
      refine ITE_d (fun h3 => ⟨hE, rfl⟩) (fun h3 => ?_)
      rw [LDi_of f1]
      refine BINDw (by omega) (by omega) ⟨hE, ?_⟩
      congr 1
      rw [decide_eq_true_iff]
      omega
    · have hr : runF c1 cl size = (size + 1023) / 1024 := by
        unfold runF; rw [hcf, if_neg (by simp), if_neg (by omega), if_neg (by omega)]
      rw [hr]
      refine ITE_eq (fun h => by omega) (fun _ => ?_)
      refine BINDw (by omega) (by omega) (ITE_d (fun _ => ?_) (fun h => by omega))
      refine BINDw (by omega) (by omega) (BINDw (by omega) (by omega) (ITE_d (fun _ => ?_) (fun h => by omega)))
      rw [LDi_of f1]
      refine ITE_d (fun _ => ?_) (fun h => by omega)
      rw [LDl_of f4, LDl_of f4]
      unfold okL at hL
      refine BINDw (by omega) (by omega) (IDX_i hc5.sl (by omega) (by omega) fun b o hcell => ?_)
      rw [LDi_of hcell]
      refine ⟨hE, ?_⟩
      congr 1
      rw [decide_eq_true_iff]
      rcases h1 with h1 | h1
      · omega
      · exact h1 _ (by omega)
  · have hr : runF c1 cl size = 0 := by unfold runF; rw [hcf, if_pos rfl]
    rw [hcf, hr, ITE_true]
    refine ITE_eq (fun _ => ?_) (fun h => by omega)
    have hg := getD_pos hcl h1
    refine ITE_d (fun _ => ?_) (fun h => by omega)
    rw [LDl_of f4]
    refine IDX_i hc5.sl (by omega) (by omega) fun b o hcell => ?_
    have e : (n : Int).toNat = n := by omega
    rw [LDi_of hcell, e]
    refine ITE_d (fun _ => ?_) (fun h => by omega)
    refine ITE_eq (fun _ => ⟨hE, rfl⟩) (fun h => ?_)
    rw [LDl_of f4]
    refine BINDw (by omega) (by omega) (IDX_i hc5.sl (by omega) (by omega) fun b o hcell => ?_)
    rw [LDi_of hcell]
    refine ⟨hE, ?_⟩
    congr 1
    rw [decide_eq_true_iff]
    exact h4 _ (by omega)

end
end Go.Proofs.Ytapcknlnhpafcaa
