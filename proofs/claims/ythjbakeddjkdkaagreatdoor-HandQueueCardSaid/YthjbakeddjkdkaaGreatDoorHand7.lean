/- The claims' own check. -/
import Derived.Test.YthjbakeddjkdkaaGreatDoorHand6
namespace Go.Proofs.YthjbakeddjkdkaaGreatDoor
open Go.Den
set_option maxRecDepth 100000
set_option maxHeartbeats 4000000

theorem may16 : mayP 1 1 1 0 [16] := by
  refine ⟨⟨by unfold okU; omega, by unfold okL; decide⟩, fun i hi => ?_⟩
  have : i = 0 := by simpa using hi
  subst this
  unfold okAt
  exact ⟨by decide, by decide, by decide, .inl rfl⟩

theorem TUP_pi {p : Option Addr} {n : Int} {K : Option Addr → Int → Prop} : (TUPV (.tuple #[.pointer p, .int .i64 n]) fun cs => GETV cs 0 fun v => PTRV v fun p => GETV cs 1 fun u => INTV .i64 u fun n => LEN cs 2 (K p n)) = K p n := rfl
theorem TUP_unit {A : Prop} : (TUPV (.tuple #[]) fun cs => LEN cs 0 A) = A := rfl
theorem AGG_pr {t0 t1 t2 t3 : Bool} {n0 n1 n2 n3 : Int} {K : Bool → Bool → Bool → Bool → Int → Int → Int → Int → Prop} :
    (AGGV (prV t0 t1 t2 t3 n0 n1 n2 n3) fun cs => GETV cs 0 fun v => BOOLV v fun t0 => GETV cs 1 fun v => BOOLV v fun t1 => GETV cs 2 fun v => BOOLV v fun t2 => GETV cs 3 fun v => BOOLV v fun t3 =>
      GETV cs 4 fun v => INTV .i64 v fun n0 => GETV cs 5 fun v => INTV .i64 v fun n1 => GETV cs 6 fun v => INTV .i64 v fun n2 => GETV cs 7 fun v => INTV .i64 v fun n3 => LEN cs 8 (K t0 t1 t2 t3 n0 n1 n2 n3)) = K t0 t1 t2 t3 n0 n1 n2 n3 := rfl

theorem u_shop : ∃ e, Pg.underlying T_pask_Shop = some (.pointer e) := ⟨T_ask_Shop_ask_Shop, by kernel_rfl⟩
theorem u_hand : ∃ e, Pg.underlying T_phand_Hand = some (.pointer e) := ⟨T_hand_Hand_hand_Hand, by kernel_rfl⟩

section
variable {w : World}

theorem sl_v1 {b : Nat} {x y : Int} {t : TypeId} (hb : w.heap[b]? = some (.cells [.int .i64 x, .int .i64 y].toArray t (0, 0))) : SlV w.heap (some ⟨b, 0, none⟩) 1 [(x, y)] := by
  have ho : w.ownsRow 0 t 2 (.slice (some ⟨b, 0, none⟩) 1 1) 1 ([(x, y)].flatMap encV) := own_mk hb rfl (Nat.le_refl _) (by decide) rfl rfl (Nat.zero_le _)
  exact (own_sl encV_len (by omega) ho).2

theorem speaks_spec (hf : Fld w) : CALL Pg F_l17_speaks [] w fun v w' => Eff w w' [] ∧ v = .bool true := by
  apply C_l17_speaks
  unfold D_l17_speaks
  obtain ⟨e1, hu1⟩ := u_shop
  obtain ⟨e2, hu2⟩ := u_hand
  intro b1 w1 hE1 hs1 hb1
  have ho1 : OwI w1 (.slice (some ⟨b1, 0, none⟩) 1 1) [16] := own_mk hb1 rfl (Nat.le_refl _) (by decide) rfl rfl (Nat.zero_le _)
  refine (Open_spec (cls := [16]) (hf.eff hE1) ⟨ho1.sl.2, by decide⟩ may16).mono fun v w2 ⟨hE2, sp, hv, hsh, _⟩ => ?_
  subst hv
  rw [TUP_pi]
  refine ITE_ne (fun h => absurd rfl h) (fun _ => ?_)
  refine SILN_eqptr hu1 ?_
  rw [BOOLV_bool, ITE_false]
  refine (hand_New_spec hsh (by decide) 0).mono fun v w3 ⟨hE3, h, sk, hv, hh0, hh, _⟩ => ?_
  subst hv
  rw [PTRV_ptr]
  refine SILN_eqptr hu2 ?_
  rw [BOOLV_bool, ITE_false]
  have hE03 := (hE1.trans0 hE2).trans0 hE3
  refine (Idle_spec hh).mono fun v w4 ⟨hw, hv⟩ => ?_
  subst hw
  subst hv
  rw [BOOLV_bool, decide_eq_true rfl]
  refine ITE_intro (fun h => by cases h) (fun _ => ?_)
  refine (Step_idle hh).mono fun v w5 ⟨hE5, hv⟩ => ?_
  subst hv
  rw [AGG_pr]
  refine ITE_intro (fun h => absurd h (by decide)) (fun _ => ?_)
  intro b2 w6 hE6 hs6 hb6
  have hh6 := hh.eff (hE5.trans0 hE6)
  refine (Ask_spec (xs := []) (ys := [(1, 0)]) hh6 nil_ow (by simp [ownL, Value.ownBlock]) (sl_v1 hb6) (by decide)).mono fun v w7 ⟨hv, hE7, qa', qc', hh7, ho7, _, _⟩ => ?_
  subst hv
  rw [TUP_unit]
  have hE7' : Eff w6 w7 [h] := hE7
  refine (Idle_spec hh7).mono fun v w8 ⟨hw, hv⟩ => ?_
  subst hw
  subst hv
  have hE28 : Eff w2 w8 [] := ((hE3.trans0 hE5).trans0 hE6).own hE7' (by simpa using hh0)
  have hE02 := hE1.trans0 hE2
  have hsz2 := hE02.size
  rw [BOOLV_bool, decide_eq_false (by decide)]
  refine (Step_bad may16 hsh hE28 hh0 hh7 ho7.sl.2).mono fun v w9 ⟨hv, hE9, qa9, qc9, hh9⟩ => ?_
  subst hv
  rw [AGG_pr]
  have hE09 : Eff w w9 [] := (hE02.trans0 hE28).own hE9 (by simp; omega)
  intro b3 w10 hE10 hs10 hb10
  refine ST8_of ⟨trivial, trivial, trivial, trivial, trivial, trivial, trivial, trivial⟩ hE10 hs10 hb10 fun w18 hE18 hb18 _ => ?_
  refine ITE_intro (fun _ => ?_) (fun h => by cases h)
  refine (Idle_spec (hh9.eff hE18)).mono fun v w19 ⟨hw, hv⟩ => ?_
  subst hw
  subst hv
  rw [BOOLV_bool, decide_eq_true rfl, ITE_true]
  exact LD8 hb18 ⟨hE09.trans0 hE18, rfl⟩
end
end Go.Proofs.YthjbakeddjkdkaaGreatDoor
