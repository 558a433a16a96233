/- Opening a shop. -/
import Derived.Test.YthjbakeddjkdkaaGreatDoorHand1
namespace Go.Proofs.YthjbakeddjkdkaaGreatDoor
open Go.Den
set_option maxRecDepth 100000
set_option maxHeartbeats 4000000

/-- The fields of a reference's word are there. -/
def Fld (w : World) : Prop := ∀ i, i < 8 → ∃ n : Int, cellH w.heap 0 i = some (.int .i64 n)
theorem Fld.eff {w w' : World} (h : Fld w) (hE : Eff w w' []) : Fld w' := fun i hi => by
  obtain ⟨n, hn⟩ := h i hi
  exact ⟨n, by rw [hE.cell (cellH_lt hn) (by simp)]; exact hn⟩

section
variable {P : Program}
theorem SILN_aidx {t e : TypeId} {n : Nat} {cs : Array Value} {i : Int} {v : Value} {K : Value → Prop} (he1 : ∃ j, P.info? e = some j ∧ j.size = 1) (ht : P.underlying t = some (.array n e)) (h0 : 0 ≤ i) (h1 : i < n) (he : P.plainKey e = true) (hv : cs[i.toNat]? = some v) (hK : K v) :
    SILN P (Instr.index t (.agg cs) (.int .i64 i)) K := by
  refine SILN_of (fun w' => ?_) hK
  have : 0 ≤ i ∧ i < (n : Int) := ⟨h0, h1⟩
  have hi : ∃ j, P.info? e = some j ∧ j.size = 1 := he1
  obtain ⟨j, hj, hj1⟩ := hi
  have hsz : (sizeOf e).run P w' = .ok 1 w' := by rw [Go.Den.run_sizeOf hj, hj1]
  have hp := run_part_plain (P := P) w' he hv
  simp [Instr.index, run_underlying ht, asIntOf, this, hsz, Result.andThen, hp]
end

theorem i_int : ∃ j, Pg.info? T_int = some j ∧ j.size = 1 := by
  have h : (Pg.info? T_int).map (·.size) = some 1 := by kernel_rfl
  obtain ⟨j, hj, hs⟩ := Option.map_eq_some_iff.1 h
  exact ⟨j, hj, hs⟩

section
variable {w : World}

theorem TUP_ub {n : Int} {t : Bool} {K : Int → Bool → Prop} : (TUPV (.tuple #[.int .u64 n, .bool t]) fun cs => GETV cs 0 fun v => INTV .u64 v fun n => GETV cs 1 fun u => BOOLV u fun t => LEN cs 2 (K n t)) = K n t := rfl

theorem Of_spec (hf : Fld w) (r0 r1 r2 : Int) : CALL Pg F_word_Of [.agg #[.int .i64 r0, .int .i64 r1, .int .i64 r2]] w fun v w' => Eff w w' [] ∧ ∃ n, v = .int .u64 n := by
  apply C_word_Of
  unfold D_word_Of
  intro b1 w1 hE1 hs1 hb1
  rw [LDi_of (cellH_of hb1 0), LDi_of (cellH_of hb1 1), LDi_of (cellH_of hb1 2)]
  refine LOOP_of (fun vs w' => ∃ (x : Int) (i : Nat), vs = [.int .u64 0, .int .u64 x, .int .i64 i] ∧ i ≤ 3 ∧ Eff w w' [])
    (fun vs _ => match vs with | [_, _, .int _ n] => 3 - n.toNat | _ => 0) ⟨_, 0, rfl, by omega, hE1⟩ ?_
  intro w2 v1 v2 v3 ⟨x, i, hv, hi, hE2⟩
  cases hv
  rw [INTV_int, INTV_int, INTV_int]
  refine ITE_d (fun h1 => ?_) (fun h1 => ⟨hE2, _, rfl⟩)
  have hf2 := hf.eff hE2
  obtain ⟨r, hr⟩ : ∃ r : Int, (#[.int .i64 r0, .int .i64 r1, .int .i64 r2] : Array Value)[(i : Int).toNat]? = some (.int .i64 r) := by
    rw [Int.toNat_natCast]
    have h1 : i < 3 := by omega
    match i, h1 with
    | 0, _ => exact ⟨r0, rfl⟩
    | 1, _ => exact ⟨r1, rfl⟩
    | 2, _ => exact ⟨r2, rfl⟩
  refine SILN_aidx i_int (show Pg.underlying T_3_int = some (.array 3 T_int) by kernel_rfl) (by omega) (by omega) (by kernel_rfl) hr ?_
  rw [INTV_int]
  refine ⟨by omega, by omega, ?_⟩
  obtain ⟨n0, h0⟩ := hf2 (0 + (i : Int).toNat * 2) (by omega)
  obtain ⟨n1, h1⟩ := hf2 (0 + (i : Int).toNat * 2 + 1) (by omega)
  show LDi .i64 w2 ⟨0, 0 + (i : Int).toNat * 2, none⟩ _
  rw [LDi_of h0, LDi_of h1]
  refine BINDx rfl ?_
  refine (Put_spec n0 n1 x _).mono fun v w3 ⟨hE3, y, t, hv⟩ => ?_
  subst hv
  rw [TUP_ub]
  refine ITE_intro (fun _ => ⟨hE2.trans0 hE3, _, rfl⟩) (fun _ => ?_)
  exact BINDw (by omega) (by omega) ⟨⟨y, i + 1, rfl, by omega, hE2.trans0 hE3⟩, by first | omega | (dsimp only; omega)⟩

variable {c0 c1 c2 c3 : Int} {ca : Option Addr} {cl cc : Nat} {cls : List Int}

theorem State_spec : CALL Pg F_conf_State [cfgV c0 c1 c2 c3 ca cl cc] w fun v w' => Eff w w' [] ∧ v = .int .i64 (IntKind.i64.wrap (2 * c1)) := by
  apply C_conf_State
  unfold D_conf_State
  intro b1 w1 hE1 hs1 hb1
  rw [LDi_of (cellH_of hb1 1)]
  exact BINDx rfl ⟨hE1, rfl⟩

theorem Words_spec : CALL Pg F_heart_Heart_Words [cfgV c0 c1 c2 c3 ca cl cc] w fun v w' => Eff w w' [] ∧ v = .int .i64 (IntKind.i64.wrap (2 * c1)) := by
  apply C_heart_Heart_Words
  unfold D_heart_Heart_Words
  intro b1 w1 hE1 hs1 hb1
  rw [CFG_ld hb1]
  refine State_spec.mono fun v w2 ⟨hE2, hv⟩ => ?_
  subst hv
  rw [INTV_int]
  exact ⟨hE1.trans0 hE2, rfl⟩

theorem Words_inv {K : Value → World → Prop} (h : ∀ w', Eff w w' [] → K (.int .i64 (IntKind.i64.wrap (2 * c1))) w') : INV Pg (.iface T_heart_Heart_heart_Heart (cfgV c0 c1 c2 c3 ca cl cc)) "Words" [] w K :=
  ⟨F_heart_Heart_Words, [cfgV c0 c1 c2 c3 ca cl cc], by kernel_rfl, Words_spec.mono fun v w' ⟨hE, hv⟩ => hv ▸ h w' hE⟩

theorem hall_Size_spec (h1 : 1 ≤ c1 ∧ c1 ≤ 64) {x : Int} (hx : 1 ≤ x ∧ x ≤ 64) : CALL Pg F_hall_Size [.iface T_heart_Heart_heart_Heart (cfgV c0 c1 c2 c3 ca cl cc), .int .i64 x] w fun v w' => Eff w w' [] ∧ v = .int .i64 (1 + 4 * x + 2 * x * (2 * c1 + 3 * x)) := by
  apply C_hall_Size
  unfold D_hall_Size
  refine Words_inv fun w1 hE1 => ?_
  rw [INTV_int, wrap_i64 (by omega) (by omega)]
  refine (Size_spec (x1 := 2 * c1) (by omega) hx).mono fun v w2 ⟨hE2, hv⟩ => ?_
  subst hv
  rw [INTV_int]
  exact ⟨hE1.trans0 hE2, rfl⟩

theorem live_Size_spec (h1 : 1 ≤ c1 ∧ c1 ≤ 64) : CALL Pg F_live_Size [cfgV c0 c1 c2 c3 ca cl cc] w fun v w' => Eff w w' [] ∧ v = .int .i64 (c1 * 64) := by
  apply C_live_Size
  unfold D_live_Size
  intro b1 w1 hE1 hs1 hb1
  rw [LDi_of (cellH_of hb1 1)]
  exact BINDw (by omega) (by omega) ⟨hE1, rfl⟩

theorem heart_New_spec (hc : Cfg w.heap ca cl cls) (hl : cls.length ≤ 1000000) :
    CALL Pg F_heart_New [cfgV c0 c1 c2 c3 ca cl cc] w fun v w' => Eff w w' [] ∧ ∃ a' c', v = cfgV c0 c1 c2 c3 a' cls.length c' := by
  apply C_heart_New
  unfold D_heart_New
  intro b1 w1 hE1 hs1 hb1 b2 w2 hE2 hs2 hb2
  have hE02 := hE1.trans0 hE2
  rw [CFG_ld (hE2.obj0 hb1)]
  refine (conf_Copy_spec (hc.eff hE02) hl).mono fun v w3 ⟨hE3, a', c', hv, _, _⟩ => ?_
  subst hv
  rw [AGG_cfg]
  have hs20 : w.heap.size ≤ b2 := Nat.le_trans hE1.size hs2
  refine ST5_of trivial trivial trivial trivial trivial (hE02.trans0 hE3) hs20 (hE3.obj0 hb2) fun w8 hE8 hb8 _ => ?_
  rw [CFG_ld hb8]
  exact ⟨hE8, a', c', rfl⟩

theorem live_New_spec (hc : Cfg w.heap ca cl cls) (hl : cls.length ≤ 1000000) (p : Option Addr) (x : Int) :
    CALL Pg F_live_New [.pointer p, .int .i64 x, cfgV c0 c1 c2 c3 ca cl cc] w fun v w' => Eff w w' [] ∧ ∃ b, v = .pointer (some ⟨b, 0, none⟩) := by
  apply C_live_New
  unfold D_live_New
  intro b1 w1 hE1 hs1 hb1
  rw [CFG_ld hb1]
  refine (conf_Copy_spec (hc.eff hE1) hl).mono fun v w2 ⟨hE2, a', c', hv, _, _⟩ => ?_
  subst hv
  rw [AGG_cfg]
  intro b2 w3 hE3 hs3 hb3
  exact ⟨(hE1.trans0 hE2).trans0 hE3, b2, rfl⟩

theorem elem_call : Elem Pg T_Lphall_Call T_phall_Call 1 8 := Elem.of (by kernel_rfl)

theorem hall_New_spec (hf : Fld w) {m g L : Nat} (hM : MemAt w m g L) (hL : 1 ≤ L) {x : Nat} (hx : 1 ≤ x ∧ x ≤ 64) (y : Int) :
    CALL Pg F_hall_New [.pointer (some ⟨m, 0, none⟩), .int .i64 0, .int .i64 x, .int .i64 y, .iface T_heart_Heart_heart_Heart (cfgV c0 c1 c2 c3 ca cl cc)] w fun v w' => Eff w w' [m, g] ∧ ∃ b, v = .pointer (some ⟨b, 0, none⟩) := by
  apply C_hall_New
  unfold D_hall_New
  refine Words_inv fun w1 hE1 => ?_
  rw [INTV_int]
  intro b1 w2 hE2 hs2 hb2
  refine ST1_of trivial hb2 (by simp) fun w3 h3 e3 => ST1_of trivial h3 (by simp) fun w4 h4 e4 => ST1_of trivial h4 (by simp) fun w5 h5 e5 => ?_
  have hE05 : Eff w w5 [] := (hE1.trans0 hE2).own (effg (effg e3 e4) e5) (by have := hE1.size; simp; omega)
  rw [LDi_of (cellH_of h5 0), LDi_of (cellH_of h5 1), LDi_of (cellH_of h5 2)]
  refine (Head_spec _ _ _).mono fun v w6 ⟨hE6, hv⟩ => ?_
  subst hv
  rw [INTV_int]
  have hE06 := hE05.trans0 hE6
  refine (Of_spec (hf.eff hE06) 0 0 0).mono fun v w7 ⟨hE7, n6, hv⟩ => ?_
  subst hv
  rw [INTV_int]
  have hE07 := hE06.trans0 hE7
  have hM7 := hM.eff hE07
  refine (Store_spec hM7 (i := 0) (by omega) n6).mono fun v w8 ⟨hE8, _, hv⟩ => ?_
  subst hv
  obtain ⟨_, ⟨_, _, _, _, hm⟩, vs, _, hg⟩ := hM
  have hml := obj_lt hm
  have hgl := obj_lt hg
  have hE12 := hE1.size
  have hb18 := hE8.obj ((hE6.trans0 hE7).obj0 h5) (by simp; omega)
  have hE08 : Eff w w8 [m, g] := (hE07.trans hE8).weak (by intro b hb _; simpa using hb)
  show DRAW _ _
  intro w9 hE9 _
  have hb19 := hE9.obj0 hb18
  rw [LDi_of (cellH_of hb19 0), LDi_of (cellH_of hb19 1), LDi_of (cellH_of hb19 2)]
  have fin : ∀ {w' : World}, Eff w9 w' [] → Eff w w' [m, g] := fun h => (hE08.trans (hE9.trans0 h)).weak (by intro b hb _; simpa using hb)
  have keep : ∀ {w' : World}, Eff w9 w' [] → KEEP w' [Fact.cell ⟨b1, 0, none⟩ (.int .i64 0), Fact.cell ⟨b1, 1, none⟩ (.int .i64 (IntKind.i64.wrap (2 * c1))), Fact.cell ⟨b1, 2, none⟩ (.int .i64 x)] := fun h => by
    have := h.obj0 hb19
    exact KEEP_cell (cellH_of this 0) (KEEP_cell (cellH_of this 1) (KEEP_cell (cellH_of this 2) KEEP_nil))
  constructor
  · refine SEML_mk elem_u64 (by omega) (z0 := .int .u64 0) (by kernel_rfl) (by omega) fun g1 w10 hE10 _ _ => ?_
    rw [SLV_slice]
    refine ⟨keep hE10, ?_⟩
    refine SEML_mk elem_call (by omega) (z0 := .pointer none) (by kernel_rfl) (by omega) fun g2 w11 hE11 _ _ => ?_
    rw [SLV_slice]
    have hE911 := hE10.trans0 hE11
    refine ⟨keep hE911, ?_⟩
    intro b2 w12 hE12 hs12 hb12
    exact ⟨KEEP_nil, fin (hE911.trans0 hE12), b2, rfl⟩
  · refine SEML_mk elem_call (by omega) (z0 := .pointer none) (by kernel_rfl) (by omega) fun g1 w10 hE10 _ _ => ?_
    rw [SLV_slice]
    refine ⟨keep hE10, ?_⟩
    refine SEML_mk elem_u64 (by omega) (z0 := .int .u64 0) (by kernel_rfl) (by omega) fun g2 w11 hE11 _ _ => ?_
    rw [SLV_slice]
    have hE911 := hE10.trans0 hE11
    refine ⟨keep hE911, ?_⟩
    intro b2 w12 hE12 hs12 hb12
    exact ⟨KEEP_nil, fin (hE911.trans0 hE12), b2, rfl⟩
end
end Go.Proofs.YthjbakeddjkdkaaGreatDoor
