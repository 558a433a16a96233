/- Writing into a row of requests of one's own; a worker and its stock. -/
import Derived.Test.YthjbakeddjkdkaaGreatDoorHand7
namespace Go.Proofs.YthjbakeddjkdkaaGreatDoor
open Go.Den
set_option maxRecDepth 100000
set_option maxHeartbeats 4000000

theorem flat_set0 (k : Int) : ∀ (zs : List Iv) (i : Nat), i < zs.length → (zs.flatMap encV).set (i * 2) (.int .i64 k) = (zs.set i (k, (zs.getD i (0, 0)).2)).flatMap encV
  | [], i, h => by simp at h
  | z :: zs, 0, _ => rfl
  | z :: zs, i + 1, h => by
    have ih := flat_set0 k zs i (by simpa using h)
    rw [show (i + 1) * 2 = i * 2 + 1 + 1 by omega]
    show Value.int .i64 z.1 :: Value.int .i64 z.2 :: (zs.flatMap encV).set (i * 2) (.int .i64 k) = _
    rw [ih]; rfl

theorem flat_set1 (k : Int) : ∀ (zs : List Iv) (i : Nat), i < zs.length → (zs.flatMap encV).set (i * 2 + 1) (.int .i64 k) = (zs.set i ((zs.getD i (0, 0)).1, k)).flatMap encV
  | [], i, h => by simp at h
  | z :: zs, 0, _ => rfl
  | z :: zs, i + 1, h => by
    have ih := flat_set1 k zs i (by simpa using h)
    rw [show (i + 1) * 2 + 1 = (i * 2 + 1) + 1 + 1 by omega]
    show Value.int .i64 z.1 :: Value.int .i64 z.2 :: (zs.flatMap encV).set (i * 2 + 1) (.int .i64 k) = _
    rw [ih]; rfl

section
variable {w : World}

theorem IDX_st0 {a : Option Addr} {l c : Nat} {zs : List Iv} {i : Nat} {k : Int} {K : World → Prop} (ho : Ow w (.slice a l c) zs) (hi : i < zs.length)
    (hK : ∀ w', Ow w' (.slice a l c) (zs.set i (k, (zs.getD i (0, 0)).2)) → Eff w w' (ownL (.slice a l c)) → K w') : IDX a l i 2 fun b o => ST1 w ⟨b, o, none⟩ (.int .i64 k) K := by
  obtain ⟨g, cur, rfl, rfl, hg, hlen, hnc, hcm, ht, _⟩ := own_form ho (by omega)
  refine ⟨by omega, by omega, ?_⟩
  show ST1 w ⟨g, 0 + (i : Int).toNat * 2, none⟩ _ _
  have hj : 0 + (i : Int).toNat * 2 = i * 2 := by omega
  rw [hj]
  refine ST1_of trivial hg (by omega) fun w' h' e' => hK w' ⟨?_, .inr ⟨g, c, (cur.set (i * 2) (.int .i64 k)).toArray, ?_, Nat.zero_le _, h', ?_, hcm, ?_, ?_⟩⟩ ?_
  · rw [flat_len]
  · rw [List.length_set]
  · rw [List.length_set]; exact hnc
  · simpa using hlen
  · rw [List.length_set, ← flat_set0 k zs i hi, ← ht]
    show (cur.set (i * 2) (.int .i64 k)).take (zs.length * 2) = _
    rw [List.take_set]
  · simpa [ownL, Value.ownBlock] using e'

theorem IDX_st1 {a : Option Addr} {l c : Nat} {zs : List Iv} {i : Nat} {k : Int} {K : World → Prop} (ho : Ow w (.slice a l c) zs) (hi : i < zs.length)
    (hK : ∀ w', Ow w' (.slice a l c) (zs.set i ((zs.getD i (0, 0)).1, k)) → Eff w w' (ownL (.slice a l c)) → K w') : IDX a l i 2 fun b o => ST1 w ⟨b, o + 1, none⟩ (.int .i64 k) K := by
  obtain ⟨g, cur, rfl, rfl, hg, hlen, hnc, hcm, ht, _⟩ := own_form ho (by omega)
  refine ⟨by omega, by omega, ?_⟩
  show ST1 w ⟨g, 0 + (i : Int).toNat * 2 + 1, none⟩ _ _
  have hj : 0 + (i : Int).toNat * 2 + 1 = i * 2 + 1 := by omega
  rw [hj]
  refine ST1_of trivial hg (by omega) fun w' h' e' => hK w' ⟨?_, .inr ⟨g, c, (cur.set (i * 2 + 1) (.int .i64 k)).toArray, ?_, Nat.zero_le _, h', ?_, hcm, ?_, ?_⟩⟩ ?_
  · rw [flat_len]
  · rw [List.length_set]
  · rw [List.length_set]; exact hnc
  · simpa using hlen
  · rw [List.length_set, ← flat_set1 k zs i hi, ← ht]
    show (cur.set (i * 2 + 1) (.int .i64 k)).take (zs.length * 2) = _
    rw [List.take_set]
  · simpa [ownL, Value.ownBlock] using e'

variable {c0 c1 c2 c3 : Int} {cls : List Int} {sp : Nat}

/-- A worker, and the world in which its stock stood before the worker itself was made. -/
theorem hand_New_at (hs : Shop w sp c0 c1 c2 c3 cls) (hl : cls.length ≤ 1000) (x : Int) :
    CALL Pg F_hand_New [.pointer (some ⟨sp, 0, none⟩), .int .i64 x] w fun v w' => Eff w w' [] ∧ ∃ h sk w1, v = .pointer (some ⟨h, 0, none⟩) ∧ HandAt w' h sp sk none 0 0 ∧ StockAt w1 sk cls.length ∧ Eff w w1 [] ∧ Eff w1 w' [] ∧ w1.heap.size ≤ h := by
  apply C_hand_New
  unfold D_hand_New
  obtain ⟨a', c', p1, p2, p3, h1, h2⟩ := hs
  rw [NNp, LDi_of (cellH_of h1 0), LDi_of (cellH_of h1 1), LDi_of (cellH_of h1 2), LDi_of (cellH_of h1 3), LDl_of (cellH_of h1 4)]
  refine (stock_New_spec (cls := cls) ⟨h2, by omega⟩ hl).mono fun v w1 ⟨hE1, sk, hv, _, hst⟩ => ?_
  subst hv
  rw [PTRV_ptr]
  intro b2 w2 hE2 hs2 hb2
  exact ⟨hE1.trans0 hE2, b2, sk, w1, rfl, ⟨x, 0, 0, hb2⟩, hst, hE1, hE2, hs2⟩
end
end Go.Proofs.YthjbakeddjkdkaaGreatDoor
