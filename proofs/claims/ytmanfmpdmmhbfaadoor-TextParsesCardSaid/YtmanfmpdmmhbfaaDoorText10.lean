/- The text of a line. -/
import Derived.Test.YtmanfmpdmmhbfaaDoorText9
import Derived.Test.YtmanfmpdmmhbfaaDoorT2
namespace Go.Proofs.YtmanfmpdmmhbfaaDoor
open Go.Den
set_option maxRecDepth 100000
set_option maxHeartbeats 4000000

/-- Numbers in words, a blank ahead of each. -/
def rowF (ns : List Int) : Str := ns.flatMap fun n => 32 :: Lib.itoa n

theorem join_row (w : Str) (ns : List Int) : join (w :: ns.map Lib.itoa) = w ++ rowF ns := by
  induction ns generalizing w with
  | nil => simp [join, rowF]
  | cons n ns ih =>
    rw [List.map_cons, join_cons (by simp), ih]
    simp [rowF]

theorem row_len {ns : List Int} (h : ∀ n ∈ ns, inR n) : (rowF ns).length ≤ 21 * ns.length := by
  induction ns with
  | nil => simp [rowF]
  | cons n ns ih =>
    have h1 := itoa_len (h n (by simp))
    have h2 := ih (fun m hm => h m (List.mem_cons_of_mem _ hm))
    unfold rowF at h2 ⊢
    rw [List.flatMap_cons, List.length_append, List.length_cons, List.length_cons]
    omega

section
variable {w : World}

theorem TUP_in {n : Int} {v : Value} {K : Prop} : (TUPV (.tuple #[.int .i64 n, v]) fun cs => GETV cs 0 fun u => INTV .i64 u fun _ => GETV cs 1 fun _ => LEN cs 2 K) = K := rfl

theorem builder_eff {B b : Nat} {xs : List Value} {w' : World} (h : Lib.IsBuilder 66 5 B b xs w) (hE : Eff w w' []) : Lib.IsBuilder 66 5 B b xs w' := by
  rcases h with ⟨h1, v, h2, h3, h4⟩ | ⟨h1, v, h2, h3, h4⟩
  · exact .inl ⟨h1, v, hE.obj0 h2, own_eff0 h3 hE, h4⟩
  · exact .inr ⟨h1, v, hE.obj0 h2, own_eff0 h3 hE, h4⟩

theorem row_spec (hg : Glo w) {a : Option Addr} {l c : Nat} {xs : List Int} (hs : SlI w.heap a l xs) (hin : ∀ n ∈ xs, inR n) (hl : xs.length ≤ 1000) :
    CALL Pg F_text_row [.slice a l c] w fun v w' => Eff w w' [] ∧ v = .string (bs (rowF xs)) := by
  apply C_text_row
  unfold D_text_row
  have hll := hs.1
  intro b1 w1 hE1 hs1 hb1
  have hB0 : Lib.IsBuilder 66 5 w.heap.size b1 (Lib.byteCells (rowF (xs.take 0))) w1 := .inl ⟨hs1, .slice none 0 0, hb1, World.ownsRow_nil _ _ _ _, by simp [Value.ownBlock]⟩
  refine LOOP_of (fun vs w' => ∃ i : Nat, vs = [.int .i64 i] ∧ i ≤ l ∧ Eff w w' [] ∧ Lib.IsBuilder 66 5 w.heap.size b1 (Lib.byteCells (rowF (xs.take i))) w')
    (fun vs _ => match vs with | [.int _ n] => l - n.toNat | _ => 0) ⟨0, rfl, by omega, hE1, hB0⟩ ?_
  intro w2 v1 ⟨i, hv, hi, hE2, hB⟩
  cases hv
  rw [INTV_int]
  have hlen : ∀ k, k ≤ l → (rowF (xs.take k)).length ≤ 21000 := fun k hk => by
    have := row_len (ns := xs.take k) (fun n hn => hin n (List.mem_of_mem_take hn))
    rw [List.length_take] at this
    omega
  have bl : ∀ t : Str, (Lib.byteCells t).length = t.length := fun t => by simp [Lib.byteCells]
  refine ITE_d (fun h1 => ?_) (fun h1 => ?_)
  · refine IDX_i (hs.eff hE2) (by omega) (by omega) fun b o hc => ?_
    rw [LDi_of hc, Int.toNat_natCast]
    have hil : i < xs.length := by omega
    have hn : inR (xs.getD i 0) := by
      have e : xs.getD i 0 = xs[i] := by simp [hil]
      rw [e]; exact hin _ (List.getElem_mem _)
    have hli := hlen i (by omega)
    refine CALL_of (Tryd.Builder_WriteByte w.heap.size b1 _ 32 w2 hB (by rw [bl]; omega) hE2.size) fun e w3 ⟨he, hB3, hbl3⟩ => ⟨_, he, ?_⟩
    have hE3 : Eff w w3 [] := Eff.of_below (hE2.below.trans hbl3)
    refine (Itoa_spec (hg.eff hE3) hn).mono fun v w4 ⟨hE4, hv⟩ => ?_
    subst hv
    rw [STRV_string]
    have hE04 := hE3.trans0 hE4
    have hB4 := builder_eff (.inr hB3) hE4
    have hil2 := itoa_len hn
    refine CALL_of (Tryd.Builder_WriteString w.heap.size b1 _ _ w4 hB4 (by rw [List.length_append, bl, bs_size]; simp only [List.length_cons, List.length_nil]; omega) hE04.size) fun e w5 ⟨he, hB5, hbl5⟩ => ⟨_, he, ?_⟩
    have hE5 : Eff w w5 [] := Eff.of_below (hE04.below.trans hbl5)
    show TUPV _ _
    rw [TUP_in]
    refine BINDw (by omega) (by omega) ⟨⟨i + 1, rfl, by omega, hE5, .inr ?_⟩, by first | omega | (dsimp only; omega)⟩
    have e : Lib.byteCells (rowF (xs.take (i + 1))) = Lib.byteCells (rowF (xs.take i)) ++ [Value.int .u8 32] ++ Lib.strCells (bs (Lib.itoa (xs.getD i 0))) := by
      have e1 : xs.getD i 0 = xs[i] := by simp [hil]
      rw [List.take_succ_eq_append_getElem hil, ← e1]
      simp [rowF, Lib.byteCells, Lib.strCells]
    rw [e]; exact hB5
  · have : i = xs.length := by omega
    subst this
    rw [List.take_length] at hB
    refine CALL_of (Tryd.Builder_String_any w.heap.size b1 _ w2 hB hE2.size) fun e w6 ⟨he, hbl⟩ => ⟨_, he, ?_⟩
    rw [STRV_string]
    exact ⟨Eff.of_below (hE2.below.trans hbl), rfl⟩
end
end Go.Proofs.YtmanfmpdmmhbfaaDoor
