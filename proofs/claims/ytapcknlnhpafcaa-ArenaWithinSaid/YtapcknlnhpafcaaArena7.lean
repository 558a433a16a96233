/- A Config that came in. -/
import Derived.Test.YtapcknlnhpafcaaArena6
import Derived.Test.YtapcknlnhpafcaaDenR
namespace Go.Proofs.Ytapcknlnhpafcaa
open Go.Den

theorem cfg_open {w : World} {cs : List Value} (h : Rds w [.int .i64, .int .i64, .int .i64, .int .i64, .sl [.int .i64]] cs) :
    ∃ c0 c1 c2 c3 a l c cl, cs = cfgL c0 c1 c2 c3 a l c ∧ Cfg w.heap a l cl := by
  cases h with | int _ h =>
  cases h with | int _ h =>
  cases h with | int _ h =>
  cases h with | int _ h =>
  cases h with | sl b o xs h1 h2 h3 h4 h5 h6 =>
  cases h6
  obtain ⟨cl, hl, _, hm, hs, _⟩ := Rds.ints (.sl b o xs h1 h2 h3 h4 h5 .nil)
  exact ⟨_, _, _, _, _, _, _, cl, rfl, hs, by have : maxLen = 9223372036854775807 := rfl; omega⟩
end Go.Proofs.Ytapcknlnhpafcaa
