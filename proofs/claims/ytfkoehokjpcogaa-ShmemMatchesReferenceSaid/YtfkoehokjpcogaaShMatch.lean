/- ropeladderlaw01.ShmemMatchesReference computes true; the argument is a row of Raw. -/
import Derived.Test.YtfkoehokjpcogaaShMatN
import Derived.Test.YtfkoehokjpcogaaShMatY
namespace Go.Proofs.Ytfkoehokjpcogaa.Hand
open Go.RowKit Go.Proofs.YtfkoehokjpcogaaW.PrintWords Go.Proofs.YtfkoehokjpcogaaW.PrintLast Go.Proofs.YtfkoehokjpcogaaW.PrintMore
set_option linter.unusedVariables false
set_option linter.unusedSimpArgs false
attribute [local go_sem] max2_int min2_int max_two min_two max_three min_three max_four min_four

theorem match_walk (a b : Int) (A : Option Addr) (n c : Nat) (l : List Raw) (W : World) (h : IsRaws W A n l) :
    Calls Try.prog 3 #[.int .i64 a, .int .i64 b, .slice A n c] W fun e w' => e = .returned (.bool true) ∧ Below W.heap.size W w' := by
  by_cases h200 : (200 : Int) < n
  · exact match_long A n c a b W h200 h.max
  · by_cases hab : (0 ≤ a ∧ a ≤ 256) ∧ (0 ≤ b ∧ b ≤ 256)
    · obtain ⟨⟨a0, a1⟩, b0, b1⟩ := hab
      have := match_yes A n c l a.toNat b.toNat W h h200 (by omega) (by omega)
      rwa [Int.toNat_of_nonneg a0, Int.toNat_of_nonneg b0] at this
    · exact match_no A n c l a b W h h200 hab
end Go.Proofs.Ytfkoehokjpcogaa.Hand
