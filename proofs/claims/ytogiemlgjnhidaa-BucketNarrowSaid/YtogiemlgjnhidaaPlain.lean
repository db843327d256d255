/- Plain facts on 64-bit numbers that the proofs of the bucket laws share; no condition. -/
import Derived.Test.YtogiemlgjnhidaaWMore
namespace Go.Proofs.Ytogiemlgjnhidaa.Plain
open Go.RowKit Go.Proofs.YtogiemlgjnhidaaW.PrintWords Go.Proofs.YtogiemlgjnhidaaW.PrintLast

theorem u64_range {a : Int} (h : (Lit.int .u64 a).wf = true) : 0 ≤ a ∧ a < 18446744073709551616 := by
  have h2 : decide (IntKind.u64.min ≤ a) && decide (a ≤ IntKind.u64.max) := by simpa [Lit.wf] using h
  have e1 : IntKind.u64.min = 0 := rfl
  have e2 : IntKind.u64.max = 18446744073709551615 := rfl
  rw [e1, e2] at h2
  simp at h2
  omega
theorem u8_range {a : Int} (h : (Lit.int .u8 a).wf = true) : 0 ≤ a ∧ a < 256 := by
  have h2 : decide (IntKind.u8.min ≤ a) && decide (a ≤ IntKind.u8.max) := by simpa [Lit.wf] using h
  have e1 : IntKind.u8.min = 0 := rfl
  have e2 : IntKind.u8.max = 255 := rfl
  rw [e1, e2] at h2
  simp at h2
  omega
theorem w64 {n : Int} (h0 : -9223372036854775808 ≤ n) (h1 : n ≤ 9223372036854775807) : wrap64 n = n := by
  unfold wrap64
  omega
theorem tmod_ {a b : Int} (h : 0 ≤ a) : Int.tmod a b = a % b := Int.tmod_eq_emod_of_nonneg h
theorem tdiv_ {a b : Int} (h : 0 ≤ a) : Int.tdiv a b = a / b := Int.tdiv_eq_ediv_of_nonneg h
theorem u64w {n : Int} (h0 : 0 ≤ n) (h1 : n < 18446744073709551616) : IntKind.u64.wrap n = n := by
  have : IntKind.u64.wrap n = n % 18446744073709551616 := by simp [IntKind.wrap, IntKind.signed, IntKind.bits]
  rw [this]
  omega
end Go.Proofs.Ytogiemlgjnhidaa.Plain
