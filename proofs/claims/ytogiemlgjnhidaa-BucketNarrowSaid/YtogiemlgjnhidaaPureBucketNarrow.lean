/- Eight buckets of the narrowed width cover a bucket of the width; the narrowed width is positive, and smaller unless the width is 1. No condition. -/
import Derived.Test.YtogiemlgjnhidaaPNx1
import Derived.Test.YtogiemlgjnhidaaPlain
namespace Go.Proofs.Ytogiemlgjnhidaa.Pure
open Go.RowKit Go.Proofs.Ytogiemlgjnhidaa.PN Go.Proofs.YtogiemlgjnhidaaW.PrintWords Go.Proofs.YtogiemlgjnhidaaW.PrintLast Go.Proofs.Ytogiemlgjnhidaa.Plain

theorem bn_head : ropeladderlaw06_head.f = some true := by decide +kernel
theorem bn_time {a : Int} (h : (Lit.int .u64 a).wf = true) : ∃ t, ropeladderlaw06_Time.f a = some t ∧ 0 ≤ t ∧ t ≤ 1152921504606846976 := by
  have h := u64_range h
  refine ⟨a % 1152921504606846977, ?_, by omega, by omega⟩
  unfold ropeladderlaw06_Time.f
  rw [tmod_ h.1, w64 (by omega) (by omega)]
theorem bn_span {a : Int} (h : (Lit.int .u64 a).wf = true) : ∃ t, ropeladderlaw06_Span.f a = some t ∧ 1 ≤ t ∧ t ≤ 144115188075855873 := by
  have h := u64_range h
  refine ⟨a % 144115188075855873 + 1, ?_, by omega, by omega⟩
  unfold ropeladderlaw06_Span.f
  rw [tmod_ h.1, w64 (n := a % 144115188075855873) (by omega) (by omega), w64 (by omega) (by omega)]
theorem bn_narrow {n : Int} (h0 : 1 ≤ n) (h1 : n ≤ 144115188075855873) : bucket_Narrow.f n = some ((n + 7) / 8) := by
  unfold bucket_Narrow.f bucket_ceilDiv_int.f
  rw [w64 (n := n + 8) (by omega) (by omega), w64 (n := n + 8 - 1) (by omega) (by omega), tdiv_ (by omega)]
  rw [if_neg (by omega), w64 (by omega) (by omega)]
  simp
  omega
theorem bn_index {x n y : Int} (h0 : 0 ≤ x) (h1 : x ≤ y) (h2 : y ≤ 1152921504606846976) (hn : 1 ≤ n) : bucket_Index.f x n y = some ((y - x) / n) := by
  unfold bucket_Index.f
  have hq : 0 ≤ (y - x) / n := Int.ediv_nonneg (by omega) (by omega)
  have hq2 : (y - x) / n ≤ y - x := Int.ediv_le_self _ (by omega)
  rw [if_neg (by omega), w64 (n := y - x) (by omega) (by omega), tdiv_ (by omega), w64 (by omega) (by omega)]

theorem BucketNarrow : ropeladderlaw06_BucketNarrow.Pure := by
  intro a0 a1 a2 w0 w1 w2
  obtain ⟨w, hw, w1', w2'⟩ := bn_span w0
  obtain ⟨t, ht, t0, t1⟩ := bn_time w1
  have h2 := u64_range w2
  unfold ropeladderlaw06_BucketNarrow.f
  simp only [bn_head, hw, ht, bn_narrow w1' w2', Option.bind_some, if_true]
  generalize hn : (w + 7) / 8 = n
  have n1 : 1 ≤ n := by omega
  have n2 : 8 * n ≥ w := by omega
  have n3 : 8 * (n - 1) < w := by omega
  have n4 : n < w ∨ w = 1 := by omega
  clear hn
  rw [if_neg (by omega), u64w (by omega) (by omega), if_neg (by omega)]
  rw [w64 (n := 8 * n) (by omega) (by omega), w64 (n := n - 1) (by omega) (by omega), w64 (n := 8 * (n - 1)) (by omega) (by omega)]
  rw [if_pos n2, if_pos n3]
  have hd0 : 0 ≤ a2 % w := Int.emod_nonneg _ (by omega)
  have hd1 : a2 % w < w := Int.emod_lt_of_pos _ (by omega)
  rw [tmod_ h2.1, tdiv_ t0]
  generalize a2 % w = d at *
  rw [w64 (n := d) (by omega) (by omega), w64 (n := t / 2) (by omega) (by omega), w64 (n := t / 2 + d) (by omega) (by omega)]
  rw [bn_index (by omega) (by omega) (by omega) n1]
  simp only [Option.bind_some]
  rw [show t / 2 + d - t / 2 = d by omega]
  have hq0 : 0 ≤ d / n := Int.ediv_nonneg hd0 (by omega)
  have hq8 : d / n < 8 := Int.ediv_lt_of_lt_mul (by omega) (by omega)
  have e8 : decide (d / n < 8) = true := decide_eq_true hq8
  rw [if_pos hq0, e8]
  rcases n4 with h | h
  · rw [if_pos h]
  · rw [if_pos h]
    split <;> rfl

end Go.Proofs.Ytogiemlgjnhidaa.Pure
