/- The first time of a bucket and the last time before the next one have the bucket's index; the next bucket's first time has the next index. No condition. -/
import Derived.Test.YtogiemlgjnhidaaPBucketStartsx1
import Derived.Test.YtogiemlgjnhidaaPlain
namespace Go.Proofs.Ytogiemlgjnhidaa.Pure
open Go.RowKit Go.Proofs.Ytogiemlgjnhidaa.PBucketStarts Go.Proofs.YtogiemlgjnhidaaW.PrintWords Go.Proofs.YtogiemlgjnhidaaW.PrintLast Go.Proofs.Ytogiemlgjnhidaa.Plain

theorem bs_head : ropeladderlaw06_head.f = some true := by decide +kernel
theorem bs_time {a : Int} (h : (Lit.int .u64 a).wf = true) : ∃ t, ropeladderlaw06_Time.f a = some t ∧ 0 ≤ t ∧ t ≤ 1152921504606846976 := by
  have h := u64_range h
  refine ⟨a % 1152921504606846977, ?_, by omega, by omega⟩
  unfold ropeladderlaw06_Time.f
  rw [tmod_ h.1, w64 (by omega) (by omega)]
theorem bs_span {a : Int} (h : (Lit.int .u64 a).wf = true) : ∃ t, ropeladderlaw06_Span.f a = some t ∧ 1 ≤ t ∧ t ≤ 144115188075855873 := by
  have h := u64_range h
  refine ⟨a % 144115188075855873 + 1, ?_, by omega, by omega⟩
  unfold ropeladderlaw06_Span.f
  rw [tmod_ h.1, w64 (n := a % 144115188075855873) (by omega) (by omega), w64 (by omega) (by omega)]
theorem bs_index {x n y q r : Int} (_h0 : 0 ≤ x) (_h1 : x ≤ 1152921504606846976) (hy : y = x + (q * n + r)) (hr0 : 0 ≤ r) (hr1 : r < n) (hq : 0 ≤ q) (hqn : q * n ≤ 1152921504606846976) (hn : n ≤ 1152921504606846976) (hq9 : q ≤ 9) :
    bucket_Index.f x n y = some q := by
  have hqn0 : 0 ≤ q * n := Int.mul_nonneg hq (by omega)
  unfold bucket_Index.f
  rw [if_neg (by omega), w64 (n := y - x) (by omega) (by omega), tdiv_ (by omega), show y - x = r + q * n by omega, Int.add_mul_ediv_right _ _ (by omega), Int.ediv_eq_zero_of_lt hr0 hr1, w64 (by omega) (by omega)]
  simp
theorem bs_start {x n i : Int} (h0 : 0 ≤ x) (h1 : x ≤ 1152921504606846976) (h2 : 0 ≤ i * n) (h3 : i * n ≤ 2305843009213693952) : bucket_Start.f x n i = some (x + i * n) := by
  unfold bucket_Start.f
  rw [w64 (n := i * n) (by omega) (by omega), w64 (by omega) (by omega)]

theorem BucketStarts : ropeladderlaw06_BucketStarts.Pure := by
  intro a0 a1 a2 w0 w1 w2
  obtain ⟨f, hf, f0, f1⟩ := bs_time w0
  obtain ⟨s, hs, s0, s1⟩ := bs_span w1
  have h2 := u8_range w2
  unfold ropeladderlaw06_BucketStarts.f
  simp only [bs_head, hf, hs, Option.bind_some, if_true]
  rw [w64 (n := a2) (by omega) (by omega), tmod_ (a := a2) (by omega), tdiv_ (a := s) (by omega), w64 (n := s / 8) (by omega) (by omega), w64 (n := s / 8 + 1) (by omega) (by omega)]
  generalize hn : s / 8 + 1 = n
  have n1 : 1 ≤ n := by omega
  have n2 : n ≤ 18014398509481985 := by omega
  clear hn
  generalize hk : a2 % 8 = k
  have k0 : 0 ≤ k := by omega
  have k1 : k ≤ 7 := by omega
  clear hk
  have kn0 : 0 ≤ k * n := Int.mul_nonneg k0 (by omega)
  have kn1 : k * n ≤ 7 * n := Int.mul_le_mul_of_nonneg_right k1 (by omega)
  have kn : (k + 1) * n = k * n + n := by rw [Int.add_mul, Int.one_mul]
  rw [w64 (n := k + 1) (by omega) (by omega), bs_start f0 f1 kn0 (by omega)]
  simp only [Option.bind_some]
  rw [bs_start f0 f1 (by omega) (by omega)]
  simp only [Option.bind_some]
  rw [w64 (n := f + (k + 1) * n - (f + k * n)) (by omega) (by omega), if_pos (by omega)]
  rw [bs_index (q := k) (r := 0) f0 f1 (by omega) (by omega) (by omega) k0 (by omega) (by omega) (by omega)]
  simp only [Option.bind_some, if_true]
  rw [w64 (n := f + (k + 1) * n - 1) (by omega) (by omega), bs_index (q := k) (r := n - 1) f0 f1 (by omega) (by omega) (by omega) k0 (by omega) (by omega) (by omega)]
  simp only [Option.bind_some, if_true]
  rw [bs_index (q := k + 1) (r := 0) f0 f1 (by omega) (by omega) (by omega) (by omega) (by omega) (by omega) (by omega)]
  simp

end Go.Proofs.Ytogiemlgjnhidaa.Pure
