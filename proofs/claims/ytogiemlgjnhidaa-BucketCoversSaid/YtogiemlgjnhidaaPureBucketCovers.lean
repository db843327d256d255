/- For all times x <= t <= y in 0..2^60, the index of t with the width of x and y is in 0..7, and t lies between the starts of its bucket and of the next one. No condition. -/
import Derived.Test.YtogiemlgjnhidaaPBucketCoversx1
import Derived.Test.YtogiemlgjnhidaaPlain
namespace Go.Proofs.Ytogiemlgjnhidaa.Pure
open Go.RowKit Go.Proofs.Ytogiemlgjnhidaa.PBucketCovers Go.Proofs.YtogiemlgjnhidaaW.PrintWords Go.Proofs.YtogiemlgjnhidaaW.PrintLast Go.Proofs.Ytogiemlgjnhidaa.Plain

theorem bc_head : ropeladderlaw06_head.f = some true := by decide +kernel
theorem bc_time {a : Int} (h : (Lit.int .u64 a).wf = true) : ∃ t, ropeladderlaw06_Time.f a = some t ∧ 0 ≤ t ∧ t ≤ 1152921504606846976 := by
  have h := u64_range h
  refine ⟨a % 1152921504606846977, ?_, by omega, by omega⟩
  unfold ropeladderlaw06_Time.f
  rw [tmod_ h.1, w64 (by omega) (by omega)]
theorem bc_width {x y : Int} (h0 : 0 ≤ x) (h1 : x ≤ y) (h2 : y ≤ 1152921504606846976) : bucket_Width.f x y = some ((y - x) / 8 + 1) := by
  unfold bucket_Width.f bucket_ceilDiv_int.f
  rw [w64 (n := y - x) (by omega) (by omega), w64 (n := y - x + 1) (by omega) (by omega), w64 (n := y - x + 1 + 8) (by omega) (by omega), w64 (n := y - x + 1 + 8 - 1) (by omega) (by omega), tdiv_ (by omega)]
  rw [if_neg (by omega), w64 (by omega) (by omega)]
  simp
  omega
theorem bc_index {x n y : Int} (h0 : 0 ≤ x) (h1 : x ≤ y) (h2 : y ≤ 1152921504606846976) (hn : 1 ≤ n) : bucket_Index.f x n y = some ((y - x) / n) := by
  unfold bucket_Index.f
  have hq : 0 ≤ (y - x) / n := Int.ediv_nonneg (by omega) (by omega)
  have hq2 : (y - x) / n ≤ y - x := Int.ediv_le_self _ (by omega)
  rw [if_neg (by omega), w64 (n := y - x) (by omega) (by omega), tdiv_ (by omega), w64 (by omega) (by omega)]
theorem bc_start {x n i : Int} (h0 : 0 ≤ x) (h1 : x ≤ 1152921504606846976) (h2 : 0 ≤ i * n) (h3 : i * n ≤ 2305843009213693952) : bucket_Start.f x n i = some (x + i * n) := by
  unfold bucket_Start.f
  rw [w64 (n := i * n) (by omega) (by omega), w64 (by omega) (by omega)]
theorem mn_mx (a b : Int) : mn a b ≤ mx a b := by unfold mn mx; omega

theorem BucketCovers : ropeladderlaw06_BucketCovers.Pure := by
  intro a0 a1 a2 w0 w1 w2
  obtain ⟨s, hs, s0, s1⟩ := bc_time w0
  obtain ⟨t, ht, t0, t1⟩ := bc_time w1
  have h2 := u64_range w2
  have hx0 : 0 ≤ mn s t := by unfold mn; omega
  have hy1 : mx s t ≤ 1152921504606846976 := by unfold mx; omega
  have hxy := mn_mx s t
  unfold ropeladderlaw06_BucketCovers.f
  simp only [bc_head, hs, ht, Option.bind_some, if_true]
  generalize mn s t = x at *
  generalize mx s t = y at *
  rw [w64 (n := y - x) (by omega) (by omega), w64 (n := y - x + 1) (by omega) (by omega), u64w (by omega) (by omega)]
  rw [if_neg (by omega), bc_width hx0 hxy hy1]
  simp only [Option.bind_some]
  have hd0 : 0 ≤ a2 % (y - x + 1) := Int.emod_nonneg _ (by omega)
  have hd1 : a2 % (y - x + 1) < y - x + 1 := Int.emod_lt_of_pos _ (by omega)
  rw [tmod_ h2.1]
  generalize a2 % (y - x + 1) = d at *
  rw [w64 (n := d) (by omega) (by omega), w64 (n := x + d) (by omega) (by omega)]
  rw [if_neg (by omega)]
  generalize hwd : (y - x) / 8 + 1 = w at *
  have hw1 : 1 ≤ w := by omega
  have hw8 : y - x < 8 * w := by omega
  have hwl : w ≤ 144115188075855873 := by omega
  rw [bc_index hx0 (by omega) (by omega) hw1]
  simp only [Option.bind_some]
  rw [show x + d - x = d by omega]
  have hq0 : 0 ≤ d / w := Int.ediv_nonneg hd0 (by omega)
  have hq8 : d / w < 8 := Int.ediv_lt_of_lt_mul (by omega) (by omega)
  have hm := Int.emod_add_mul_ediv d w
  have hm0 : 0 ≤ d % w := Int.emod_nonneg _ (by omega)
  have hm1 : d % w < w := Int.emod_lt_of_pos _ (by omega)
  rw [Int.mul_comm] at hm
  generalize d / w = q at *
  have hqw : 0 ≤ q * w := Int.mul_nonneg hq0 (by omega)
  have hqw1 : (q + 1) * w = q * w + w := by rw [Int.add_mul, Int.one_mul]
  rw [if_pos (by omega), if_pos (by omega), bc_start hx0 (by omega) hqw (by omega)]
  simp only [Option.bind_some]
  rw [if_pos (by omega), w64 (n := q + 1) (by omega) (by omega), bc_start hx0 (by omega) (by omega) (by omega)]
  simp only [Option.bind_some]
  rw [if_pos (by omega), bc_start hx0 (by omega) (by omega) (by omega)]
  simp only [Option.bind_some]
  rw [decide_eq_true (by omega)]

end Go.Proofs.Ytogiemlgjnhidaa.Pure
