/- For times t <= u the index of t is at most that of u; where both are equal the times differ by less than the width. No condition. -/
import Derived.Test.YtogiemlgjnhidaaPBucketOrderx1
import Derived.Test.YtogiemlgjnhidaaPlain
namespace Go.Proofs.Ytogiemlgjnhidaa.Pure
open Go.RowKit Go.Proofs.Ytogiemlgjnhidaa.PBucketOrder Go.Proofs.YtogiemlgjnhidaaW.PrintWords Go.Proofs.YtogiemlgjnhidaaW.PrintLast Go.Proofs.Ytogiemlgjnhidaa.Plain

theorem bo_head : ropeladderlaw06_head.f = some true := by decide +kernel
theorem bo_time {a : Int} (h : (Lit.int .u64 a).wf = true) : ∃ t, ropeladderlaw06_Time.f a = some t ∧ 0 ≤ t ∧ t ≤ 1152921504606846976 := by
  have h := u64_range h
  refine ⟨a % 1152921504606846977, ?_, by omega, by omega⟩
  unfold ropeladderlaw06_Time.f
  rw [tmod_ h.1, w64 (by omega) (by omega)]
theorem bo_span {a : Int} (h : (Lit.int .u64 a).wf = true) : ∃ t, ropeladderlaw06_Span.f a = some t ∧ 1 ≤ t ∧ t ≤ 144115188075855873 := by
  have h := u64_range h
  refine ⟨a % 144115188075855873 + 1, ?_, by omega, by omega⟩
  unfold ropeladderlaw06_Span.f
  rw [tmod_ h.1, w64 (n := a % 144115188075855873) (by omega) (by omega), w64 (by omega) (by omega)]
theorem bo_index {x n y : Int} (h0 : 0 ≤ x) (h1 : x ≤ y) (h2 : y ≤ 1152921504606846976) (hn : 1 ≤ n) : bucket_Index.f x n y = some ((y - x) / n) := by
  unfold bucket_Index.f
  have hq : 0 ≤ (y - x) / n := Int.ediv_nonneg (by omega) (by omega)
  have hq2 : (y - x) / n ≤ y - x := Int.ediv_le_self _ (by omega)
  rw [if_neg (by omega), w64 (n := y - x) (by omega) (by omega), tdiv_ (by omega), w64 (by omega) (by omega)]

theorem bo_j (k : Nat) (a f t u : Int) (b : Bool) (h : (Lit.int .u64 a).wf = true) (f0 : 0 ≤ f) (u1 : u ≤ 1152921504606846976) (hb : b = false → f ≤ t ∧ t ≤ u) :
    ropeladderlaw06_BucketOrder.j0 (k + 1) a true f t u b = some true := by
  simp only [ropeladderlaw06_BucketOrder.j0]
  cases b with
  | true => simp
  | false =>
    obtain ⟨hft, htu⟩ := hb rfl
    obtain ⟨n, hs, n0, n1⟩ := bo_span h
    rw [if_neg (by simp), hs]
    simp only [Option.bind_some]
    rw [bo_index f0 hft (by omega) n0, bo_index f0 (by omega) u1 n0]
    simp only [Option.bind_some, if_true]
    have e1 := Int.emod_add_mul_ediv (t - f) n
    have e2 := Int.emod_add_mul_ediv (u - f) n
    have m10 : 0 ≤ (t - f) % n := Int.emod_nonneg _ (by omega)
    have m11 : (t - f) % n < n := Int.emod_lt_of_pos _ (by omega)
    have m20 : 0 ≤ (u - f) % n := Int.emod_nonneg _ (by omega)
    have m21 : (u - f) % n < n := Int.emod_lt_of_pos _ (by omega)
    have p1 : 0 ≤ (t - f) / n := Int.ediv_nonneg (by omega) (by omega)
    have p2 : (u - f) / n ≤ u - f := Int.ediv_le_self _ (by omega)
    have le : (t - f) / n ≤ (u - f) / n := Int.ediv_le_ediv (by omega) (by omega)
    generalize (t - f) / n = i at *
    generalize (u - f) / n = j at *
    rw [w64 (n := u - t) (by omega) (by omega), w64 (n := j - i) (by omega) (by omega)]
    rw [if_pos le]
    by_cases hij : i = j
    · subst hij
      rw [if_pos rfl, if_pos (by omega), if_pos (by omega)]
    · rw [if_neg hij]
      by_cases h1 : j - i ≤ 1
      · rw [if_pos h1]
      · rw [if_neg h1, decide_eq_true]
        have h3 : n * (i + 2) ≤ n * j := Int.mul_le_mul_of_nonneg_left (by omega) (by omega)
        rw [Int.mul_add] at h3
        omega

theorem BucketOrder : ropeladderlaw06_BucketOrder.Pure := by
  intro a0 a1 a2 a3 w0 w1 w2 w3
  obtain ⟨r, hr, r0, r1⟩ := bo_time w0
  obtain ⟨s, hs, s0, s1⟩ := bo_time w1
  obtain ⟨t, ht, t0, t1⟩ := bo_time w2
  refine ⟨1, ?_⟩
  unfold ropeladderlaw06_BucketOrder.f
  simp only [bo_head, hr, hs, ht, Option.bind_some]
  have hf0 : 0 ≤ mn (mn r s) t := by unfold mn; omega
  have hu1 : mx (mx r s) t ≤ 1152921504606846976 := by unfold mx; omega
  by_cases h : mn (mx r s) t < mn (mn r s) t
  · rw [if_pos h]
    exact bo_j 0 _ _ _ _ _ w3 hf0 hu1 (by simp)
  · rw [if_neg h]
    refine bo_j 0 _ _ _ _ _ w3 hf0 hu1 (fun hd => ?_)
    have := of_decide_eq_false hd
    omega

end Go.Proofs.Ytogiemlgjnhidaa.Pure
