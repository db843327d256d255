/- All functions of package bucket answer as the reference does, for all times in 0..2^60, widths in 1..2^57+1 and indices in 0..8. No condition. -/
import Derived.Test.YtogiemlgjnhidaaPBucketMatchesReferencex1
import Derived.Test.YtogiemlgjnhidaaPlain
namespace Go.Proofs.Ytogiemlgjnhidaa.Pure
open Go.RowKit Go.Proofs.Ytogiemlgjnhidaa.PBucketMatchesReference Go.Proofs.YtogiemlgjnhidaaW.PrintWords Go.Proofs.YtogiemlgjnhidaaW.PrintLast Go.Proofs.Ytogiemlgjnhidaa.Plain

theorem mr_head : ropeladderlaw06_head.f = some true := by decide +kernel
theorem mr_time {a : Int} (h : (Lit.int .u64 a).wf = true) : ∃ t, ropeladderlaw06_Time.f a = some t ∧ 0 ≤ t ∧ t ≤ 1152921504606846976 := by
  have h := u64_range h
  refine ⟨a % 1152921504606846977, ?_, by omega, by omega⟩
  unfold ropeladderlaw06_Time.f
  rw [tmod_ h.1, w64 (by omega) (by omega)]
theorem mr_span {a : Int} (h : (Lit.int .u64 a).wf = true) : ∃ t, ropeladderlaw06_Span.f a = some t ∧ 1 ≤ t ∧ t ≤ 144115188075855873 := by
  have h := u64_range h
  refine ⟨a % 144115188075855873 + 1, ?_, by omega, by omega⟩
  unfold ropeladderlaw06_Span.f
  rw [tmod_ h.1, w64 (n := a % 144115188075855873) (by omega) (by omega), w64 (by omega) (by omega)]
theorem mr_width {x y : Int} (h0 : 0 ≤ x) (h1 : x ≤ y) (h2 : y ≤ 1152921504606846976) : bucket_Width.f x y = some ((y - x) / 8 + 1) ∧ ropeladderref06_Width.f x y = some ((y - x) / 8 + 1) := by
  unfold bucket_Width.f bucket_ceilDiv_int.f ropeladderref06_Width.f
  rw [w64 (n := y - x) (by omega) (by omega), w64 (n := y - x + 1) (by omega) (by omega), w64 (n := y - x + 1 + 8) (by omega) (by omega), w64 (n := y - x + 1 + 8 - 1) (by omega) (by omega), tdiv_ (by omega), tdiv_ (by omega)]
  rw [if_neg (by omega), w64 (n := (y - x) / 8) (by omega) (by omega), w64 (n := (y - x) / 8 + 1) (by omega) (by omega), w64 (by omega) (by omega)]
  simp
  omega
theorem mr_narrow {n : Int} (h0 : 1 ≤ n) (h1 : n ≤ 144115188075855873) : bucket_Narrow.f n = ropeladderref06_Narrow.f n ∧ bucket_Narrow.f n = some ((n + 7) / 8) := by
  unfold bucket_Narrow.f bucket_ceilDiv_int.f ropeladderref06_Narrow.f
  rw [w64 (n := n + 8) (by omega) (by omega), w64 (n := n + 8 - 1) (by omega) (by omega), tdiv_ (by omega), w64 (n := n + 7) (by omega) (by omega), tdiv_ (by omega)]
  rw [if_neg (by omega), w64 (by omega) (by omega), w64 (by omega) (by omega)]
  simp
  omega
theorem mr_index {x n y : Int} (h : n ≠ 0) : ∃ r, bucket_Index.f x n y = some r ∧ ropeladderref06_Index.f x n y = some r := by
  unfold bucket_Index.f ropeladderref06_Index.f
  rw [if_neg h]
  exact ⟨_, rfl, rfl⟩
theorem mr_start {x n i : Int} : ∃ r, bucket_Start.f x n i = some r ∧ ropeladderref06_Start.f x n i = some r := ⟨_, rfl, rfl⟩
theorem mn_mx (a b : Int) : mn a b ≤ mx a b := by unfold mn mx; omega

theorem BucketMatchesReference : ropeladderlaw06_BucketMatchesReference.Pure := by
  intro a0 a1 a2 a3 w0 w1 w2 w3
  obtain ⟨s, hs, s0, s1⟩ := mr_time w0
  obtain ⟨t, ht, t0, t1⟩ := mr_time w1
  obtain ⟨n, hn, n0, n1⟩ := mr_span w2
  have hw := mr_width (x := mn s t) (y := mx s t) (by unfold mn; omega) (mn_mx s t) (by unfold mx; omega)
  have hr := mr_narrow n0 n1
  obtain ⟨i, hi, hi'⟩ := mr_index (x := mn s t) (n := n) (y := mx s t) (by omega)
  obtain ⟨j, hj, hj'⟩ := mr_start (x := mn s t) (n := wrap64 ((wrap64 (Int.tdiv n 8)) + 1)) (i := Int.tmod (wrap64 a3) 9)
  unfold ropeladderlaw06_BucketMatchesReference.f
  simp only [mr_head, hs, ht, hn, Option.bind_some, if_true, hw.1, hw.2, ← hr.1, hr.2, hi, hi', hj, hj']
  simp

end Go.Proofs.Ytogiemlgjnhidaa.Pure
