/- ropeladderlaw24.WorkersTerminates computes true; the arguments are three bytes and a 32-bit number. -/
import Derived.Test.YtjheocofbfmopaaWkPre
import Derived.Test.YtjheocofbfmopaaPlainB
namespace Go.Proofs.Ytjheocofbfmopaa.Hand
open Go.RowKit Go.Proofs.YtjheocofbfmopaaW.PrintWords Go.Proofs.YtjheocofbfmopaaW.PrintLast Go.Proofs.YtjheocofbfmopaaW.PrintMore
set_option linter.unusedVariables false
set_option linter.unusedSimpArgs false
attribute [local go_sem] max2_int min2_int max_two min_two max_three min_three max_four min_four

/-- The schedule of the law: random, repaired for the window. -/
def sch (seed : Int) (w q M : Nat) : List Int := Sch.repGo ((q : Int) - w) (List.replicate w 0) (Sch.rndList seed w M)
theorem rnd_rng (seed : Int) (w M : Nat) (hw : 1 ≤ w) : ∀ p ∈ Sch.rndList seed w M, 0 ≤ p ∧ p < w := by
  intro p hp
  obtain ⟨k, _, rfl⟩ := List.mem_map.1 hp
  unfold Sch.rndAt
  exact ⟨Int.emod_nonneg _ (by omega), Int.emod_lt_of_pos _ (by omega)⟩
theorem sch_pk (seed : Int) (w q M : Nat) (hw : 1 ≤ w) : Pk (sch seed w q M) M w := by
  have hl : (sch seed w q M).length = M := by unfold sch; rw [Sch.repGo_length, Sch.rndList_length]
  refine ⟨hl, fun p hp => ?_⟩
  obtain ⟨j, hj, rfl⟩ := List.getElem_of_mem hp
  have := Sch.rep_range ((q : Int) - w) w hw (Sch.rndList seed w M) (rnd_rng seed w M hw) j (by rw [Sch.rndList_length, ← hl]; exact hj)
  have e : (sch seed w q M).getD j 0 = (sch seed w q M)[j] := by simp [List.getD_eq_getElem?_getD, List.getElem?_eq_getElem hj]
  unfold sch at e hj ⊢
  rw [e] at this
  exact this
theorem sch_fair (seed : Int) (w q M : Nat) (hw : 1 ≤ w) (hq : w ≤ q) : Sch.fair (sch seed w q M) w q = true := Sch.rep_fair w q hw hq _ (rnd_rng seed w M hw)
/-- Every aligned window of the schedule, and of what follows it round-robin, picks every worker. -/
theorem sch_windows {l : List Int} {w q r : Nat} (hl : l.length = r * q) (hw : 1 ≤ w) (hq : w ≤ q) (hr : ∀ p ∈ l, 0 ≤ p ∧ p < w) (hf : Sch.fair l w q = true) : ∀ s t, t < w → ∃ j, j < q ∧ pickAt l w (s * q + j) = t := by
  intro s t ht
  by_cases hs : s < r
  · have hle : s * q + q ≤ l.length := by rw [hl, ← Nat.succ_mul]; exact Nat.mul_le_mul_right _ hs
    unfold Sch.fair at hf
    rw [List.all_eq_true] at hf
    have h1 := hf (s * q) (List.mem_range.2 (by omega))
    unfold Sch.fairAt at h1
    rw [List.all_eq_true] at h1
    have h2 := h1 t (List.mem_range.2 ht)
    rw [List.contains_iff_mem] at h2
    obtain ⟨j, hj, e⟩ := List.getElem_of_mem h2
    unfold Sch.winAt at hj e
    have hjl : j < q := by rw [List.length_take] at hj; omega
    rw [List.getElem_take, List.getElem_drop] at e
    refine ⟨j, hjl, ?_⟩
    unfold pickAt
    rw [if_pos (by omega)]
    rw [show l.getD (s * q + j) 0 = l[s * q + j] by simp [List.getD_eq_getElem?_getD, List.getElem?_eq_getElem (show s * q + j < l.length by omega)], e]
    simp
  · have hge : l.length ≤ s * q := by rw [hl]; exact Nat.mul_le_mul_right _ (by omega)
    obtain ⟨d, hd⟩ : ∃ d, s * q = l.length + d := ⟨s * q - l.length, by omega⟩
    have hm : d % w < w := Nat.mod_lt _ (by omega)
    refine ⟨(t + (w - d % w)) % w, by have := Nat.mod_lt (t + (w - d % w)) (show 0 < w by omega); omega, ?_⟩
    unfold pickAt
    rw [if_neg (by omega), hd, Nat.add_assoc, Nat.add_sub_cancel_left, Nat.add_mod_mod, Nat.add_mod]
    have e : d + (t + (w - d % w)) = t + (d - d % w) + w := by have := Nat.mod_le d w; omega
    rw [← Nat.add_mod, e, Nat.add_mod_right, Nat.add_mod]
    have e2 : (d - d % w) % w = 0 := by
      have := Nat.div_add_mod d w
      rw [show d - d % w = w * (d / w) by omega]
      exact Nat.mul_mod_right _ _
    rw [e2, Nat.add_zero, Nat.mod_mod, Nat.mod_eq_of_lt ht]
theorem sch_ends {t c n : Int} {w q M : Nat} (hs : Sz t c n w) (hq : w ≤ q) (hM : (M : Int) = q * (2 * n + 3 * w + 1)) (seed : Int) : decide (((ph0 n w).run (sch seed w q M)).left = 0) = true ∧ (((ph0 n w).run (sch seed w q M)).pairs.length : Int) = n := by
  obtain ⟨b0, b1, b2, b3⟩ := hs.bd
  have hpk := sch_pk seed w q M b2
  have hM0 := M_start n w b0
  have hMn : M = ((ph0 n w).M + 1) * q := by
    have : (M : Int) = ((((ph0 n w).M + 1) * q : Nat) : Int) := by
      rw [hM, Int.natCast_mul, Int.natCast_add, hM0, Int.mul_comm]
      rfl
    exact_mod_cast this
  have hend := windows_over (inv0 n w b0) (pickAt_lt b2 hpk.rng) q (sch_windows (r := (ph0 n w).M + 1) (by rw [hpk.len, hMn]) b2 hq hpk.rng (sch_fair seed w q M b2 hq))
  have hrun := steps_run (ph0 n w) (sch seed w q M) w M (by rw [hpk.len]; exact Nat.le_refl _)
  rw [show (sch seed w q M).take M = sch seed w q M by rw [← hpk.len]; simp [hpk.len, List.take_of_length_le (Nat.le_of_eq hpk.len)]] at hrun
  rw [← hMn, hrun] at hend
  have hi := run_inv (inv0 n w b0) (sch seed w q M) hpk.rng
  exact ⟨decide_eq_true hend, by rw [ended_all hi.1 b2 hend, hi.2.2]; rfl⟩
theorem rndM (seed : Int) (w M : Nat) (W : World) (h0 : 0 ≤ seed) (h1 : seed ≤ 4294967295) (hw : 1 ≤ w) (hw1 : w ≤ 64) (hM : M ≤ 1000) :
    Calls Try.prog 15 #[.int .u32 seed, .int .i64 w, .int .i64 M] W fun e w' => ∃ A c, e = .returned (.slice A M c) ∧ M ≤ c ∧ Kd.C (Kd.int .i64) w' A M (Sch.rndList seed w M) ∧ Below W.heap.size W w' := by
  have h : Sch.sched_Random.f seed w M = some (Sch.rndList seed w M) := by
    unfold Sch.sched_Random.f
    rw [if_pos ⟨h0, by omega, by omega, by omega, by omega, by omega⟩, Int.toNat_natCast]
  refine (Sch.sched_Random.calls seed w M _ W h).mono ?_
  rintro e w' ⟨v, rfl, hR, hb⟩
  obtain ⟨A, c, rfl, hc, hC⟩ := Kd.R_reads hR
  rw [Sch.rndList_length] at hc hC ⊢
  exact ⟨A, c, rfl, hc, hC, hb⟩
theorem repM (seed : Int) (w q M : Nat) (A : Option Addr) (c : Nat) (W : World) (hc : M ≤ c) (hC : Kd.C (Kd.int .i64) W A M (Sch.rndList seed w M)) (hw : 1 ≤ w) (hw1 : w ≤ 64) (hM : M ≤ 1000) (hq : q ≤ 1000) :
    Calls Try.prog 14 #[.slice A M c, .int .i64 w, .int .i64 q] W fun e w' => ∃ A c, e = .returned (.slice A M c) ∧ M ≤ c ∧ Kd.C (Kd.int .i64) w' A M (sch seed w q M) ∧ Below W.heap.size W w' := by
  have hl := Sch.rndList_length seed w M
  have h : Sch.sched_Repair.f (Sch.rndList seed w M) w q = some (sch seed w q M) := by
    unfold Sch.sched_Repair.f
    rw [if_pos ⟨by omega, by omega, by omega, by omega, by omega, rnd_rng seed w M hw⟩, Int.toNat_natCast]
    rfl
  have hC' : Kd.C (Kd.int .i64) W A (Sch.rndList seed w M).length (Sch.rndList seed w M) := by rw [hl]; exact hC
  have hcall := Sch.sched_Repair.calls A c (Sch.rndList seed w M) w q _ W hC' (by rw [hl]; exact hc) h
  rw [hl] at hcall
  refine hcall.mono ?_
  rintro e w' ⟨v, rfl, hR, hb⟩
  obtain ⟨A2, c2, rfl, hc2, hC2⟩ := Kd.R_reads hR
  rw [(sch_pk seed w q M hw).len] at hc2 hC2 ⊢
  exact ⟨A2, c2, rfl, hc2, hC2, hb⟩
theorem fairM (seed : Int) (w q M : Nat) (A : Option Addr) (c : Nat) (w0 W : World) (hc : M ≤ c) (hC : Kd.C (Kd.int .i64) w0 A M (sch seed w q M)) (hb : Below w0.heap.size w0 W) (hw : 1 ≤ w) (hw1 : w ≤ 64) (hM : M ≤ 1000) (hq : q ≤ 1000) (hwq : w ≤ q) :
    Calls Try.prog 16 #[.slice A M c, .int .i64 w, .int .i64 q] W fun e w' => e = .returned (.bool true) ∧ Below W.heap.size W w' := by
  have hl := (sch_pk seed w q M hw).len
  have h : Sch.sched_Fair.f (sch seed w q M) w q = some true := by
    unfold Sch.sched_Fair.f
    rw [if_pos ⟨by omega, by omega, by omega, by omega, by omega⟩, Int.toNat_natCast, Int.toNat_natCast, sch_fair seed w q M hw hwq]
  have hC' : Kd.C (Kd.int .i64) W A (sch seed w q M).length (sch seed w q M) := by rw [hl]; exact Kd.C_below hC hb
  have hcall := Sch.sched_Fair.calls A c (sch seed w q M) w q _ W hC' (by rw [hl]; exact hc) h
  rw [hl] at hcall
  exact hcall
theorem boundM {t c n : Int} {w q M : Nat} (hs : Sz t c n w) (hq : q ≤ 1000) (hM : (M : Int) = q * (2 * n + 3 * w + 1)) (W : World) : Calls Try.prog 13 #[.int .i64 n, .int .i64 w, .int .i64 q] W fun e w' => e = .returned (.int .i64 M) ∧ w' = W := by
  obtain ⟨b0, b1, b2, b3⟩ := hs.bd
  have h := bound_calls n w q W b0 (by omega) (by omega) (by omega) (by omega) (by omega)
  rw [← hM] at h
  exact h
set_option maxHeartbeats 8000000 in
set_option maxRecDepth 100000 in
theorem term_walk (t c seed more : Int) (W : World) (ht : 0 ≤ t ∧ t ≤ 255) (hc : 0 ≤ c ∧ c ≤ 255) (hseed : 0 ≤ seed ∧ seed ≤ 4294967295) (hm : 0 ≤ more ∧ more ≤ 255) :
    Calls Try.prog 6 #[.int .u8 t, .int .u8 c, .int .u32 seed, .int .u8 more] W fun e w' => e = .returned (.bool true) ∧ Below W.heap.size W w' := by
  obtain ⟨n, hn⟩ : ∃ n, n = t % 10 := ⟨_, rfl⟩
  obtain ⟨w, hw⟩ : ∃ w : Nat, (w : Int) = c % 6 + 1 := ⟨(c % 6 + 1).toNat, by omega⟩
  have hs : Sz t c n w := ⟨ht.1, ht.2, hc.1, hc.2, hn, hw⟩
  obtain ⟨b0, b1, b2, b3⟩ := hs.bd
  obtain ⟨q, hq⟩ : ∃ q : Nat, (w : Int) + more % 10 = q := ⟨((w : Int) + more % 10).toNat, by omega⟩
  have hwq : w ≤ q := by omega
  have hq1 : q ≤ 1000 := by omega
  have hz : 0 ≤ (q : Int) * (2 * n + 3 * w + 1) := Int.mul_nonneg (by omega) (by omega)
  obtain ⟨M, hM⟩ : ∃ M : Nat, (M : Int) = q * (2 * n + 3 * w + 1) := ⟨((q : Int) * (2 * n + 3 * w + 1)).toNat, by omega⟩
  have HS := Aside0.mk hs
  have HM := Aside0.mk hM
  have HQ1 := Aside0.mk hq1
  have HWQ := Aside0.mk hwq
  have HW := Aside0.mk b2
  have HW1 := Aside0.mk (show w ≤ 64 by omega)
  have HSE0 := Aside0.mk hseed.1
  have HSE1 := Aside0.mk hseed.2
  have hw0 : (1 : Int) ≤ w := by omega
  have hw6 : (w : Int) ≤ 6 := by omega
  obtain ⟨hm0, hm1⟩ := hm
  have dz : decide ((M : Int) < 0) = false := decide_eq_false (by omega)
  have dz2 : decide (0 ≤ (M : Int)) = true := decide_eq_true (by omega)
  by_cases h1000 : (1000 : Int) < M
  · have d1 : decide ((1000 : Int) < M) = true := decide_eq_true h1000
    clear hs hM hq1 hwq hz ht hc hn hw hseed
    go_enter Try.func6, Try.ntmps6
    go_wp2_with (first | (go_at_call 7; (with_reducible refine (head_calls W).mono ?_); rintro e w1 ⟨rfl, hb⟩; have B1 := Aside0.mk hb; clear hb) | (go_at_call 8; (with_reducible refine (sizesM HS.out _).mono ?_); rintro e w1 ⟨rfl, rfl⟩) | (go_at_call 13; (with_reducible refine (boundM HS.out HQ1.out HM.out _).mono ?_); rintro e w1 ⟨rfl, rfl⟩))
    go_ret
    exact ⟨rfl, B1.out⟩
  · have d1 : decide ((1000 : Int) < M) = false := decide_eq_false h1000
    have HMM := Aside0.mk (show M ≤ 1000 by omega)
    have HM2 := Aside0.mk (show M ≤ 20000 by omega)
    obtain ⟨he1, he2⟩ := sch_ends hs hwq hM seed
    have HPK := Aside0.mk (sch_pk seed w q M b2)
    obtain ⟨pa, hpa⟩ : ∃ pa, ((ph0 n w).run (sch seed w q M)).pairs = pa := ⟨_, rfl⟩
    obtain ⟨qa, hqa⟩ : ∃ q, pa.length = q := ⟨_, rfl⟩
    rw [hpa, hqa] at he2
    have d7 : ((qa : Int) == n) = true := beq_iff_eq.2 he2
    have HE1 := Aside0.mk he1
    have HPA := Aside0.mk hpa
    have HQA := Aside0.mk hqa
    clear hs hM hq1 hwq hz ht hc hn hw hseed he1 he2 hpa hqa h1000
    go_enter Try.func6, Try.ntmps6
    go_wp2_with (first | (go_at_call 7; (with_reducible refine (head_calls W).mono ?_); rintro e w1 ⟨rfl, hb⟩; have B1 := Aside0.mk hb; clear hb) | (go_at_call 8; (with_reducible refine (sizesM HS.out _).mono ?_); rintro e w1 ⟨rfl, rfl⟩) | (go_at_call 13; (with_reducible refine (boundM HS.out HQ1.out HM.out _).mono ?_); rintro e w1 ⟨rfl, rfl⟩) | (go_at_call 15; (with_reducible refine (rndM seed w M _ HSE0.out HSE1.out HW.out HW1.out HMM.out).mono ?_); rintro e w2 ⟨A2, c2, rfl, hc2, hC2, hb2⟩; have HC2 := Aside0.mk hC2; have B2 := Aside0.mk hb2; clear hC2 hb2) | (go_at_call 14; (with_reducible refine (repM seed w q M A2 c2 _ hc2 HC2.out HW.out HW1.out HMM.out HQ1.out).mono ?_); rintro e w3 ⟨A3, c3, rfl, hc3, hC3, hb3⟩; have HC3 := Aside0.mk hC3; have B3 := Aside0.mk hb3; clear hC3 hb3) | (go_at_call 11; (with_reducible refine (runM HS.out HPK.out HM2.out A3 c3 w3 _ HC3.out (Below.refl _ _) HPA.out HQA.out HE1.out).mono ?_); rintro e w4 ⟨A4, k4, rfl, hk4, _, hb4⟩; have B4 := Aside0.mk hb4; clear hb4) | (go_at_call 16; (with_reducible refine (fairM seed w q M A3 c3 w3 _ hc3 HC3.out B4.out HW.out HW1.out HMM.out HQ1.out HWQ.out).mono ?_); rintro e w5 ⟨rfl, hb5⟩; have B5 := Aside0.mk hb5; clear hb5))
    go_ret
    exact ⟨rfl, Below.then B1.out (Below.then B2.out (Below.then B3.out (Below.then B4.out B5.out)))⟩
end Go.Proofs.Ytjheocofbfmopaa.Hand
