/- ropeladderlaw24.WorkersBarrier computes true; the arguments are bytes and a row of bytes. -/
import Derived.Test.YtjheocofbfmopaaWkPre
namespace Go.Proofs.Ytjheocofbfmopaa.Hand
open Go.RowKit Go.Proofs.YtjheocofbfmopaaW.PrintWords Go.Proofs.YtjheocofbfmopaaW.PrintLast Go.Proofs.YtjheocofbfmopaaW.PrintMore
set_option linter.unusedVariables false
set_option linter.unusedSimpArgs false
attribute [local go_sem] max2_int min2_int max_two min_two max_three min_three max_four min_four

set_option maxHeartbeats 4000000 in
theorem barrier_long (t c : Int) (A : Option Addr) (m cc : Nat) (idle : Int) (W : World) (h300 : (300 : Int) < m) (hm : m ≤ 140737488351232) :
    Calls Try.prog 4 #[.int .u8 t, .int .u8 c, .slice A m cc, .int .u8 idle] W fun e w' => e = .returned (.bool true) ∧ Below W.heap.size W w' := by
  have d1 : decide ((300 : Int) < m) = true := decide_eq_true h300
  go_enter Try.func4, Try.ntmps4
  go_wp2_with (first | (go_at_call 7; (with_reducible refine (head_calls W).mono ?_); rintro e w1 ⟨rfl, hb⟩; have B1 := Aside0.mk hb; clear hb))
  go_ret
  exact ⟨rfl, B1.out⟩
/-- The picks that are not the idle worker's. -/
def others (l : List Int) (z : Int) : List Int := l.filter (fun p => p != z)
theorem others_succ (l : List Int) (z : Int) (k : Nat) (h : k < l.length) : others (l.take (k + 1)) z = if l[k] = z then others (l.take k) z else others (l.take k) z ++ [l[k]] := by
  unfold others
  rw [List.take_succ_eq_append_getElem h, List.filter_append]
  by_cases e : l[k] = z
  · rw [if_pos e]; simp [e]
  · rw [if_neg e]; simp [e]
theorem others_len (l : List Int) (z : Int) : (others l z).length ≤ l.length := List.length_filter_le _ _
theorem not_ended {t c n : Int} {w : Nat} (hs : Sz t c n w) {l : List Int} {m : Nat} (hp : Pk l m w) {z : Nat} (hz : z < w) : decide (((ph0 n w).run (others l z)).left = 0) = false := by
  obtain ⟨b0, b1, b2, b3⟩ := hs.bd
  have hr : ∀ p ∈ others l z, 0 ≤ p ∧ p < w := fun p hp' => hp.rng p ((List.mem_filter.1 hp').1)
  have hi := (run_inv (inv0 n w b0) (others l z) hr).1
  refine decide_eq_false (fun h0 => ?_)
  have hc := run_idle (others l z) z (fun p hp' => ⟨(hr p hp').1, by simpa using (List.mem_filter.1 hp').2⟩) (x := ph0 n w) (by simp [ph0, List.getD_eq_getElem?_getD, hz])
  have hk : z < ((ph0 n w).run (others l z)).st.length := by rw [hi.len]; exact hz
  rw [getD_of hk, all_done hi h0 z hk] at hc
  cases hc
set_option maxHeartbeats 16000000 in
set_option maxRecDepth 100000 in
theorem barrier_walk (t c : Int) (A : Option Addr) (m cc : Nat) (l : List Int) (idle : Int) (W : World) (ht : 0 ≤ t ∧ t ≤ 255) (hc : 0 ≤ c ∧ c ≤ 255) (hl : IsBytes W A m l) (hid : 0 ≤ idle ∧ idle ≤ 255) :
    Calls Try.prog 4 #[.int .u8 t, .int .u8 c, .slice A m cc, .int .u8 idle] W fun e w' => e = .returned (.bool true) ∧ Below W.heap.size W w' := by
  by_cases h300 : (300 : Int) < m
  · exact barrier_long t c A m cc idle W h300 hl.max
  · obtain ⟨n, hn⟩ : ∃ n, n = t % 10 := ⟨_, rfl⟩
    obtain ⟨w, hw⟩ : ∃ w : Nat, (w : Int) = c % 6 + 1 := ⟨(c % 6 + 1).toNat, by omega⟩
    have hs : Sz t c n w := ⟨ht.1, ht.2, hc.1, hc.2, hn, hw⟩
    obtain ⟨b0, b1, b2, b3⟩ := hs.bd
    have hpk := pk_map hl b2
    obtain ⟨ps, hps⟩ : ∃ ps, l.map (· % (w : Int)) = ps := ⟨_, rfl⟩
    rw [hps] at hpk
    obtain ⟨z, hz⟩ : ∃ z : Nat, idle % (w : Int) = z := ⟨(idle % (w : Int)).toNat, by have := Int.emod_nonneg idle (show (w : Int) ≠ 0 by omega); omega⟩
    have hzw : z < w := by have := Int.emod_lt_of_pos idle (show (0 : Int) < (w : Int) by omega); omega
    obtain ⟨N, hN, hz0, hNlt⟩ := finish_ends n w ps b0 b2 hpk.rng
    have hNm : N ≤ 80000 := by
      have e1 : (2 * n + 3 * w + 1) * (w : Int) ≤ 100 * 6 := Int.mul_le_mul (by omega) (by omega) (by omega) (by omega)
      rw [hpk.len] at hN
      omega
    obtain ⟨pa, hpa⟩ : ∃ pa, ((ph0 n w).run ps).pairs = pa := ⟨_, rfl⟩
    obtain ⟨pf, hpf⟩ : ∃ pb, ((ph0 n w).steps (pickAt ps w) N).pairs = pb := ⟨_, rfl⟩
    obtain ⟨ua, hua⟩ : ∃ u, decide (((ph0 n w).run ps).left = 0) = u := ⟨_, rfl⟩
    obtain ⟨qa, hqa⟩ : ∃ q, pa.length = q := ⟨_, rfl⟩
    obtain ⟨qf, hqf⟩ : ∃ q, pf.length = q := ⟨_, rfl⟩
    have hi := run_inv (inv0 n w b0) ps hpk.rng
    have hrun := steps_run (ph0 n w) ps w m (by rw [hpk.len]; exact Nat.le_refl _)
    rw [show ps.take m = ps by rw [← hpk.len]; exact List.take_length] at hrun
    have hf := pickAt_lt b2 hpk.rng
    -- ended within the picks, or not
    have hcase : (N ≤ m ∧ ua = true ∧ pa = pf ∧ (qa : Int) = n) ∨ (m < N ∧ ua = false ∧ pa = pf.take qa ∧ qa ≤ qf) := by
      by_cases hNk : N ≤ m
      · left
        have e1 : (ph0 n w).run ps = ((ph0 n w).steps (pickAt ps w) N).run (ps.drop N) := by
          rw [steps_run (ph0 n w) ps w N (by rw [hpk.len]; exact hNk), ← run_append, List.take_append_drop]
        have hiN := (steps_inv (inv0 n w b0) hf N).1
        obtain ⟨o1, o2⟩ := run_over (ps.drop N) (fun p hp => hpk.rng p (List.mem_of_mem_drop hp)) hiN hz0
        have e2 : pa = pf := by rw [← hpa, e1, o1, hpf]
        have e3 := ended_all hiN b2 hz0
        rw [hpf, (steps_inv (inv0 n w b0) hf N).2.2] at e3
        refine ⟨hNk, by rw [← hua, e1, o2]; rfl, e2, ?_⟩
        rw [← hqa, e2, e3]
        rfl
      · right
        have hlt := hNlt m (by omega)
        rw [hrun] at hlt
        obtain ⟨d, hd⟩ : ∃ d, N = m + d := ⟨N - m, by omega⟩
        obtain ⟨tl, htl⟩ := steps_pairs ((ph0 n w).steps (pickAt ps w) m) (fun j => pickAt ps w (m + j)) d
        rw [← steps_add, ← hd, hpf, hrun, hpa] at htl
        refine ⟨by omega, by rw [← hua]; exact decide_eq_false (by omega), by rw [htl, ← hqa, List.take_left']; rfl, ?_⟩
        have := congrArg List.length htl
        rw [List.length_append, hqf, hqa] at this
        omega
    have hpre : pa = pf.take qa := by
      rcases hcase with ⟨_, _, e, _⟩ | ⟨_, _, e, _⟩
      · rw [e, ← hqa, e, List.take_length]
      · exact e
    have hle : qa ≤ qf := by
      rcases hcase with ⟨_, _, e, _⟩ | ⟨_, _, _, e⟩
      · rw [← hqa, ← hqf, e]; exact Nat.le_refl _
      · exact e
    have HS := Aside0.mk hs
    have HL := Aside0.mk hl
    have HW := Aside0.mk b2
    have HW1 := Aside0.mk (show w ≤ 64 by omega)
    have HM3 := Aside0.mk (show m ≤ 300 by omega)
    have HMM := Aside0.mk (show m ≤ 20000 by omega)
    have HPS := Aside0.mk hps
    have HPK := Aside0.mk hpk
    have HPA := Aside0.mk hpa
    have HPF := Aside0.mk hpf
    have HUA := Aside0.mk hua
    have HQA := Aside0.mk hqa
    have HQF := Aside0.mk hqf
    have HQQ := Aside0.mk (show qa ≤ 1000000 by have h1 := hi.1.two; have h2 := hi.2.1; have h3 := hpk.len; rw [hpa, hqa, h2] at h1; simp [ph0] at h1; omega)
    have HPR := Aside0.mk hpre
    have HLE := Aside0.mk hle
    have HNM := Aside0.mk hNm
    have HZ0 := Aside0.mk hz0
    have HNL := Aside0.mk hNlt
    have HZW := Aside0.mk hzw
    have HNE := Aside0.mk (not_ended hs hpk hzw)
    have d1 : decide ((300 : Int) < m) = false := decide_eq_false h300
    have d2 : decide ((qf : Int) < qa) = false := decide_eq_false (by omega)
    have d3 : decide (qf < qa) = false := decide_eq_false (by omega)
    have hm3 : (m : Int) ≤ 300 := by omega
    have hid0 := hid.1
    have hid1 := hid.2
    have hw0 : (1 : Int) ≤ w := by omega
    have hw6 : (w : Int) ≤ 6 := by omega
    clear hs hl hpk hpa hpf hua hqa hqf hi hpre h300 ht hc hn hw hps hNm hz0 hNlt hf hrun hN hle hid
    go_enter Try.func4, Try.ntmps4
    rcases hcase with ⟨g1, rfl, g3, g4⟩ | ⟨g1, rfl, g3, g4⟩
    · have d5 : decide ((N : Int) ≤ m) = true := decide_eq_true (by omega)
      have d6 : decide (N ≤ m) = true := decide_eq_true g1
      have d7 : ((qa : Int) == n) = true := beq_iff_eq.2 g4
      have d8 : ((qa : Int) != n) = false := by rw [g4]; simp
      clear g1 g3 g4
      go_wp2_with (first | (go_at_call 7; (with_reducible refine (head_calls W).mono ?_); rintro e w1 ⟨rfl, hb⟩; have B1 := Aside0.mk hb; clear hb) | (go_at_call 8; (with_reducible refine (sizesM HS.out _).mono ?_); rintro e w1 ⟨rfl, rfl⟩) | (go_at_call 10; (with_reducible refine (picksM A cc m l w _ (HL.out.below B1.out) HW.out HW1.out HM3.out).mono ?_); rintro e w2 ⟨A2, c2, rfl, hc2, hC2, hb2⟩; have HC2 := Aside0.mk hC2; have B2 := Aside0.mk hb2; clear hC2 hb2) | (go_at_call 11; (with_reducible refine (runM HS.out HPK.out HMM.out A2 c2 w2 _ (by rw [← HPS.out]; exact HC2.out) (Below.refl _ _) HPA.out HQA.out HUA.out).mono ?_); rintro e w3 ⟨A3, k3, rfl, hk3, hC3, hb3⟩; have HC3 := Aside0.mk hC3; have B3 := Aside0.mk hb3; clear hC3 hb3) | (go_at_call 9; (with_reducible refine (finM HS.out HPK.out HMM.out A2 c2 w2 _ (by rw [← HPS.out]; exact HC2.out) B3.out HPF.out HQF.out HNM.out HZ0.out HNL.out).mono ?_); rintro e w4 ⟨A4, k4, rfl, hk4, hC4, hb4⟩; have HC4 := Aside0.mk hC4; have B4 := Aside0.mk hb4; have hq4 := Nat.le_trans HLE.out hk4; clear hC4 hb4) | (go_at_call 12; (with_reducible refine (sameM A3 A4 k3 k4 qa pa w3 w4 _ HQA.out HQQ.out HC3.out B4.out (by rw [HPR.out]; exact C_take HC4.out HLE.out) (Below.refl _ _)).mono ?_); rintro e w5 ⟨rfl, hb5⟩; have B5 := Aside0.mk hb5; clear hb5))
      have B0 := Aside0.mk (Below.then B1.out (Below.then B2.out (Below.then B3.out (Below.then B4.out B5.out))))
      have HC2' := Aside0.mk (show Kd.C (Kd.int .i64) w5 A2 m ps by rw [← HPS.out]; exact Kd.C_below HC2.out (Below.then B3.out (Below.then B4.out B5.out)))
      clear HC2 HC3 HC4 B1 B2 B3 B4 B5
      go_loopw [17, 18] (fun v5 v6 w' => ∃ k : Nat, k ≤ m ∧ v6 = .int .i64 k ∧ Aside0 (Kd.R (Kd.int .i64) 3 w' w5.heap.size (fun _ => True) v5 (others (ps.take k) z)) ∧ Aside0 (Below w5.heap.size w5 w')) (fun _ i _ => m - (intOf i).toNat)
      case atStart => exact ⟨0, Nat.zero_le _, rfl, ⟨by simpa [others] using Kd.R_nil _ _ _ _ _⟩, ⟨Below.refl _ _⟩⟩
      case round =>
        obtain ⟨k, hk, rfl, HO, HB⟩ := hrel
        by_cases hlt : k < m
        · have hkl : k < ps.length := by rw [HPK.out.len]; exact hlt
          obtain ⟨ad, e2, hc⟩ := row_int (by rw [HPK.out.len]; exact Kd.C_below HC2'.out HB.out) k hkl
          cases e2
          obtain ⟨x0, x1⟩ := HPK.out.rng ps[k] (List.getElem_mem hkl)
          have HT := Aside0.mk (others_succ ps z k hkl)
          have HLN := Aside0.mk (show (others (ps.take k) z).length ≤ 300 by have := others_len (ps.take k) z; rw [List.length_take] at this; have := HM3.out; omega)
          obtain ⟨x, hx⟩ : ∃ x, ps[k] = x := ⟨_, rfl⟩
          rw [hx] at hc x0 x1 HT
          clear hx hkl
          by_cases hxz : x = (z : Int)
          · have dx : (x == (z : Int)) = true := beq_iff_eq.2 hxz
            have dx2 : (x != (z : Int)) = false := by rw [hxz]; simp
            have HT2 := Aside0.mk (HT.out.trans (if_pos hxz))
            clear hxz HT
            go_wp2_with (fail)
            go_quiet (fail)
            go_wp2_with (fail)
            go_roundw
            case rel => exact ⟨k + 1, by omega, by go_num, ⟨by rw [HT2.out]; exact Kd.R_below HO.out (pw_below_drewN (Below.refl _ _) _)⟩, ⟨pw_below_drewN HB.out _⟩⟩
            case measure => simp [intOf]; omega
          · have dx : (x == (z : Int)) = false := beq_eq_false_iff_ne.2 hxz
            have dx2 : (x != (z : Int)) = true := bne_iff_ne.2 hxz
            have HT2 := Aside0.mk (HT.out.trans (if_neg hxz))
            clear hxz HT
            go_wp2_with (fail)
            go_quiet (fail)
            go_wp2_with (first | ((with_reducible refine gate_builtin (b := .append) (xs := #[.tmp 95, .tmp 100]) rfl ?_); at_builtin; refine Kd.R_append (Kd.int .i64) (w0 := w5) w5.heap.size rfl (.tmp 95) (.tmp 100) 29 3 (.int .i64 0) 8 rfl Try.underlying29 info3 rfl (by decide) (by omega) u17 (others (ps.take k) z) x [.int .i64 x] (fun _ => True) (fun _ => False) rfl rfl ?aP (fun _ hk => hk.elim) ?aF (Kd.R_below HO.out (pw_below_drewN (Below.refl _ _) _)) ?aB ?aS ?aL ?_; (case aP => exact rfl); (case aF => exact (fun _ _ => trivial)); (case aB => exact pw_below_drewN HB.out _); (case aS => exact (pw_below_drewN HB.out _).size); (case aL => (have := HLN.out; omega)); intro v1 w1 ho hb hg hat; have HO1 := Aside0.mk ho; have HB1 := Aside0.mk hb; clear ho hb hg hat))
            go_roundw
            case rel => exact ⟨k + 1, by omega, by go_num, ⟨by rw [HT2.out]; exact HO1.out⟩, HB1⟩
            case measure => simp [intOf]; omega
        · obtain rfl : k = m := by omega
          have HO2 := Aside0.mk (show Kd.R (Kd.int .i64) 3 wr w5.heap.size (fun _ => True) u17 (others ps z) by have := HO.out; rwa [show ps.take k = ps by rw [← HPK.out.len]; exact List.take_length] at this)
          obtain ⟨A6, c6, hv6, _, hC6⟩ := Kd.R_reads HO2.out
          have HC6 := Aside0.mk hC6
          have HPO := Aside0.mk (show Pk (others ps z) (others ps z).length w from ⟨rfl, fun p hp => HPK.out.rng p ((List.mem_filter.1 hp).1)⟩)
          have HLO := Aside0.mk (show (others ps z).length ≤ 20000 by have := others_len ps z; have h2 := HPK.out.len; have := HMM.out; omega)
          subst hv6
          clear HO HO2 hC6
          go_wp2_with (first | (go_at_call 11; (with_reducible refine (runM HS.out HPO.out HLO.out A6 c6 wr _ HC6.out (Below.refl _ _) rfl rfl HNE.out).mono ?_); rintro e w7 ⟨A7, k7, rfl, hk7, _, hb7⟩; have B7 := Aside0.mk hb7; clear hb7))
          go_ret
          exact ⟨rfl, Below.then B0.out (Below.then HB.out B7.out)⟩
    · have d5 : decide ((N : Int) ≤ m) = false := decide_eq_false (by omega)
      have d6 : decide (N ≤ m) = false := decide_eq_false (by omega)
      clear g1 g3 g4
      go_wp2_with (first | (go_at_call 7; (with_reducible refine (head_calls W).mono ?_); rintro e w1 ⟨rfl, hb⟩; have B1 := Aside0.mk hb; clear hb) | (go_at_call 8; (with_reducible refine (sizesM HS.out _).mono ?_); rintro e w1 ⟨rfl, rfl⟩) | (go_at_call 10; (with_reducible refine (picksM A cc m l w _ (HL.out.below B1.out) HW.out HW1.out HM3.out).mono ?_); rintro e w2 ⟨A2, c2, rfl, hc2, hC2, hb2⟩; have HC2 := Aside0.mk hC2; have B2 := Aside0.mk hb2; clear hC2 hb2) | (go_at_call 11; (with_reducible refine (runM HS.out HPK.out HMM.out A2 c2 w2 _ (by rw [← HPS.out]; exact HC2.out) (Below.refl _ _) HPA.out HQA.out HUA.out).mono ?_); rintro e w3 ⟨A3, k3, rfl, hk3, hC3, hb3⟩; have HC3 := Aside0.mk hC3; have B3 := Aside0.mk hb3; clear hC3 hb3) | (go_at_call 9; (with_reducible refine (finM HS.out HPK.out HMM.out A2 c2 w2 _ (by rw [← HPS.out]; exact HC2.out) B3.out HPF.out HQF.out HNM.out HZ0.out HNL.out).mono ?_); rintro e w4 ⟨A4, k4, rfl, hk4, hC4, hb4⟩; have HC4 := Aside0.mk hC4; have B4 := Aside0.mk hb4; have hq4 := Nat.le_trans HLE.out hk4; clear hC4 hb4) | (go_at_call 12; (with_reducible refine (sameM A3 A4 k3 k4 qa pa w3 w4 _ HQA.out HQQ.out HC3.out B4.out (by rw [HPR.out]; exact C_take HC4.out HLE.out) (Below.refl _ _)).mono ?_); rintro e w5 ⟨rfl, hb5⟩; have B5 := Aside0.mk hb5; clear hb5))
      have B0 := Aside0.mk (Below.then B1.out (Below.then B2.out (Below.then B3.out (Below.then B4.out B5.out))))
      have HC2' := Aside0.mk (show Kd.C (Kd.int .i64) w5 A2 m ps by rw [← HPS.out]; exact Kd.C_below HC2.out (Below.then B3.out (Below.then B4.out B5.out)))
      clear HC2 HC3 HC4 B1 B2 B3 B4 B5
      go_loopw [17, 18] (fun v5 v6 w' => ∃ k : Nat, k ≤ m ∧ v6 = .int .i64 k ∧ Aside0 (Kd.R (Kd.int .i64) 3 w' w5.heap.size (fun _ => True) v5 (others (ps.take k) z)) ∧ Aside0 (Below w5.heap.size w5 w')) (fun _ i _ => m - (intOf i).toNat)
      case atStart => exact ⟨0, Nat.zero_le _, rfl, ⟨by simpa [others] using Kd.R_nil _ _ _ _ _⟩, ⟨Below.refl _ _⟩⟩
      case round =>
        obtain ⟨k, hk, rfl, HO, HB⟩ := hrel
        by_cases hlt : k < m
        · have hkl : k < ps.length := by rw [HPK.out.len]; exact hlt
          obtain ⟨ad, e2, hc⟩ := row_int (by rw [HPK.out.len]; exact Kd.C_below HC2'.out HB.out) k hkl
          cases e2
          obtain ⟨x0, x1⟩ := HPK.out.rng ps[k] (List.getElem_mem hkl)
          have HT := Aside0.mk (others_succ ps z k hkl)
          have HLN := Aside0.mk (show (others (ps.take k) z).length ≤ 300 by have := others_len (ps.take k) z; rw [List.length_take] at this; have := HM3.out; omega)
          obtain ⟨x, hx⟩ : ∃ x, ps[k] = x := ⟨_, rfl⟩
          rw [hx] at hc x0 x1 HT
          clear hx hkl
          by_cases hxz : x = (z : Int)
          · have dx : (x == (z : Int)) = true := beq_iff_eq.2 hxz
            have dx2 : (x != (z : Int)) = false := by rw [hxz]; simp
            have HT2 := Aside0.mk (HT.out.trans (if_pos hxz))
            clear hxz HT
            go_wp2_with (fail)
            go_quiet (fail)
            go_wp2_with (fail)
            go_roundw
            case rel => exact ⟨k + 1, by omega, by go_num, ⟨by rw [HT2.out]; exact Kd.R_below HO.out (pw_below_drewN (Below.refl _ _) _)⟩, ⟨pw_below_drewN HB.out _⟩⟩
            case measure => simp [intOf]; omega
          · have dx : (x == (z : Int)) = false := beq_eq_false_iff_ne.2 hxz
            have dx2 : (x != (z : Int)) = true := bne_iff_ne.2 hxz
            have HT2 := Aside0.mk (HT.out.trans (if_neg hxz))
            clear hxz HT
            go_wp2_with (fail)
            go_quiet (fail)
            go_wp2_with (first | ((with_reducible refine gate_builtin (b := .append) (xs := #[.tmp 95, .tmp 100]) rfl ?_); at_builtin; refine Kd.R_append (Kd.int .i64) (w0 := w5) w5.heap.size rfl (.tmp 95) (.tmp 100) 29 3 (.int .i64 0) 8 rfl Try.underlying29 info3 rfl (by decide) (by omega) u17 (others (ps.take k) z) x [.int .i64 x] (fun _ => True) (fun _ => False) rfl rfl ?aP (fun _ hk => hk.elim) ?aF (Kd.R_below HO.out (pw_below_drewN (Below.refl _ _) _)) ?aB ?aS ?aL ?_; (case aP => exact rfl); (case aF => exact (fun _ _ => trivial)); (case aB => exact pw_below_drewN HB.out _); (case aS => exact (pw_below_drewN HB.out _).size); (case aL => (have := HLN.out; omega)); intro v1 w1 ho hb hg hat; have HO1 := Aside0.mk ho; have HB1 := Aside0.mk hb; clear ho hb hg hat))
            go_roundw
            case rel => exact ⟨k + 1, by omega, by go_num, ⟨by rw [HT2.out]; exact HO1.out⟩, HB1⟩
            case measure => simp [intOf]; omega
        · obtain rfl : k = m := by omega
          have HO2 := Aside0.mk (show Kd.R (Kd.int .i64) 3 wr w5.heap.size (fun _ => True) u17 (others ps z) by have := HO.out; rwa [show ps.take k = ps by rw [← HPK.out.len]; exact List.take_length] at this)
          obtain ⟨A6, c6, hv6, _, hC6⟩ := Kd.R_reads HO2.out
          have HC6 := Aside0.mk hC6
          have HPO := Aside0.mk (show Pk (others ps z) (others ps z).length w from ⟨rfl, fun p hp => HPK.out.rng p ((List.mem_filter.1 hp).1)⟩)
          have HLO := Aside0.mk (show (others ps z).length ≤ 20000 by have := others_len ps z; have h2 := HPK.out.len; have := HMM.out; omega)
          subst hv6
          clear HO HO2 hC6
          go_wp2_with (first | (go_at_call 11; (with_reducible refine (runM HS.out HPO.out HLO.out A6 c6 wr _ HC6.out (Below.refl _ _) rfl rfl HNE.out).mono ?_); rintro e w7 ⟨A7, k7, rfl, hk7, _, hb7⟩; have B7 := Aside0.mk hb7; clear hb7))
          go_ret
          exact ⟨rfl, Below.then B0.out (Below.then HB.out B7.out)⟩
end Go.Proofs.Ytjheocofbfmopaa.Hand
