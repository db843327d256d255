/- ropeladderlaw24.WorkersPrefix computes true; the arguments are bytes and a row of bytes. -/
import Derived.Test.YtjheocofbfmopaaWkX
namespace Go.Proofs.Ytjheocofbfmopaa.Hand
open Go.RowKit Go.Proofs.YtjheocofbfmopaaW.PrintWords Go.Proofs.YtjheocofbfmopaaW.PrintLast Go.Proofs.YtjheocofbfmopaaW.PrintMore
set_option linter.unusedVariables false
set_option linter.unusedSimpArgs false
attribute [local go_sem] max2_int min2_int max_two min_two max_three min_three max_four min_four

theorem IsBytes.below {W w : World} {A : Option Addr} {m : Nat} {l : List Int} (h : IsBytes W A m l) (hb : Below W.heap.size W w) : IsBytes w A m l :=
  ⟨h.len, h.max, fun k hk => by
    obtain ⟨ad, e, h1, h2⟩ := h.cell k hk
    exact ⟨ad, e, Nat.lt_of_lt_of_le h1 hb.size, (hb.cell (p := ad.add k) (by rw [add_block]; exact h1)).trans h2⟩, h.rng⟩
set_option maxHeartbeats 4000000 in
theorem prefix_long (t c : Int) (A : Option Addr) (m cc : Nat) (at_ : Int) (W : World) (h300 : (300 : Int) < m) (hm : m ≤ 140737488351232) :
    Calls Try.prog 5 #[.int .u8 t, .int .u8 c, .slice A m cc, .int .u16 at_] W fun e w' => e = .returned (.bool true) ∧ Below W.heap.size W w' := by
  have d1 : decide ((300 : Int) < m) = true := decide_eq_true h300
  go_enter Try.func5, Try.ntmps5
  go_wp2_with (first | (go_at_call 7; (with_reducible refine (head_calls W).mono ?_); rintro e w1 ⟨rfl, hb⟩; have B1 := Aside0.mk hb; clear hb))
  go_ret
  exact ⟨rfl, B1.out⟩
set_option maxHeartbeats 8000000 in
set_option maxRecDepth 100000 in
theorem prefix_walk (t c : Int) (A : Option Addr) (m cc : Nat) (l : List Int) (at_ : Int) (W : World) (ht : 0 ≤ t ∧ t ≤ 255) (hc : 0 ≤ c ∧ c ≤ 255) (hl : IsBytes W A m l) (ha : 0 ≤ at_ ∧ at_ ≤ 65535) :
    Calls Try.prog 5 #[.int .u8 t, .int .u8 c, .slice A m cc, .int .u16 at_] W fun e w' => e = .returned (.bool true) ∧ Below W.heap.size W w' := by
  by_cases h300 : (300 : Int) < m
  · exact prefix_long t c A m cc at_ W h300 hl.max
  · obtain ⟨n, hn⟩ : ∃ n, n = t % 10 := ⟨_, rfl⟩
    obtain ⟨w, hw⟩ : ∃ w : Nat, (w : Int) = c % 6 + 1 := ⟨(c % 6 + 1).toNat, by omega⟩
    have hs : Sz t c n w := ⟨ht.1, ht.2, hc.1, hc.2, hn, hw⟩
    obtain ⟨b0, b1, b2, b3⟩ := hs.bd
    have hpk := pk_map hl b2
    obtain ⟨ps, hps⟩ : ∃ ps, l.map (· % (w : Int)) = ps := ⟨_, rfl⟩
    rw [hps] at hpk
    obtain ⟨kk, hkk⟩ : ∃ kk : Nat, at_ % ((m : Int) + 1) = kk := ⟨(at_ % ((m : Int) + 1)).toNat, by have := Int.emod_nonneg at_ (show (m : Int) + 1 ≠ 0 by omega); omega⟩
    have hkm : kk ≤ m := by have := Int.emod_lt_of_pos at_ (show (0 : Int) < (m : Int) + 1 by omega); omega
    obtain ⟨pa, hpa⟩ : ∃ pa, ((ph0 n w).run ps).pairs = pa := ⟨_, rfl⟩
    obtain ⟨pb, hpb⟩ : ∃ pb, ((ph0 n w).run (ps.take kk)).pairs = pb := ⟨_, rfl⟩
    obtain ⟨ua, hua⟩ : ∃ u, decide (((ph0 n w).run ps).left = 0) = u := ⟨_, rfl⟩
    obtain ⟨ub, hub⟩ : ∃ u, decide (((ph0 n w).run (ps.take kk)).left = 0) = u := ⟨_, rfl⟩
    obtain ⟨qa, hqa⟩ : ∃ q, pa.length = q := ⟨_, rfl⟩
    obtain ⟨qb, hqb⟩ : ∃ q, pb.length = q := ⟨_, rfl⟩
    have hi := run_inv (inv0 n w b0) (ps.take kk) (hpk.take hkm).rng
    have htwo : 2 * qb ≤ kk := by
      have h1 := hi.1.two
      have h2 := hi.2.1
      rw [hpb, hqb, h2, (hpk.take hkm).len] at h1
      simp [ph0] at h1
      omega
    have hpre : pb = pa.take qb := by
      obtain ⟨tl, htl⟩ := run_pairs (ps.drop kk) ((ph0 n w).run (ps.take kk))
      rw [← run_append, List.take_append_drop, hpa, hpb] at htl
      rw [htl, ← hqb, List.take_left']
      rfl
    have hle : qb ≤ qa := by
      have := congrArg List.length hpre
      rw [List.length_take, hqb, hqa] at this
      omega
    have HS := Aside0.mk hs
    have HL := Aside0.mk hl
    have HW := Aside0.mk b2
    have HW1 := Aside0.mk (show w ≤ 64 by omega)
    have HM3 := Aside0.mk (show m ≤ 300 by omega)
    have HMM := Aside0.mk (show m ≤ 20000 by omega)
    have HKM := Aside0.mk (show kk ≤ 20000 by omega)
    have HPS := Aside0.mk hps
    have HPK := Aside0.mk hpk
    have HPT := Aside0.mk (hpk.take hkm)
    have HKL := Aside0.mk hkm
    have HPA := Aside0.mk hpa
    have HPB := Aside0.mk hpb
    have HUA := Aside0.mk hua
    have HUB := Aside0.mk hub
    have HQA := Aside0.mk hqa
    have HQB := Aside0.mk hqb
    have HQQ := Aside0.mk (show qb ≤ 1000000 by omega)
    have HPR := Aside0.mk hpre
    have HLE := Aside0.mk hle
    have d1 : decide ((300 : Int) < m) = false := decide_eq_false h300
    have d2 : decide ((qa : Int) < qb) = false := decide_eq_false (by omega)
    have d3 : decide (qa < qb) = false := decide_eq_false (by omega)
    have d4 : decide (2 * (qb : Int) ≤ kk) = true := decide_eq_true (by omega)
    have hm3 : (m : Int) ≤ 300 := by omega
    obtain ⟨ha0, ha1⟩ := ha
    clear hs hl hpk hpa hpb hua hub hqa hqb hi hpre h300 ht hc hn hw hps
    go_enter Try.func5, Try.ntmps5
    go_wp2_with (first | (go_at_call 7; (with_reducible refine (head_calls W).mono ?_); rintro e w1 ⟨rfl, hb⟩; have B1 := Aside0.mk hb; clear hb) | (go_at_call 8; (with_reducible refine (sizesM HS.out _).mono ?_); rintro e w1 ⟨rfl, rfl⟩) | (go_at_call 10; (with_reducible refine (picksM A cc m l w _ (HL.out.below B1.out) HW.out HW1.out HM3.out).mono ?_); rintro e w2 ⟨A2, c2, rfl, hc2, hC2, hb2⟩; have HC2 := Aside0.mk hC2; have B2 := Aside0.mk hb2; clear hC2 hb2) | (go_at_call 11; (with_reducible refine (runM HS.out HPK.out HMM.out A2 c2 w2 _ (by rw [← HPS.out]; exact HC2.out) (Below.refl _ _) HPA.out HQA.out HUA.out).mono ?_); rintro e w3 ⟨A3, k3, rfl, hk3, hC3, hb3⟩; have HC3 := Aside0.mk hC3; have B3 := Aside0.mk hb3; have hq3 := Nat.le_trans HLE.out hk3; clear hC3 hb3) | (go_at_call 11; (with_reducible refine (runM HS.out HPT.out HKM.out A2 c2 w2 _ (by rw [← HPS.out]; exact C_take HC2.out HKL.out) B3.out HPB.out HQB.out HUB.out).mono ?_); rintro e w4 ⟨A4, k4, rfl, hk4, hC4, hb4⟩; have HC4 := Aside0.mk hC4; have B4 := Aside0.mk hb4; clear hC4 hb4) | (go_at_call 12; (with_reducible refine (sameM A4 A3 k4 k3 qb pb w4 w3 _ HQB.out HQQ.out HC4.out (Below.refl _ _) (by rw [HPR.out]; exact C_take HC3.out HLE.out) B4.out).mono ?_); rintro e w5 ⟨rfl, hb5⟩; have B5 := Aside0.mk hb5; clear hb5))
    go_ret
    exact ⟨rfl, Below.then B1.out (Below.then B2.out (Below.then B3.out (Below.then B4.out B5.out)))⟩
end Go.Proofs.Ytjheocofbfmopaa.Hand
