/- ropeladderlaw01.ShmemMatchesReference at sizes of which one is invalid; the argument is a row of Raw. -/
import Derived.Test.YtfkoehokjpcogaaShMatA
namespace Go.Proofs.Ytfkoehokjpcogaa.Hand
open Go.RowKit Go.Proofs.YtfkoehokjpcogaaW.PrintWords Go.Proofs.YtfkoehokjpcogaaW.PrintLast Go.Proofs.YtfkoehokjpcogaaW.PrintMore
set_option linter.unusedVariables false
set_option linter.unusedSimpArgs false
attribute [local go_sem] max2_int min2_int max_two min_two max_three min_three max_four min_four

set_option maxHeartbeats 16000000 in
set_option maxRecDepth 100000 in
theorem match_no (A : Option Addr) (n c : Nat) (l : List Raw) (a b : Int) (W : World) (h : IsRaws W A n l) (h200 : ¬ (200 : Int) < n) (hab : ¬ ((0 ≤ a ∧ a ≤ 256) ∧ (0 ≤ b ∧ b ≤ 256))) :
    Calls Try.prog 3 #[.int .i64 a, .int .i64 b, .slice A n c] W fun e w' => e = .returned (.bool true) ∧ Below W.heap.size W w' := by
  have HR := Aside0.mk h
  have hn := h.max
  clear h
  have d1 : decide ((200 : Int) < n) = false := decide_eq_false h200
  go_enter Try.func3, Try.ntmps3
  go_wp2_with (first | (go_at_call 9; (with_reducible refine (head_calls W).mono ?_); rintro e w1 ⟨rfl, hb⟩; have B1 := Aside0.mk hb; clear hb) | (go_at_call 10; (with_reducible refine (new_nil a b _ hab).mono ?_); rintro e w2 ⟨rfl, rfl⟩) | (go_at_call 11; (with_reducible refine (refNew_no a b _ hab).mono ?_); rintro e w3 ⟨rfl, rfl⟩) | (go_at_call 10; (with_reducible refine (new44 _).mono ?_); rintro e w4 ⟨g, gw, gm, rfl, hi, hb⟩; have H4 := Aside0.mk (show Is w4 W.heap.size g gw gm (sz 4 4) from hi.lower B1.out.size); have B4 := Aside0.mk (Below.trans B1.out (hb.mono B1.out.size)); clear hi hb B1) | (go_at_call 11; (with_reducible refine (refNew44 H4.out).mono ?_); rintro e w5 ⟨rb, rw, rm, rfl, hj, hb⟩; have HJ0 := Aside0.mk hj; have B5 := Aside0.mk (Below.trans B4.out (hb.mono B4.out.size)); clear hj hb B4 H4))
  go_loopw [10] (fun i w' => ∃ k : Nat, k ≤ n ∧ i = .int .i64 k ∧ ∃ s, Aside0 (s = (sz 4 4).runs (l.take k)) ∧ Aside0 (Jt w' W.heap.size g gw gm rb rw rm s s) ∧ Aside0 (Below W.heap.size W w')) (fun i _ => n - (intOf i).toNat)
  case atStart => exact ⟨0, Nat.zero_le _, rfl, _, ⟨rfl⟩, HJ0, B5⟩
  case round =>
    clear HJ0 B5 d1
    obtain ⟨k, hk, rfl, s, HS, HJ, HB⟩ := hrel
    have hin := runs_in l k (by rw [HR.out.len]; exact hk)
    have hsok := runs_ok l (fun k h => HR.out.ok k h) k (by rw [HR.out.len]; exact hk)
    rw [← HS.out] at hin hsok
    have HF := Aside0.mk (hin.fit (by omega))
    have HIN := Aside0.mk hin
    have HSOK := Aside0.mk hsok
    clear hin hsok
    by_cases hlt : k < n
    · obtain ⟨ad, e2, hadl, hcl⟩ := HR.out.cell k (by rw [HR.out.len]; exact hlt)
      cases e2
      have hok := HR.out.ok k (by rw [HR.out.len]; exact hlt)
      obtain ⟨r, hr⟩ : ∃ r, l[k]'(by rw [HR.out.len]; exact hlt) = r := ⟨_, rfl⟩
      rw [hr] at hcl hok
      have HRE := Aside0.mk hr
      clear hr
      obtain ⟨⟨kd, th, ix, a, b⟩, ho⟩ : ∃ o, opOf r = o := ⟨_, rfl⟩
      have hrg := opOf_range hok ho
      simp only at hrg
      obtain ⟨k1, k7, t0, t3, x0, x4⟩ := hrg
      obtain ⟨⟨s', m, ok⟩, hrun⟩ : ∃ z, s.run1 ⟨kd, th, ix, a, b⟩ = z := ⟨_, rfl⟩
      have HOK := Aside0.mk hok
      have HO := Aside0.mk ho
      have HRUN := Aside0.mk hrun
      obtain ⟨q0, q1, q2, q3, q4⟩ := raw_cells (w := wr) (ad := ad) (k := k) (r := r) (fun j u hu => (cell_add HB.out hadl).trans (hcl j u hu))
      clear hok ho hrun hcl hadl
      have HSN := Aside0.mk (show s' = (sz 4 4).runs (l.take (k + 1)) by rw [runs_succ _ _ _ (by rw [HR.out.len]; exact hlt), ← HS.out, HRE.out, HO.out, HRUN.out])
      go_wp2_with (first | (go_at_call 12; (with_reducible refine (op_calls' r _ _ HOK.out HO.out).mono ?_); rintro e w3 ⟨rfl, hb⟩; have B3 := Aside0.mk hb; clear hb) | (go_at_call 13; (with_reducible refine (do_calls' (Is.left HJ.out.is (below_alloc B3.out (.cells #[.int .i64 kd, .int .i64 th, .int .i64 ix, .int .i64 a, .int .i64 b] 29))).is HF.out kd th ix a b HRUN.out).mono ?_); rintro e w4 ⟨rfl, hl⟩; have HJ4 := Aside0.mk ((HJ.out.below (below_alloc B3.out (.cells #[.int .i64 kd, .int .i64 th, .int .i64 ix, .int .i64 a, .int .i64 b] 29))).m hl); have HB4 := Aside0.mk (HB.out.trans (((below_alloc B3.out (.cells #[.int .i64 kd, .int .i64 th, .int .i64 ix, .int .i64 a, .int .i64 b] 29)).mono HB.out.size).trans hl.bl)); have o0 := Left.newCells HJ.out.is B3.out hl 0 _ rfl; have o1 := Left.newCells HJ.out.is B3.out hl 1 _ rfl; have o2 := Left.newCells HJ.out.is B3.out hl 2 _ rfl; have o3 := Left.newCells HJ.out.is B3.out hl 3 _ rfl; have o4 := Left.newCells HJ.out.is B3.out hl 4 _ rfl; clear hl) | (go_at_call 14; (with_reducible refine (refDo HJ4.out.rf HIN.out (by omega) HSOK.out kd th ix a b k1 k7 t0 HRUN.out).mono ?_); rintro e w5 ⟨rfl, hl⟩; have HJ5 := Aside0.mk (HJ4.out.r hl); have HB5 := Aside0.mk (HB4.out.trans hl.bl); clear hl))
      go_roundw
      case rel => exact ⟨k + 1, by omega, by go_num, s', HSN, HJ5, HB5⟩
      case measure => simp [intOf]; omega
    · obtain rfl : k = n := by omega
      clear HS hk
      go_wp2_with (fail)
      go_loopw [16] (fun i w' => ∃ k : Nat, k ≤ 4 ∧ i = .int .i64 k ∧ ∃ nd, w' = wr.drewN nd) (fun i _ => 4 - (intOf i).toNat)
      case atStart => exact ⟨0, by omega, rfl, 0, rfl⟩
      case round =>
        obtain ⟨k3, hk3, rfl, nd, rfl⟩ := hrel
        by_cases hlt3 : k3 < 4
        · obtain ⟨cw, cm, v, u, e0, e1, e2, e3, e4, e5⟩ := HJ.out.reads HIN.out k3 hlt3
          have ew := Aside0.mk e4
          have eh := Aside0.mk e5
          clear e4 e5
          go_wp2_with (fail)
          go_quiet (first | ((go_at_call 15; exact quiet_add_same (word_calls' HJ.out.is HF.out k3 ew.out _))) | ((go_at_call 16; exact quiet_add_same (holder_calls' HJ.out.is HF.out k3 eh.out _))))
          go_wp2_with (fail)
          go_roundw
          case rel => exact ⟨k3 + 1, by omega, by go_num, _, rfl⟩
          case measure => simp [intOf]; omega
        · obtain rfl : k3 = 4 := by omega
          have ev1 := Aside0.mk (show s.word (-1) = 0 by unfold St.word; rw [if_neg (by unfold inL; omega)])
          have ev2 := Aside0.mk (show s.word 4 = 0 by unfold St.word; rw [if_neg (by rw [inL, HIN.out.w]; omega)])
          have ev3 := Aside0.mk (show s.holder 4 = -1 by unfold St.holder; rw [if_neg (by rw [inL, HIN.out.m]; omega)])
          obtain ⟨wq, hwq⟩ : ∃ wq, wr.drewN nd = wq := ⟨_, rfl⟩
          have HJQ := Aside0.mk (show Jt wq W.heap.size g gw gm rb rw rm s s by rw [← hwq]; exact HJ.out.below (pw_below_drewN (Below.refl _ _) _))
          have HBQ := Aside0.mk (show Below W.heap.size W wq by rw [← hwq]; exact pw_below_drewN HB.out _)
          rw [hwq]
          clear hwq HJ HB
          obtain ⟨A1, c1, e2, e3, hC1, hlt1, hC2⟩ := HJQ.out.log
          have HC2 := Aside0.mk hC2
          have HLG := Aside0.mk (show s.log.length ≤ 1000000 by have := HIN.out.l; omega)
          clear hC1 hC2 hlt3 hk3
          go_wp2_with (fail)
          go_region_with (first | (go_at_call 18; (with_reducible refine (logJ (HJQ.out.below (below_drew1 (Below.refl _ _))) HF.out).mono ?_); rintro e w6 ⟨A5, c5, rfl, hC5, hj6, hb6⟩; have HJ6 := Aside0.mk hj6; have HB6 := Aside0.mk (HBQ.out.trans ((below_ofDrew hb6).mono HBQ.out.size)); have HC5 := Aside0.mk hC5; have HC6 := Aside0.mk (HC2.out w6 (below_ofDrew hb6)); have e26 := ((below_ofDrew hb6).cell (p := ⟨rb, 2, none⟩) hlt1).trans e2; have e36 := ((below_ofDrew hb6).cell (p := ⟨rb, 3, none⟩) hlt1).trans e3; clear hC5 hj6 hb6) | (go_at_call 17; (with_reducible refine (same_calls A5 A1 c5 c1 s.log w6 HLG.out HC5.out HC6.out).mono ?_); rintro e w7 ⟨rfl, n7, rfl⟩) | (go_at_call 19; (with_reducible refine (viol_callsN HJ6.out.is HF.out n7).mono ?_); rintro e wx ⟨rfl, rfl⟩) | (go_at_call 15; (with_reducible refine (word_calls' HJ6.out.is HF.out (-1) ev1.out n7).mono ?_); rintro e wx ⟨rfl, rfl⟩) | (go_at_call 15; (with_reducible refine (word_calls' HJ6.out.is HF.out 4 ev2.out n7).mono ?_); rintro e wx ⟨rfl, rfl⟩) | (go_at_call 16; (with_reducible refine (holder_calls' HJ6.out.is HF.out 4 ev3.out n7).mono ?_); rintro e wx ⟨rfl, rfl⟩))
          all_goals go_wp2_with (fail)
          all_goals go_ret
          all_goals exact ⟨rfl, pw_below_drewN HB6.out _⟩
end Go.Proofs.Ytfkoehokjpcogaa.Hand
