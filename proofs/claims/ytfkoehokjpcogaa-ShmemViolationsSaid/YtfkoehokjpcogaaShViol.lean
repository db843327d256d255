/- ropeladderlaw01.ShmemViolations computes true; the argument is a row of Raw. -/
import Derived.Test.YtfkoehokjpcogaaShRun
namespace Go.Proofs.Ytfkoehokjpcogaa.Hand
open Go.RowKit Go.Proofs.YtfkoehokjpcogaaW.PrintWords Go.Proofs.YtfkoehokjpcogaaW.PrintLast Go.Proofs.YtfkoehokjpcogaaW.PrintMore
set_option linter.unusedVariables false
attribute [local go_sem] max2_int min2_int max_two min_two max_three min_three max_four min_four

set_option maxHeartbeats 16000000 in
set_option maxRecDepth 100000 in
theorem viol_walk (A : Option Addr) (n c : Nat) (l : List Raw) (W : World) (h : IsRaws W A n l) :
    Calls Try.prog 7 #[.slice A n c] W fun e w' => e = .returned (.bool true) ∧ Below W.heap.size W w' := by
  have HR := Aside0.mk h
  have hn := h.max
  clear h
  by_cases h200 : (200 : Int) < n
  · have d1 : decide ((200 : Int) < n) = true := decide_eq_true h200
    go_enter Try.func7, Try.ntmps7
    go_wp2_with (first | (go_at_call 9; (with_reducible refine (head_calls W).mono ?_); rintro e w1 ⟨rfl, hb⟩; have B1 := Aside0.mk hb; clear hb) | (go_at_call 10; (with_reducible refine (new44 _).mono ?_); rintro e w2 ⟨g, gw, gm, rfl, hi, hb⟩; have H2 := Aside0.mk (hi.lower B1.out.size); have B2 := Aside0.mk (Below.trans B1.out (hb.mono B1.out.size)); clear hi hb B1))
    go_ret
    exact ⟨rfl, B2.out⟩
  · have d1 : decide ((200 : Int) < n) = false := decide_eq_false h200
    go_enter Try.func7, Try.ntmps7
    go_wp2_with (first | (go_at_call 9; (with_reducible refine (head_calls W).mono ?_); rintro e w1 ⟨rfl, hb⟩; have B1 := Aside0.mk hb; clear hb) | (go_at_call 10; (with_reducible refine (new44 _).mono ?_); rintro e w2 ⟨g, gw, gm, rfl, hi, hb⟩; have H2 := Aside0.mk (hi.lower B1.out.size); have B2 := Aside0.mk (Below.trans B1.out (hb.mono B1.out.size)); clear hi hb B1))
    go_loopw [5, 6, 7] (fun bad logged i w' => ∃ k : Nat, k ≤ n ∧ i = .int .i64 k ∧ ∃ s, bad = .int .i64 s.V ∧ logged = .int .i64 (s.log.length : Nat) ∧ Aside0 (s = (sz 4 4).runs (l.take k)) ∧
      Aside0 (Is w' W.heap.size g gw gm s) ∧ Aside0 (Below W.heap.size W w')) (fun _ _ i _ => n - (intOf i).toNat)
    case atStart => exact ⟨0, Nat.zero_le _, rfl, _, rfl, rfl, ⟨rfl⟩, H2, B2⟩
    case round =>
      clear H2 B2 d1
      obtain ⟨k, hk, rfl, s, rfl, rfl, HS, HI, HB⟩ := hrel
      have hin := runs_in l k (by rw [HR.out.len]; exact hk)
      rw [← HS.out] at hin
      have hv0 := hin.v0
      have hv1 := hin.v1
      have hll := hin.l
      have HF := Aside0.mk (hin.fit (by omega))
      by_cases hlt : k < n
      · have hin2 := Aside0.mk hin
        clear hin
        obtain ⟨ad, e2, hadl, hcl⟩ := HR.out.cell k (by rw [HR.out.len]; exact hlt)
        cases e2
        have hok := HR.out.ok k (by rw [HR.out.len]; exact hlt)
        obtain ⟨r, hr⟩ : ∃ r, l[k]'(by rw [HR.out.len]; exact hlt) = r := ⟨_, rfl⟩
        rw [hr] at hcl hok
        have HRE := Aside0.mk hr
        clear hr
        obtain ⟨⟨kd, th, ix, a, b⟩, ho⟩ : ∃ o, opOf r = o := ⟨_, rfl⟩
        have hrg := opOf_range hok ho
        simp only at hrg
        obtain ⟨k1, k7, t0, t3, x0, x4⟩ := hrg
        obtain ⟨⟨s', m, ok⟩, hrun⟩ : ∃ z, s.run1 ⟨kd, th, ix, a, b⟩ = z := ⟨_, rfl⟩
        have HOK := Aside0.mk hok
        have HO := Aside0.mk ho
        have HRUN := Aside0.mk hrun
        obtain ⟨q0, q1, q2, q3, q4⟩ := raw_cells (w := wr) (ad := ad) (k := k) (r := r) (fun j u hu => (cell_add HB.out hadl).trans (hcl j u hu))
        clear hok ho hrun hcl hadl
        have hc := run1_counts' hin2.out k1 k7 HRUN.out
        have HF2 := Aside0.mk ((by have e := run1_in hin2.out ⟨kd, th, ix, a, b⟩; rw [HRUN.out] at e; exact e : s'.In (k + 1)).fit (by omega))
        have HSN := Aside0.mk (show s' = (sz 4 4).runs (l.take (k + 1)) by rw [runs_succ _ _ _ (by rw [HR.out.len]; exact hlt), ← HS.out, HRE.out, HO.out, HRUN.out])
        clear hin2
        cases ok
        · skip
          by_cases hx : 0 ≤ ix
          · have dx : decide (0 ≤ ix) = true := decide_eq_true hx
            by_cases hy : ix < 4
            · have dy : decide (ix < 4) = true := decide_eq_true hy
              by_cases h7 : kd = 7
              · have d7 : (kd == 7) = true := beq_iff_eq.2 h7
                have d8 : (kd != 7) = false := bne_eq_false_iff_eq.2 h7
                have hV : s'.V = s.V + 1 := by have e := hc.2.1 rfl; split at e <;> omega
                have hL : s'.log.length = s.log.length := by have e := hc.2.2; split at e <;> omega
                have HV := Aside0.mk hV
                have HLL := Aside0.mk hL
                clear hV hL hc h7
                go_wp2_with (first | (go_at_call 12; (with_reducible refine (op_calls' r _ _ HOK.out HO.out).mono ?_); rintro e w3 ⟨rfl, hb⟩; have B3 := Aside0.mk hb; clear hb) | (go_at_call 13; (with_reducible refine (do_calls' (Is.left HI.out (below_alloc B3.out (.cells #[.int .i64 kd, .int .i64 th, .int .i64 ix, .int .i64 a, .int .i64 b] 29))).is HF.out kd th ix a b HRUN.out).mono ?_); rintro e w4 ⟨rfl, hl⟩; have HL := Aside0.mk hl; have o0 := Left.newCells HI.out B3.out hl 0 _ rfl; have o2 := Left.newCells HI.out B3.out hl 2 _ rfl; clear hl) | (go_at_call 19; (with_reducible refine (viol_calls' HL.out.is HF2.out HV.out).mono ?_); rintro e wx ⟨rfl, rfl⟩) | (go_at_call 18; (with_reducible refine (len_calls HL.out.is HF2.out HLL.out).mono ?_); rintro e w5 ⟨A5, c5, rfl, hb⟩; have H5 := Aside0.mk (Is.left HL.out.is hb); clear hb))
                go_roundw
                case rel => exact ⟨k + 1, by omega, by go_num, s', by rw [HV.out], by rw [HLL.out] <;> go_num, HSN, ⟨H5.out.is⟩, ⟨HB.out.trans (((below_alloc B3.out _).mono HB.out.size).trans (HL.out.bl.trans H5.out.bl))⟩⟩
                case measure => simp [intOf]; omega
              · by_cases h6 : kd = 6
                · have d7 : (kd == 7) = false := beq_eq_false_iff_ne.2 h7
                  have d6 : (kd == 6) = true := beq_iff_eq.2 h6
                  have d8 : (kd != 7) = true := bne_iff_ne.2 h7
                  have hV : s'.V = s.V + 1 := by have e := hc.2.1 rfl; split at e <;> omega
                  have hL : s'.log.length = s.log.length + 1 := by have e := hc.2.2; split at e <;> omega
                  have HV := Aside0.mk hV
                  have HLL := Aside0.mk hL
                  clear hV hL hc h7 h6
                  go_wp2_with (first | (go_at_call 12; (with_reducible refine (op_calls' r _ _ HOK.out HO.out).mono ?_); rintro e w3 ⟨rfl, hb⟩; have B3 := Aside0.mk hb; clear hb) | (go_at_call 13; (with_reducible refine (do_calls' (Is.left HI.out (below_alloc B3.out (.cells #[.int .i64 kd, .int .i64 th, .int .i64 ix, .int .i64 a, .int .i64 b] 29))).is HF.out kd th ix a b HRUN.out).mono ?_); rintro e w4 ⟨rfl, hl⟩; have HL := Aside0.mk hl; have o0 := Left.newCells HI.out B3.out hl 0 _ rfl; have o2 := Left.newCells HI.out B3.out hl 2 _ rfl; clear hl) | (go_at_call 19; (with_reducible refine (viol_calls' HL.out.is HF2.out HV.out).mono ?_); rintro e wx ⟨rfl, rfl⟩) | (go_at_call 18; (with_reducible refine (len_calls HL.out.is HF2.out HLL.out).mono ?_); rintro e w5 ⟨A5, c5, rfl, hb⟩; have H5 := Aside0.mk (Is.left HL.out.is hb); clear hb))
                  go_roundw
                  case rel => exact ⟨k + 1, by omega, by go_num, s', by rw [HV.out], by rw [HLL.out] <;> go_num, HSN, ⟨H5.out.is⟩, ⟨HB.out.trans (((below_alloc B3.out _).mono HB.out.size).trans (HL.out.bl.trans H5.out.bl))⟩⟩
                  case measure => simp [intOf]; omega
                · have d7 : (kd == 7) = false := beq_eq_false_iff_ne.2 h7
                  have d6 : (kd == 6) = false := beq_eq_false_iff_ne.2 h6
                  have d8 : (kd != 7) = true := bne_iff_ne.2 h7
                  have hV : s'.V = s.V := by have e := hc.2.1 rfl; split at e <;> omega
                  have hL : s'.log.length = s.log.length + 1 := by have e := hc.2.2; split at e <;> omega
                  have HV := Aside0.mk hV
                  have HLL := Aside0.mk hL
                  clear hV hL hc h7 h6
                  go_wp2_with (first | (go_at_call 12; (with_reducible refine (op_calls' r _ _ HOK.out HO.out).mono ?_); rintro e w3 ⟨rfl, hb⟩; have B3 := Aside0.mk hb; clear hb) | (go_at_call 13; (with_reducible refine (do_calls' (Is.left HI.out (below_alloc B3.out (.cells #[.int .i64 kd, .int .i64 th, .int .i64 ix, .int .i64 a, .int .i64 b] 29))).is HF.out kd th ix a b HRUN.out).mono ?_); rintro e w4 ⟨rfl, hl⟩; have HL := Aside0.mk hl; have o0 := Left.newCells HI.out B3.out hl 0 _ rfl; have o2 := Left.newCells HI.out B3.out hl 2 _ rfl; clear hl) | (go_at_call 19; (with_reducible refine (viol_calls' HL.out.is HF2.out HV.out).mono ?_); rintro e wx ⟨rfl, rfl⟩) | (go_at_call 18; (with_reducible refine (len_calls HL.out.is HF2.out HLL.out).mono ?_); rintro e w5 ⟨A5, c5, rfl, hb⟩; have H5 := Aside0.mk (Is.left HL.out.is hb); clear hb))
                  go_roundw
                  case rel => exact ⟨k + 1, by omega, by go_num, s', by rw [HV.out], by rw [HLL.out] <;> go_num, HSN, ⟨H5.out.is⟩, ⟨HB.out.trans (((below_alloc B3.out _).mono HB.out.size).trans (HL.out.bl.trans H5.out.bl))⟩⟩
                  case measure => simp [intOf]; omega
            · have dy : decide (ix < 4) = false := decide_eq_false hy
              by_cases h7 : kd = 7
              · have d7 : (kd == 7) = true := beq_iff_eq.2 h7
                have d8 : (kd != 7) = false := bne_eq_false_iff_eq.2 h7
                have hV : s'.V = s.V + 1 := by have e := hc.2.1 rfl; split at e <;> omega
                have hL : s'.log.length = s.log.length := by have e := hc.2.2; split at e <;> omega
                have HV := Aside0.mk hV
                have HLL := Aside0.mk hL
                clear hV hL hc h7
                go_wp2_with (first | (go_at_call 12; (with_reducible refine (op_calls' r _ _ HOK.out HO.out).mono ?_); rintro e w3 ⟨rfl, hb⟩; have B3 := Aside0.mk hb; clear hb) | (go_at_call 13; (with_reducible refine (do_calls' (Is.left HI.out (below_alloc B3.out (.cells #[.int .i64 kd, .int .i64 th, .int .i64 ix, .int .i64 a, .int .i64 b] 29))).is HF.out kd th ix a b HRUN.out).mono ?_); rintro e w4 ⟨rfl, hl⟩; have HL := Aside0.mk hl; have o0 := Left.newCells HI.out B3.out hl 0 _ rfl; have o2 := Left.newCells HI.out B3.out hl 2 _ rfl; clear hl) | (go_at_call 19; (with_reducible refine (viol_calls' HL.out.is HF2.out HV.out).mono ?_); rintro e wx ⟨rfl, rfl⟩) | (go_at_call 18; (with_reducible refine (len_calls HL.out.is HF2.out HLL.out).mono ?_); rintro e w5 ⟨A5, c5, rfl, hb⟩; have H5 := Aside0.mk (Is.left HL.out.is hb); clear hb))
                go_roundw
                case rel => exact ⟨k + 1, by omega, by go_num, s', by rw [HV.out], by rw [HLL.out] <;> go_num, HSN, ⟨H5.out.is⟩, ⟨HB.out.trans (((below_alloc B3.out _).mono HB.out.size).trans (HL.out.bl.trans H5.out.bl))⟩⟩
                case measure => simp [intOf]; omega
              · by_cases h6 : kd = 6
                · have d7 : (kd == 7) = false := beq_eq_false_iff_ne.2 h7
                  have d6 : (kd == 6) = true := beq_iff_eq.2 h6
                  have d8 : (kd != 7) = true := bne_iff_ne.2 h7
                  have hV : s'.V = s.V := by have e := hc.2.1 rfl; split at e <;> omega
                  have hL : s'.log.length = s.log.length := by have e := hc.2.2; split at e <;> omega
                  have HV := Aside0.mk hV
                  have HLL := Aside0.mk hL
                  clear hV hL hc h7 h6
                  go_wp2_with (first | (go_at_call 12; (with_reducible refine (op_calls' r _ _ HOK.out HO.out).mono ?_); rintro e w3 ⟨rfl, hb⟩; have B3 := Aside0.mk hb; clear hb) | (go_at_call 13; (with_reducible refine (do_calls' (Is.left HI.out (below_alloc B3.out (.cells #[.int .i64 kd, .int .i64 th, .int .i64 ix, .int .i64 a, .int .i64 b] 29))).is HF.out kd th ix a b HRUN.out).mono ?_); rintro e w4 ⟨rfl, hl⟩; have HL := Aside0.mk hl; have o0 := Left.newCells HI.out B3.out hl 0 _ rfl; have o2 := Left.newCells HI.out B3.out hl 2 _ rfl; clear hl) | (go_at_call 19; (with_reducible refine (viol_calls' HL.out.is HF2.out HV.out).mono ?_); rintro e wx ⟨rfl, rfl⟩) | (go_at_call 18; (with_reducible refine (len_calls HL.out.is HF2.out HLL.out).mono ?_); rintro e w5 ⟨A5, c5, rfl, hb⟩; have H5 := Aside0.mk (Is.left HL.out.is hb); clear hb))
                  go_roundw
                  case rel => exact ⟨k + 1, by omega, by go_num, s', by rw [HV.out], by rw [HLL.out] <;> go_num, HSN, ⟨H5.out.is⟩, ⟨HB.out.trans (((below_alloc B3.out _).mono HB.out.size).trans (HL.out.bl.trans H5.out.bl))⟩⟩
                  case measure => simp [intOf]; omega
                · have d7 : (kd == 7) = false := beq_eq_false_iff_ne.2 h7
                  have d6 : (kd == 6) = false := beq_eq_false_iff_ne.2 h6
                  have d8 : (kd != 7) = true := bne_iff_ne.2 h7
                  have hV : s'.V = s.V := by have e := hc.2.1 rfl; split at e <;> omega
                  have hL : s'.log.length = s.log.length := by have e := hc.2.2; split at e <;> omega
                  have HV := Aside0.mk hV
                  have HLL := Aside0.mk hL
                  clear hV hL hc h7 h6
                  go_wp2_with (first | (go_at_call 12; (with_reducible refine (op_calls' r _ _ HOK.out HO.out).mono ?_); rintro e w3 ⟨rfl, hb⟩; have B3 := Aside0.mk hb; clear hb) | (go_at_call 13; (with_reducible refine (do_calls' (Is.left HI.out (below_alloc B3.out (.cells #[.int .i64 kd, .int .i64 th, .int .i64 ix, .int .i64 a, .int .i64 b] 29))).is HF.out kd th ix a b HRUN.out).mono ?_); rintro e w4 ⟨rfl, hl⟩; have HL := Aside0.mk hl; have o0 := Left.newCells HI.out B3.out hl 0 _ rfl; have o2 := Left.newCells HI.out B3.out hl 2 _ rfl; clear hl) | (go_at_call 19; (with_reducible refine (viol_calls' HL.out.is HF2.out HV.out).mono ?_); rintro e wx ⟨rfl, rfl⟩) | (go_at_call 18; (with_reducible refine (len_calls HL.out.is HF2.out HLL.out).mono ?_); rintro e w5 ⟨A5, c5, rfl, hb⟩; have H5 := Aside0.mk (Is.left HL.out.is hb); clear hb))
                  go_roundw
                  case rel => exact ⟨k + 1, by omega, by go_num, s', by rw [HV.out], by rw [HLL.out] <;> go_num, HSN, ⟨H5.out.is⟩, ⟨HB.out.trans (((below_alloc B3.out _).mono HB.out.size).trans (HL.out.bl.trans H5.out.bl))⟩⟩
                  case measure => simp [intOf]; omega
          · have dx : decide (0 ≤ ix) = false := decide_eq_false hx
            by_cases h7 : kd = 7
            · have d7 : (kd == 7) = true := beq_iff_eq.2 h7
              have d8 : (kd != 7) = false := bne_eq_false_iff_eq.2 h7
              have hV : s'.V = s.V + 1 := by have e := hc.2.1 rfl; split at e <;> omega
              have hL : s'.log.length = s.log.length := by have e := hc.2.2; split at e <;> omega
              have HV := Aside0.mk hV
              have HLL := Aside0.mk hL
              clear hV hL hc h7
              go_wp2_with (first | (go_at_call 12; (with_reducible refine (op_calls' r _ _ HOK.out HO.out).mono ?_); rintro e w3 ⟨rfl, hb⟩; have B3 := Aside0.mk hb; clear hb) | (go_at_call 13; (with_reducible refine (do_calls' (Is.left HI.out (below_alloc B3.out (.cells #[.int .i64 kd, .int .i64 th, .int .i64 ix, .int .i64 a, .int .i64 b] 29))).is HF.out kd th ix a b HRUN.out).mono ?_); rintro e w4 ⟨rfl, hl⟩; have HL := Aside0.mk hl; have o0 := Left.newCells HI.out B3.out hl 0 _ rfl; have o2 := Left.newCells HI.out B3.out hl 2 _ rfl; clear hl) | (go_at_call 19; (with_reducible refine (viol_calls' HL.out.is HF2.out HV.out).mono ?_); rintro e wx ⟨rfl, rfl⟩) | (go_at_call 18; (with_reducible refine (len_calls HL.out.is HF2.out HLL.out).mono ?_); rintro e w5 ⟨A5, c5, rfl, hb⟩; have H5 := Aside0.mk (Is.left HL.out.is hb); clear hb))
              go_roundw
              case rel => exact ⟨k + 1, by omega, by go_num, s', by rw [HV.out], by rw [HLL.out] <;> go_num, HSN, ⟨H5.out.is⟩, ⟨HB.out.trans (((below_alloc B3.out _).mono HB.out.size).trans (HL.out.bl.trans H5.out.bl))⟩⟩
              case measure => simp [intOf]; omega
            · by_cases h6 : kd = 6
              · have d7 : (kd == 7) = false := beq_eq_false_iff_ne.2 h7
                have d6 : (kd == 6) = true := beq_iff_eq.2 h6
                have d8 : (kd != 7) = true := bne_iff_ne.2 h7
                have hV : s'.V = s.V := by have e := hc.2.1 rfl; split at e <;> omega
                have hL : s'.log.length = s.log.length := by have e := hc.2.2; split at e <;> omega
                have HV := Aside0.mk hV
                have HLL := Aside0.mk hL
                clear hV hL hc h7 h6
                go_wp2_with (first | (go_at_call 12; (with_reducible refine (op_calls' r _ _ HOK.out HO.out).mono ?_); rintro e w3 ⟨rfl, hb⟩; have B3 := Aside0.mk hb; clear hb) | (go_at_call 13; (with_reducible refine (do_calls' (Is.left HI.out (below_alloc B3.out (.cells #[.int .i64 kd, .int .i64 th, .int .i64 ix, .int .i64 a, .int .i64 b] 29))).is HF.out kd th ix a b HRUN.out).mono ?_); rintro e w4 ⟨rfl, hl⟩; have HL := Aside0.mk hl; have o0 := Left.newCells HI.out B3.out hl 0 _ rfl; have o2 := Left.newCells HI.out B3.out hl 2 _ rfl; clear hl) | (go_at_call 19; (with_reducible refine (viol_calls' HL.out.is HF2.out HV.out).mono ?_); rintro e wx ⟨rfl, rfl⟩) | (go_at_call 18; (with_reducible refine (len_calls HL.out.is HF2.out HLL.out).mono ?_); rintro e w5 ⟨A5, c5, rfl, hb⟩; have H5 := Aside0.mk (Is.left HL.out.is hb); clear hb))
                go_roundw
                case rel => exact ⟨k + 1, by omega, by go_num, s', by rw [HV.out], by rw [HLL.out] <;> go_num, HSN, ⟨H5.out.is⟩, ⟨HB.out.trans (((below_alloc B3.out _).mono HB.out.size).trans (HL.out.bl.trans H5.out.bl))⟩⟩
                case measure => simp [intOf]; omega
              · have d7 : (kd == 7) = false := beq_eq_false_iff_ne.2 h7
                have d6 : (kd == 6) = false := beq_eq_false_iff_ne.2 h6
                have d8 : (kd != 7) = true := bne_iff_ne.2 h7
                have hV : s'.V = s.V := by have e := hc.2.1 rfl; split at e <;> omega
                have hL : s'.log.length = s.log.length := by have e := hc.2.2; split at e <;> omega
                have HV := Aside0.mk hV
                have HLL := Aside0.mk hL
                clear hV hL hc h7 h6
                go_wp2_with (first | (go_at_call 12; (with_reducible refine (op_calls' r _ _ HOK.out HO.out).mono ?_); rintro e w3 ⟨rfl, hb⟩; have B3 := Aside0.mk hb; clear hb) | (go_at_call 13; (with_reducible refine (do_calls' (Is.left HI.out (below_alloc B3.out (.cells #[.int .i64 kd, .int .i64 th, .int .i64 ix, .int .i64 a, .int .i64 b] 29))).is HF.out kd th ix a b HRUN.out).mono ?_); rintro e w4 ⟨rfl, hl⟩; have HL := Aside0.mk hl; have o0 := Left.newCells HI.out B3.out hl 0 _ rfl; have o2 := Left.newCells HI.out B3.out hl 2 _ rfl; clear hl) | (go_at_call 19; (with_reducible refine (viol_calls' HL.out.is HF2.out HV.out).mono ?_); rintro e wx ⟨rfl, rfl⟩) | (go_at_call 18; (with_reducible refine (len_calls HL.out.is HF2.out HLL.out).mono ?_); rintro e w5 ⟨A5, c5, rfl, hb⟩; have H5 := Aside0.mk (Is.left HL.out.is hb); clear hb))
                go_roundw
                case rel => exact ⟨k + 1, by omega, by go_num, s', by rw [HV.out], by rw [HLL.out] <;> go_num, HSN, ⟨H5.out.is⟩, ⟨HB.out.trans (((below_alloc B3.out _).mono HB.out.size).trans (HL.out.bl.trans H5.out.bl))⟩⟩
                case measure => simp [intOf]; omega
        · skip
          by_cases hx : 0 ≤ ix
          · have dx : decide (0 ≤ ix) = true := decide_eq_true hx
            by_cases hy : ix < 4
            · have dy : decide (ix < 4) = true := decide_eq_true hy
              by_cases h7 : kd = 7
              · have d7 : (kd == 7) = true := beq_iff_eq.2 h7
                have d8 : (kd != 7) = false := bne_eq_false_iff_eq.2 h7
                have hV : s'.V = s.V := hc.1 rfl
                have hL : s'.log.length = s.log.length := by have e := hc.2.2; split at e <;> omega
                have HV := Aside0.mk hV
                have HLL := Aside0.mk hL
                clear hV hL hc h7
                go_wp2_with (first | (go_at_call 12; (with_reducible refine (op_calls' r _ _ HOK.out HO.out).mono ?_); rintro e w3 ⟨rfl, hb⟩; have B3 := Aside0.mk hb; clear hb) | (go_at_call 13; (with_reducible refine (do_calls' (Is.left HI.out (below_alloc B3.out (.cells #[.int .i64 kd, .int .i64 th, .int .i64 ix, .int .i64 a, .int .i64 b] 29))).is HF.out kd th ix a b HRUN.out).mono ?_); rintro e w4 ⟨rfl, hl⟩; have HL := Aside0.mk hl; have o0 := Left.newCells HI.out B3.out hl 0 _ rfl; have o2 := Left.newCells HI.out B3.out hl 2 _ rfl; clear hl) | (go_at_call 19; (with_reducible refine (viol_calls' HL.out.is HF2.out HV.out).mono ?_); rintro e wx ⟨rfl, rfl⟩) | (go_at_call 18; (with_reducible refine (len_calls HL.out.is HF2.out HLL.out).mono ?_); rintro e w5 ⟨A5, c5, rfl, hb⟩; have H5 := Aside0.mk (Is.left HL.out.is hb); clear hb))
                go_roundw
                case rel => exact ⟨k + 1, by omega, by go_num, s', by rw [HV.out], by rw [HLL.out] <;> go_num, HSN, ⟨H5.out.is⟩, ⟨HB.out.trans (((below_alloc B3.out _).mono HB.out.size).trans (HL.out.bl.trans H5.out.bl))⟩⟩
                case measure => simp [intOf]; omega
              · by_cases h6 : kd = 6
                · have d7 : (kd == 7) = false := beq_eq_false_iff_ne.2 h7
                  have d6 : (kd == 6) = true := beq_iff_eq.2 h6
                  have d8 : (kd != 7) = true := bne_iff_ne.2 h7
                  have hV : s'.V = s.V := hc.1 rfl
                  have hL : s'.log.length = s.log.length + 1 := by have e := hc.2.2; split at e <;> omega
                  have HV := Aside0.mk hV
                  have HLL := Aside0.mk hL
                  clear hV hL hc h7 h6
                  go_wp2_with (first | (go_at_call 12; (with_reducible refine (op_calls' r _ _ HOK.out HO.out).mono ?_); rintro e w3 ⟨rfl, hb⟩; have B3 := Aside0.mk hb; clear hb) | (go_at_call 13; (with_reducible refine (do_calls' (Is.left HI.out (below_alloc B3.out (.cells #[.int .i64 kd, .int .i64 th, .int .i64 ix, .int .i64 a, .int .i64 b] 29))).is HF.out kd th ix a b HRUN.out).mono ?_); rintro e w4 ⟨rfl, hl⟩; have HL := Aside0.mk hl; have o0 := Left.newCells HI.out B3.out hl 0 _ rfl; have o2 := Left.newCells HI.out B3.out hl 2 _ rfl; clear hl) | (go_at_call 19; (with_reducible refine (viol_calls' HL.out.is HF2.out HV.out).mono ?_); rintro e wx ⟨rfl, rfl⟩) | (go_at_call 18; (with_reducible refine (len_calls HL.out.is HF2.out HLL.out).mono ?_); rintro e w5 ⟨A5, c5, rfl, hb⟩; have H5 := Aside0.mk (Is.left HL.out.is hb); clear hb))
                  go_roundw
                  case rel => exact ⟨k + 1, by omega, by go_num, s', by rw [HV.out], by rw [HLL.out] <;> go_num, HSN, ⟨H5.out.is⟩, ⟨HB.out.trans (((below_alloc B3.out _).mono HB.out.size).trans (HL.out.bl.trans H5.out.bl))⟩⟩
                  case measure => simp [intOf]; omega
                · have d7 : (kd == 7) = false := beq_eq_false_iff_ne.2 h7
                  have d6 : (kd == 6) = false := beq_eq_false_iff_ne.2 h6
                  have d8 : (kd != 7) = true := bne_iff_ne.2 h7
                  have hV : s'.V = s.V := hc.1 rfl
                  have hL : s'.log.length = s.log.length + 1 := by have e := hc.2.2; split at e <;> omega
                  have HV := Aside0.mk hV
                  have HLL := Aside0.mk hL
                  clear hV hL hc h7 h6
                  go_wp2_with (first | (go_at_call 12; (with_reducible refine (op_calls' r _ _ HOK.out HO.out).mono ?_); rintro e w3 ⟨rfl, hb⟩; have B3 := Aside0.mk hb; clear hb) | (go_at_call 13; (with_reducible refine (do_calls' (Is.left HI.out (below_alloc B3.out (.cells #[.int .i64 kd, .int .i64 th, .int .i64 ix, .int .i64 a, .int .i64 b] 29))).is HF.out kd th ix a b HRUN.out).mono ?_); rintro e w4 ⟨rfl, hl⟩; have HL := Aside0.mk hl; have o0 := Left.newCells HI.out B3.out hl 0 _ rfl; have o2 := Left.newCells HI.out B3.out hl 2 _ rfl; clear hl) | (go_at_call 19; (with_reducible refine (viol_calls' HL.out.is HF2.out HV.out).mono ?_); rintro e wx ⟨rfl, rfl⟩) | (go_at_call 18; (with_reducible refine (len_calls HL.out.is HF2.out HLL.out).mono ?_); rintro e w5 ⟨A5, c5, rfl, hb⟩; have H5 := Aside0.mk (Is.left HL.out.is hb); clear hb))
                  go_roundw
                  case rel => exact ⟨k + 1, by omega, by go_num, s', by rw [HV.out], by rw [HLL.out] <;> go_num, HSN, ⟨H5.out.is⟩, ⟨HB.out.trans (((below_alloc B3.out _).mono HB.out.size).trans (HL.out.bl.trans H5.out.bl))⟩⟩
                  case measure => simp [intOf]; omega
            · have dy : decide (ix < 4) = false := decide_eq_false hy
              by_cases h7 : kd = 7
              · have d7 : (kd == 7) = true := beq_iff_eq.2 h7
                have d8 : (kd != 7) = false := bne_eq_false_iff_eq.2 h7
                have hV : s'.V = s.V := hc.1 rfl
                have hL : s'.log.length = s.log.length := by have e := hc.2.2; split at e <;> omega
                have HV := Aside0.mk hV
                have HLL := Aside0.mk hL
                clear hV hL hc h7
                go_wp2_with (first | (go_at_call 12; (with_reducible refine (op_calls' r _ _ HOK.out HO.out).mono ?_); rintro e w3 ⟨rfl, hb⟩; have B3 := Aside0.mk hb; clear hb) | (go_at_call 13; (with_reducible refine (do_calls' (Is.left HI.out (below_alloc B3.out (.cells #[.int .i64 kd, .int .i64 th, .int .i64 ix, .int .i64 a, .int .i64 b] 29))).is HF.out kd th ix a b HRUN.out).mono ?_); rintro e w4 ⟨rfl, hl⟩; have HL := Aside0.mk hl; have o0 := Left.newCells HI.out B3.out hl 0 _ rfl; have o2 := Left.newCells HI.out B3.out hl 2 _ rfl; clear hl) | (go_at_call 19; (with_reducible refine (viol_calls' HL.out.is HF2.out HV.out).mono ?_); rintro e wx ⟨rfl, rfl⟩) | (go_at_call 18; (with_reducible refine (len_calls HL.out.is HF2.out HLL.out).mono ?_); rintro e w5 ⟨A5, c5, rfl, hb⟩; have H5 := Aside0.mk (Is.left HL.out.is hb); clear hb))
                go_roundw
                case rel => exact ⟨k + 1, by omega, by go_num, s', by rw [HV.out], by rw [HLL.out] <;> go_num, HSN, ⟨H5.out.is⟩, ⟨HB.out.trans (((below_alloc B3.out _).mono HB.out.size).trans (HL.out.bl.trans H5.out.bl))⟩⟩
                case measure => simp [intOf]; omega
              · by_cases h6 : kd = 6
                · have d7 : (kd == 7) = false := beq_eq_false_iff_ne.2 h7
                  have d6 : (kd == 6) = true := beq_iff_eq.2 h6
                  have d8 : (kd != 7) = true := bne_iff_ne.2 h7
                  have hV : s'.V = s.V := hc.1 rfl
                  have hL : s'.log.length = s.log.length := by have e := hc.2.2; split at e <;> omega
                  have HV := Aside0.mk hV
                  have HLL := Aside0.mk hL
                  clear hV hL hc h7 h6
                  go_wp2_with (first | (go_at_call 12; (with_reducible refine (op_calls' r _ _ HOK.out HO.out).mono ?_); rintro e w3 ⟨rfl, hb⟩; have B3 := Aside0.mk hb; clear hb) | (go_at_call 13; (with_reducible refine (do_calls' (Is.left HI.out (below_alloc B3.out (.cells #[.int .i64 kd, .int .i64 th, .int .i64 ix, .int .i64 a, .int .i64 b] 29))).is HF.out kd th ix a b HRUN.out).mono ?_); rintro e w4 ⟨rfl, hl⟩; have HL := Aside0.mk hl; have o0 := Left.newCells HI.out B3.out hl 0 _ rfl; have o2 := Left.newCells HI.out B3.out hl 2 _ rfl; clear hl) | (go_at_call 19; (with_reducible refine (viol_calls' HL.out.is HF2.out HV.out).mono ?_); rintro e wx ⟨rfl, rfl⟩) | (go_at_call 18; (with_reducible refine (len_calls HL.out.is HF2.out HLL.out).mono ?_); rintro e w5 ⟨A5, c5, rfl, hb⟩; have H5 := Aside0.mk (Is.left HL.out.is hb); clear hb))
                  go_roundw
                  case rel => exact ⟨k + 1, by omega, by go_num, s', by rw [HV.out], by rw [HLL.out] <;> go_num, HSN, ⟨H5.out.is⟩, ⟨HB.out.trans (((below_alloc B3.out _).mono HB.out.size).trans (HL.out.bl.trans H5.out.bl))⟩⟩
                  case measure => simp [intOf]; omega
                · have d7 : (kd == 7) = false := beq_eq_false_iff_ne.2 h7
                  have d6 : (kd == 6) = false := beq_eq_false_iff_ne.2 h6
                  have d8 : (kd != 7) = true := bne_iff_ne.2 h7
                  have hV : s'.V = s.V := hc.1 rfl
                  have hL : s'.log.length = s.log.length := by have e := hc.2.2; split at e <;> omega
                  have HV := Aside0.mk hV
                  have HLL := Aside0.mk hL
                  clear hV hL hc h7 h6
                  go_wp2_with (first | (go_at_call 12; (with_reducible refine (op_calls' r _ _ HOK.out HO.out).mono ?_); rintro e w3 ⟨rfl, hb⟩; have B3 := Aside0.mk hb; clear hb) | (go_at_call 13; (with_reducible refine (do_calls' (Is.left HI.out (below_alloc B3.out (.cells #[.int .i64 kd, .int .i64 th, .int .i64 ix, .int .i64 a, .int .i64 b] 29))).is HF.out kd th ix a b HRUN.out).mono ?_); rintro e w4 ⟨rfl, hl⟩; have HL := Aside0.mk hl; have o0 := Left.newCells HI.out B3.out hl 0 _ rfl; have o2 := Left.newCells HI.out B3.out hl 2 _ rfl; clear hl) | (go_at_call 19; (with_reducible refine (viol_calls' HL.out.is HF2.out HV.out).mono ?_); rintro e wx ⟨rfl, rfl⟩) | (go_at_call 18; (with_reducible refine (len_calls HL.out.is HF2.out HLL.out).mono ?_); rintro e w5 ⟨A5, c5, rfl, hb⟩; have H5 := Aside0.mk (Is.left HL.out.is hb); clear hb))
                  go_roundw
                  case rel => exact ⟨k + 1, by omega, by go_num, s', by rw [HV.out], by rw [HLL.out] <;> go_num, HSN, ⟨H5.out.is⟩, ⟨HB.out.trans (((below_alloc B3.out _).mono HB.out.size).trans (HL.out.bl.trans H5.out.bl))⟩⟩
                  case measure => simp [intOf]; omega
          · have dx : decide (0 ≤ ix) = false := decide_eq_false hx
            by_cases h7 : kd = 7
            · have d7 : (kd == 7) = true := beq_iff_eq.2 h7
              have d8 : (kd != 7) = false := bne_eq_false_iff_eq.2 h7
              have hV : s'.V = s.V := hc.1 rfl
              have hL : s'.log.length = s.log.length := by have e := hc.2.2; split at e <;> omega
              have HV := Aside0.mk hV
              have HLL := Aside0.mk hL
              clear hV hL hc h7
              go_wp2_with (first | (go_at_call 12; (with_reducible refine (op_calls' r _ _ HOK.out HO.out).mono ?_); rintro e w3 ⟨rfl, hb⟩; have B3 := Aside0.mk hb; clear hb) | (go_at_call 13; (with_reducible refine (do_calls' (Is.left HI.out (below_alloc B3.out (.cells #[.int .i64 kd, .int .i64 th, .int .i64 ix, .int .i64 a, .int .i64 b] 29))).is HF.out kd th ix a b HRUN.out).mono ?_); rintro e w4 ⟨rfl, hl⟩; have HL := Aside0.mk hl; have o0 := Left.newCells HI.out B3.out hl 0 _ rfl; have o2 := Left.newCells HI.out B3.out hl 2 _ rfl; clear hl) | (go_at_call 19; (with_reducible refine (viol_calls' HL.out.is HF2.out HV.out).mono ?_); rintro e wx ⟨rfl, rfl⟩) | (go_at_call 18; (with_reducible refine (len_calls HL.out.is HF2.out HLL.out).mono ?_); rintro e w5 ⟨A5, c5, rfl, hb⟩; have H5 := Aside0.mk (Is.left HL.out.is hb); clear hb))
              go_roundw
              case rel => exact ⟨k + 1, by omega, by go_num, s', by rw [HV.out], by rw [HLL.out] <;> go_num, HSN, ⟨H5.out.is⟩, ⟨HB.out.trans (((below_alloc B3.out _).mono HB.out.size).trans (HL.out.bl.trans H5.out.bl))⟩⟩
              case measure => simp [intOf]; omega
            · by_cases h6 : kd = 6
              · have d7 : (kd == 7) = false := beq_eq_false_iff_ne.2 h7
                have d6 : (kd == 6) = true := beq_iff_eq.2 h6
                have d8 : (kd != 7) = true := bne_iff_ne.2 h7
                have hV : s'.V = s.V := hc.1 rfl
                have hL : s'.log.length = s.log.length := by have e := hc.2.2; split at e <;> omega
                have HV := Aside0.mk hV
                have HLL := Aside0.mk hL
                clear hV hL hc h7 h6
                go_wp2_with (first | (go_at_call 12; (with_reducible refine (op_calls' r _ _ HOK.out HO.out).mono ?_); rintro e w3 ⟨rfl, hb⟩; have B3 := Aside0.mk hb; clear hb) | (go_at_call 13; (with_reducible refine (do_calls' (Is.left HI.out (below_alloc B3.out (.cells #[.int .i64 kd, .int .i64 th, .int .i64 ix, .int .i64 a, .int .i64 b] 29))).is HF.out kd th ix a b HRUN.out).mono ?_); rintro e w4 ⟨rfl, hl⟩; have HL := Aside0.mk hl; have o0 := Left.newCells HI.out B3.out hl 0 _ rfl; have o2 := Left.newCells HI.out B3.out hl 2 _ rfl; clear hl) | (go_at_call 19; (with_reducible refine (viol_calls' HL.out.is HF2.out HV.out).mono ?_); rintro e wx ⟨rfl, rfl⟩) | (go_at_call 18; (with_reducible refine (len_calls HL.out.is HF2.out HLL.out).mono ?_); rintro e w5 ⟨A5, c5, rfl, hb⟩; have H5 := Aside0.mk (Is.left HL.out.is hb); clear hb))
                go_roundw
                case rel => exact ⟨k + 1, by omega, by go_num, s', by rw [HV.out], by rw [HLL.out] <;> go_num, HSN, ⟨H5.out.is⟩, ⟨HB.out.trans (((below_alloc B3.out _).mono HB.out.size).trans (HL.out.bl.trans H5.out.bl))⟩⟩
                case measure => simp [intOf]; omega
              · have d7 : (kd == 7) = false := beq_eq_false_iff_ne.2 h7
                have d6 : (kd == 6) = false := beq_eq_false_iff_ne.2 h6
                have d8 : (kd != 7) = true := bne_iff_ne.2 h7
                have hV : s'.V = s.V := hc.1 rfl
                have hL : s'.log.length = s.log.length := by have e := hc.2.2; split at e <;> omega
                have HV := Aside0.mk hV
                have HLL := Aside0.mk hL
                clear hV hL hc h7 h6
                go_wp2_with (first | (go_at_call 12; (with_reducible refine (op_calls' r _ _ HOK.out HO.out).mono ?_); rintro e w3 ⟨rfl, hb⟩; have B3 := Aside0.mk hb; clear hb) | (go_at_call 13; (with_reducible refine (do_calls' (Is.left HI.out (below_alloc B3.out (.cells #[.int .i64 kd, .int .i64 th, .int .i64 ix, .int .i64 a, .int .i64 b] 29))).is HF.out kd th ix a b HRUN.out).mono ?_); rintro e w4 ⟨rfl, hl⟩; have HL := Aside0.mk hl; have o0 := Left.newCells HI.out B3.out hl 0 _ rfl; have o2 := Left.newCells HI.out B3.out hl 2 _ rfl; clear hl) | (go_at_call 19; (with_reducible refine (viol_calls' HL.out.is HF2.out HV.out).mono ?_); rintro e wx ⟨rfl, rfl⟩) | (go_at_call 18; (with_reducible refine (len_calls HL.out.is HF2.out HLL.out).mono ?_); rintro e w5 ⟨A5, c5, rfl, hb⟩; have H5 := Aside0.mk (Is.left HL.out.is hb); clear hb))
                go_roundw
                case rel => exact ⟨k + 1, by omega, by go_num, s', by rw [HV.out], by rw [HLL.out] <;> go_num, HSN, ⟨H5.out.is⟩, ⟨HB.out.trans (((below_alloc B3.out _).mono HB.out.size).trans (HL.out.bl.trans H5.out.bl))⟩⟩
                case measure => simp [intOf]; omega
      · obtain rfl : k = n := by omega
        clear hin
        go_wp2
        go_ret
        exact ⟨rfl, HB.out⟩
end Go.Proofs.Ytfkoehokjpcogaa.Hand
