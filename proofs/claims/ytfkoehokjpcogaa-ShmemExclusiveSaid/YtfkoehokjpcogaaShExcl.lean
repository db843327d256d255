/- ropeladderlaw01.ShmemExclusive computes true; the argument is a row of Raw. -/
import Derived.Test.YtfkoehokjpcogaaShArr
namespace Go.Proofs.Ytfkoehokjpcogaa.Hand
open Go.RowKit Go.Proofs.YtfkoehokjpcogaaW.PrintWords Go.Proofs.YtfkoehokjpcogaaW.PrintLast Go.Proofs.YtfkoehokjpcogaaW.PrintMore
set_option linter.unusedVariables false
attribute [local go_sem] max2_int min2_int max_two min_two max_three min_three max_four min_four

set_option maxHeartbeats 16000000 in
set_option maxRecDepth 100000 in
theorem excl_walk (A : Option Addr) (n c : Nat) (l : List Raw) (W : World) (h : IsRaws W A n l) :
    Calls Try.prog 5 #[.slice A n c] W fun e w' => e = .returned (.bool true) ∧ Below W.heap.size W w' := by
  have HR := Aside0.mk h
  have hn := h.max
  clear h
  by_cases h200 : (200 : Int) < n
  · have d1 : decide ((200 : Int) < n) = true := decide_eq_true h200
    go_enter Try.func5, Try.ntmps5
    go_wp2_with (first | (go_at_call 9; (with_reducible refine (head_calls W).mono ?_); rintro e w1 ⟨rfl, hb⟩; have B1 := Aside0.mk hb; clear hb) | (go_at_call 10; (with_reducible refine (new44 _).mono ?_); rintro e w2 ⟨g, gw, gm, rfl, hi, hb⟩; have H2 := Aside0.mk (hi.lower B1.out.size); have B2 := Aside0.mk (Below.trans B1.out (hb.mono B1.out.size)); clear hi hb B1))
    go_ret
    exact ⟨rfl, B2.out⟩
  · have d1 : decide ((200 : Int) < n) = false := decide_eq_false h200
    go_enter Try.func5, Try.ntmps5
    go_wp2_with (first | (go_at_call 9; (with_reducible refine (head_calls W).mono ?_); rintro e w1 ⟨rfl, hb⟩; have B1 := Aside0.mk hb; clear hb) | (go_at_call 10; (with_reducible refine (new44 _).mono ?_); rintro e w2 ⟨g, gw, gm, rfl, hi, hb⟩; have H2 := Aside0.mk (hi.lower B1.out.size); have B2 := Aside0.mk (Below.trans B1.out (hb.mono B1.out.size)); clear hi hb B1))
    go_loopw [6] (fun i w' => ∃ k : Nat, k ≤ n ∧ i = .int .i64 k ∧ ∃ s f, Aside0 (s = (sz 4 4).runs (l.take k)) ∧
      Aside0 (Is w' W.heap.size g gw gm s) ∧ Aside0 (Below W.heap.size W w') ∧ Aside0 (Arr w' g gw gm w2.heap.size f) ∧ Aside0 (∀ j : Nat, j < 4 → f j = s.holder j)) (fun i _ => n - (intOf i).toNat)
    case atStart =>
      have hb2 := B2.out
      exact ⟨0, Nat.zero_le _, rfl, _, fun _ => -1, ⟨rfl⟩, ⟨(Is.left H2.out (below_alloc (Below.refl _ _) _)).is⟩, ⟨below_alloc hb2 _⟩, ⟨Arr.new H2.out (Below.refl _ _) (fun _ => -1)⟩, ⟨fun j _ => (free_44 j).symm⟩⟩
    case round =>
      have HSZ := Aside0.mk B2.out.size
      clear H2 B2 d1
      obtain ⟨k, hk, rfl, s, f, HS, HI, HB, HAR, HFH⟩ := hrel
      have hin := runs_in l k (by rw [HR.out.len]; exact hk)
      have hth := runs_th l HR.out.ok k (by rw [HR.out.len]; exact hk)
      rw [← HS.out] at hin hth
      have HF := Aside0.mk (hin.fit (by omega))
      by_cases hlt : k < n
      · have hin2 := Aside0.mk hin
        clear hin
        obtain ⟨ad, e2, hadl, hcl⟩ := HR.out.cell k (by rw [HR.out.len]; exact hlt)
        cases e2
        have hok := HR.out.ok k (by rw [HR.out.len]; exact hlt)
        obtain ⟨r, hr⟩ : ∃ r, l[k]'(by rw [HR.out.len]; exact hlt) = r := ⟨_, rfl⟩
        rw [hr] at hcl hok
        have HRE := Aside0.mk hr
        clear hr
        obtain ⟨⟨kd, th, ix, a, b⟩, ho⟩ : ∃ o, opOf r = o := ⟨_, rfl⟩
        have hrg := opOf_range hok ho
        simp only at hrg
        obtain ⟨k1, k7, t0, t3, x0, x4⟩ := hrg
        obtain ⟨⟨s', m, ok⟩, hrun⟩ : ∃ z, s.run1 ⟨kd, th, ix, a, b⟩ = z := ⟨_, rfl⟩
        have HOK := Aside0.mk hok
        have HO := Aside0.mk ho
        have HRUN := Aside0.mk hrun
        obtain ⟨q0, q1, q2, q3, q4⟩ := raw_cells (w := wr) (ad := ad) (k := k) (r := r) (fun j u hu => (cell_add HB.out hadl).trans (hcl j u hu))
        clear hok ho hrun hcl hadl
        have hmx := Aside0.mk (run1_mx hin2.out hth k1 k7 t0 HRUN.out)
        have HSN := Aside0.mk (show s' = (sz 4 4).runs (l.take (k + 1)) by rw [runs_succ _ _ _ (by rw [HR.out.len]; exact hlt), ← HS.out, HRE.out, HO.out, HRUN.out])
        clear hin2 hth
        cases ok
        · skip
          by_cases hx : 0 ≤ ix
          · have dx : decide (0 ≤ ix) = true := decide_eq_true hx
            have dz : decide (ix < 0) = false := decide_eq_false (by omega)
            by_cases hy : ix < 4
            · have dy : decide (4 ≤ ix) = false := decide_eq_false (by omega)
              obtain ⟨hv, hfv⟩ : ∃ x, f ix.toNat = x := ⟨_, rfl⟩
              have HFV := Aside0.mk hfv
              have hvs : hv = s.holder ix := by rw [← hfv, HFH.out _ (by omega), Int.toNat_of_nonneg hx]
              clear hfv
              by_cases h5 : kd = 5
              · skip
                have d5 : (kd == 5) = true := beq_iff_eq.2 h5
                have hm := hmx.out.lock ⟨hx, hy⟩ h5
                have dh : (hv == -1) = false := by rw [hvs]; exact hm.1
                have HM := Aside0.mk hm.2
                clear hm h5 hvs
                go_wp2_with (first | (go_at_call 12; (with_reducible refine (op_calls' r _ _ HOK.out HO.out).mono ?_); rintro e w3 ⟨rfl, hb⟩; have B3 := Aside0.mk hb; clear hb) | (go_at_call 13; (with_reducible refine (do_calls' (Is.left HI.out (below_alloc B3.out (.cells #[.int .i64 kd, .int .i64 th, .int .i64 ix, .int .i64 a, .int .i64 b] 29))).is HF.out kd th ix a b HRUN.out).mono ?_); rintro e w4 ⟨rfl, hl⟩; have HL := Aside0.mk hl; have o0 := Left.newCells HI.out B3.out hl 0 _ rfl; have o2 := Left.newCells HI.out B3.out hl 2 _ rfl; have o1 := Left.newCells HI.out B3.out hl 1 _ rfl; have ha := Arr.round HAR.out HI.out B3.out hl; have HA4 := Aside0.mk ha; have c5 := ha.cell (i := ix.toNat) (by omega); rw [HFV.out] at c5; have f5 := ha.free ix.toNat; clear hl ha))
                go_roundw
                case rel => exact ⟨k + 1, by omega, by go_num, s', f, HSN, ⟨HL.out.is⟩, ⟨HB.out.trans (((below_alloc B3.out _).mono HB.out.size).trans HL.out.bl)⟩, HA4, ⟨same_holder HFH.out (fun j hj => by rw [HM.out j hj, if_neg (fun q => by cases q.2)])⟩⟩
                case measure => simp [intOf]; omega
              · by_cases h6 : kd = 6
                · skip
                  have d5 : (kd == 5) = false := beq_eq_false_iff_ne.2 h5
                  have d6 : (kd == 6) = true := beq_iff_eq.2 h6
                  have hm := hmx.out.unlock ⟨hx, hy⟩ h6
                  have dh : (hv == th) = false := by rw [hvs]; exact hm.1
                  have HM := Aside0.mk hm.2
                  clear hm h5 h6 hvs
                  go_wp2_with (first | (go_at_call 12; (with_reducible refine (op_calls' r _ _ HOK.out HO.out).mono ?_); rintro e w3 ⟨rfl, hb⟩; have B3 := Aside0.mk hb; clear hb) | (go_at_call 13; (with_reducible refine (do_calls' (Is.left HI.out (below_alloc B3.out (.cells #[.int .i64 kd, .int .i64 th, .int .i64 ix, .int .i64 a, .int .i64 b] 29))).is HF.out kd th ix a b HRUN.out).mono ?_); rintro e w4 ⟨rfl, hl⟩; have HL := Aside0.mk hl; have o0 := Left.newCells HI.out B3.out hl 0 _ rfl; have o2 := Left.newCells HI.out B3.out hl 2 _ rfl; have o1 := Left.newCells HI.out B3.out hl 1 _ rfl; have ha := Arr.round HAR.out HI.out B3.out hl; have HA4 := Aside0.mk ha; have c5 := ha.cell (i := ix.toNat) (by omega); rw [HFV.out] at c5; have f5 := ha.free ix.toNat; clear hl ha))
                  go_roundw
                  case rel => exact ⟨k + 1, by omega, by go_num, s', f, HSN, ⟨HL.out.is⟩, ⟨HB.out.trans (((below_alloc B3.out _).mono HB.out.size).trans HL.out.bl)⟩, HA4, ⟨same_holder HFH.out (fun j hj => by rw [HM.out j hj, if_neg (fun q => by cases q.2)])⟩⟩
                  case measure => simp [intOf]; omega
                · by_cases h7 : kd = 7
                  · skip
                    have d5 : (kd == 5) = false := beq_eq_false_iff_ne.2 h5
                    have d6 : (kd == 6) = false := beq_eq_false_iff_ne.2 h6
                    have d7 : (kd == 7) = true := beq_iff_eq.2 h7
                    have hm := hmx.out.touch ⟨hx, hy⟩ h7
                    have dh : (hv == th) = false := by rw [hvs]; exact hm.1
                    have HM := Aside0.mk hm.2
                    clear hm h5 h6 h7 hvs
                    go_wp2_with (first | (go_at_call 12; (with_reducible refine (op_calls' r _ _ HOK.out HO.out).mono ?_); rintro e w3 ⟨rfl, hb⟩; have B3 := Aside0.mk hb; clear hb) | (go_at_call 13; (with_reducible refine (do_calls' (Is.left HI.out (below_alloc B3.out (.cells #[.int .i64 kd, .int .i64 th, .int .i64 ix, .int .i64 a, .int .i64 b] 29))).is HF.out kd th ix a b HRUN.out).mono ?_); rintro e w4 ⟨rfl, hl⟩; have HL := Aside0.mk hl; have o0 := Left.newCells HI.out B3.out hl 0 _ rfl; have o2 := Left.newCells HI.out B3.out hl 2 _ rfl; have o1 := Left.newCells HI.out B3.out hl 1 _ rfl; have ha := Arr.round HAR.out HI.out B3.out hl; have HA4 := Aside0.mk ha; have c5 := ha.cell (i := ix.toNat) (by omega); rw [HFV.out] at c5; have f5 := ha.free ix.toNat; clear hl ha))
                    go_roundw
                    case rel => exact ⟨k + 1, by omega, by go_num, s', f, HSN, ⟨HL.out.is⟩, ⟨HB.out.trans (((below_alloc B3.out _).mono HB.out.size).trans HL.out.bl)⟩, HA4, ⟨same_holder HFH.out (fun j _ => holder_ms HM.out j)⟩⟩
                    case measure => simp [intOf]; omega
                  · skip
                    have d5 : (kd == 5) = false := beq_eq_false_iff_ne.2 h5
                    have d6 : (kd == 6) = false := beq_eq_false_iff_ne.2 h6
                    have d7 : (kd == 7) = false := beq_eq_false_iff_ne.2 h7
                    have HM := Aside0.mk (hmx.out.other (by omega))
                    clear h5 h6 h7 hvs
                    go_wp2_with (first | (go_at_call 12; (with_reducible refine (op_calls' r _ _ HOK.out HO.out).mono ?_); rintro e w3 ⟨rfl, hb⟩; have B3 := Aside0.mk hb; clear hb) | (go_at_call 13; (with_reducible refine (do_calls' (Is.left HI.out (below_alloc B3.out (.cells #[.int .i64 kd, .int .i64 th, .int .i64 ix, .int .i64 a, .int .i64 b] 29))).is HF.out kd th ix a b HRUN.out).mono ?_); rintro e w4 ⟨rfl, hl⟩; have HL := Aside0.mk hl; have o0 := Left.newCells HI.out B3.out hl 0 _ rfl; have o2 := Left.newCells HI.out B3.out hl 2 _ rfl; have o1 := Left.newCells HI.out B3.out hl 1 _ rfl; have ha := Arr.round HAR.out HI.out B3.out hl; have HA4 := Aside0.mk ha; have c5 := ha.cell (i := ix.toNat) (by omega); rw [HFV.out] at c5; have f5 := ha.free ix.toNat; clear hl ha))
                    go_roundw
                    case rel => exact ⟨k + 1, by omega, by go_num, s', f, HSN, ⟨HL.out.is⟩, ⟨HB.out.trans (((below_alloc B3.out _).mono HB.out.size).trans HL.out.bl)⟩, HA4, ⟨same_holder HFH.out (fun j _ => holder_ms HM.out j)⟩⟩
                    case measure => simp [intOf]; omega
            · skip
              have dy : decide (4 ≤ ix) = true := decide_eq_true (by omega)
              have HM := Aside0.mk (hmx.out.out (by omega))
              go_wp2_with (first | (go_at_call 12; (with_reducible refine (op_calls' r _ _ HOK.out HO.out).mono ?_); rintro e w3 ⟨rfl, hb⟩; have B3 := Aside0.mk hb; clear hb) | (go_at_call 13; (with_reducible refine (do_calls' (Is.left HI.out (below_alloc B3.out (.cells #[.int .i64 kd, .int .i64 th, .int .i64 ix, .int .i64 a, .int .i64 b] 29))).is HF.out kd th ix a b HRUN.out).mono ?_); rintro e w4 ⟨rfl, hl⟩; have HL := Aside0.mk hl; have o0 := Left.newCells HI.out B3.out hl 0 _ rfl; have o2 := Left.newCells HI.out B3.out hl 2 _ rfl; have o1 := Left.newCells HI.out B3.out hl 1 _ rfl; have ha := Arr.round HAR.out HI.out B3.out hl; have HA4 := Aside0.mk ha; clear hl ha))
              go_roundw
              case rel => exact ⟨k + 1, by omega, by go_num, s', f, HSN, ⟨HL.out.is⟩, ⟨HB.out.trans (((below_alloc B3.out _).mono HB.out.size).trans HL.out.bl)⟩, HA4, ⟨same_holder HFH.out (fun j _ => holder_ms HM.out.1 j)⟩⟩
              case measure => simp [intOf]; omega
          · skip
            have dz : decide (ix < 0) = true := decide_eq_true (by omega)
            have HM := Aside0.mk (hmx.out.out (by omega))
            go_wp2_with (first | (go_at_call 12; (with_reducible refine (op_calls' r _ _ HOK.out HO.out).mono ?_); rintro e w3 ⟨rfl, hb⟩; have B3 := Aside0.mk hb; clear hb) | (go_at_call 13; (with_reducible refine (do_calls' (Is.left HI.out (below_alloc B3.out (.cells #[.int .i64 kd, .int .i64 th, .int .i64 ix, .int .i64 a, .int .i64 b] 29))).is HF.out kd th ix a b HRUN.out).mono ?_); rintro e w4 ⟨rfl, hl⟩; have HL := Aside0.mk hl; have o0 := Left.newCells HI.out B3.out hl 0 _ rfl; have o2 := Left.newCells HI.out B3.out hl 2 _ rfl; have o1 := Left.newCells HI.out B3.out hl 1 _ rfl; have ha := Arr.round HAR.out HI.out B3.out hl; have HA4 := Aside0.mk ha; clear hl ha))
            go_roundw
            case rel => exact ⟨k + 1, by omega, by go_num, s', f, HSN, ⟨HL.out.is⟩, ⟨HB.out.trans (((below_alloc B3.out _).mono HB.out.size).trans HL.out.bl)⟩, HA4, ⟨same_holder HFH.out (fun j _ => holder_ms HM.out.1 j)⟩⟩
            case measure => simp [intOf]; omega
        · skip
          by_cases hx : 0 ≤ ix
          · have dx : decide (0 ≤ ix) = true := decide_eq_true hx
            have dz : decide (ix < 0) = false := decide_eq_false (by omega)
            by_cases hy : ix < 4
            · have dy : decide (4 ≤ ix) = false := decide_eq_false (by omega)
              obtain ⟨hv, hfv⟩ : ∃ x, f ix.toNat = x := ⟨_, rfl⟩
              have HFV := Aside0.mk hfv
              have hvs : hv = s.holder ix := by rw [← hfv, HFH.out _ (by omega), Int.toNat_of_nonneg hx]
              clear hfv
              by_cases h5 : kd = 5
              · skip
                have d5 : (kd == 5) = true := beq_iff_eq.2 h5
                have hm := hmx.out.lock ⟨hx, hy⟩ h5
                have dh : (hv == -1) = true := by rw [hvs]; exact hm.1
                have HM := Aside0.mk hm.2
                clear hm h5 hvs
                go_wp2_with (first | (go_at_call 12; (with_reducible refine (op_calls' r _ _ HOK.out HO.out).mono ?_); rintro e w3 ⟨rfl, hb⟩; have B3 := Aside0.mk hb; clear hb) | (go_at_call 13; (with_reducible refine (do_calls' (Is.left HI.out (below_alloc B3.out (.cells #[.int .i64 kd, .int .i64 th, .int .i64 ix, .int .i64 a, .int .i64 b] 29))).is HF.out kd th ix a b HRUN.out).mono ?_); rintro e w4 ⟨rfl, hl⟩; have HL := Aside0.mk hl; have o0 := Left.newCells HI.out B3.out hl 0 _ rfl; have o2 := Left.newCells HI.out B3.out hl 2 _ rfl; have o1 := Left.newCells HI.out B3.out hl 1 _ rfl; have ha := Arr.round HAR.out HI.out B3.out hl; have HA4 := Aside0.mk ha; have c5 := ha.cell (i := ix.toNat) (by omega); rw [HFV.out] at c5; have f5 := ha.free ix.toNat; clear hl ha))
                go_roundw
                case rel => exact ⟨k + 1, by omega, by go_num, s', _, HSN, ⟨Is.beside HL.out.is HA4.out _ _⟩, ⟨below_set (HB.out.trans (((below_alloc B3.out _).mono HB.out.size).trans HL.out.bl)) HSZ.out⟩, ⟨HA4.out.put (by omega) th⟩, ⟨put_holder HFH.out hx (HM.out)⟩⟩
                case measure => simp [intOf]; omega
              · by_cases h6 : kd = 6
                · skip
                  have d5 : (kd == 5) = false := beq_eq_false_iff_ne.2 h5
                  have d6 : (kd == 6) = true := beq_iff_eq.2 h6
                  have hm := hmx.out.unlock ⟨hx, hy⟩ h6
                  have dh : (hv == th) = true := by rw [hvs]; exact hm.1
                  have HM := Aside0.mk hm.2
                  clear hm h5 h6 hvs
                  go_wp2_with (first | (go_at_call 12; (with_reducible refine (op_calls' r _ _ HOK.out HO.out).mono ?_); rintro e w3 ⟨rfl, hb⟩; have B3 := Aside0.mk hb; clear hb) | (go_at_call 13; (with_reducible refine (do_calls' (Is.left HI.out (below_alloc B3.out (.cells #[.int .i64 kd, .int .i64 th, .int .i64 ix, .int .i64 a, .int .i64 b] 29))).is HF.out kd th ix a b HRUN.out).mono ?_); rintro e w4 ⟨rfl, hl⟩; have HL := Aside0.mk hl; have o0 := Left.newCells HI.out B3.out hl 0 _ rfl; have o2 := Left.newCells HI.out B3.out hl 2 _ rfl; have o1 := Left.newCells HI.out B3.out hl 1 _ rfl; have ha := Arr.round HAR.out HI.out B3.out hl; have HA4 := Aside0.mk ha; have c5 := ha.cell (i := ix.toNat) (by omega); rw [HFV.out] at c5; have f5 := ha.free ix.toNat; clear hl ha))
                  go_roundw
                  case rel => exact ⟨k + 1, by omega, by go_num, s', _, HSN, ⟨Is.beside HL.out.is HA4.out _ _⟩, ⟨below_set (HB.out.trans (((below_alloc B3.out _).mono HB.out.size).trans HL.out.bl)) HSZ.out⟩, ⟨HA4.out.put (by omega) (-1)⟩, ⟨put_holder HFH.out hx (HM.out)⟩⟩
                  case measure => simp [intOf]; omega
                · by_cases h7 : kd = 7
                  · skip
                    have d5 : (kd == 5) = false := beq_eq_false_iff_ne.2 h5
                    have d6 : (kd == 6) = false := beq_eq_false_iff_ne.2 h6
                    have d7 : (kd == 7) = true := beq_iff_eq.2 h7
                    have hm := hmx.out.touch ⟨hx, hy⟩ h7
                    have dh : (hv == th) = true := by rw [hvs]; exact hm.1
                    have HM := Aside0.mk hm.2
                    clear hm h5 h6 h7 hvs
                    go_wp2_with (first | (go_at_call 12; (with_reducible refine (op_calls' r _ _ HOK.out HO.out).mono ?_); rintro e w3 ⟨rfl, hb⟩; have B3 := Aside0.mk hb; clear hb) | (go_at_call 13; (with_reducible refine (do_calls' (Is.left HI.out (below_alloc B3.out (.cells #[.int .i64 kd, .int .i64 th, .int .i64 ix, .int .i64 a, .int .i64 b] 29))).is HF.out kd th ix a b HRUN.out).mono ?_); rintro e w4 ⟨rfl, hl⟩; have HL := Aside0.mk hl; have o0 := Left.newCells HI.out B3.out hl 0 _ rfl; have o2 := Left.newCells HI.out B3.out hl 2 _ rfl; have o1 := Left.newCells HI.out B3.out hl 1 _ rfl; have ha := Arr.round HAR.out HI.out B3.out hl; have HA4 := Aside0.mk ha; have c5 := ha.cell (i := ix.toNat) (by omega); rw [HFV.out] at c5; have f5 := ha.free ix.toNat; clear hl ha))
                    go_roundw
                    case rel => exact ⟨k + 1, by omega, by go_num, s', f, HSN, ⟨HL.out.is⟩, ⟨HB.out.trans (((below_alloc B3.out _).mono HB.out.size).trans HL.out.bl)⟩, HA4, ⟨same_holder HFH.out (fun j _ => holder_ms HM.out j)⟩⟩
                    case measure => simp [intOf]; omega
                  · skip
                    have d5 : (kd == 5) = false := beq_eq_false_iff_ne.2 h5
                    have d6 : (kd == 6) = false := beq_eq_false_iff_ne.2 h6
                    have d7 : (kd == 7) = false := beq_eq_false_iff_ne.2 h7
                    have HM := Aside0.mk (hmx.out.other (by omega))
                    clear h5 h6 h7 hvs
                    go_wp2_with (first | (go_at_call 12; (with_reducible refine (op_calls' r _ _ HOK.out HO.out).mono ?_); rintro e w3 ⟨rfl, hb⟩; have B3 := Aside0.mk hb; clear hb) | (go_at_call 13; (with_reducible refine (do_calls' (Is.left HI.out (below_alloc B3.out (.cells #[.int .i64 kd, .int .i64 th, .int .i64 ix, .int .i64 a, .int .i64 b] 29))).is HF.out kd th ix a b HRUN.out).mono ?_); rintro e w4 ⟨rfl, hl⟩; have HL := Aside0.mk hl; have o0 := Left.newCells HI.out B3.out hl 0 _ rfl; have o2 := Left.newCells HI.out B3.out hl 2 _ rfl; have o1 := Left.newCells HI.out B3.out hl 1 _ rfl; have ha := Arr.round HAR.out HI.out B3.out hl; have HA4 := Aside0.mk ha; have c5 := ha.cell (i := ix.toNat) (by omega); rw [HFV.out] at c5; have f5 := ha.free ix.toNat; clear hl ha))
                    go_roundw
                    case rel => exact ⟨k + 1, by omega, by go_num, s', f, HSN, ⟨HL.out.is⟩, ⟨HB.out.trans (((below_alloc B3.out _).mono HB.out.size).trans HL.out.bl)⟩, HA4, ⟨same_holder HFH.out (fun j _ => holder_ms HM.out j)⟩⟩
                    case measure => simp [intOf]; omega
            · skip
              exact absurd (hmx.out.out (by omega)).2 (by simp)
          · skip
            exact absurd (hmx.out.out (by omega)).2 (by simp)
      · obtain rfl : k = n := by omega
        clear hin hth
        go_wp2
        go_ret
        exact ⟨rfl, HB.out⟩
end Go.Proofs.Ytfkoehokjpcogaa.Hand
