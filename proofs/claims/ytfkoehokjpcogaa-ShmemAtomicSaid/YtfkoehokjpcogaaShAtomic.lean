/- ropeladderlaw01.ShmemAtomic computes true; the arguments are a row of Raw and a Raw. -/
import Derived.Test.YtfkoehokjpcogaaShAtom
import Derived.BigQuiet
import Derived.Deep.QuietTactic
namespace Go.Proofs.Ytfkoehokjpcogaa.Hand
open Go.RowKit Go.Proofs.YtfkoehokjpcogaaW.PrintWords Go.Proofs.YtfkoehokjpcogaaW.PrintLast Go.Proofs.YtfkoehokjpcogaaW.PrintMore
set_option linter.unusedVariables false
set_option linter.unusedSimpArgs false
attribute [local go_sem] max2_int min2_int max_two min_two max_three min_three max_four min_four

theorem IsRaws.alloc {w w' : World} {A : Option Addr} {n : Nat} {l : List Raw} (h : IsRaws w A n l) (hb : Below w.heap.size w w') : IsRaws w' A n l := by
  refine ⟨h.len, h.max, h.ok, fun i hi => ?_⟩
  obtain ⟨ad, e, h1, h2⟩ := h.cell i hi
  exact ⟨ad, e, Nat.lt_of_lt_of_le h1 hb.size, fun j u hu => (cell_add hb h1).trans (h2 j u hu)⟩
theorem box_cells {WA w : World} {b : Nat} {y : Raw} (h : WA.heap[b]? = some (.cells #[.int .u8 y.k, .int .u8 y.t, .int .u8 y.x, .int .i64 y.a, .int .i64 y.b] 32 (0, 0))) (hb : Below WA.heap.size WA w) (hlt : b < WA.heap.size) :
    w.cell? ⟨b, 0, none⟩ = some (.int .u8 y.k) ∧ w.cell? ⟨b, 1, none⟩ = some (.int .u8 y.t) ∧ w.cell? ⟨b, 2, none⟩ = some (.int .u8 y.x) ∧ w.cell? ⟨b, 3, none⟩ = some (.int .i64 y.a) ∧ w.cell? ⟨b, 4, none⟩ = some (.int .i64 y.b) := by
  have e := (hb.block b hlt).trans h
  refine ⟨?_, ?_, ?_, ?_, ?_⟩ <;> simp [World.cell?, e]
set_option maxHeartbeats 16000000 in
set_option maxRecDepth 100000 in
theorem atomic_walk (A : Option Addr) (n c : Nat) (l : List Raw) (y : Raw) (W : World) (h : IsRaws W A n l) (hy : y.ok) :
    Calls Try.prog 6 #[.slice A n c, .agg #[.int .u8 y.k, .int .u8 y.t, .int .u8 y.x, .int .i64 y.a, .int .i64 y.b]] W fun e w' => e = .returned (.bool true) ∧ Below W.heap.size W w' := by
  have hn := h.max
  have HY := Aside0.mk hy
  clear hy
  by_cases h200 : (200 : Int) < n
  · have d1 : decide ((200 : Int) < n) = true := decide_eq_true h200
    go_enter Try.func6, Try.ntmps6
    go_upto_region 1 with (fail)
    obtain ⟨WA, hWA⟩ : ∃ WA, W.alloc (.cells #[.int .u8 y.k, .int .u8 y.t, .int .u8 y.x, .int .i64 y.a, .int .i64 y.b] 32) = WA := ⟨_, rfl⟩
    rw [hWA]
    have HWS := Aside0.mk (show W.heap.size < WA.heap.size by rw [← hWA]; simp)
    have HWB := Aside0.mk (show Below W.heap.size W WA by rw [← hWA]; exact below_alloc (Below.refl _ _) _)
    have HQ := Aside0.mk (show WA.heap[W.heap.size]? = some (.cells #[.int .u8 y.k, .int .u8 y.t, .int .u8 y.x, .int .i64 y.a, .int .i64 y.b] 32 (0, 0)) by rw [← hWA]; exact push_get rfl)
    have HR := Aside0.mk (show IsRaws WA A n l from h.alloc HWB.out)
    clear hWA h
    go_wp2_with (first | (go_at_call 9; (with_reducible refine (head_calls WA).mono ?_); rintro e w1 ⟨rfl, hb⟩; have B1 := Aside0.mk hb; clear hb) | (go_at_call 10; (with_reducible refine (new44 _).mono ?_); rintro e w2 ⟨g, gw, gm, rfl, hi, hb⟩; have H2 := Aside0.mk (hi.lower B1.out.size); have B2 := Aside0.mk (Below.trans B1.out (hb.mono B1.out.size)); clear hi hb B1))
    go_ret
    exact ⟨rfl, HWB.out.trans (B2.out.mono (Nat.le_of_lt HWS.out))⟩
  · have d1 : decide ((200 : Int) < n) = false := decide_eq_false h200
    go_enter Try.func6, Try.ntmps6
    go_upto_region 1 with (fail)
    obtain ⟨WA, hWA⟩ : ∃ WA, W.alloc (.cells #[.int .u8 y.k, .int .u8 y.t, .int .u8 y.x, .int .i64 y.a, .int .i64 y.b] 32) = WA := ⟨_, rfl⟩
    rw [hWA]
    have HWS := Aside0.mk (show W.heap.size < WA.heap.size by rw [← hWA]; simp)
    have HWB := Aside0.mk (show Below W.heap.size W WA by rw [← hWA]; exact below_alloc (Below.refl _ _) _)
    have HQ := Aside0.mk (show WA.heap[W.heap.size]? = some (.cells #[.int .u8 y.k, .int .u8 y.t, .int .u8 y.x, .int .i64 y.a, .int .i64 y.b] 32 (0, 0)) by rw [← hWA]; exact push_get rfl)
    have HR := Aside0.mk (show IsRaws WA A n l from h.alloc HWB.out)
    clear hWA h
    go_wp2_with (first | (go_at_call 9; (with_reducible refine (head_calls WA).mono ?_); rintro e w1 ⟨rfl, hb⟩; have B1 := Aside0.mk hb; clear hb) | (go_at_call 10; (with_reducible refine (new44 _).mono ?_); rintro e w2 ⟨g, gw, gm, rfl, hi, hb⟩; have H2 := Aside0.mk (hi.lower B1.out.size); have B2 := Aside0.mk (Below.trans B1.out (hb.mono B1.out.size)); clear hi hb B1))
    go_loopw [7] (fun i w' => ∃ k : Nat, k ≤ n ∧ i = .int .i64 k ∧ ∃ s, Aside0 (s = (sz 4 4).runs (l.take k)) ∧ Aside0 (Is w' WA.heap.size g gw gm s) ∧ Aside0 (Below WA.heap.size WA w')) (fun i _ => n - (intOf i).toNat)
    case atStart => exact ⟨0, Nat.zero_le _, rfl, _, ⟨rfl⟩, H2, B2⟩
    case round =>
      clear H2 B2 d1
      obtain ⟨k, hk, rfl, s, HS, HI, HB⟩ := hrel
      have hin := runs_in l k (by rw [HR.out.len]; exact hk)
      rw [← HS.out] at hin
      have HF := Aside0.mk (hin.fit (by omega))
      clear hin
      by_cases hlt : k < n
      · skip
        obtain ⟨ad, e2, hadl, hcl⟩ := HR.out.cell k (by rw [HR.out.len]; exact hlt)
        cases e2
        have hok := HR.out.ok k (by rw [HR.out.len]; exact hlt)
        obtain ⟨r, hr⟩ : ∃ r, l[k]'(by rw [HR.out.len]; exact hlt) = r := ⟨_, rfl⟩
        rw [hr] at hcl hok
        have HRE := Aside0.mk hr
        clear hr
        obtain ⟨⟨kd, th, ix, a, b⟩, ho⟩ : ∃ o, opOf r = o := ⟨_, rfl⟩
        have hrg := opOf_range hok ho
        simp only at hrg
        obtain ⟨k1, k7, t0, t3, x0, x4⟩ := hrg
        obtain ⟨⟨s', m, ok⟩, hrun⟩ : ∃ z, s.run1 ⟨kd, th, ix, a, b⟩ = z := ⟨_, rfl⟩
        have HOK := Aside0.mk hok
        have HO := Aside0.mk ho
        have HRUN := Aside0.mk hrun
        obtain ⟨q0, q1, q2, q3, q4⟩ := raw_cells (w := wr) (ad := ad) (k := k) (r := r) (fun j u hu => (cell_add HB.out hadl).trans (hcl j u hu))
        clear hok ho hrun hcl hadl
        have HSN := Aside0.mk (show s' = (sz 4 4).runs (l.take (k + 1)) by rw [runs_succ _ _ _ (by rw [HR.out.len]; exact hlt), ← HS.out, HRE.out, HO.out, HRUN.out])
        go_wp2_with (first | (go_at_call 12; (with_reducible refine (op_calls' r _ _ HOK.out HO.out).mono ?_); rintro e w3 ⟨rfl, hb⟩; have B3 := Aside0.mk hb; clear hb) | (go_at_call 13; (with_reducible refine (do_calls' (Is.left HI.out B3.out).is HF.out kd th ix a b HRUN.out).mono ?_); rintro e w4 ⟨rfl, hl⟩; have HL := Aside0.mk hl; clear hl))
        go_roundw
        case rel => exact ⟨k + 1, by omega, by go_num, s', HSN, ⟨HL.out.is⟩, ⟨HB.out.trans ((B3.out.mono HB.out.size).trans HL.out.bl)⟩⟩
        case measure => simp [intOf]; omega
      · obtain rfl : k = n := by omega
        have hin := Aside0.mk (show s.In k by have hin := runs_in l k (by rw [HR.out.len]; exact hk); rw [← HS.out] at hin; exact hin)
        obtain ⟨q0, q1, q2, q3, q4⟩ := box_cells HQ.out HB.out HWS.out
        obtain ⟨⟨kd, th, ix, a, b⟩, ho⟩ : ∃ o, opOf y = o := ⟨_, rfl⟩
        have hrg := opOf_range HY.out ho
        simp only at hrg
        obtain ⟨k1, k7, t0, t3, x0, x4⟩ := hrg
        obtain ⟨⟨s', m, ok⟩, hrun⟩ : ∃ z, s.run1 ⟨kd, th, ix, a, b⟩ = z := ⟨_, rfl⟩
        have HO := Aside0.mk ho
        have HRUN := Aside0.mk hrun
        clear HS hk ho hrun
        go_wp2_with (first | (go_at_call 12; (with_reducible refine (op_calls' y _ _ HY.out HO.out).mono ?_); rintro e w3 ⟨rfl, hb⟩; have B3 := Aside0.mk hb; clear hb))
        have HBO := Aside0.mk (Bo.new HI.out HB.out B3.out kd th ix a b)
        obtain ⟨b8, hb8⟩ : ∃ b, w3.heap.size = b := ⟨_, rfl⟩
        rw [hb8] at HBO ⊢
        clear q0 q1 q2 q3 q4 HI HB hb8 B3
        go_loopw [10] (fun i w' => ∃ k : Nat, k ≤ 4 ∧ i = .int .i64 k ∧ ∃ f, Aside0 (∀ j : Nat, j < k → f j = s.word j) ∧ Aside0 (Bo WA.heap.size WA w' g gw gm b8 s ⟨kd, th, ix, a, b⟩ f)) (fun i _ => 4 - (intOf i).toNat)
        case atStart => exact ⟨0, by omega, rfl, _, ⟨fun j hj => absurd hj (by omega)⟩, HBO⟩
        case round =>
          clear HBO
          obtain ⟨k2, hk2, rfl, f, HFW, HBO⟩ := hrel
          by_cases hlt2 : k2 < 4
          · obtain ⟨v, hv⟩ : ∃ v, s.word k2 = v := ⟨_, rfl⟩
            have HV := Aside0.mk hv
            clear hv
            have c1 := HBO.out.ar.cell hlt2
            have f1 := HBO.out.ar.free k2
            go_wp2_with (first | (go_at_call 15; (with_reducible refine (word_callsV HBO.out.is HF.out k2 HV.out).mono ?_); rintro e wx ⟨rfl, rfl⟩))
            go_roundw
            case rel => exact ⟨k2 + 1, by omega, by go_num, _, ⟨fun j hj => by
              show (if j = k2 then v else f j) = s.word j
              by_cases e : j = k2
              · rw [if_pos e, e, HV.out]
              · rw [if_neg e]; exact HFW.out j (by omega)⟩, ⟨HBO.out.put hlt2 v⟩⟩
            case measure => simp [intOf]; omega
          · obtain rfl : k2 = 4 := by omega
            obtain ⟨o0, o1, o2, o3, o4⟩ := HBO.out.cells
            simp only at o0 o1 o2 o3 o4
            go_wp2_with (first | (go_at_call 13; (with_reducible refine (do_calls' HBO.out.is HF.out kd th ix a b HRUN.out).mono ?_); rintro e w4 ⟨rfl, hl⟩; have HBO4 := Aside0.mk (HBO.out.left hl); clear hl))
            have HWX := Aside0.mk (run1_wx hin.out k1 k7 HRUN.out)
            have HF2 := Aside0.mk ((by have e := run1_in hin.out ⟨kd, th, ix, a, b⟩; rw [HRUN.out] at e; exact e : s'.In (k + 1)).fit (by omega))
            clear o0 o1 o2 o3 o4 hk2 hlt2 HBO
            go_loopw [13] (fun i w' => ∃ k : Nat, k ≤ 4 ∧ i = .int .i64 k ∧ Aside0 (Bo WA.heap.size WA w' g gw gm b8 s' ⟨kd, th, ix, a, b⟩ f)) (fun i _ => 4 - (intOf i).toNat)
            case atStart => exact ⟨0, by omega, rfl, HBO4⟩
            case round =>
              clear HBO4
              obtain ⟨k3, hk3, rfl, HBO⟩ := hrel
              by_cases hlt3 : k3 < 4
              · obtain ⟨o0, o1, o2, o3, o4⟩ := HBO.out.cells
                simp only at o0 o1 o2 o3 o4
                obtain ⟨v, hv⟩ : ∃ v, f k3 = v := ⟨_, rfl⟩
                have c1 := HBO.out.ar.cell hlt3
                rw [hv] at c1
                have HV := Aside0.mk (show s.word k3 = v by rw [← hv]; exact (HFW.out k3 hlt3).symm)
                clear hv o1
                by_cases hx : (k3 : Int) = ix
                · have dx : ((k3 : Int) == ix) = true := beq_iff_eq.2 hx
                  have hin4 : 0 ≤ ix ∧ ix < 4 := by omega
                  have HX := Aside0.mk hx
                  clear hx
                  by_cases h2 : kd = 2
                  · have e := HWX.out.add hin4 h2
                    rw [← HX.out, HV.out] at e
                    have d2 : (kd == 2) = true := beq_iff_eq.2 h2
                    have d4 : (kd == 4) = false := beq_eq_false_iff_ne.2 (by omega)
                    have d3 : (kd == 3) = false := beq_eq_false_iff_ne.2 (by omega)
                    have d1 : (kd == 1) = false := beq_eq_false_iff_ne.2 (by omega)
                    clear h2
                    obtain ⟨e1, e2⟩ := e
                    subst e1
                    have HE := Aside0.mk e2
                    clear e2
                    go_wp2_with (fail)
                    go_quiet (fail)
                    go_wp2_with (first | (go_at_call 15; (with_reducible refine (word_callsV (Is.left HBO.out.is (pw_below_drewN (Below.refl _ _) _)).is HF2.out k3 HE.out).mono ?_); rintro e wx ⟨rfl, rfl⟩))
                    go_roundw
                    case rel => exact ⟨k3 + 1, by omega, by go_num, ⟨HBO.out.below (pw_below_drewN (Below.refl _ _) _)⟩⟩
                    case measure => simp [intOf]; omega
                  · by_cases h4 : kd = 4
                    · have e := HWX.out.store hin4 h4
                      rw [← HX.out] at e
                      have d2 : (kd == 2) = false := beq_eq_false_iff_ne.2 h2
                      have d4 : (kd == 4) = true := beq_iff_eq.2 h4
                      have d3 : (kd == 3) = false := beq_eq_false_iff_ne.2 (by omega)
                      have d1 : (kd == 1) = false := beq_eq_false_iff_ne.2 (by omega)
                      clear h2 h4
                      have HE := Aside0.mk e
                      clear e
                      go_wp2_with (first | (go_at_call 15; (with_reducible refine (word_callsV HBO.out.is HF2.out k3 HE.out).mono ?_); rintro e wx ⟨rfl, rfl⟩))
                      go_roundw
                      case rel => exact ⟨k3 + 1, by omega, by go_num, HBO⟩
                      case measure => simp [intOf]; omega
                    · by_cases h3 : kd = 3
                      · have e := HWX.out.cas hin4 h3
                        rw [← HX.out, HV.out] at e
                        have d2 : (kd == 2) = false := beq_eq_false_iff_ne.2 h2
                        have d4 : (kd == 4) = false := beq_eq_false_iff_ne.2 h4
                        have d3 : (kd == 3) = true := beq_iff_eq.2 h3
                        have d1 : (kd == 1) = false := beq_eq_false_iff_ne.2 (by omega)
                        clear h2 h4 h3
                        obtain ⟨e1, e2⟩ := e
                        cases ok
                        · simp only [if_true, Bool.false_eq_true, if_false] at e2
                          have HE := Aside0.mk e2
                          clear e2
                          go_wp2_with (fail)
                          go_quiet (fail)
                          go_wp2_with (first | (go_at_call 15; (with_reducible refine (word_callsV (Is.left HBO.out.is (pw_below_drewN (Below.refl _ _) _)).is HF2.out k3 HE.out).mono ?_); rintro e wx ⟨rfl, rfl⟩))
                          go_roundw
                          case rel => exact ⟨k3 + 1, by omega, by go_num, ⟨HBO.out.below (pw_below_drewN (Below.refl _ _) _)⟩⟩
                          case measure => simp [intOf]; omega
                        · simp only [if_true, Bool.false_eq_true, if_false] at e2
                          have HE := Aside0.mk e2
                          clear e2
                          go_wp2_with (fail)
                          go_quiet (fail)
                          go_wp2_with (first | (go_at_call 15; (with_reducible refine (word_callsV (Is.left HBO.out.is (pw_below_drewN (Below.refl _ _) _)).is HF2.out k3 HE.out).mono ?_); rintro e wx ⟨rfl, rfl⟩))
                          go_roundw
                          case rel => exact ⟨k3 + 1, by omega, by go_num, ⟨HBO.out.below (pw_below_drewN (Below.refl _ _) _)⟩⟩
                          case measure => simp [intOf]; omega
                      · by_cases h1 : kd = 1
                        · have e := HWX.out.load hin4 h1
                          rw [← HX.out, HV.out] at e
                          have d2 : (kd == 2) = false := beq_eq_false_iff_ne.2 h2
                          have d4 : (kd == 4) = false := beq_eq_false_iff_ne.2 h4
                          have d3 : (kd == 3) = false := beq_eq_false_iff_ne.2 h3
                          have d1 : (kd == 1) = true := beq_iff_eq.2 h1
                          clear h2 h4 h3 h1
                          obtain ⟨e1, e2⟩ := e
                          subst e1
                          have HE := Aside0.mk e2
                          clear e2
                          go_wp2_with (first | (go_at_call 15; (with_reducible refine (word_callsV HBO.out.is HF2.out k3 HE.out).mono ?_); rintro e wx ⟨rfl, rfl⟩))
                          go_roundw
                          case rel => exact ⟨k3 + 1, by omega, by go_num, HBO⟩
                          case measure => simp [intOf]; omega
                        · have e := HWX.out.other (by omega) ix
                          rw [← HX.out, HV.out] at e
                          have d2 : (kd == 2) = false := beq_eq_false_iff_ne.2 h2
                          have d4 : (kd == 4) = false := beq_eq_false_iff_ne.2 h4
                          have d3 : (kd == 3) = false := beq_eq_false_iff_ne.2 h3
                          have d1 : (kd == 1) = false := beq_eq_false_iff_ne.2 h1
                          clear h2 h4 h3 h1
                          have HE := Aside0.mk e
                          clear e
                          go_wp2_with (first | (go_at_call 15; (with_reducible refine (word_callsV HBO.out.is HF2.out k3 HE.out).mono ?_); rintro e wx ⟨rfl, rfl⟩))
                          go_roundw
                          case rel => exact ⟨k3 + 1, by omega, by go_num, HBO⟩
                          case measure => simp [intOf]; omega
                · have dx : ((k3 : Int) == ix) = false := beq_eq_false_iff_ne.2 hx
                  have e := HWX.out.off k3 (by omega) hx
                  rw [HV.out] at e
                  have HE := Aside0.mk e
                  clear hx e
                  go_wp2_with (first | (go_at_call 15; (with_reducible refine (word_callsV HBO.out.is HF2.out k3 HE.out).mono ?_); rintro e wx ⟨rfl, rfl⟩))
                  go_roundw
                  case rel => exact ⟨k3 + 1, by omega, by go_num, HBO⟩
                  case measure => simp [intOf]; omega
              · obtain rfl : k3 = 4 := by omega
                go_wp2_with (fail)
                go_ret
                exact ⟨rfl, HWB.out.trans (HBO.out.bl.mono (Nat.le_of_lt HWS.out))⟩
end Go.Proofs.Ytfkoehokjpcogaa.Hand
