/- The reference memory's Touch, and mutex at an index that does not exist; the violations at most 1000000, four mutexes. -/
import Derived.Test.YtfkoehokjpcogaaRefC
import Derived.Deep.RegionLaw
namespace Go.Proofs.Ytfkoehokjpcogaa.Hand
open Go.RowKit Go.Proofs.YtfkoehokjpcogaaW.PrintWords Go.Proofs.YtfkoehokjpcogaaW.PrintLast Go.Proofs.YtfkoehokjpcogaaW.PrintMore
set_option linter.unusedVariables false
set_option linter.unusedSimpArgs false
attribute [local go_sem] max2_int min2_int max_two min_two max_three min_three max_four min_four
section
variable {W W' : World} {base rb rw rm cw cm : Nat} {vl : Value} {log : List Acc} {V : Int} {ws hs : List Int}
theorem quiet_add_same {P : Program} {f : FuncId} {args : Array Value} {w : World} {a n : Nat} {v : Value}
    (h : Calls P f args (w.drewN (a + n)) fun e w' => e = .returned v ∧ w' = w.drewN (a + n)) :
    Calls P f args (w.drewN (a + n)) fun e w'' => e = .returned v ∧ ∃ m, w'' = w.drewN (a + m) :=
  h.mono fun _ _ ⟨he, hm⟩ => ⟨he, n, hm⟩
theorem heldQ (h : RefIs W base rb rw rm log V ws hs) (n : Nat) (i : Int) (h0 : 0 ≤ i) (h1 : i < hs.length) (h4 : hs.length = 4) {v : Bool} (e : (rd hs i != -1) = v) :
    Calls Try.prog 39 #[.pointer (some ⟨rb, 0, none⟩), .int .i64 i] (W.drewN n) fun e w' => e = .returned (.bool v) ∧ w' = W.drewN n := by
  subst e
  exact held_calls (h.left (pw_below_drewN (Below.refl _ _) n)).is i h0 h1 h4
set_option maxHeartbeats 4000000 in
theorem mut7_yes (h : RefIs W base rb rw rm log V ws hs) (h4 : hs.length = 4) (hv0 : 0 ≤ V) (hv1 : V ≤ 1000000) (th ix a b : Int) (h0 : 0 ≤ ix) (h1 : ix < 4) (hz : rd hs ix = th) (ht : 0 ≤ th) :
    Calls Try.prog 28 #[.pointer (some ⟨rb, 0, none⟩), .agg #[.int .i64 7, .int .i64 th, .int .i64 ix, .int .i64 a, .int .i64 b]] W fun e w' => e = .returned (.bool true) ∧ RLeft W w' base rb rw rm log V ws hs := by
  have H4 := Aside0.mk h4
  have HH := Aside0.mk (show (rd hs ix != -1) = true by exact bne_iff_ne.2 (by omega))
  have HIX := Aside0.mk (show ix < hs.length by omega)
  have HZT := Aside0.mk (show (rd hs ix == th) = true from beq_iff_eq.2 hz)
  have d1 : decide (0 ≤ ix) = true := decide_eq_true h0
  have d2 : decide (ix < 4) = true := decide_eq_true h1
  clear hz h4
  go_enter Try.func28, Try.ntmps28
  go_upto_region 1 with (fail)
  have HM := Aside0.mk (Mo.new h 7 th ix a b)
  obtain ⟨b8, hb8⟩ : ∃ k, W.heap.size = k := ⟨_, rfl⟩
  obtain ⟨WA, hWA⟩ : ∃ WA, W.alloc (.cells #[.int .i64 7, .int .i64 th, .int .i64 ix, .int .i64 a, .int .i64 b] 29) = WA := ⟨_, rfl⟩
  rw [hWA] at HM ⊢
  rw [hb8] at HM ⊢
  clear hWA hb8
  obtain ⟨q0, q1, q2, q3, q4⟩ := HM.out.cells
  simp only at q0 q1 q2 q3 q4
  obtain ⟨vl, cw, cm, hB⟩ := HM.out.l.is
  obtain ⟨_, c1, _, c3⟩ := hB.cell
  rw [H4.out] at c1
  have f13 := hB.free 3
  have hxr := hB.hold
  obtain ⟨hx0, _⟩ := Kd.R_celln 0 hxr ix h0 HIX.out
  have cz : WA.cell? ⟨rm, ix.toNat, none⟩ = some (.int .i64 (rd hs ix)) := hx0
  obtain ⟨z, hzz⟩ : ∃ z, rd hs ix = z := ⟨_, rfl⟩
  rw [hzz] at cz
  have dz : (z == th) = true := by rw [← hzz]; exact HZT.out
  clear hx0 hxr hzz
  clear hB
  go_quiet (fail)
  go_wp2_with (fail)
  go_quiet ((go_at_call 39; exact quiet_add_same (heldQ HM.out.l.is _ ix h0 HIX.out H4.out HH.out)))
  go_wp2_with (fail)
  go_ret
  exact ⟨rfl, ((HM.out.drewN _).l)⟩
set_option maxHeartbeats 4000000 in
theorem mut7_no (h : RefIs W base rb rw rm log V ws hs) (h4 : hs.length = 4) (hv0 : 0 ≤ V) (hv1 : V ≤ 1000000) (th ix a b : Int) (h0 : 0 ≤ ix) (h1 : ix < 4) (hz : rd hs ix ≠ -1) (hzt : rd hs ix ≠ th) :
    Calls Try.prog 28 #[.pointer (some ⟨rb, 0, none⟩), .agg #[.int .i64 7, .int .i64 th, .int .i64 ix, .int .i64 a, .int .i64 b]] W fun e w' => e = .returned (.bool false) ∧ RLeft W w' base rb rw rm log (V + 1) ws hs := by
  have H4 := Aside0.mk h4
  have HH := Aside0.mk (show (rd hs ix != -1) = true by exact bne_iff_ne.2 hz)
  have HIX := Aside0.mk (show ix < hs.length by omega)
  have HZT := Aside0.mk (show (rd hs ix == th) = false from beq_eq_false_iff_ne.2 hzt)
  have d1 : decide (0 ≤ ix) = true := decide_eq_true h0
  have d2 : decide (ix < 4) = true := decide_eq_true h1
  clear hz h4
  clear hzt
  go_enter Try.func28, Try.ntmps28
  go_upto_region 1 with (fail)
  have HM := Aside0.mk (Mo.new h 7 th ix a b)
  obtain ⟨b8, hb8⟩ : ∃ k, W.heap.size = k := ⟨_, rfl⟩
  obtain ⟨WA, hWA⟩ : ∃ WA, W.alloc (.cells #[.int .i64 7, .int .i64 th, .int .i64 ix, .int .i64 a, .int .i64 b] 29) = WA := ⟨_, rfl⟩
  rw [hWA] at HM ⊢
  rw [hb8] at HM ⊢
  clear hWA hb8
  obtain ⟨q0, q1, q2, q3, q4⟩ := HM.out.cells
  simp only at q0 q1 q2 q3 q4
  obtain ⟨vl, cw, cm, hB⟩ := HM.out.l.is
  obtain ⟨_, c1, _, c3⟩ := hB.cell
  rw [H4.out] at c1
  have f13 := hB.free 3
  have hxr := hB.hold
  obtain ⟨hx0, _⟩ := Kd.R_celln 0 hxr ix h0 HIX.out
  have cz : WA.cell? ⟨rm, ix.toNat, none⟩ = some (.int .i64 (rd hs ix)) := hx0
  obtain ⟨z, hzz⟩ : ∃ z, rd hs ix = z := ⟨_, rfl⟩
  rw [hzz] at cz
  have dz : (z == th) = false := by rw [← hzz]; exact HZT.out
  clear hx0 hxr hzz
  clear hB
  go_quiet (fail)
  go_wp2_with (fail)
  go_quiet ((go_at_call 39; exact quiet_add_same (heldQ HM.out.l.is _ ix h0 HIX.out H4.out HH.out)))
  go_wp2_with (fail)
  go_ret
  exact ⟨rfl, ((HM.out.drewN _).viol.l)⟩
set_option maxHeartbeats 4000000 in
theorem mut7_free (h : RefIs W base rb rw rm log V ws hs) (h4 : hs.length = 4) (hv0 : 0 ≤ V) (hv1 : V ≤ 1000000) (th ix a b : Int) (h0 : 0 ≤ ix) (h1 : ix < 4) (hz : rd hs ix = -1) :
    Calls Try.prog 28 #[.pointer (some ⟨rb, 0, none⟩), .agg #[.int .i64 7, .int .i64 th, .int .i64 ix, .int .i64 a, .int .i64 b]] W fun e w' => e = .returned (.bool false) ∧ RLeft W w' base rb rw rm log (V + 1) ws hs := by
  have H4 := Aside0.mk h4
  have HH := Aside0.mk (show (rd hs ix != -1) = false by rw [hz]; rfl)
  have HIX := Aside0.mk (show ix < hs.length by omega)
  have d1 : decide (0 ≤ ix) = true := decide_eq_true h0
  have d2 : decide (ix < 4) = true := decide_eq_true h1
  clear hz h4
  go_enter Try.func28, Try.ntmps28
  go_upto_region 1 with (fail)
  have HM := Aside0.mk (Mo.new h 7 th ix a b)
  obtain ⟨b8, hb8⟩ : ∃ k, W.heap.size = k := ⟨_, rfl⟩
  obtain ⟨WA, hWA⟩ : ∃ WA, W.alloc (.cells #[.int .i64 7, .int .i64 th, .int .i64 ix, .int .i64 a, .int .i64 b] 29) = WA := ⟨_, rfl⟩
  rw [hWA] at HM ⊢
  rw [hb8] at HM ⊢
  clear hWA hb8
  obtain ⟨q0, q1, q2, q3, q4⟩ := HM.out.cells
  simp only at q0 q1 q2 q3 q4
  obtain ⟨vl, cw, cm, hB⟩ := HM.out.l.is
  obtain ⟨_, c1, _, c3⟩ := hB.cell
  rw [H4.out] at c1
  have f13 := hB.free 3
  clear hB
  go_quiet (fail)
  go_wp2_with (fail)
  go_quiet ((go_at_call 39; exact quiet_add_same (heldQ HM.out.l.is _ ix h0 HIX.out H4.out HH.out)))
  go_wp2_with (fail)
  go_ret
  exact ⟨rfl, ((HM.out.drewN _).viol.l)⟩
set_option maxHeartbeats 4000000 in
theorem mut5_lo (h : RefIs W base rb rw rm log V ws hs) (h4 : hs.length = 4) (hv0 : 0 ≤ V) (hv1 : V ≤ 1000000) (th ix a b : Int) (h0 : ix < 0) :
    Calls Try.prog 28 #[.pointer (some ⟨rb, 0, none⟩), .agg #[.int .i64 5, .int .i64 th, .int .i64 ix, .int .i64 a, .int .i64 b]] W fun e w' => e = .returned (.bool false) ∧ RLeft W w' base rb rw rm log V ws hs := by
  have H4 := Aside0.mk h4
  have d1 : decide (0 ≤ ix) = false := decide_eq_false (by omega)
  clear h4
  go_enter Try.func28, Try.ntmps28
  go_upto_region 1 with (fail)
  have HM := Aside0.mk (Mo.new h 5 th ix a b)
  obtain ⟨b8, hb8⟩ : ∃ k, W.heap.size = k := ⟨_, rfl⟩
  obtain ⟨WA, hWA⟩ : ∃ WA, W.alloc (.cells #[.int .i64 5, .int .i64 th, .int .i64 ix, .int .i64 a, .int .i64 b] 29) = WA := ⟨_, rfl⟩
  rw [hWA] at HM ⊢
  rw [hb8] at HM ⊢
  clear hWA hb8
  obtain ⟨q0, q1, q2, q3, q4⟩ := HM.out.cells
  simp only at q0 q1 q2 q3 q4
  obtain ⟨vl, cw, cm, hB⟩ := HM.out.l.is
  obtain ⟨_, c1, _, c3⟩ := hB.cell
  rw [H4.out] at c1
  have f13 := hB.free 3
  clear hB
  go_quiet (fail)
  go_wp2_with (fail)
  go_ret
  exact ⟨rfl, ((HM.out.drewN _).l)⟩
set_option maxHeartbeats 4000000 in
theorem mut5_hi (h : RefIs W base rb rw rm log V ws hs) (h4 : hs.length = 4) (hv0 : 0 ≤ V) (hv1 : V ≤ 1000000) (th ix a b : Int) (h0 : 0 ≤ ix) (h1 : 4 ≤ ix) :
    Calls Try.prog 28 #[.pointer (some ⟨rb, 0, none⟩), .agg #[.int .i64 5, .int .i64 th, .int .i64 ix, .int .i64 a, .int .i64 b]] W fun e w' => e = .returned (.bool false) ∧ RLeft W w' base rb rw rm log V ws hs := by
  have H4 := Aside0.mk h4
  have d1 : decide (0 ≤ ix) = true := decide_eq_true h0
  have d2 : decide (ix < 4) = false := decide_eq_false (by omega)
  clear h4
  go_enter Try.func28, Try.ntmps28
  go_upto_region 1 with (fail)
  have HM := Aside0.mk (Mo.new h 5 th ix a b)
  obtain ⟨b8, hb8⟩ : ∃ k, W.heap.size = k := ⟨_, rfl⟩
  obtain ⟨WA, hWA⟩ : ∃ WA, W.alloc (.cells #[.int .i64 5, .int .i64 th, .int .i64 ix, .int .i64 a, .int .i64 b] 29) = WA := ⟨_, rfl⟩
  rw [hWA] at HM ⊢
  rw [hb8] at HM ⊢
  clear hWA hb8
  obtain ⟨q0, q1, q2, q3, q4⟩ := HM.out.cells
  simp only at q0 q1 q2 q3 q4
  obtain ⟨vl, cw, cm, hB⟩ := HM.out.l.is
  obtain ⟨_, c1, _, c3⟩ := hB.cell
  rw [H4.out] at c1
  have f13 := hB.free 3
  clear hB
  go_quiet (fail)
  go_wp2_with (fail)
  go_ret
  exact ⟨rfl, ((HM.out.drewN _).l)⟩
set_option maxHeartbeats 4000000 in
theorem mut6_lo (h : RefIs W base rb rw rm log V ws hs) (h4 : hs.length = 4) (hv0 : 0 ≤ V) (hv1 : V ≤ 1000000) (th ix a b : Int) (h0 : ix < 0) :
    Calls Try.prog 28 #[.pointer (some ⟨rb, 0, none⟩), .agg #[.int .i64 6, .int .i64 th, .int .i64 ix, .int .i64 a, .int .i64 b]] W fun e w' => e = .returned (.bool false) ∧ RLeft W w' base rb rw rm log V ws hs := by
  have H4 := Aside0.mk h4
  have d1 : decide (0 ≤ ix) = false := decide_eq_false (by omega)
  clear h4
  go_enter Try.func28, Try.ntmps28
  go_upto_region 1 with (fail)
  have HM := Aside0.mk (Mo.new h 6 th ix a b)
  obtain ⟨b8, hb8⟩ : ∃ k, W.heap.size = k := ⟨_, rfl⟩
  obtain ⟨WA, hWA⟩ : ∃ WA, W.alloc (.cells #[.int .i64 6, .int .i64 th, .int .i64 ix, .int .i64 a, .int .i64 b] 29) = WA := ⟨_, rfl⟩
  rw [hWA] at HM ⊢
  rw [hb8] at HM ⊢
  clear hWA hb8
  obtain ⟨q0, q1, q2, q3, q4⟩ := HM.out.cells
  simp only at q0 q1 q2 q3 q4
  obtain ⟨vl, cw, cm, hB⟩ := HM.out.l.is
  obtain ⟨_, c1, _, c3⟩ := hB.cell
  rw [H4.out] at c1
  have f13 := hB.free 3
  clear hB
  go_quiet (fail)
  go_wp2_with (fail)
  go_ret
  exact ⟨rfl, ((HM.out.drewN _).l)⟩
set_option maxHeartbeats 4000000 in
theorem mut6_hi (h : RefIs W base rb rw rm log V ws hs) (h4 : hs.length = 4) (hv0 : 0 ≤ V) (hv1 : V ≤ 1000000) (th ix a b : Int) (h0 : 0 ≤ ix) (h1 : 4 ≤ ix) :
    Calls Try.prog 28 #[.pointer (some ⟨rb, 0, none⟩), .agg #[.int .i64 6, .int .i64 th, .int .i64 ix, .int .i64 a, .int .i64 b]] W fun e w' => e = .returned (.bool false) ∧ RLeft W w' base rb rw rm log V ws hs := by
  have H4 := Aside0.mk h4
  have d1 : decide (0 ≤ ix) = true := decide_eq_true h0
  have d2 : decide (ix < 4) = false := decide_eq_false (by omega)
  clear h4
  go_enter Try.func28, Try.ntmps28
  go_upto_region 1 with (fail)
  have HM := Aside0.mk (Mo.new h 6 th ix a b)
  obtain ⟨b8, hb8⟩ : ∃ k, W.heap.size = k := ⟨_, rfl⟩
  obtain ⟨WA, hWA⟩ : ∃ WA, W.alloc (.cells #[.int .i64 6, .int .i64 th, .int .i64 ix, .int .i64 a, .int .i64 b] 29) = WA := ⟨_, rfl⟩
  rw [hWA] at HM ⊢
  rw [hb8] at HM ⊢
  clear hWA hb8
  obtain ⟨q0, q1, q2, q3, q4⟩ := HM.out.cells
  simp only at q0 q1 q2 q3 q4
  obtain ⟨vl, cw, cm, hB⟩ := HM.out.l.is
  obtain ⟨_, c1, _, c3⟩ := hB.cell
  rw [H4.out] at c1
  have f13 := hB.free 3
  clear hB
  go_quiet (fail)
  go_wp2_with (fail)
  go_ret
  exact ⟨rfl, ((HM.out.drewN _).l)⟩
set_option maxHeartbeats 4000000 in
theorem mut7_lo (h : RefIs W base rb rw rm log V ws hs) (h4 : hs.length = 4) (hv0 : 0 ≤ V) (hv1 : V ≤ 1000000) (th ix a b : Int) (h0 : ix < 0) :
    Calls Try.prog 28 #[.pointer (some ⟨rb, 0, none⟩), .agg #[.int .i64 7, .int .i64 th, .int .i64 ix, .int .i64 a, .int .i64 b]] W fun e w' => e = .returned (.bool false) ∧ RLeft W w' base rb rw rm log (V + 1) ws hs := by
  have H4 := Aside0.mk h4
  have d1 : decide (0 ≤ ix) = false := decide_eq_false (by omega)
  clear h4
  go_enter Try.func28, Try.ntmps28
  go_upto_region 1 with (fail)
  have HM := Aside0.mk (Mo.new h 7 th ix a b)
  obtain ⟨b8, hb8⟩ : ∃ k, W.heap.size = k := ⟨_, rfl⟩
  obtain ⟨WA, hWA⟩ : ∃ WA, W.alloc (.cells #[.int .i64 7, .int .i64 th, .int .i64 ix, .int .i64 a, .int .i64 b] 29) = WA := ⟨_, rfl⟩
  rw [hWA] at HM ⊢
  rw [hb8] at HM ⊢
  clear hWA hb8
  obtain ⟨q0, q1, q2, q3, q4⟩ := HM.out.cells
  simp only at q0 q1 q2 q3 q4
  obtain ⟨vl, cw, cm, hB⟩ := HM.out.l.is
  obtain ⟨_, c1, _, c3⟩ := hB.cell
  rw [H4.out] at c1
  have f13 := hB.free 3
  clear hB
  go_quiet (fail)
  go_wp2_with (fail)
  go_quiet (fail)
  go_wp2_with (fail)
  go_ret
  exact ⟨rfl, ((HM.out.drewN _).viol.l)⟩
set_option maxHeartbeats 4000000 in
theorem mut7_hi (h : RefIs W base rb rw rm log V ws hs) (h4 : hs.length = 4) (hv0 : 0 ≤ V) (hv1 : V ≤ 1000000) (th ix a b : Int) (h0 : 0 ≤ ix) (h1 : 4 ≤ ix) :
    Calls Try.prog 28 #[.pointer (some ⟨rb, 0, none⟩), .agg #[.int .i64 7, .int .i64 th, .int .i64 ix, .int .i64 a, .int .i64 b]] W fun e w' => e = .returned (.bool false) ∧ RLeft W w' base rb rw rm log (V + 1) ws hs := by
  have H4 := Aside0.mk h4
  have d1 : decide (0 ≤ ix) = true := decide_eq_true h0
  have d2 : decide (ix < 4) = false := decide_eq_false (by omega)
  clear h4
  go_enter Try.func28, Try.ntmps28
  go_upto_region 1 with (fail)
  have HM := Aside0.mk (Mo.new h 7 th ix a b)
  obtain ⟨b8, hb8⟩ : ∃ k, W.heap.size = k := ⟨_, rfl⟩
  obtain ⟨WA, hWA⟩ : ∃ WA, W.alloc (.cells #[.int .i64 7, .int .i64 th, .int .i64 ix, .int .i64 a, .int .i64 b] 29) = WA := ⟨_, rfl⟩
  rw [hWA] at HM ⊢
  rw [hb8] at HM ⊢
  clear hWA hb8
  obtain ⟨q0, q1, q2, q3, q4⟩ := HM.out.cells
  simp only at q0 q1 q2 q3 q4
  obtain ⟨vl, cw, cm, hB⟩ := HM.out.l.is
  obtain ⟨_, c1, _, c3⟩ := hB.cell
  rw [H4.out] at c1
  have f13 := hB.free 3
  clear hB
  go_quiet (fail)
  go_wp2_with (fail)
  go_quiet (fail)
  go_wp2_with (fail)
  go_ret
  exact ⟨rfl, ((HM.out.drewN _).viol.l)⟩
end
end Go.Proofs.Ytfkoehokjpcogaa.Hand
