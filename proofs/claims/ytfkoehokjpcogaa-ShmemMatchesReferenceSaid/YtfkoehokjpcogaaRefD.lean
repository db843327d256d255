/- The reference memory's mutex; the log and the violations at most 1000000, four mutexes. -/
import Derived.Test.YtfkoehokjpcogaaRefC
import Derived.Deep.RegionLaw
namespace Go.Proofs.Ytfkoehokjpcogaa.Hand
open Go.RowKit Go.Proofs.YtfkoehokjpcogaaW.PrintWords Go.Proofs.YtfkoehokjpcogaaW.PrintLast Go.Proofs.YtfkoehokjpcogaaW.PrintMore
set_option linter.unusedVariables false
set_option linter.unusedSimpArgs false
attribute [local go_sem] max2_int min2_int max_two min_two max_three min_three max_four min_four
section
variable {W W' : World} {base rb rw rm cw cm : Nat} {vl : Value} {log : List Acc} {V : Int} {ws hs : List Int}
theorem RefB.logStay (h : RefB W base rb rw rm vl cw cm log V ws hs) (hg : W.grownBy W' vl.ownBlock) : W'.cell? ⟨rb, 2, none⟩ = some vl ∧ W'.frozen? ⟨rb, 2, none⟩ = false := by
  have e : W'.heap[rb]? = W.heap[rb]? := hg.block rb h.lt (fun e => by
    obtain ⟨cs, e2⟩ := Kd.R_typed h.lo rb e.symm
    rw [h.blk] at e2
    injection e2 with e2
    injection e2 with _ e3
    exact absurd e3 (by decide))
  have e2 := e.trans h.blk
  constructor <;> simp [World.cell?, World.frozen?, e2]
theorem heldV (h : RefIs W base rb rw rm log V ws hs) (i : Int) (h0 : 0 ≤ i) (h1 : i < hs.length) (h4 : hs.length = 4) {v : Bool} (e : (rd hs i != -1) = v) :
    Calls Try.prog 39 #[.pointer (some ⟨rb, 0, none⟩), .int .i64 i] W fun e w' => e = .returned (.bool v) ∧ w' = W := by
  subst e
  exact held_calls h i h0 h1 h4
set_option maxHeartbeats 4000000 in
theorem mut5_yes (h : RefIs W base rb rw rm log V ws hs) (h4 : hs.length = 4) (hl : log.length ≤ 1000000) (th ix a b : Int) (h0 : 0 ≤ ix) (h1 : ix < 4) (hz : rd hs ix = -1) :
    Calls Try.prog 28 #[.pointer (some ⟨rb, 0, none⟩), .agg #[.int .i64 5, .int .i64 th, .int .i64 ix, .int .i64 a, .int .i64 b]] W fun e w' => e = .returned (.bool true) ∧ RLeft W w' base rb rw rm (log ++ [⟨th, 5, ix, 0, 1, true⟩]) V ws (hs.set ix.toNat th) := by
  have H4 := Aside0.mk h4
  have HLL := Aside0.mk hl
  have HH := Aside0.mk (show (rd hs ix != -1) = false by rw [hz]; rfl)
  have HIX := Aside0.mk (show ix < hs.length by omega)
  have d1 : decide (0 ≤ ix) = true := decide_eq_true h0
  have d2 : decide (ix < 4) = true := decide_eq_true h1
  clear hl hz h4
  go_enter Try.func28, Try.ntmps28
  go_upto_region 1 with (fail)
  have HM := Aside0.mk (Mo.new h 5 th ix a b)
  obtain ⟨b8, hb8⟩ : ∃ k, W.heap.size = k := ⟨_, rfl⟩
  obtain ⟨WA, hWA⟩ : ∃ WA, W.alloc (.cells #[.int .i64 5, .int .i64 th, .int .i64 ix, .int .i64 a, .int .i64 b] 29) = WA := ⟨_, rfl⟩
  rw [hWA] at HM ⊢
  rw [hb8] at HM ⊢
  clear hWA hb8
  obtain ⟨q0, q1, q2, q3, q4⟩ := HM.out.cells
  simp only at q0 q1 q2 q3 q4
  obtain ⟨vl, cw, cm, hB⟩ := HM.out.l.is
  obtain ⟨_, c1, _, _⟩ := hB.cell
  rw [H4.out] at c1
  clear hB
  go_quiet (fail)
  go_wp2_with (first | (go_at_call 39; (with_reducible refine (heldV (HM.out.drewN _).l.is ix h0 HIX.out H4.out HH.out).mono ?_); rintro e wx ⟨rfl, rfl⟩) | (go_at_call 40; (with_reducible refine (set_calls (HM.out.drewN _).l.is ix true true th h0 HIX.out H4.out).mono ?_); rintro e w5 ⟨rfl, hl5⟩; have HM5 := Aside0.mk ((HM.out.drewN _).left hl5); obtain ⟨p0, p1, p2, p3, p4⟩ := HM5.out.cells; simp only at p0 p1 p2 p3 p4; obtain ⟨vl5, cw5, cm5, hB5⟩ := HM5.out.l.is; have HB5 := Aside0.mk hB5; obtain ⟨_, _, c25, _⟩ := hB5.cell; have HC25 := Aside0.mk c25; have f25 := hB5.free 2; have HF25 := Aside0.mk f25; have hs5 := Aside0.mk (Nat.le_trans hB5.hg (Nat.le_of_lt hB5.lt)); clear hl5 hB5))
  simp only [if_true, Bool.false_eq_true, if_false] at HB5 HM5
  have HBD := Aside0.mk (HB5.out.below (below_drew1 (Below.refl _ _)))
  have ca5 : ∀ o, (w5.drew.alloc o).cell? ⟨rb, 2, none⟩ = some vl5 := fun o => ((below_alloc (Below.refl w5.heap.size _) o).cell (p := ⟨rb, 2, none⟩) HB5.out.lt).trans HC25.out
  have ca0 : ∀ o, (w5.drew.alloc o).cell? ⟨b8, 0, none⟩ = some (.int .i64 5) := fun o => ((below_alloc (Below.refl w5.heap.size _) o).cell (p := ⟨b8, 0, none⟩) HM5.out.far.lt).trans p0
  have ca1 : ∀ o, (w5.drew.alloc o).cell? ⟨b8, 1, none⟩ = some (.int .i64 th) := fun o => ((below_alloc (Below.refl w5.heap.size _) o).cell (p := ⟨b8, 1, none⟩) HM5.out.far.lt).trans p1
  have ca2 : ∀ o, (w5.drew.alloc o).cell? ⟨b8, 2, none⟩ = some (.int .i64 ix) := fun o => ((below_alloc (Below.refl w5.heap.size _) o).cell (p := ⟨b8, 2, none⟩) HM5.out.far.lt).trans p2
  refine start_ (n := 20) (S := fun w' => w'.cell? ⟨rb, 2, none⟩ = some vl5 ∧ w'.cell? ⟨b8, 0, none⟩ = some (.int .i64 5) ∧ w'.cell? ⟨b8, 1, none⟩ = some (.int .i64 th) ∧ w'.cell? ⟨b8, 2, none⟩ = some (.int .i64 ix)) (ds := [16, 19]) #[false, false, false, false, false, false, false, false, false, false, false, false, false, false, false, false, false, false, false, false] (by kernel_rfl) rfl rfl ⟨HC25.out, p0, p1, p2⟩ (fun hHeld => ?_)
  refine pure_ (i := 0) (N := some 106) (v := ?_) (a' := ?_) #[true, false, false, false, false, false, false, false, false, false, false, false, false, false, false, false, false, false, false, false] rfl rfl (by kernel_rfl) (fun _ _ _ h => h) (Or.inl ⟨by rfl, ?_⟩) ?_ ?_
  rotate_left
  · intro w'
    go_simp
    with_reducible rfl
  rotate_left
  · simp only [Act.put, List.setIfInBounds_toArray, List.set_cons_zero, List.set_cons_succ, i64_w, i32_w]
    rfl
  refine pure_ (i := 1) (N := some 107) (v := ?_) (a' := ?_) #[true, true, false, false, false, false, false, false, false, false, false, false, false, false, false, false, false, false, false, false] rfl rfl (by kernel_rfl) (fun _ _ _ h => h) (Or.inl ⟨by rfl, ?_⟩) ?_ ?_
  rotate_left
  · intro w'
    go_simp
    with_reducible rfl
  rotate_left
  · simp only [Act.put, List.setIfInBounds_toArray, List.set_cons_zero, List.set_cons_succ, i64_w, i32_w]
    rfl
  refine pure_ (i := 2) (N := some 108) (v := ?_) (a' := ?_) #[true, true, true, false, false, false, false, false, false, false, false, false, false, false, false, false, false, false, false, false] rfl rfl (by kernel_rfl) (fun _ _ _ h => h) (Or.inl ⟨by rfl, ?_⟩) ?_ ?_
  rotate_left
  · intro w'
    go_simp
    with_reducible rfl
  rotate_left
  · simp only [Act.put, List.setIfInBounds_toArray, List.set_cons_zero, List.set_cons_succ, i64_w, i32_w]
    rfl
  refine pure_ (i := 3) (N := some 109) (v := ?_) (a' := ?_) #[true, true, true, true, false, false, false, false, false, false, false, false, false, false, false, false, false, false, false, false] rfl rfl (by kernel_rfl) (fun _ _ _ h => h) (Or.inl ⟨by rfl, ?_⟩) ?_ ?_
  rotate_left
  · intro w'
    go_simp
    with_reducible rfl
  rotate_left
  · simp only [Act.put, List.setIfInBounds_toArray, List.set_cons_zero, List.set_cons_succ, i64_w, i32_w]
    rfl
  refine pure_ (i := 5) (N := some 111) (v := ?_) (a' := ?_) #[true, true, true, true, false, true, false, false, false, false, false, false, false, false, false, false, false, false, false, false] rfl rfl (by kernel_rfl) (fun _ _ _ h => h) (Or.inl ⟨by rfl, ?_⟩) ?_ ?_
  rotate_left
  · intro w'
    go_simp
    with_reducible rfl
  rotate_left
  · simp only [Act.put, List.setIfInBounds_toArray, List.set_cons_zero, List.set_cons_succ, i64_w, i32_w]
    rfl
  refine pure_ (i := 7) (N := some 113) (v := ?_) (a' := ?_) #[true, true, true, true, false, true, false, true, false, false, false, false, false, false, false, false, false, false, false, false] rfl rfl (by kernel_rfl) (fun _ _ _ h => h) (Or.inl ⟨by rfl, ?_⟩) ?_ ?_
  rotate_left
  · intro w'
    go_simp
    with_reducible rfl
  rotate_left
  · simp only [Act.put, List.setIfInBounds_toArray, List.set_cons_zero, List.set_cons_succ, i64_w, i32_w]
    rfl
  refine pure_ (i := 9) (N := some 115) (v := ?_) (a' := ?_) #[true, true, true, true, false, true, false, true, false, true, false, false, false, false, false, false, false, false, false, false] rfl rfl (by kernel_rfl) (fun _ _ _ h => h) (Or.inl ⟨by rfl, ?_⟩) ?_ ?_
  rotate_left
  · intro w'
    go_simp
    with_reducible rfl
  rotate_left
  · simp only [Act.put, List.setIfInBounds_toArray, List.set_cons_zero, List.set_cons_succ, i64_w, i32_w]
    rfl
  refine pure_ (i := 11) (N := some 117) (v := ?_) (a' := ?_) #[true, true, true, true, false, true, false, true, false, true, false, true, false, false, false, false, false, false, false, false] rfl rfl (by kernel_rfl) (fun _ _ _ h => h) (Or.inl ⟨by rfl, ?_⟩) ?_ ?_
  rotate_left
  · intro w'
    go_simp
    with_reducible rfl
  rotate_left
  · simp only [Act.put, List.setIfInBounds_toArray, List.set_cons_zero, List.set_cons_succ, i64_w, i32_w]
    rfl
  refine pure_ (i := 12) (N := some 118) (v := ?_) (a' := ?_) #[true, true, true, true, false, true, false, true, false, true, false, true, true, false, false, false, false, false, false, false] rfl rfl (by kernel_rfl) (fun _ _ _ h => h) (Or.inl ⟨by rfl, ?_⟩) ?_ ?_
  rotate_left
  · intro w'
    go_simp
    with_reducible rfl
  rotate_left
  · simp only [Act.put, List.setIfInBounds_toArray, List.set_cons_zero, List.set_cons_succ, i64_w, i32_w]
    rfl
  refine pure_ (i := 13) (N := some 119) (v := ?_) (a' := ?_) #[true, true, true, true, false, true, false, true, false, true, false, true, true, true, false, false, false, false, false, false] rfl rfl (by kernel_rfl) (fun _ _ _ h => h) (Or.inl ⟨by rfl, ?_⟩) ?_ ?_
  rotate_left
  · intro w'
    go_simp
    with_reducible rfl
  rotate_left
  · simp only [Act.put, List.setIfInBounds_toArray, List.set_cons_zero, List.set_cons_succ, i64_w, i32_w]
    rfl
  refine take_ (i := 4) (N := some 110) (v := ?_) (a' := ?_) #[true, true, true, true, true, true, false, true, false, true, false, true, true, true, false, false, false, false, false, false] rfl rfl (by kernel_rfl) (fun _ _ _ h => h) (Or.inl ⟨by rfl, ?_⟩) hHeld ?_ ?_
  rotate_left
  · rintro w' ⟨s0, s1, s2, s3⟩
    go_simp
    with_reducible rfl
  rotate_left
  · simp only [Act.put, List.setIfInBounds_toArray, List.set_cons_zero, List.set_cons_succ, i64_w, i32_w]
    rfl
  refine take_ (i := 6) (N := some 112) (v := ?_) (a' := ?_) #[true, true, true, true, true, true, true, true, false, true, false, true, true, true, false, false, false, false, false, false] rfl rfl (by kernel_rfl) (fun _ _ _ h => h) (Or.inl ⟨by rfl, ?_⟩) hHeld ?_ ?_
  rotate_left
  · rintro w' ⟨s0, s1, s2, s3⟩
    go_simp
    with_reducible rfl
  rotate_left
  · simp only [Act.put, List.setIfInBounds_toArray, List.set_cons_zero, List.set_cons_succ, i64_w, i32_w]
    rfl
  refine take_ (i := 8) (N := some 114) (v := ?_) (a' := ?_) #[true, true, true, true, true, true, true, true, true, true, false, true, true, true, false, false, false, false, false, false] rfl rfl (by kernel_rfl) (fun _ _ _ h => h) (Or.inl ⟨by rfl, ?_⟩) hHeld ?_ ?_
  rotate_left
  · rintro w' ⟨s0, s1, s2, s3⟩
    go_simp
    with_reducible rfl
  rotate_left
  · simp only [Act.put, List.setIfInBounds_toArray, List.set_cons_zero, List.set_cons_succ, i64_w, i32_w]
    rfl
  refine take_ (i := 10) (N := some 116) (v := ?_) (a' := ?_) #[true, true, true, true, true, true, true, true, true, true, true, true, true, true, false, false, false, false, false, false] rfl rfl (by kernel_rfl) (fun _ _ _ h => h) (Or.inl ⟨by rfl, ?_⟩) hHeld ?_ ?_
  rotate_left
  · rintro w' ⟨s0, s1, s2, s3⟩
    go_simp
    with_reducible rfl
  rotate_left
  · simp only [Act.put, List.setIfInBounds_toArray, List.set_cons_zero, List.set_cons_succ, i64_w, i32_w]
    rfl
  refine pure_ (i := 14) (N := some 120) (v := ?_) (a' := ?_) #[true, true, true, true, true, true, true, true, true, true, true, true, true, true, true, false, false, false, false, false] rfl rfl (by kernel_rfl) (fun _ _ _ h => h) (Or.inl ⟨by rfl, ?_⟩) ?_ ?_
  rotate_left
  · intro w'
    go_simp
    with_reducible rfl
  rotate_left
  · simp only [Act.put, List.setIfInBounds_toArray, List.set_cons_zero, List.set_cons_succ, i64_w, i32_w]
    rfl
  refine one_ (i := 15) (N := some 121) #[true, true, true, true, true, true, true, true, true, true, true, true, true, true, true, true, false, false, false, false] rfl rfl (by kernel_rfl) (by decide) (fun K hK => ?_)
  refine value_ (w1 := ?_) (v := ?_) (by rfl) rfl ?_ ?_
  rotate_left 2
  · go_simp
    constructor
    · rfl
    · rfl
  refine hK.out _ _ ⟨ca5 _, ca0 _, ca1 _, ca2 _⟩ (fun hHeld => ?_)
  clear hK K
  refine norm_ (a' := ?_) ?_ ?_
  rotate_left
  · show Act.put _ (some 121) _ = _
    simp only [Act.put, List.setIfInBounds_toArray, List.set_cons_zero, List.set_cons_succ, i64_w, i32_w]
    rfl
  refine last_ (i := 16) (N := some 122) #[true, true, true, true, true, true, true, true, true, true, true, true, true, true, true, true, true, false, false, false] rfl rfl (by kernel_rfl) (by decide) (fun K hK => ?_)
  refine Kd.R_append_step kA (w0 := w5) base (by rfl) (.tmp 110) (.tmp 121) 38 47 (.agg #[.int .i64 0, .int .i64 0, .int .i64 0, .int .i64 0, .int .i64 0, .bool false]) 48 rfl Try.underlying38 infoAcc rfl (by decide) (by omega) vl5 log ⟨th, 5, ix, 0, 1, true⟩ [.int .i64 th, .int .i64 5, .int .i64 ix, .int .i64 0, .int .i64 1, .bool true] (fun _ => True) (fun _ => False) rfl rfl (kA_mkM _ _ _ _) (fun _ hk => hk.elim) (fun _ _ => trivial) HBD.out.lo (below_drew1 (Below.refl _ _)) hs5.out (by have := HLL.out; omega) ?_
  intro v1 w1 hv1 hb1 hg1 hat1
  obtain ⟨A1, k1, rfl⟩ := Kd.R_slice hv1
  obtain ⟨z1, z2, z3⟩ := HBD.out.pushLog hv1 hg1 hat1
  rw [List.length_append, List.length_cons, List.length_nil] at z1 z2 z3 ⊢
  have HZ := Aside0.mk (RLeft.mk ⟨_, _, _, z1⟩ z2 z3)
  obtain ⟨hc1, hf1⟩ := HBD.out.logStay hg1
  clear hv1 hb1 hg1 hat1 z1 z2 z3
  refine hK.out _ _ ?_
  clear hK K
  refine norm_ (a' := ?_) ?_ ?_
  rotate_left
  · show Act.put _ (some 122) _ = _
    simp only [Act.put, List.setIfInBounds_toArray, List.set_cons_zero, List.set_cons_succ, i64_w, i32_w]
    rfl
  refine pure_ (i := 17) (N := some 123) (v := ?_) (a' := ?_) #[true, true, true, true, true, true, true, true, true, true, true, true, true, true, true, true, true, true, false, false] rfl rfl (by kernel_rfl) (fun _ _ _ h => h) (Or.inl ⟨by rfl, ?_⟩) ?_ ?_
  rotate_left
  · intro w'
    go_simp
    with_reducible rfl
  rotate_left
  · simp only [Act.put, List.setIfInBounds_toArray, List.set_cons_zero, List.set_cons_succ, i64_w, i32_w]
    rfl
  refine pure_ (i := 18) (N := some 124) (v := ?_) (a' := ?_) #[true, true, true, true, true, true, true, true, true, true, true, true, true, true, true, true, true, true, true, false] rfl rfl (by kernel_rfl) (fun _ _ _ h => h) (Or.inl ⟨by rfl, ?_⟩) ?_ ?_
  rotate_left
  · intro w'
    go_simp
    with_reducible rfl
  rotate_left
  · simp only [Act.put, List.setIfInBounds_toArray, List.set_cons_zero, List.set_cons_succ, i64_w, i32_w]
    rfl
  refine last_ (i := 19) (N := none) #[true, true, true, true, true, true, true, true, true, true, true, true, true, true, true, true, true, true, true, true] rfl rfl (by kernel_rfl) (by decide) (fun K hK => ?_)
  refine skip_ (w1 := ?_) (by rfl) rfl ?_ ?_
  rotate_left
  · go_simp
    rfl
  refine hK.out _ _ ?_
  clear hK K
  refine done_ (by kernel_rfl) ?_

  go_wp2
  go_ret
  exact ⟨rfl, HM5.out.l.trans (RLeft.ofDrew HZ.out)⟩
set_option maxHeartbeats 4000000 in
theorem mut5_no (h : RefIs W base rb rw rm log V ws hs) (h4 : hs.length = 4) (hl : log.length ≤ 1000000) (th ix a b : Int) (h0 : 0 ≤ ix) (h1 : ix < 4) (hz : rd hs ix ≠ -1) :
    Calls Try.prog 28 #[.pointer (some ⟨rb, 0, none⟩), .agg #[.int .i64 5, .int .i64 th, .int .i64 ix, .int .i64 a, .int .i64 b]] W fun e w' => e = .returned (.bool false) ∧ RLeft W w' base rb rw rm (log ++ [⟨th, 5, ix, 1, 1, false⟩]) V ws hs := by
  have H4 := Aside0.mk h4
  have HLL := Aside0.mk hl
  have HH := Aside0.mk (show (rd hs ix != -1) = true by exact bne_iff_ne.2 hz)
  have HIX := Aside0.mk (show ix < hs.length by omega)
  have d1 : decide (0 ≤ ix) = true := decide_eq_true h0
  have d2 : decide (ix < 4) = true := decide_eq_true h1
  clear hl hz h4
  go_enter Try.func28, Try.ntmps28
  go_upto_region 1 with (fail)
  have HM := Aside0.mk (Mo.new h 5 th ix a b)
  obtain ⟨b8, hb8⟩ : ∃ k, W.heap.size = k := ⟨_, rfl⟩
  obtain ⟨WA, hWA⟩ : ∃ WA, W.alloc (.cells #[.int .i64 5, .int .i64 th, .int .i64 ix, .int .i64 a, .int .i64 b] 29) = WA := ⟨_, rfl⟩
  rw [hWA] at HM ⊢
  rw [hb8] at HM ⊢
  clear hWA hb8
  obtain ⟨q0, q1, q2, q3, q4⟩ := HM.out.cells
  simp only at q0 q1 q2 q3 q4
  obtain ⟨vl, cw, cm, hB⟩ := HM.out.l.is
  obtain ⟨_, c1, _, _⟩ := hB.cell
  rw [H4.out] at c1
  clear hB
  go_quiet (fail)
  go_wp2_with (first | (go_at_call 39; (with_reducible refine (heldV (HM.out.drewN _).l.is ix h0 HIX.out H4.out HH.out).mono ?_); rintro e wx ⟨rfl, rfl⟩) | (go_at_call 40; (with_reducible refine (set_calls (HM.out.drewN _).l.is ix true false th h0 HIX.out H4.out).mono ?_); rintro e w5 ⟨rfl, hl5⟩; have HM5 := Aside0.mk ((HM.out.drewN _).left hl5); obtain ⟨p0, p1, p2, p3, p4⟩ := HM5.out.cells; simp only at p0 p1 p2 p3 p4; obtain ⟨vl5, cw5, cm5, hB5⟩ := HM5.out.l.is; have HB5 := Aside0.mk hB5; obtain ⟨_, _, c25, _⟩ := hB5.cell; have HC25 := Aside0.mk c25; have f25 := hB5.free 2; have HF25 := Aside0.mk f25; have hs5 := Aside0.mk (Nat.le_trans hB5.hg (Nat.le_of_lt hB5.lt)); clear hl5 hB5))
  simp only [if_true, Bool.false_eq_true, if_false] at HB5 HM5
  have HBD := Aside0.mk (HB5.out.below (below_drew1 (Below.refl _ _)))
  have ca5 : ∀ o, (w5.drew.alloc o).cell? ⟨rb, 2, none⟩ = some vl5 := fun o => ((below_alloc (Below.refl w5.heap.size _) o).cell (p := ⟨rb, 2, none⟩) HB5.out.lt).trans HC25.out
  have ca0 : ∀ o, (w5.drew.alloc o).cell? ⟨b8, 0, none⟩ = some (.int .i64 5) := fun o => ((below_alloc (Below.refl w5.heap.size _) o).cell (p := ⟨b8, 0, none⟩) HM5.out.far.lt).trans p0
  have ca1 : ∀ o, (w5.drew.alloc o).cell? ⟨b8, 1, none⟩ = some (.int .i64 th) := fun o => ((below_alloc (Below.refl w5.heap.size _) o).cell (p := ⟨b8, 1, none⟩) HM5.out.far.lt).trans p1
  have ca2 : ∀ o, (w5.drew.alloc o).cell? ⟨b8, 2, none⟩ = some (.int .i64 ix) := fun o => ((below_alloc (Below.refl w5.heap.size _) o).cell (p := ⟨b8, 2, none⟩) HM5.out.far.lt).trans p2
  refine start_ (n := 20) (S := fun w' => w'.cell? ⟨rb, 2, none⟩ = some vl5 ∧ w'.cell? ⟨b8, 0, none⟩ = some (.int .i64 5) ∧ w'.cell? ⟨b8, 1, none⟩ = some (.int .i64 th) ∧ w'.cell? ⟨b8, 2, none⟩ = some (.int .i64 ix)) (ds := [16, 19]) #[false, false, false, false, false, false, false, false, false, false, false, false, false, false, false, false, false, false, false, false] (by kernel_rfl) rfl rfl ⟨HC25.out, p0, p1, p2⟩ (fun hHeld => ?_)
  refine pure_ (i := 0) (N := some 106) (v := ?_) (a' := ?_) #[true, false, false, false, false, false, false, false, false, false, false, false, false, false, false, false, false, false, false, false] rfl rfl (by kernel_rfl) (fun _ _ _ h => h) (Or.inl ⟨by rfl, ?_⟩) ?_ ?_
  rotate_left
  · intro w'
    go_simp
    with_reducible rfl
  rotate_left
  · simp only [Act.put, List.setIfInBounds_toArray, List.set_cons_zero, List.set_cons_succ, i64_w, i32_w]
    rfl
  refine pure_ (i := 1) (N := some 107) (v := ?_) (a' := ?_) #[true, true, false, false, false, false, false, false, false, false, false, false, false, false, false, false, false, false, false, false] rfl rfl (by kernel_rfl) (fun _ _ _ h => h) (Or.inl ⟨by rfl, ?_⟩) ?_ ?_
  rotate_left
  · intro w'
    go_simp
    with_reducible rfl
  rotate_left
  · simp only [Act.put, List.setIfInBounds_toArray, List.set_cons_zero, List.set_cons_succ, i64_w, i32_w]
    rfl
  refine pure_ (i := 2) (N := some 108) (v := ?_) (a' := ?_) #[true, true, true, false, false, false, false, false, false, false, false, false, false, false, false, false, false, false, false, false] rfl rfl (by kernel_rfl) (fun _ _ _ h => h) (Or.inl ⟨by rfl, ?_⟩) ?_ ?_
  rotate_left
  · intro w'
    go_simp
    with_reducible rfl
  rotate_left
  · simp only [Act.put, List.setIfInBounds_toArray, List.set_cons_zero, List.set_cons_succ, i64_w, i32_w]
    rfl
  refine pure_ (i := 3) (N := some 109) (v := ?_) (a' := ?_) #[true, true, true, true, false, false, false, false, false, false, false, false, false, false, false, false, false, false, false, false] rfl rfl (by kernel_rfl) (fun _ _ _ h => h) (Or.inl ⟨by rfl, ?_⟩) ?_ ?_
  rotate_left
  · intro w'
    go_simp
    with_reducible rfl
  rotate_left
  · simp only [Act.put, List.setIfInBounds_toArray, List.set_cons_zero, List.set_cons_succ, i64_w, i32_w]
    rfl
  refine pure_ (i := 5) (N := some 111) (v := ?_) (a' := ?_) #[true, true, true, true, false, true, false, false, false, false, false, false, false, false, false, false, false, false, false, false] rfl rfl (by kernel_rfl) (fun _ _ _ h => h) (Or.inl ⟨by rfl, ?_⟩) ?_ ?_
  rotate_left
  · intro w'
    go_simp
    with_reducible rfl
  rotate_left
  · simp only [Act.put, List.setIfInBounds_toArray, List.set_cons_zero, List.set_cons_succ, i64_w, i32_w]
    rfl
  refine pure_ (i := 7) (N := some 113) (v := ?_) (a' := ?_) #[true, true, true, true, false, true, false, true, false, false, false, false, false, false, false, false, false, false, false, false] rfl rfl (by kernel_rfl) (fun _ _ _ h => h) (Or.inl ⟨by rfl, ?_⟩) ?_ ?_
  rotate_left
  · intro w'
    go_simp
    with_reducible rfl
  rotate_left
  · simp only [Act.put, List.setIfInBounds_toArray, List.set_cons_zero, List.set_cons_succ, i64_w, i32_w]
    rfl
  refine pure_ (i := 9) (N := some 115) (v := ?_) (a' := ?_) #[true, true, true, true, false, true, false, true, false, true, false, false, false, false, false, false, false, false, false, false] rfl rfl (by kernel_rfl) (fun _ _ _ h => h) (Or.inl ⟨by rfl, ?_⟩) ?_ ?_
  rotate_left
  · intro w'
    go_simp
    with_reducible rfl
  rotate_left
  · simp only [Act.put, List.setIfInBounds_toArray, List.set_cons_zero, List.set_cons_succ, i64_w, i32_w]
    rfl
  refine pure_ (i := 11) (N := some 117) (v := ?_) (a' := ?_) #[true, true, true, true, false, true, false, true, false, true, false, true, false, false, false, false, false, false, false, false] rfl rfl (by kernel_rfl) (fun _ _ _ h => h) (Or.inl ⟨by rfl, ?_⟩) ?_ ?_
  rotate_left
  · intro w'
    go_simp
    with_reducible rfl
  rotate_left
  · simp only [Act.put, List.setIfInBounds_toArray, List.set_cons_zero, List.set_cons_succ, i64_w, i32_w]
    rfl
  refine pure_ (i := 12) (N := some 118) (v := ?_) (a' := ?_) #[true, true, true, true, false, true, false, true, false, true, false, true, true, false, false, false, false, false, false, false] rfl rfl (by kernel_rfl) (fun _ _ _ h => h) (Or.inl ⟨by rfl, ?_⟩) ?_ ?_
  rotate_left
  · intro w'
    go_simp
    with_reducible rfl
  rotate_left
  · simp only [Act.put, List.setIfInBounds_toArray, List.set_cons_zero, List.set_cons_succ, i64_w, i32_w]
    rfl
  refine pure_ (i := 13) (N := some 119) (v := ?_) (a' := ?_) #[true, true, true, true, false, true, false, true, false, true, false, true, true, true, false, false, false, false, false, false] rfl rfl (by kernel_rfl) (fun _ _ _ h => h) (Or.inl ⟨by rfl, ?_⟩) ?_ ?_
  rotate_left
  · intro w'
    go_simp
    with_reducible rfl
  rotate_left
  · simp only [Act.put, List.setIfInBounds_toArray, List.set_cons_zero, List.set_cons_succ, i64_w, i32_w]
    rfl
  refine take_ (i := 4) (N := some 110) (v := ?_) (a' := ?_) #[true, true, true, true, true, true, false, true, false, true, false, true, true, true, false, false, false, false, false, false] rfl rfl (by kernel_rfl) (fun _ _ _ h => h) (Or.inl ⟨by rfl, ?_⟩) hHeld ?_ ?_
  rotate_left
  · rintro w' ⟨s0, s1, s2, s3⟩
    go_simp
    with_reducible rfl
  rotate_left
  · simp only [Act.put, List.setIfInBounds_toArray, List.set_cons_zero, List.set_cons_succ, i64_w, i32_w]
    rfl
  refine take_ (i := 6) (N := some 112) (v := ?_) (a' := ?_) #[true, true, true, true, true, true, true, true, false, true, false, true, true, true, false, false, false, false, false, false] rfl rfl (by kernel_rfl) (fun _ _ _ h => h) (Or.inl ⟨by rfl, ?_⟩) hHeld ?_ ?_
  rotate_left
  · rintro w' ⟨s0, s1, s2, s3⟩
    go_simp
    with_reducible rfl
  rotate_left
  · simp only [Act.put, List.setIfInBounds_toArray, List.set_cons_zero, List.set_cons_succ, i64_w, i32_w]
    rfl
  refine take_ (i := 8) (N := some 114) (v := ?_) (a' := ?_) #[true, true, true, true, true, true, true, true, true, true, false, true, true, true, false, false, false, false, false, false] rfl rfl (by kernel_rfl) (fun _ _ _ h => h) (Or.inl ⟨by rfl, ?_⟩) hHeld ?_ ?_
  rotate_left
  · rintro w' ⟨s0, s1, s2, s3⟩
    go_simp
    with_reducible rfl
  rotate_left
  · simp only [Act.put, List.setIfInBounds_toArray, List.set_cons_zero, List.set_cons_succ, i64_w, i32_w]
    rfl
  refine take_ (i := 10) (N := some 116) (v := ?_) (a' := ?_) #[true, true, true, true, true, true, true, true, true, true, true, true, true, true, false, false, false, false, false, false] rfl rfl (by kernel_rfl) (fun _ _ _ h => h) (Or.inl ⟨by rfl, ?_⟩) hHeld ?_ ?_
  rotate_left
  · rintro w' ⟨s0, s1, s2, s3⟩
    go_simp
    with_reducible rfl
  rotate_left
  · simp only [Act.put, List.setIfInBounds_toArray, List.set_cons_zero, List.set_cons_succ, i64_w, i32_w]
    rfl
  refine pure_ (i := 14) (N := some 120) (v := ?_) (a' := ?_) #[true, true, true, true, true, true, true, true, true, true, true, true, true, true, true, false, false, false, false, false] rfl rfl (by kernel_rfl) (fun _ _ _ h => h) (Or.inl ⟨by rfl, ?_⟩) ?_ ?_
  rotate_left
  · intro w'
    go_simp
    with_reducible rfl
  rotate_left
  · simp only [Act.put, List.setIfInBounds_toArray, List.set_cons_zero, List.set_cons_succ, i64_w, i32_w]
    rfl
  refine one_ (i := 15) (N := some 121) #[true, true, true, true, true, true, true, true, true, true, true, true, true, true, true, true, false, false, false, false] rfl rfl (by kernel_rfl) (by decide) (fun K hK => ?_)
  refine value_ (w1 := ?_) (v := ?_) (by rfl) rfl ?_ ?_
  rotate_left 2
  · go_simp
    constructor
    · rfl
    · rfl
  refine hK.out _ _ ⟨ca5 _, ca0 _, ca1 _, ca2 _⟩ (fun hHeld => ?_)
  clear hK K
  refine norm_ (a' := ?_) ?_ ?_
  rotate_left
  · show Act.put _ (some 121) _ = _
    simp only [Act.put, List.setIfInBounds_toArray, List.set_cons_zero, List.set_cons_succ, i64_w, i32_w]
    rfl
  refine last_ (i := 16) (N := some 122) #[true, true, true, true, true, true, true, true, true, true, true, true, true, true, true, true, true, false, false, false] rfl rfl (by kernel_rfl) (by decide) (fun K hK => ?_)
  refine Kd.R_append_step kA (w0 := w5) base (by rfl) (.tmp 110) (.tmp 121) 38 47 (.agg #[.int .i64 0, .int .i64 0, .int .i64 0, .int .i64 0, .int .i64 0, .bool false]) 48 rfl Try.underlying38 infoAcc rfl (by decide) (by omega) vl5 log ⟨th, 5, ix, 1, 1, false⟩ [.int .i64 th, .int .i64 5, .int .i64 ix, .int .i64 1, .int .i64 1, .bool false] (fun _ => True) (fun _ => False) rfl rfl (kA_mkM _ _ _ _) (fun _ hk => hk.elim) (fun _ _ => trivial) HBD.out.lo (below_drew1 (Below.refl _ _)) hs5.out (by have := HLL.out; omega) ?_
  intro v1 w1 hv1 hb1 hg1 hat1
  obtain ⟨A1, k1, rfl⟩ := Kd.R_slice hv1
  obtain ⟨z1, z2, z3⟩ := HBD.out.pushLog hv1 hg1 hat1
  rw [List.length_append, List.length_cons, List.length_nil] at z1 z2 z3 ⊢
  have HZ := Aside0.mk (RLeft.mk ⟨_, _, _, z1⟩ z2 z3)
  obtain ⟨hc1, hf1⟩ := HBD.out.logStay hg1
  clear hv1 hb1 hg1 hat1 z1 z2 z3
  refine hK.out _ _ ?_
  clear hK K
  refine norm_ (a' := ?_) ?_ ?_
  rotate_left
  · show Act.put _ (some 122) _ = _
    simp only [Act.put, List.setIfInBounds_toArray, List.set_cons_zero, List.set_cons_succ, i64_w, i32_w]
    rfl
  refine pure_ (i := 17) (N := some 123) (v := ?_) (a' := ?_) #[true, true, true, true, true, true, true, true, true, true, true, true, true, true, true, true, true, true, false, false] rfl rfl (by kernel_rfl) (fun _ _ _ h => h) (Or.inl ⟨by rfl, ?_⟩) ?_ ?_
  rotate_left
  · intro w'
    go_simp
    with_reducible rfl
  rotate_left
  · simp only [Act.put, List.setIfInBounds_toArray, List.set_cons_zero, List.set_cons_succ, i64_w, i32_w]
    rfl
  refine pure_ (i := 18) (N := some 124) (v := ?_) (a' := ?_) #[true, true, true, true, true, true, true, true, true, true, true, true, true, true, true, true, true, true, true, false] rfl rfl (by kernel_rfl) (fun _ _ _ h => h) (Or.inl ⟨by rfl, ?_⟩) ?_ ?_
  rotate_left
  · intro w'
    go_simp
    with_reducible rfl
  rotate_left
  · simp only [Act.put, List.setIfInBounds_toArray, List.set_cons_zero, List.set_cons_succ, i64_w, i32_w]
    rfl
  refine last_ (i := 19) (N := none) #[true, true, true, true, true, true, true, true, true, true, true, true, true, true, true, true, true, true, true, true] rfl rfl (by kernel_rfl) (by decide) (fun K hK => ?_)
  refine skip_ (w1 := ?_) (by rfl) rfl ?_ ?_
  rotate_left
  · go_simp
    rfl
  refine hK.out _ _ ?_
  clear hK K
  refine done_ (by kernel_rfl) ?_

  go_wp2
  go_ret
  exact ⟨rfl, HM5.out.l.trans (RLeft.ofDrew HZ.out)⟩
set_option maxHeartbeats 4000000 in
theorem mut6_yes (h : RefIs W base rb rw rm log V ws hs) (h4 : hs.length = 4) (hl : log.length ≤ 1000000) (th ix a b : Int) (h0 : 0 ≤ ix) (h1 : ix < 4) (hz : rd hs ix = th) (ht : 0 ≤ th) :
    Calls Try.prog 28 #[.pointer (some ⟨rb, 0, none⟩), .agg #[.int .i64 6, .int .i64 th, .int .i64 ix, .int .i64 a, .int .i64 b]] W fun e w' => e = .returned (.bool true) ∧ RLeft W w' base rb rw rm (log ++ [⟨th, 6, ix, 1, 0, true⟩]) V ws (hs.set ix.toNat (-1)) := by
  have H4 := Aside0.mk h4
  have HLL := Aside0.mk hl
  have HH := Aside0.mk (show (rd hs ix != -1) = true by exact bne_iff_ne.2 (by omega))
  have HIX := Aside0.mk (show ix < hs.length by omega)
  have d1 : decide (0 ≤ ix) = true := decide_eq_true h0
  have d2 : decide (ix < 4) = true := decide_eq_true h1
  have HZT := Aside0.mk (show (rd hs ix == th) = true from beq_iff_eq.2 hz)
  clear hl hz h4
  go_enter Try.func28, Try.ntmps28
  go_upto_region 1 with (fail)
  have HM := Aside0.mk (Mo.new h 6 th ix a b)
  obtain ⟨b8, hb8⟩ : ∃ k, W.heap.size = k := ⟨_, rfl⟩
  obtain ⟨WA, hWA⟩ : ∃ WA, W.alloc (.cells #[.int .i64 6, .int .i64 th, .int .i64 ix, .int .i64 a, .int .i64 b] 29) = WA := ⟨_, rfl⟩
  rw [hWA] at HM ⊢
  rw [hb8] at HM ⊢
  clear hWA hb8
  obtain ⟨q0, q1, q2, q3, q4⟩ := HM.out.cells
  simp only at q0 q1 q2 q3 q4
  obtain ⟨vl, cw, cm, hB⟩ := HM.out.l.is
  obtain ⟨_, c1, _, _⟩ := hB.cell
  rw [H4.out] at c1
  have hxr := hB.hold
  obtain ⟨hx0, _⟩ := Kd.R_celln 0 hxr ix h0 HIX.out
  have cz : WA.cell? ⟨rm, ix.toNat, none⟩ = some (.int .i64 (rd hs ix)) := hx0
  obtain ⟨z, hzz⟩ : ∃ z, rd hs ix = z := ⟨_, rfl⟩
  rw [hzz] at cz
  have dz : (z == th) = true := by rw [← hzz]; exact HZT.out
  clear hx0 hxr hzz
  clear hB
  go_quiet (fail)
  go_wp2_with (first | (go_at_call 39; (with_reducible refine (heldV (HM.out.drewN _).l.is ix h0 HIX.out H4.out HH.out).mono ?_); rintro e wx ⟨rfl, rfl⟩) | (go_at_call 40; (with_reducible refine (set_calls (HM.out.drewN _).l.is ix false true th h0 HIX.out H4.out).mono ?_); rintro e w5 ⟨rfl, hl5⟩; have HM5 := Aside0.mk ((HM.out.drewN _).left hl5); obtain ⟨p0, p1, p2, p3, p4⟩ := HM5.out.cells; simp only at p0 p1 p2 p3 p4; obtain ⟨vl5, cw5, cm5, hB5⟩ := HM5.out.l.is; have HB5 := Aside0.mk hB5; obtain ⟨_, _, c25, _⟩ := hB5.cell; have HC25 := Aside0.mk c25; have f25 := hB5.free 2; have HF25 := Aside0.mk f25; have hs5 := Aside0.mk (Nat.le_trans hB5.hg (Nat.le_of_lt hB5.lt)); clear hl5 hB5))
  go_quiet (fail)
  go_wp2_with (first | (go_at_call 39; (with_reducible refine (heldV (HM.out.drewN _).l.is ix h0 HIX.out H4.out HH.out).mono ?_); rintro e wx ⟨rfl, rfl⟩) | (go_at_call 40; (with_reducible refine (set_calls (HM.out.drewN _).l.is ix false true th h0 HIX.out H4.out).mono ?_); rintro e w5 ⟨rfl, hl5⟩; have HM5 := Aside0.mk ((HM.out.drewN _).left hl5); obtain ⟨p0, p1, p2, p3, p4⟩ := HM5.out.cells; simp only at p0 p1 p2 p3 p4; obtain ⟨vl5, cw5, cm5, hB5⟩ := HM5.out.l.is; have HB5 := Aside0.mk hB5; obtain ⟨_, _, c25, _⟩ := hB5.cell; have HC25 := Aside0.mk c25; have f25 := hB5.free 2; have HF25 := Aside0.mk f25; have hs5 := Aside0.mk (Nat.le_trans hB5.hg (Nat.le_of_lt hB5.lt)); clear hl5 hB5))
  simp only [if_true, Bool.false_eq_true, if_false] at HB5 HM5
  have HBD := Aside0.mk (HB5.out.below (below_drew1 (Below.refl _ _)))
  have ca5 : ∀ o, (w5.drew.alloc o).cell? ⟨rb, 2, none⟩ = some vl5 := fun o => ((below_alloc (Below.refl w5.heap.size _) o).cell (p := ⟨rb, 2, none⟩) HB5.out.lt).trans HC25.out
  have ca0 : ∀ o, (w5.drew.alloc o).cell? ⟨b8, 0, none⟩ = some (.int .i64 6) := fun o => ((below_alloc (Below.refl w5.heap.size _) o).cell (p := ⟨b8, 0, none⟩) HM5.out.far.lt).trans p0
  have ca1 : ∀ o, (w5.drew.alloc o).cell? ⟨b8, 1, none⟩ = some (.int .i64 th) := fun o => ((below_alloc (Below.refl w5.heap.size _) o).cell (p := ⟨b8, 1, none⟩) HM5.out.far.lt).trans p1
  have ca2 : ∀ o, (w5.drew.alloc o).cell? ⟨b8, 2, none⟩ = some (.int .i64 ix) := fun o => ((below_alloc (Below.refl w5.heap.size _) o).cell (p := ⟨b8, 2, none⟩) HM5.out.far.lt).trans p2
  refine start_ (n := 20) (S := fun w' => w'.cell? ⟨rb, 2, none⟩ = some vl5 ∧ w'.cell? ⟨b8, 0, none⟩ = some (.int .i64 6) ∧ w'.cell? ⟨b8, 1, none⟩ = some (.int .i64 th) ∧ w'.cell? ⟨b8, 2, none⟩ = some (.int .i64 ix)) (ds := [16, 19]) #[false, false, false, false, false, false, false, false, false, false, false, false, false, false, false, false, false, false, false, false] (by kernel_rfl) rfl rfl ⟨HC25.out, p0, p1, p2⟩ (fun hHeld => ?_)
  refine pure_ (i := 0) (N := some 106) (v := ?_) (a' := ?_) #[true, false, false, false, false, false, false, false, false, false, false, false, false, false, false, false, false, false, false, false] rfl rfl (by kernel_rfl) (fun _ _ _ h => h) (Or.inl ⟨by rfl, ?_⟩) ?_ ?_
  rotate_left
  · intro w'
    go_simp
    with_reducible rfl
  rotate_left
  · simp only [Act.put, List.setIfInBounds_toArray, List.set_cons_zero, List.set_cons_succ, i64_w, i32_w]
    rfl
  refine pure_ (i := 1) (N := some 107) (v := ?_) (a' := ?_) #[true, true, false, false, false, false, false, false, false, false, false, false, false, false, false, false, false, false, false, false] rfl rfl (by kernel_rfl) (fun _ _ _ h => h) (Or.inl ⟨by rfl, ?_⟩) ?_ ?_
  rotate_left
  · intro w'
    go_simp
    with_reducible rfl
  rotate_left
  · simp only [Act.put, List.setIfInBounds_toArray, List.set_cons_zero, List.set_cons_succ, i64_w, i32_w]
    rfl
  refine pure_ (i := 2) (N := some 108) (v := ?_) (a' := ?_) #[true, true, true, false, false, false, false, false, false, false, false, false, false, false, false, false, false, false, false, false] rfl rfl (by kernel_rfl) (fun _ _ _ h => h) (Or.inl ⟨by rfl, ?_⟩) ?_ ?_
  rotate_left
  · intro w'
    go_simp
    with_reducible rfl
  rotate_left
  · simp only [Act.put, List.setIfInBounds_toArray, List.set_cons_zero, List.set_cons_succ, i64_w, i32_w]
    rfl
  refine pure_ (i := 3) (N := some 109) (v := ?_) (a' := ?_) #[true, true, true, true, false, false, false, false, false, false, false, false, false, false, false, false, false, false, false, false] rfl rfl (by kernel_rfl) (fun _ _ _ h => h) (Or.inl ⟨by rfl, ?_⟩) ?_ ?_
  rotate_left
  · intro w'
    go_simp
    with_reducible rfl
  rotate_left
  · simp only [Act.put, List.setIfInBounds_toArray, List.set_cons_zero, List.set_cons_succ, i64_w, i32_w]
    rfl
  refine pure_ (i := 5) (N := some 111) (v := ?_) (a' := ?_) #[true, true, true, true, false, true, false, false, false, false, false, false, false, false, false, false, false, false, false, false] rfl rfl (by kernel_rfl) (fun _ _ _ h => h) (Or.inl ⟨by rfl, ?_⟩) ?_ ?_
  rotate_left
  · intro w'
    go_simp
    with_reducible rfl
  rotate_left
  · simp only [Act.put, List.setIfInBounds_toArray, List.set_cons_zero, List.set_cons_succ, i64_w, i32_w]
    rfl
  refine pure_ (i := 7) (N := some 113) (v := ?_) (a' := ?_) #[true, true, true, true, false, true, false, true, false, false, false, false, false, false, false, false, false, false, false, false] rfl rfl (by kernel_rfl) (fun _ _ _ h => h) (Or.inl ⟨by rfl, ?_⟩) ?_ ?_
  rotate_left
  · intro w'
    go_simp
    with_reducible rfl
  rotate_left
  · simp only [Act.put, List.setIfInBounds_toArray, List.set_cons_zero, List.set_cons_succ, i64_w, i32_w]
    rfl
  refine pure_ (i := 9) (N := some 115) (v := ?_) (a' := ?_) #[true, true, true, true, false, true, false, true, false, true, false, false, false, false, false, false, false, false, false, false] rfl rfl (by kernel_rfl) (fun _ _ _ h => h) (Or.inl ⟨by rfl, ?_⟩) ?_ ?_
  rotate_left
  · intro w'
    go_simp
    with_reducible rfl
  rotate_left
  · simp only [Act.put, List.setIfInBounds_toArray, List.set_cons_zero, List.set_cons_succ, i64_w, i32_w]
    rfl
  refine pure_ (i := 11) (N := some 117) (v := ?_) (a' := ?_) #[true, true, true, true, false, true, false, true, false, true, false, true, false, false, false, false, false, false, false, false] rfl rfl (by kernel_rfl) (fun _ _ _ h => h) (Or.inl ⟨by rfl, ?_⟩) ?_ ?_
  rotate_left
  · intro w'
    go_simp
    with_reducible rfl
  rotate_left
  · simp only [Act.put, List.setIfInBounds_toArray, List.set_cons_zero, List.set_cons_succ, i64_w, i32_w]
    rfl
  refine pure_ (i := 12) (N := some 118) (v := ?_) (a' := ?_) #[true, true, true, true, false, true, false, true, false, true, false, true, true, false, false, false, false, false, false, false] rfl rfl (by kernel_rfl) (fun _ _ _ h => h) (Or.inl ⟨by rfl, ?_⟩) ?_ ?_
  rotate_left
  · intro w'
    go_simp
    with_reducible rfl
  rotate_left
  · simp only [Act.put, List.setIfInBounds_toArray, List.set_cons_zero, List.set_cons_succ, i64_w, i32_w]
    rfl
  refine pure_ (i := 13) (N := some 119) (v := ?_) (a' := ?_) #[true, true, true, true, false, true, false, true, false, true, false, true, true, true, false, false, false, false, false, false] rfl rfl (by kernel_rfl) (fun _ _ _ h => h) (Or.inl ⟨by rfl, ?_⟩) ?_ ?_
  rotate_left
  · intro w'
    go_simp
    with_reducible rfl
  rotate_left
  · simp only [Act.put, List.setIfInBounds_toArray, List.set_cons_zero, List.set_cons_succ, i64_w, i32_w]
    rfl
  refine take_ (i := 4) (N := some 110) (v := ?_) (a' := ?_) #[true, true, true, true, true, true, false, true, false, true, false, true, true, true, false, false, false, false, false, false] rfl rfl (by kernel_rfl) (fun _ _ _ h => h) (Or.inl ⟨by rfl, ?_⟩) hHeld ?_ ?_
  rotate_left
  · rintro w' ⟨s0, s1, s2, s3⟩
    go_simp
    with_reducible rfl
  rotate_left
  · simp only [Act.put, List.setIfInBounds_toArray, List.set_cons_zero, List.set_cons_succ, i64_w, i32_w]
    rfl
  refine take_ (i := 6) (N := some 112) (v := ?_) (a' := ?_) #[true, true, true, true, true, true, true, true, false, true, false, true, true, true, false, false, false, false, false, false] rfl rfl (by kernel_rfl) (fun _ _ _ h => h) (Or.inl ⟨by rfl, ?_⟩) hHeld ?_ ?_
  rotate_left
  · rintro w' ⟨s0, s1, s2, s3⟩
    go_simp
    with_reducible rfl
  rotate_left
  · simp only [Act.put, List.setIfInBounds_toArray, List.set_cons_zero, List.set_cons_succ, i64_w, i32_w]
    rfl
  refine take_ (i := 8) (N := some 114) (v := ?_) (a' := ?_) #[true, true, true, true, true, true, true, true, true, true, false, true, true, true, false, false, false, false, false, false] rfl rfl (by kernel_rfl) (fun _ _ _ h => h) (Or.inl ⟨by rfl, ?_⟩) hHeld ?_ ?_
  rotate_left
  · rintro w' ⟨s0, s1, s2, s3⟩
    go_simp
    with_reducible rfl
  rotate_left
  · simp only [Act.put, List.setIfInBounds_toArray, List.set_cons_zero, List.set_cons_succ, i64_w, i32_w]
    rfl
  refine take_ (i := 10) (N := some 116) (v := ?_) (a' := ?_) #[true, true, true, true, true, true, true, true, true, true, true, true, true, true, false, false, false, false, false, false] rfl rfl (by kernel_rfl) (fun _ _ _ h => h) (Or.inl ⟨by rfl, ?_⟩) hHeld ?_ ?_
  rotate_left
  · rintro w' ⟨s0, s1, s2, s3⟩
    go_simp
    with_reducible rfl
  rotate_left
  · simp only [Act.put, List.setIfInBounds_toArray, List.set_cons_zero, List.set_cons_succ, i64_w, i32_w]
    rfl
  refine pure_ (i := 14) (N := some 120) (v := ?_) (a' := ?_) #[true, true, true, true, true, true, true, true, true, true, true, true, true, true, true, false, false, false, false, false] rfl rfl (by kernel_rfl) (fun _ _ _ h => h) (Or.inl ⟨by rfl, ?_⟩) ?_ ?_
  rotate_left
  · intro w'
    go_simp
    with_reducible rfl
  rotate_left
  · simp only [Act.put, List.setIfInBounds_toArray, List.set_cons_zero, List.set_cons_succ, i64_w, i32_w]
    rfl
  refine one_ (i := 15) (N := some 121) #[true, true, true, true, true, true, true, true, true, true, true, true, true, true, true, true, false, false, false, false] rfl rfl (by kernel_rfl) (by decide) (fun K hK => ?_)
  refine value_ (w1 := ?_) (v := ?_) (by rfl) rfl ?_ ?_
  rotate_left 2
  · go_simp
    constructor
    · rfl
    · rfl
  refine hK.out _ _ ⟨ca5 _, ca0 _, ca1 _, ca2 _⟩ (fun hHeld => ?_)
  clear hK K
  refine norm_ (a' := ?_) ?_ ?_
  rotate_left
  · show Act.put _ (some 121) _ = _
    simp only [Act.put, List.setIfInBounds_toArray, List.set_cons_zero, List.set_cons_succ, i64_w, i32_w]
    rfl
  refine last_ (i := 16) (N := some 122) #[true, true, true, true, true, true, true, true, true, true, true, true, true, true, true, true, true, false, false, false] rfl rfl (by kernel_rfl) (by decide) (fun K hK => ?_)
  refine Kd.R_append_step kA (w0 := w5) base (by rfl) (.tmp 110) (.tmp 121) 38 47 (.agg #[.int .i64 0, .int .i64 0, .int .i64 0, .int .i64 0, .int .i64 0, .bool false]) 48 rfl Try.underlying38 infoAcc rfl (by decide) (by omega) vl5 log ⟨th, 6, ix, 1, 0, true⟩ [.int .i64 th, .int .i64 6, .int .i64 ix, .int .i64 1, .int .i64 0, .bool true] (fun _ => True) (fun _ => False) rfl rfl (kA_mkM _ _ _ _) (fun _ hk => hk.elim) (fun _ _ => trivial) HBD.out.lo (below_drew1 (Below.refl _ _)) hs5.out (by have := HLL.out; omega) ?_
  intro v1 w1 hv1 hb1 hg1 hat1
  obtain ⟨A1, k1, rfl⟩ := Kd.R_slice hv1
  obtain ⟨z1, z2, z3⟩ := HBD.out.pushLog hv1 hg1 hat1
  rw [List.length_append, List.length_cons, List.length_nil] at z1 z2 z3 ⊢
  have HZ := Aside0.mk (RLeft.mk ⟨_, _, _, z1⟩ z2 z3)
  obtain ⟨hc1, hf1⟩ := HBD.out.logStay hg1
  clear hv1 hb1 hg1 hat1 z1 z2 z3
  refine hK.out _ _ ?_
  clear hK K
  refine norm_ (a' := ?_) ?_ ?_
  rotate_left
  · show Act.put _ (some 122) _ = _
    simp only [Act.put, List.setIfInBounds_toArray, List.set_cons_zero, List.set_cons_succ, i64_w, i32_w]
    rfl
  refine pure_ (i := 17) (N := some 123) (v := ?_) (a' := ?_) #[true, true, true, true, true, true, true, true, true, true, true, true, true, true, true, true, true, true, false, false] rfl rfl (by kernel_rfl) (fun _ _ _ h => h) (Or.inl ⟨by rfl, ?_⟩) ?_ ?_
  rotate_left
  · intro w'
    go_simp
    with_reducible rfl
  rotate_left
  · simp only [Act.put, List.setIfInBounds_toArray, List.set_cons_zero, List.set_cons_succ, i64_w, i32_w]
    rfl
  refine pure_ (i := 18) (N := some 124) (v := ?_) (a' := ?_) #[true, true, true, true, true, true, true, true, true, true, true, true, true, true, true, true, true, true, true, false] rfl rfl (by kernel_rfl) (fun _ _ _ h => h) (Or.inl ⟨by rfl, ?_⟩) ?_ ?_
  rotate_left
  · intro w'
    go_simp
    with_reducible rfl
  rotate_left
  · simp only [Act.put, List.setIfInBounds_toArray, List.set_cons_zero, List.set_cons_succ, i64_w, i32_w]
    rfl
  refine last_ (i := 19) (N := none) #[true, true, true, true, true, true, true, true, true, true, true, true, true, true, true, true, true, true, true, true] rfl rfl (by kernel_rfl) (by decide) (fun K hK => ?_)
  refine skip_ (w1 := ?_) (by rfl) rfl ?_ ?_
  rotate_left
  · go_simp
    rfl
  refine hK.out _ _ ?_
  clear hK K
  refine done_ (by kernel_rfl) ?_

  go_wp2
  go_ret
  exact ⟨rfl, HM5.out.l.trans (RLeft.ofDrew HZ.out)⟩
set_option maxHeartbeats 4000000 in
theorem mut6_no (h : RefIs W base rb rw rm log V ws hs) (h4 : hs.length = 4) (hl : log.length ≤ 1000000) (hv0 : 0 ≤ V) (hv1 : V ≤ 1000000) (th ix a b : Int) (h0 : 0 ≤ ix) (h1 : ix < 4) (hz : rd hs ix ≠ -1) (hzt : rd hs ix ≠ th) :
    Calls Try.prog 28 #[.pointer (some ⟨rb, 0, none⟩), .agg #[.int .i64 6, .int .i64 th, .int .i64 ix, .int .i64 a, .int .i64 b]] W fun e w' => e = .returned (.bool false) ∧ RLeft W w' base rb rw rm (log ++ [⟨th, 6, ix, 1, 1, false⟩]) (V + 1) ws hs := by
  have H4 := Aside0.mk h4
  have HLL := Aside0.mk hl
  have HH := Aside0.mk (show (rd hs ix != -1) = true by exact bne_iff_ne.2 hz)
  have HIX := Aside0.mk (show ix < hs.length by omega)
  have d1 : decide (0 ≤ ix) = true := decide_eq_true h0
  have d2 : decide (ix < 4) = true := decide_eq_true h1
  have HZT := Aside0.mk (show (rd hs ix == th) = false from beq_eq_false_iff_ne.2 hzt)
  clear hl hz hzt h4
  go_enter Try.func28, Try.ntmps28
  go_upto_region 1 with (fail)
  have HM := Aside0.mk (Mo.new h 6 th ix a b)
  obtain ⟨b8, hb8⟩ : ∃ k, W.heap.size = k := ⟨_, rfl⟩
  obtain ⟨WA, hWA⟩ : ∃ WA, W.alloc (.cells #[.int .i64 6, .int .i64 th, .int .i64 ix, .int .i64 a, .int .i64 b] 29) = WA := ⟨_, rfl⟩
  rw [hWA] at HM ⊢
  rw [hb8] at HM ⊢
  clear hWA hb8
  obtain ⟨q0, q1, q2, q3, q4⟩ := HM.out.cells
  simp only at q0 q1 q2 q3 q4
  obtain ⟨vl, cw, cm, hB⟩ := HM.out.l.is
  obtain ⟨_, c1, _, _⟩ := hB.cell
  rw [H4.out] at c1
  have hxr := hB.hold
  obtain ⟨hx0, _⟩ := Kd.R_celln 0 hxr ix h0 HIX.out
  have cz : WA.cell? ⟨rm, ix.toNat, none⟩ = some (.int .i64 (rd hs ix)) := hx0
  obtain ⟨z, hzz⟩ : ∃ z, rd hs ix = z := ⟨_, rfl⟩
  rw [hzz] at cz
  have dz : (z == th) = false := by rw [← hzz]; exact HZT.out
  clear hx0 hxr hzz
  have f13 := hB.free 3
  clear hB
  go_quiet (fail)
  go_wp2_with (first | (go_at_call 39; (with_reducible refine (heldV (HM.out.drewN _).l.is ix h0 HIX.out H4.out HH.out).mono ?_); rintro e wx ⟨rfl, rfl⟩) | (go_at_call 40; (with_reducible refine (set_calls (HM.out.drewN _).viol.l.is ix true false th h0 HIX.out H4.out).mono ?_); rintro e w5 ⟨rfl, hl5⟩; have HM5 := Aside0.mk ((HM.out.drewN _).viol.left hl5); obtain ⟨p0, p1, p2, p3, p4⟩ := HM5.out.cells; simp only at p0 p1 p2 p3 p4; obtain ⟨vl5, cw5, cm5, hB5⟩ := HM5.out.l.is; have HB5 := Aside0.mk hB5; obtain ⟨_, _, c25, _⟩ := hB5.cell; have HC25 := Aside0.mk c25; have f25 := hB5.free 2; have HF25 := Aside0.mk f25; have hs5 := Aside0.mk (Nat.le_trans hB5.hg (Nat.le_of_lt hB5.lt)); clear hl5 hB5))
  go_quiet (fail)
  go_wp2_with (first | (go_at_call 39; (with_reducible refine (heldV (HM.out.drewN _).l.is ix h0 HIX.out H4.out HH.out).mono ?_); rintro e wx ⟨rfl, rfl⟩) | (go_at_call 40; (with_reducible refine (set_calls (HM.out.drewN _).viol.l.is ix true false th h0 HIX.out H4.out).mono ?_); rintro e w5 ⟨rfl, hl5⟩; have HM5 := Aside0.mk ((HM.out.drewN _).viol.left hl5); obtain ⟨p0, p1, p2, p3, p4⟩ := HM5.out.cells; simp only at p0 p1 p2 p3 p4; obtain ⟨vl5, cw5, cm5, hB5⟩ := HM5.out.l.is; have HB5 := Aside0.mk hB5; obtain ⟨_, _, c25, _⟩ := hB5.cell; have HC25 := Aside0.mk c25; have f25 := hB5.free 2; have HF25 := Aside0.mk f25; have hs5 := Aside0.mk (Nat.le_trans hB5.hg (Nat.le_of_lt hB5.lt)); clear hl5 hB5))
  simp only [if_true, Bool.false_eq_true, if_false] at HB5 HM5
  have HBD := Aside0.mk (HB5.out.below (below_drew1 (Below.refl _ _)))
  have ca5 : ∀ o, (w5.drew.alloc o).cell? ⟨rb, 2, none⟩ = some vl5 := fun o => ((below_alloc (Below.refl w5.heap.size _) o).cell (p := ⟨rb, 2, none⟩) HB5.out.lt).trans HC25.out
  have ca0 : ∀ o, (w5.drew.alloc o).cell? ⟨b8, 0, none⟩ = some (.int .i64 6) := fun o => ((below_alloc (Below.refl w5.heap.size _) o).cell (p := ⟨b8, 0, none⟩) HM5.out.far.lt).trans p0
  have ca1 : ∀ o, (w5.drew.alloc o).cell? ⟨b8, 1, none⟩ = some (.int .i64 th) := fun o => ((below_alloc (Below.refl w5.heap.size _) o).cell (p := ⟨b8, 1, none⟩) HM5.out.far.lt).trans p1
  have ca2 : ∀ o, (w5.drew.alloc o).cell? ⟨b8, 2, none⟩ = some (.int .i64 ix) := fun o => ((below_alloc (Below.refl w5.heap.size _) o).cell (p := ⟨b8, 2, none⟩) HM5.out.far.lt).trans p2
  refine start_ (n := 20) (S := fun w' => w'.cell? ⟨rb, 2, none⟩ = some vl5 ∧ w'.cell? ⟨b8, 0, none⟩ = some (.int .i64 6) ∧ w'.cell? ⟨b8, 1, none⟩ = some (.int .i64 th) ∧ w'.cell? ⟨b8, 2, none⟩ = some (.int .i64 ix)) (ds := [16, 19]) #[false, false, false, false, false, false, false, false, false, false, false, false, false, false, false, false, false, false, false, false] (by kernel_rfl) rfl rfl ⟨HC25.out, p0, p1, p2⟩ (fun hHeld => ?_)
  refine pure_ (i := 0) (N := some 106) (v := ?_) (a' := ?_) #[true, false, false, false, false, false, false, false, false, false, false, false, false, false, false, false, false, false, false, false] rfl rfl (by kernel_rfl) (fun _ _ _ h => h) (Or.inl ⟨by rfl, ?_⟩) ?_ ?_
  rotate_left
  · intro w'
    go_simp
    with_reducible rfl
  rotate_left
  · simp only [Act.put, List.setIfInBounds_toArray, List.set_cons_zero, List.set_cons_succ, i64_w, i32_w]
    rfl
  refine pure_ (i := 1) (N := some 107) (v := ?_) (a' := ?_) #[true, true, false, false, false, false, false, false, false, false, false, false, false, false, false, false, false, false, false, false] rfl rfl (by kernel_rfl) (fun _ _ _ h => h) (Or.inl ⟨by rfl, ?_⟩) ?_ ?_
  rotate_left
  · intro w'
    go_simp
    with_reducible rfl
  rotate_left
  · simp only [Act.put, List.setIfInBounds_toArray, List.set_cons_zero, List.set_cons_succ, i64_w, i32_w]
    rfl
  refine pure_ (i := 2) (N := some 108) (v := ?_) (a' := ?_) #[true, true, true, false, false, false, false, false, false, false, false, false, false, false, false, false, false, false, false, false] rfl rfl (by kernel_rfl) (fun _ _ _ h => h) (Or.inl ⟨by rfl, ?_⟩) ?_ ?_
  rotate_left
  · intro w'
    go_simp
    with_reducible rfl
  rotate_left
  · simp only [Act.put, List.setIfInBounds_toArray, List.set_cons_zero, List.set_cons_succ, i64_w, i32_w]
    rfl
  refine pure_ (i := 3) (N := some 109) (v := ?_) (a' := ?_) #[true, true, true, true, false, false, false, false, false, false, false, false, false, false, false, false, false, false, false, false] rfl rfl (by kernel_rfl) (fun _ _ _ h => h) (Or.inl ⟨by rfl, ?_⟩) ?_ ?_
  rotate_left
  · intro w'
    go_simp
    with_reducible rfl
  rotate_left
  · simp only [Act.put, List.setIfInBounds_toArray, List.set_cons_zero, List.set_cons_succ, i64_w, i32_w]
    rfl
  refine pure_ (i := 5) (N := some 111) (v := ?_) (a' := ?_) #[true, true, true, true, false, true, false, false, false, false, false, false, false, false, false, false, false, false, false, false] rfl rfl (by kernel_rfl) (fun _ _ _ h => h) (Or.inl ⟨by rfl, ?_⟩) ?_ ?_
  rotate_left
  · intro w'
    go_simp
    with_reducible rfl
  rotate_left
  · simp only [Act.put, List.setIfInBounds_toArray, List.set_cons_zero, List.set_cons_succ, i64_w, i32_w]
    rfl
  refine pure_ (i := 7) (N := some 113) (v := ?_) (a' := ?_) #[true, true, true, true, false, true, false, true, false, false, false, false, false, false, false, false, false, false, false, false] rfl rfl (by kernel_rfl) (fun _ _ _ h => h) (Or.inl ⟨by rfl, ?_⟩) ?_ ?_
  rotate_left
  · intro w'
    go_simp
    with_reducible rfl
  rotate_left
  · simp only [Act.put, List.setIfInBounds_toArray, List.set_cons_zero, List.set_cons_succ, i64_w, i32_w]
    rfl
  refine pure_ (i := 9) (N := some 115) (v := ?_) (a' := ?_) #[true, true, true, true, false, true, false, true, false, true, false, false, false, false, false, false, false, false, false, false] rfl rfl (by kernel_rfl) (fun _ _ _ h => h) (Or.inl ⟨by rfl, ?_⟩) ?_ ?_
  rotate_left
  · intro w'
    go_simp
    with_reducible rfl
  rotate_left
  · simp only [Act.put, List.setIfInBounds_toArray, List.set_cons_zero, List.set_cons_succ, i64_w, i32_w]
    rfl
  refine pure_ (i := 11) (N := some 117) (v := ?_) (a' := ?_) #[true, true, true, true, false, true, false, true, false, true, false, true, false, false, false, false, false, false, false, false] rfl rfl (by kernel_rfl) (fun _ _ _ h => h) (Or.inl ⟨by rfl, ?_⟩) ?_ ?_
  rotate_left
  · intro w'
    go_simp
    with_reducible rfl
  rotate_left
  · simp only [Act.put, List.setIfInBounds_toArray, List.set_cons_zero, List.set_cons_succ, i64_w, i32_w]
    rfl
  refine pure_ (i := 12) (N := some 118) (v := ?_) (a' := ?_) #[true, true, true, true, false, true, false, true, false, true, false, true, true, false, false, false, false, false, false, false] rfl rfl (by kernel_rfl) (fun _ _ _ h => h) (Or.inl ⟨by rfl, ?_⟩) ?_ ?_
  rotate_left
  · intro w'
    go_simp
    with_reducible rfl
  rotate_left
  · simp only [Act.put, List.setIfInBounds_toArray, List.set_cons_zero, List.set_cons_succ, i64_w, i32_w]
    rfl
  refine pure_ (i := 13) (N := some 119) (v := ?_) (a' := ?_) #[true, true, true, true, false, true, false, true, false, true, false, true, true, true, false, false, false, false, false, false] rfl rfl (by kernel_rfl) (fun _ _ _ h => h) (Or.inl ⟨by rfl, ?_⟩) ?_ ?_
  rotate_left
  · intro w'
    go_simp
    with_reducible rfl
  rotate_left
  · simp only [Act.put, List.setIfInBounds_toArray, List.set_cons_zero, List.set_cons_succ, i64_w, i32_w]
    rfl
  refine take_ (i := 4) (N := some 110) (v := ?_) (a' := ?_) #[true, true, true, true, true, true, false, true, false, true, false, true, true, true, false, false, false, false, false, false] rfl rfl (by kernel_rfl) (fun _ _ _ h => h) (Or.inl ⟨by rfl, ?_⟩) hHeld ?_ ?_
  rotate_left
  · rintro w' ⟨s0, s1, s2, s3⟩
    go_simp
    with_reducible rfl
  rotate_left
  · simp only [Act.put, List.setIfInBounds_toArray, List.set_cons_zero, List.set_cons_succ, i64_w, i32_w]
    rfl
  refine take_ (i := 6) (N := some 112) (v := ?_) (a' := ?_) #[true, true, true, true, true, true, true, true, false, true, false, true, true, true, false, false, false, false, false, false] rfl rfl (by kernel_rfl) (fun _ _ _ h => h) (Or.inl ⟨by rfl, ?_⟩) hHeld ?_ ?_
  rotate_left
  · rintro w' ⟨s0, s1, s2, s3⟩
    go_simp
    with_reducible rfl
  rotate_left
  · simp only [Act.put, List.setIfInBounds_toArray, List.set_cons_zero, List.set_cons_succ, i64_w, i32_w]
    rfl
  refine take_ (i := 8) (N := some 114) (v := ?_) (a' := ?_) #[true, true, true, true, true, true, true, true, true, true, false, true, true, true, false, false, false, false, false, false] rfl rfl (by kernel_rfl) (fun _ _ _ h => h) (Or.inl ⟨by rfl, ?_⟩) hHeld ?_ ?_
  rotate_left
  · rintro w' ⟨s0, s1, s2, s3⟩
    go_simp
    with_reducible rfl
  rotate_left
  · simp only [Act.put, List.setIfInBounds_toArray, List.set_cons_zero, List.set_cons_succ, i64_w, i32_w]
    rfl
  refine take_ (i := 10) (N := some 116) (v := ?_) (a' := ?_) #[true, true, true, true, true, true, true, true, true, true, true, true, true, true, false, false, false, false, false, false] rfl rfl (by kernel_rfl) (fun _ _ _ h => h) (Or.inl ⟨by rfl, ?_⟩) hHeld ?_ ?_
  rotate_left
  · rintro w' ⟨s0, s1, s2, s3⟩
    go_simp
    with_reducible rfl
  rotate_left
  · simp only [Act.put, List.setIfInBounds_toArray, List.set_cons_zero, List.set_cons_succ, i64_w, i32_w]
    rfl
  refine pure_ (i := 14) (N := some 120) (v := ?_) (a' := ?_) #[true, true, true, true, true, true, true, true, true, true, true, true, true, true, true, false, false, false, false, false] rfl rfl (by kernel_rfl) (fun _ _ _ h => h) (Or.inl ⟨by rfl, ?_⟩) ?_ ?_
  rotate_left
  · intro w'
    go_simp
    with_reducible rfl
  rotate_left
  · simp only [Act.put, List.setIfInBounds_toArray, List.set_cons_zero, List.set_cons_succ, i64_w, i32_w]
    rfl
  refine one_ (i := 15) (N := some 121) #[true, true, true, true, true, true, true, true, true, true, true, true, true, true, true, true, false, false, false, false] rfl rfl (by kernel_rfl) (by decide) (fun K hK => ?_)
  refine value_ (w1 := ?_) (v := ?_) (by rfl) rfl ?_ ?_
  rotate_left 2
  · go_simp
    constructor
    · rfl
    · rfl
  refine hK.out _ _ ⟨ca5 _, ca0 _, ca1 _, ca2 _⟩ (fun hHeld => ?_)
  clear hK K
  refine norm_ (a' := ?_) ?_ ?_
  rotate_left
  · show Act.put _ (some 121) _ = _
    simp only [Act.put, List.setIfInBounds_toArray, List.set_cons_zero, List.set_cons_succ, i64_w, i32_w]
    rfl
  refine last_ (i := 16) (N := some 122) #[true, true, true, true, true, true, true, true, true, true, true, true, true, true, true, true, true, false, false, false] rfl rfl (by kernel_rfl) (by decide) (fun K hK => ?_)
  refine Kd.R_append_step kA (w0 := w5) base (by rfl) (.tmp 110) (.tmp 121) 38 47 (.agg #[.int .i64 0, .int .i64 0, .int .i64 0, .int .i64 0, .int .i64 0, .bool false]) 48 rfl Try.underlying38 infoAcc rfl (by decide) (by omega) vl5 log ⟨th, 6, ix, 1, 1, false⟩ [.int .i64 th, .int .i64 6, .int .i64 ix, .int .i64 1, .int .i64 1, .bool false] (fun _ => True) (fun _ => False) rfl rfl (kA_mkM _ _ _ _) (fun _ hk => hk.elim) (fun _ _ => trivial) HBD.out.lo (below_drew1 (Below.refl _ _)) hs5.out (by have := HLL.out; omega) ?_
  intro v1 w1 hv1 hb1 hg1 hat1
  obtain ⟨A1, k1, rfl⟩ := Kd.R_slice hv1
  obtain ⟨z1, z2, z3⟩ := HBD.out.pushLog hv1 hg1 hat1
  rw [List.length_append, List.length_cons, List.length_nil] at z1 z2 z3 ⊢
  have HZ := Aside0.mk (RLeft.mk ⟨_, _, _, z1⟩ z2 z3)
  obtain ⟨hc1, hf1⟩ := HBD.out.logStay hg1
  clear hv1 hb1 hg1 hat1 z1 z2 z3
  refine hK.out _ _ ?_
  clear hK K
  refine norm_ (a' := ?_) ?_ ?_
  rotate_left
  · show Act.put _ (some 122) _ = _
    simp only [Act.put, List.setIfInBounds_toArray, List.set_cons_zero, List.set_cons_succ, i64_w, i32_w]
    rfl
  refine pure_ (i := 17) (N := some 123) (v := ?_) (a' := ?_) #[true, true, true, true, true, true, true, true, true, true, true, true, true, true, true, true, true, true, false, false] rfl rfl (by kernel_rfl) (fun _ _ _ h => h) (Or.inl ⟨by rfl, ?_⟩) ?_ ?_
  rotate_left
  · intro w'
    go_simp
    with_reducible rfl
  rotate_left
  · simp only [Act.put, List.setIfInBounds_toArray, List.set_cons_zero, List.set_cons_succ, i64_w, i32_w]
    rfl
  refine pure_ (i := 18) (N := some 124) (v := ?_) (a' := ?_) #[true, true, true, true, true, true, true, true, true, true, true, true, true, true, true, true, true, true, true, false] rfl rfl (by kernel_rfl) (fun _ _ _ h => h) (Or.inl ⟨by rfl, ?_⟩) ?_ ?_
  rotate_left
  · intro w'
    go_simp
    with_reducible rfl
  rotate_left
  · simp only [Act.put, List.setIfInBounds_toArray, List.set_cons_zero, List.set_cons_succ, i64_w, i32_w]
    rfl
  refine last_ (i := 19) (N := none) #[true, true, true, true, true, true, true, true, true, true, true, true, true, true, true, true, true, true, true, true] rfl rfl (by kernel_rfl) (by decide) (fun K hK => ?_)
  refine skip_ (w1 := ?_) (by rfl) rfl ?_ ?_
  rotate_left
  · go_simp
    rfl
  refine hK.out _ _ ?_
  clear hK K
  refine done_ (by kernel_rfl) ?_

  go_wp2
  go_ret
  exact ⟨rfl, HM5.out.l.trans (RLeft.ofDrew HZ.out)⟩
set_option maxHeartbeats 4000000 in
theorem mut6_free (h : RefIs W base rb rw rm log V ws hs) (h4 : hs.length = 4) (hl : log.length ≤ 1000000) (hv0 : 0 ≤ V) (hv1 : V ≤ 1000000) (th ix a b : Int) (h0 : 0 ≤ ix) (h1 : ix < 4) (hz : rd hs ix = -1) :
    Calls Try.prog 28 #[.pointer (some ⟨rb, 0, none⟩), .agg #[.int .i64 6, .int .i64 th, .int .i64 ix, .int .i64 a, .int .i64 b]] W fun e w' => e = .returned (.bool false) ∧ RLeft W w' base rb rw rm (log ++ [⟨th, 6, ix, 0, 0, false⟩]) (V + 1) ws hs := by
  have H4 := Aside0.mk h4
  have HLL := Aside0.mk hl
  have HH := Aside0.mk (show (rd hs ix != -1) = false by rw [hz]; rfl)
  have HIX := Aside0.mk (show ix < hs.length by omega)
  have d1 : decide (0 ≤ ix) = true := decide_eq_true h0
  have d2 : decide (ix < 4) = true := decide_eq_true h1
  clear hl hz h4
  go_enter Try.func28, Try.ntmps28
  go_upto_region 1 with (fail)
  have HM := Aside0.mk (Mo.new h 6 th ix a b)
  obtain ⟨b8, hb8⟩ : ∃ k, W.heap.size = k := ⟨_, rfl⟩
  obtain ⟨WA, hWA⟩ : ∃ WA, W.alloc (.cells #[.int .i64 6, .int .i64 th, .int .i64 ix, .int .i64 a, .int .i64 b] 29) = WA := ⟨_, rfl⟩
  rw [hWA] at HM ⊢
  rw [hb8] at HM ⊢
  clear hWA hb8
  obtain ⟨q0, q1, q2, q3, q4⟩ := HM.out.cells
  simp only at q0 q1 q2 q3 q4
  obtain ⟨vl, cw, cm, hB⟩ := HM.out.l.is
  obtain ⟨_, c1, _, _⟩ := hB.cell
  rw [H4.out] at c1
  have f13 := hB.free 3
  clear hB
  go_quiet (fail)
  go_wp2_with (first | (go_at_call 39; (with_reducible refine (heldV (HM.out.drewN _).l.is ix h0 HIX.out H4.out HH.out).mono ?_); rintro e wx ⟨rfl, rfl⟩) | (go_at_call 40; (with_reducible refine (set_calls (HM.out.drewN _).viol.l.is ix false false th h0 HIX.out H4.out).mono ?_); rintro e w5 ⟨rfl, hl5⟩; have HM5 := Aside0.mk ((HM.out.drewN _).viol.left hl5); obtain ⟨p0, p1, p2, p3, p4⟩ := HM5.out.cells; simp only at p0 p1 p2 p3 p4; obtain ⟨vl5, cw5, cm5, hB5⟩ := HM5.out.l.is; have HB5 := Aside0.mk hB5; obtain ⟨_, _, c25, _⟩ := hB5.cell; have HC25 := Aside0.mk c25; have f25 := hB5.free 2; have HF25 := Aside0.mk f25; have hs5 := Aside0.mk (Nat.le_trans hB5.hg (Nat.le_of_lt hB5.lt)); clear hl5 hB5))
  go_quiet (fail)
  go_wp2_with (first | (go_at_call 39; (with_reducible refine (heldV (HM.out.drewN _).l.is ix h0 HIX.out H4.out HH.out).mono ?_); rintro e wx ⟨rfl, rfl⟩) | (go_at_call 40; (with_reducible refine (set_calls (HM.out.drewN _).viol.l.is ix false false th h0 HIX.out H4.out).mono ?_); rintro e w5 ⟨rfl, hl5⟩; have HM5 := Aside0.mk ((HM.out.drewN _).viol.left hl5); obtain ⟨p0, p1, p2, p3, p4⟩ := HM5.out.cells; simp only at p0 p1 p2 p3 p4; obtain ⟨vl5, cw5, cm5, hB5⟩ := HM5.out.l.is; have HB5 := Aside0.mk hB5; obtain ⟨_, _, c25, _⟩ := hB5.cell; have HC25 := Aside0.mk c25; have f25 := hB5.free 2; have HF25 := Aside0.mk f25; have hs5 := Aside0.mk (Nat.le_trans hB5.hg (Nat.le_of_lt hB5.lt)); clear hl5 hB5))
  simp only [if_true, Bool.false_eq_true, if_false] at HB5 HM5
  have HBD := Aside0.mk (HB5.out.below (below_drew1 (Below.refl _ _)))
  have ca5 : ∀ o, (w5.drew.alloc o).cell? ⟨rb, 2, none⟩ = some vl5 := fun o => ((below_alloc (Below.refl w5.heap.size _) o).cell (p := ⟨rb, 2, none⟩) HB5.out.lt).trans HC25.out
  have ca0 : ∀ o, (w5.drew.alloc o).cell? ⟨b8, 0, none⟩ = some (.int .i64 6) := fun o => ((below_alloc (Below.refl w5.heap.size _) o).cell (p := ⟨b8, 0, none⟩) HM5.out.far.lt).trans p0
  have ca1 : ∀ o, (w5.drew.alloc o).cell? ⟨b8, 1, none⟩ = some (.int .i64 th) := fun o => ((below_alloc (Below.refl w5.heap.size _) o).cell (p := ⟨b8, 1, none⟩) HM5.out.far.lt).trans p1
  have ca2 : ∀ o, (w5.drew.alloc o).cell? ⟨b8, 2, none⟩ = some (.int .i64 ix) := fun o => ((below_alloc (Below.refl w5.heap.size _) o).cell (p := ⟨b8, 2, none⟩) HM5.out.far.lt).trans p2
  refine start_ (n := 20) (S := fun w' => w'.cell? ⟨rb, 2, none⟩ = some vl5 ∧ w'.cell? ⟨b8, 0, none⟩ = some (.int .i64 6) ∧ w'.cell? ⟨b8, 1, none⟩ = some (.int .i64 th) ∧ w'.cell? ⟨b8, 2, none⟩ = some (.int .i64 ix)) (ds := [16, 19]) #[false, false, false, false, false, false, false, false, false, false, false, false, false, false, false, false, false, false, false, false] (by kernel_rfl) rfl rfl ⟨HC25.out, p0, p1, p2⟩ (fun hHeld => ?_)
  refine pure_ (i := 0) (N := some 106) (v := ?_) (a' := ?_) #[true, false, false, false, false, false, false, false, false, false, false, false, false, false, false, false, false, false, false, false] rfl rfl (by kernel_rfl) (fun _ _ _ h => h) (Or.inl ⟨by rfl, ?_⟩) ?_ ?_
  rotate_left
  · intro w'
    go_simp
    with_reducible rfl
  rotate_left
  · simp only [Act.put, List.setIfInBounds_toArray, List.set_cons_zero, List.set_cons_succ, i64_w, i32_w]
    rfl
  refine pure_ (i := 1) (N := some 107) (v := ?_) (a' := ?_) #[true, true, false, false, false, false, false, false, false, false, false, false, false, false, false, false, false, false, false, false] rfl rfl (by kernel_rfl) (fun _ _ _ h => h) (Or.inl ⟨by rfl, ?_⟩) ?_ ?_
  rotate_left
  · intro w'
    go_simp
    with_reducible rfl
  rotate_left
  · simp only [Act.put, List.setIfInBounds_toArray, List.set_cons_zero, List.set_cons_succ, i64_w, i32_w]
    rfl
  refine pure_ (i := 2) (N := some 108) (v := ?_) (a' := ?_) #[true, true, true, false, false, false, false, false, false, false, false, false, false, false, false, false, false, false, false, false] rfl rfl (by kernel_rfl) (fun _ _ _ h => h) (Or.inl ⟨by rfl, ?_⟩) ?_ ?_
  rotate_left
  · intro w'
    go_simp
    with_reducible rfl
  rotate_left
  · simp only [Act.put, List.setIfInBounds_toArray, List.set_cons_zero, List.set_cons_succ, i64_w, i32_w]
    rfl
  refine pure_ (i := 3) (N := some 109) (v := ?_) (a' := ?_) #[true, true, true, true, false, false, false, false, false, false, false, false, false, false, false, false, false, false, false, false] rfl rfl (by kernel_rfl) (fun _ _ _ h => h) (Or.inl ⟨by rfl, ?_⟩) ?_ ?_
  rotate_left
  · intro w'
    go_simp
    with_reducible rfl
  rotate_left
  · simp only [Act.put, List.setIfInBounds_toArray, List.set_cons_zero, List.set_cons_succ, i64_w, i32_w]
    rfl
  refine pure_ (i := 5) (N := some 111) (v := ?_) (a' := ?_) #[true, true, true, true, false, true, false, false, false, false, false, false, false, false, false, false, false, false, false, false] rfl rfl (by kernel_rfl) (fun _ _ _ h => h) (Or.inl ⟨by rfl, ?_⟩) ?_ ?_
  rotate_left
  · intro w'
    go_simp
    with_reducible rfl
  rotate_left
  · simp only [Act.put, List.setIfInBounds_toArray, List.set_cons_zero, List.set_cons_succ, i64_w, i32_w]
    rfl
  refine pure_ (i := 7) (N := some 113) (v := ?_) (a' := ?_) #[true, true, true, true, false, true, false, true, false, false, false, false, false, false, false, false, false, false, false, false] rfl rfl (by kernel_rfl) (fun _ _ _ h => h) (Or.inl ⟨by rfl, ?_⟩) ?_ ?_
  rotate_left
  · intro w'
    go_simp
    with_reducible rfl
  rotate_left
  · simp only [Act.put, List.setIfInBounds_toArray, List.set_cons_zero, List.set_cons_succ, i64_w, i32_w]
    rfl
  refine pure_ (i := 9) (N := some 115) (v := ?_) (a' := ?_) #[true, true, true, true, false, true, false, true, false, true, false, false, false, false, false, false, false, false, false, false] rfl rfl (by kernel_rfl) (fun _ _ _ h => h) (Or.inl ⟨by rfl, ?_⟩) ?_ ?_
  rotate_left
  · intro w'
    go_simp
    with_reducible rfl
  rotate_left
  · simp only [Act.put, List.setIfInBounds_toArray, List.set_cons_zero, List.set_cons_succ, i64_w, i32_w]
    rfl
  refine pure_ (i := 11) (N := some 117) (v := ?_) (a' := ?_) #[true, true, true, true, false, true, false, true, false, true, false, true, false, false, false, false, false, false, false, false] rfl rfl (by kernel_rfl) (fun _ _ _ h => h) (Or.inl ⟨by rfl, ?_⟩) ?_ ?_
  rotate_left
  · intro w'
    go_simp
    with_reducible rfl
  rotate_left
  · simp only [Act.put, List.setIfInBounds_toArray, List.set_cons_zero, List.set_cons_succ, i64_w, i32_w]
    rfl
  refine pure_ (i := 12) (N := some 118) (v := ?_) (a' := ?_) #[true, true, true, true, false, true, false, true, false, true, false, true, true, false, false, false, false, false, false, false] rfl rfl (by kernel_rfl) (fun _ _ _ h => h) (Or.inl ⟨by rfl, ?_⟩) ?_ ?_
  rotate_left
  · intro w'
    go_simp
    with_reducible rfl
  rotate_left
  · simp only [Act.put, List.setIfInBounds_toArray, List.set_cons_zero, List.set_cons_succ, i64_w, i32_w]
    rfl
  refine pure_ (i := 13) (N := some 119) (v := ?_) (a' := ?_) #[true, true, true, true, false, true, false, true, false, true, false, true, true, true, false, false, false, false, false, false] rfl rfl (by kernel_rfl) (fun _ _ _ h => h) (Or.inl ⟨by rfl, ?_⟩) ?_ ?_
  rotate_left
  · intro w'
    go_simp
    with_reducible rfl
  rotate_left
  · simp only [Act.put, List.setIfInBounds_toArray, List.set_cons_zero, List.set_cons_succ, i64_w, i32_w]
    rfl
  refine take_ (i := 4) (N := some 110) (v := ?_) (a' := ?_) #[true, true, true, true, true, true, false, true, false, true, false, true, true, true, false, false, false, false, false, false] rfl rfl (by kernel_rfl) (fun _ _ _ h => h) (Or.inl ⟨by rfl, ?_⟩) hHeld ?_ ?_
  rotate_left
  · rintro w' ⟨s0, s1, s2, s3⟩
    go_simp
    with_reducible rfl
  rotate_left
  · simp only [Act.put, List.setIfInBounds_toArray, List.set_cons_zero, List.set_cons_succ, i64_w, i32_w]
    rfl
  refine take_ (i := 6) (N := some 112) (v := ?_) (a' := ?_) #[true, true, true, true, true, true, true, true, false, true, false, true, true, true, false, false, false, false, false, false] rfl rfl (by kernel_rfl) (fun _ _ _ h => h) (Or.inl ⟨by rfl, ?_⟩) hHeld ?_ ?_
  rotate_left
  · rintro w' ⟨s0, s1, s2, s3⟩
    go_simp
    with_reducible rfl
  rotate_left
  · simp only [Act.put, List.setIfInBounds_toArray, List.set_cons_zero, List.set_cons_succ, i64_w, i32_w]
    rfl
  refine take_ (i := 8) (N := some 114) (v := ?_) (a' := ?_) #[true, true, true, true, true, true, true, true, true, true, false, true, true, true, false, false, false, false, false, false] rfl rfl (by kernel_rfl) (fun _ _ _ h => h) (Or.inl ⟨by rfl, ?_⟩) hHeld ?_ ?_
  rotate_left
  · rintro w' ⟨s0, s1, s2, s3⟩
    go_simp
    with_reducible rfl
  rotate_left
  · simp only [Act.put, List.setIfInBounds_toArray, List.set_cons_zero, List.set_cons_succ, i64_w, i32_w]
    rfl
  refine take_ (i := 10) (N := some 116) (v := ?_) (a' := ?_) #[true, true, true, true, true, true, true, true, true, true, true, true, true, true, false, false, false, false, false, false] rfl rfl (by kernel_rfl) (fun _ _ _ h => h) (Or.inl ⟨by rfl, ?_⟩) hHeld ?_ ?_
  rotate_left
  · rintro w' ⟨s0, s1, s2, s3⟩
    go_simp
    with_reducible rfl
  rotate_left
  · simp only [Act.put, List.setIfInBounds_toArray, List.set_cons_zero, List.set_cons_succ, i64_w, i32_w]
    rfl
  refine pure_ (i := 14) (N := some 120) (v := ?_) (a' := ?_) #[true, true, true, true, true, true, true, true, true, true, true, true, true, true, true, false, false, false, false, false] rfl rfl (by kernel_rfl) (fun _ _ _ h => h) (Or.inl ⟨by rfl, ?_⟩) ?_ ?_
  rotate_left
  · intro w'
    go_simp
    with_reducible rfl
  rotate_left
  · simp only [Act.put, List.setIfInBounds_toArray, List.set_cons_zero, List.set_cons_succ, i64_w, i32_w]
    rfl
  refine one_ (i := 15) (N := some 121) #[true, true, true, true, true, true, true, true, true, true, true, true, true, true, true, true, false, false, false, false] rfl rfl (by kernel_rfl) (by decide) (fun K hK => ?_)
  refine value_ (w1 := ?_) (v := ?_) (by rfl) rfl ?_ ?_
  rotate_left 2
  · go_simp
    constructor
    · rfl
    · rfl
  refine hK.out _ _ ⟨ca5 _, ca0 _, ca1 _, ca2 _⟩ (fun hHeld => ?_)
  clear hK K
  refine norm_ (a' := ?_) ?_ ?_
  rotate_left
  · show Act.put _ (some 121) _ = _
    simp only [Act.put, List.setIfInBounds_toArray, List.set_cons_zero, List.set_cons_succ, i64_w, i32_w]
    rfl
  refine last_ (i := 16) (N := some 122) #[true, true, true, true, true, true, true, true, true, true, true, true, true, true, true, true, true, false, false, false] rfl rfl (by kernel_rfl) (by decide) (fun K hK => ?_)
  refine Kd.R_append_step kA (w0 := w5) base (by rfl) (.tmp 110) (.tmp 121) 38 47 (.agg #[.int .i64 0, .int .i64 0, .int .i64 0, .int .i64 0, .int .i64 0, .bool false]) 48 rfl Try.underlying38 infoAcc rfl (by decide) (by omega) vl5 log ⟨th, 6, ix, 0, 0, false⟩ [.int .i64 th, .int .i64 6, .int .i64 ix, .int .i64 0, .int .i64 0, .bool false] (fun _ => True) (fun _ => False) rfl rfl (kA_mkM _ _ _ _) (fun _ hk => hk.elim) (fun _ _ => trivial) HBD.out.lo (below_drew1 (Below.refl _ _)) hs5.out (by have := HLL.out; omega) ?_
  intro v1 w1 hv1 hb1 hg1 hat1
  obtain ⟨A1, k1, rfl⟩ := Kd.R_slice hv1
  obtain ⟨z1, z2, z3⟩ := HBD.out.pushLog hv1 hg1 hat1
  rw [List.length_append, List.length_cons, List.length_nil] at z1 z2 z3 ⊢
  have HZ := Aside0.mk (RLeft.mk ⟨_, _, _, z1⟩ z2 z3)
  obtain ⟨hc1, hf1⟩ := HBD.out.logStay hg1
  clear hv1 hb1 hg1 hat1 z1 z2 z3
  refine hK.out _ _ ?_
  clear hK K
  refine norm_ (a' := ?_) ?_ ?_
  rotate_left
  · show Act.put _ (some 122) _ = _
    simp only [Act.put, List.setIfInBounds_toArray, List.set_cons_zero, List.set_cons_succ, i64_w, i32_w]
    rfl
  refine pure_ (i := 17) (N := some 123) (v := ?_) (a' := ?_) #[true, true, true, true, true, true, true, true, true, true, true, true, true, true, true, true, true, true, false, false] rfl rfl (by kernel_rfl) (fun _ _ _ h => h) (Or.inl ⟨by rfl, ?_⟩) ?_ ?_
  rotate_left
  · intro w'
    go_simp
    with_reducible rfl
  rotate_left
  · simp only [Act.put, List.setIfInBounds_toArray, List.set_cons_zero, List.set_cons_succ, i64_w, i32_w]
    rfl
  refine pure_ (i := 18) (N := some 124) (v := ?_) (a' := ?_) #[true, true, true, true, true, true, true, true, true, true, true, true, true, true, true, true, true, true, true, false] rfl rfl (by kernel_rfl) (fun _ _ _ h => h) (Or.inl ⟨by rfl, ?_⟩) ?_ ?_
  rotate_left
  · intro w'
    go_simp
    with_reducible rfl
  rotate_left
  · simp only [Act.put, List.setIfInBounds_toArray, List.set_cons_zero, List.set_cons_succ, i64_w, i32_w]
    rfl
  refine last_ (i := 19) (N := none) #[true, true, true, true, true, true, true, true, true, true, true, true, true, true, true, true, true, true, true, true] rfl rfl (by kernel_rfl) (by decide) (fun K hK => ?_)
  refine skip_ (w1 := ?_) (by rfl) rfl ?_ ?_
  rotate_left
  · go_simp
    rfl
  refine hK.out _ _ ?_
  clear hK K
  refine done_ (by kernel_rfl) ?_

  go_wp2
  go_ret
  exact ⟨rfl, HM5.out.l.trans (RLeft.ofDrew HZ.out)⟩
end
end Go.Proofs.Ytfkoehokjpcogaa.Hand
