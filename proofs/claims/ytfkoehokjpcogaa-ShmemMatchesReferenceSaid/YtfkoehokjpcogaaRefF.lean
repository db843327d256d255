/- The reference memory's Do; the log at most 1000000, four words. -/
import Derived.Test.YtfkoehokjpcogaaRefE
import Derived.BigRegion
namespace Go.Proofs.Ytfkoehokjpcogaa.Hand
open Go.RowKit Go.Proofs.YtfkoehokjpcogaaW.PrintWords Go.Proofs.YtfkoehokjpcogaaW.PrintLast Go.Proofs.YtfkoehokjpcogaaW.PrintMore
set_option linter.unusedVariables false
set_option linter.unusedSimpArgs false
attribute [local go_sem] max2_int min2_int max_two min_two max_three min_three max_four min_four
section
variable {W W' : World} {base rb rw rm cw cm : Nat} {vl : Value} {log : List Acc} {V : Int} {ws hs : List Int}
theorem RefB.logStay2 (h : RefB W base rb rw rm vl cw cm log V ws hs) (hg : W.grownBy W' vl.ownBlock) : W'.cell? ⟨rb, 2, none⟩ = some vl ∧ W'.frozen? ⟨rb, 2, none⟩ = false := by
  have e : W'.heap[rb]? = W.heap[rb]? := hg.block rb h.lt (fun e => by
    obtain ⟨cs, e2⟩ := Kd.R_typed h.lo rb e.symm
    rw [h.blk] at e2
    injection e2 with e2
    injection e2 with _ e3
    exact absurd e3 (by decide))
  have e2 := e.trans h.blk
  constructor <;> simp [World.cell?, World.frozen?, e2]
theorem Mo.row {w : World} {b8 : Nat} {o : OpV} (h : Mo W w base rb rw rm b8 log V ws hs o) (i : Nat) (u : Int) : Mo W (w.setCell ⟨rw, i, none⟩ (.int .i64 u)) base rb rw rm b8 log V (ws.set i u) hs o := by
  refine h.left ?_
  obtain ⟨vl, cw, cm, hB⟩ := h.l.is
  exact ⟨⟨_, _, _, (hB.setRow i u).1⟩, RF.set (.inr (.inl ⟨rfl, hB.wne⟩)) _, below_set_ (Kd.R_base hB.words rw rfl) _⟩
set_option maxHeartbeats 4000000 in
theorem do_mut (h : RefIs W base rb rw rm log V ws hs) (kd th ix a b : Int) (hk : 5 ≤ kd) {r : Bool} {log2 : List Acc} {V2 : Int} {hs2 : List Int}
    (hm : ∀ W1, RefIs W1 base rb rw rm log V ws hs → Calls Try.prog 28 #[.pointer (some ⟨rb, 0, none⟩), .agg #[.int .i64 kd, .int .i64 th, .int .i64 ix, .int .i64 a, .int .i64 b]] W1 fun e w' => e = .returned (.bool r) ∧ RLeft W1 w' base rb rw rm log2 V2 ws hs2) :
    Calls Try.prog 14 #[.pointer (some ⟨rb, 0, none⟩), .agg #[.int .i64 kd, .int .i64 th, .int .i64 ix, .int .i64 a, .int .i64 b]] W fun e w' => e = .returned (.tuple #[.int .i64 0, .bool r]) ∧ RLeft W w' base rb rw rm log2 V2 ws hs2 := by
  have HMU := Aside0.mk hm
  have HA := Aside0.mk (h.left (W' := W.alloc (.cells #[.int .i64 kd, .int .i64 th, .int .i64 ix, .int .i64 a, .int .i64 b] 29)) (below_alloc (Below.refl _ _) _))
  have dk : decide (5 ≤ kd) = true := decide_eq_true hk
  clear hm
  go_enter Try.func14, Try.ntmps14
  go_wp2_with (first | (go_at_call 28; (with_reducible refine (HMU.out _ HA.out.is).mono ?_); rintro e w1 ⟨rfl, hl⟩; have HL := Aside0.mk hl; clear hl))
  go_ret2
  exact ⟨rfl, HA.out.trans HL.out⟩
set_option maxHeartbeats 4000000 in
theorem do_lo (h : RefIs W base rb rw rm log V ws hs) (h4 : ws.length = 4) (kd th ix a b : Int) (k1 : 1 ≤ kd) (k4 : kd ≤ 4) (h0 : ix < 0) :
    Calls Try.prog 14 #[.pointer (some ⟨rb, 0, none⟩), .agg #[.int .i64 kd, .int .i64 th, .int .i64 ix, .int .i64 a, .int .i64 b]] W fun e w' => e = .returned (.tuple #[.int .i64 0, .bool false]) ∧ RLeft W w' base rb rw rm log V ws hs := by
  have H4 := Aside0.mk h4
  have dk : decide (5 ≤ kd) = false := decide_eq_false (by omega)
  have dk1 : decide (kd < 1) = false := decide_eq_false (by omega)
  have d1 : decide (ix < 0) = true := decide_eq_true h0
  clear h4
  go_enter Try.func14, Try.ntmps14
  go_upto_region 1 with (fail)
  have HM := Aside0.mk (Mo.new h kd th ix a b)
  obtain ⟨b8, hb8⟩ : ∃ k, W.heap.size = k := ⟨_, rfl⟩
  obtain ⟨WA, hWA⟩ : ∃ WA, W.alloc (.cells #[.int .i64 kd, .int .i64 th, .int .i64 ix, .int .i64 a, .int .i64 b] 29) = WA := ⟨_, rfl⟩
  rw [hWA] at HM ⊢
  rw [hb8] at HM ⊢
  clear hWA hb8
  obtain ⟨q0, q1, q2, q3, q4⟩ := HM.out.cells
  simp only at q0 q1 q2 q3 q4
  obtain ⟨vl, cw, cm, hB⟩ := HM.out.l.is
  obtain ⟨c0, _, _, _⟩ := hB.cell
  rw [H4.out] at c0
  clear hB
  go_wp2_with (fail)
  go_quiet (fail)
  go_wp2_with (fail)
  go_ret2
  exact ⟨rfl, ((HM.out.drewN _).l)⟩
set_option maxHeartbeats 4000000 in
theorem do_hi (h : RefIs W base rb rw rm log V ws hs) (h4 : ws.length = 4) (kd th ix a b : Int) (k1 : 1 ≤ kd) (k4 : kd ≤ 4) (h0 : 0 ≤ ix) (h1 : 4 ≤ ix) :
    Calls Try.prog 14 #[.pointer (some ⟨rb, 0, none⟩), .agg #[.int .i64 kd, .int .i64 th, .int .i64 ix, .int .i64 a, .int .i64 b]] W fun e w' => e = .returned (.tuple #[.int .i64 0, .bool false]) ∧ RLeft W w' base rb rw rm log V ws hs := by
  have H4 := Aside0.mk h4
  have dk : decide (5 ≤ kd) = false := decide_eq_false (by omega)
  have dk1 : decide (kd < 1) = false := decide_eq_false (by omega)
  have d1 : decide (ix < 0) = false := decide_eq_false (by omega)
  have d2 : decide (4 ≤ ix) = true := decide_eq_true h1
  clear h4
  go_enter Try.func14, Try.ntmps14
  go_upto_region 1 with (fail)
  have HM := Aside0.mk (Mo.new h kd th ix a b)
  obtain ⟨b8, hb8⟩ : ∃ k, W.heap.size = k := ⟨_, rfl⟩
  obtain ⟨WA, hWA⟩ : ∃ WA, W.alloc (.cells #[.int .i64 kd, .int .i64 th, .int .i64 ix, .int .i64 a, .int .i64 b] 29) = WA := ⟨_, rfl⟩
  rw [hWA] at HM ⊢
  rw [hb8] at HM ⊢
  clear hWA hb8
  obtain ⟨q0, q1, q2, q3, q4⟩ := HM.out.cells
  simp only at q0 q1 q2 q3 q4
  obtain ⟨vl, cw, cm, hB⟩ := HM.out.l.is
  obtain ⟨c0, _, _, _⟩ := hB.cell
  rw [H4.out] at c0
  clear hB
  go_wp2_with (fail)
  go_quiet (fail)
  go_wp2_with (fail)
  go_ret2
  exact ⟨rfl, ((HM.out.drewN _).l)⟩
set_option maxHeartbeats 8000000 in
theorem do1 (h : RefIs W base rb rw rm log V ws hs) (h4 : ws.length = 4) (hl : log.length ≤ 1000000) (th ix a b z : Int) (h0 : 0 ≤ ix) (h1 : ix < 4) (hz : rd ws ix = z)  :
    Calls Try.prog 14 #[.pointer (some ⟨rb, 0, none⟩), .agg #[.int .i64 1, .int .i64 th, .int .i64 ix, .int .i64 a, .int .i64 b]] W fun e w' => e = .returned (.tuple #[.int .i64 z, .bool false]) ∧ RLeft W w' base rb rw rm (log ++ [⟨th, 1, ix, z, z, true⟩]) V (ws.set ix.toNat z) hs := by
  have H4 := Aside0.mk h4
  have HLL := Aside0.mk hl
  have HIX := Aside0.mk (show ix < ws.length by omega)
  have d1 : decide (ix < 0) = false := decide_eq_false (by omega)
  have d2 : decide (4 ≤ ix) = false := decide_eq_false (by omega)
  clear h4 hl
  go_enter Try.func14, Try.ntmps14
  go_upto_region 1 with (fail)
  have HM := Aside0.mk (Mo.new h 1 th ix a b)
  obtain ⟨b8, hb8⟩ : ∃ k, W.heap.size = k := ⟨_, rfl⟩
  obtain ⟨WA, hWA⟩ : ∃ WA, W.alloc (.cells #[.int .i64 1, .int .i64 th, .int .i64 ix, .int .i64 a, .int .i64 b] 29) = WA := ⟨_, rfl⟩
  rw [hWA] at HM ⊢
  rw [hb8] at HM ⊢
  clear hWA hb8
  obtain ⟨q0, q1, q2, q3, q4⟩ := HM.out.cells
  simp only at q0 q1 q2 q3 q4
  obtain ⟨vl, cw, cm, hB⟩ := HM.out.l.is
  obtain ⟨c0, _, _, _⟩ := hB.cell
  rw [H4.out] at c0
  have hxr := hB.words
  obtain ⟨hx0, hx1⟩ := Kd.R_celln 0 hxr ix h0 HIX.out
  have cz : WA.cell? ⟨rw, ix.toNat, none⟩ = some (.int .i64 (rd ws ix)) := hx0
  have fz : WA.frozen? ⟨rw, ix.toNat, none⟩ = false := hx1
  rw [hz] at cz
  clear hx0 hx1 hxr hB hz
  go_wp2_with (fail)
  go_quiet (fail)
  go_wp2_with (fail)
  go_quiet (fail)
  go_wp2_with (fail)
  rename_i nq1 K aK
  go_region
  obtain ⟨w5, hw5⟩ : ∃ w5, (WA.drewN (nq1 + nq + 1)).setCell ⟨rw, ix.toNat, none⟩ (.int .i64 z) = w5 := ⟨_, rfl⟩
  have HM5' := (HM.out.drewN (nq1 + nq + 1)).row ix.toNat z
  rw [hw5] at HM5' ⊢
  clear hw5
  go_wp2_with (fail)
  have HM5 := Aside0.mk HM5'
  clear HM5' cz fz q0 q1 q2 q3 q4 c0 HM
  obtain ⟨p0, p1, p2, p3, p4⟩ := HM5.out.cells
  simp only at p0 p1 p2 p3 p4
  obtain ⟨vl5, cw5, cm5, hB5⟩ := HM5.out.l.is
  have HB5 := Aside0.mk hB5
  obtain ⟨_, _, c25, _⟩ := hB5.cell
  have HC25 := Aside0.mk c25
  have f25 := hB5.free 2
  have HF25 := Aside0.mk f25
  have hs5 := Aside0.mk (Nat.le_trans hB5.hg (Nat.le_of_lt hB5.lt))
  clear hB5
  have HBD := Aside0.mk (HB5.out.below (below_drew1 (Below.refl _ _)))
  have ca5 : ∀ o, (w5.drew.alloc o).cell? ⟨rb, 2, none⟩ = some vl5 := fun o => ((below_alloc (Below.refl w5.heap.size _) o).cell (p := ⟨rb, 2, none⟩) HB5.out.lt).trans HC25.out
  have ca0 : ∀ o, (w5.drew.alloc o).cell? ⟨b8, 0, none⟩ = some (.int .i64 1) := fun o => ((below_alloc (Below.refl w5.heap.size _) o).cell (p := ⟨b8, 0, none⟩) HM5.out.far.lt).trans p0
  have ca1 : ∀ o, (w5.drew.alloc o).cell? ⟨b8, 1, none⟩ = some (.int .i64 th) := fun o => ((below_alloc (Below.refl w5.heap.size _) o).cell (p := ⟨b8, 1, none⟩) HM5.out.far.lt).trans p1
  have ca2 : ∀ o, (w5.drew.alloc o).cell? ⟨b8, 2, none⟩ = some (.int .i64 ix) := fun o => ((below_alloc (Below.refl w5.heap.size _) o).cell (p := ⟨b8, 2, none⟩) HM5.out.far.lt).trans p2
  refine start_ (n := 20) (S := fun w' => w'.cell? ⟨rb, 2, none⟩ = some vl5 ∧ w'.cell? ⟨b8, 0, none⟩ = some (.int .i64 1) ∧ w'.cell? ⟨b8, 1, none⟩ = some (.int .i64 th) ∧ w'.cell? ⟨b8, 2, none⟩ = some (.int .i64 ix)) (ds := [16, 19]) #[false, false, false, false, false, false, false, false, false, false, false, false, false, false, false, false, false, false, false, false] (by kernel_rfl) rfl rfl ⟨HC25.out, p0, p1, p2⟩ (fun hHeld => ?_)
  refine pure_ (i := 0) (N := some 73) (v := ?_) (a' := ?_) #[true, false, false, false, false, false, false, false, false, false, false, false, false, false, false, false, false, false, false, false] rfl rfl (by kernel_rfl) (fun _ _ _ h => h) (Or.inl ⟨by rfl, ?_⟩) ?_ ?_
  rotate_left
  · intro w'
    go_simp
    with_reducible rfl
  rotate_left
  · simp only [Act.put, List.setIfInBounds_toArray, List.set_cons_zero, List.set_cons_succ, i64_w, i32_w]
    rfl
  refine pure_ (i := 1) (N := some 74) (v := ?_) (a' := ?_) #[true, true, false, false, false, false, false, false, false, false, false, false, false, false, false, false, false, false, false, false] rfl rfl (by kernel_rfl) (fun _ _ _ h => h) (Or.inl ⟨by rfl, ?_⟩) ?_ ?_
  rotate_left
  · intro w'
    go_simp
    with_reducible rfl
  rotate_left
  · simp only [Act.put, List.setIfInBounds_toArray, List.set_cons_zero, List.set_cons_succ, i64_w, i32_w]
    rfl
  refine pure_ (i := 2) (N := some 75) (v := ?_) (a' := ?_) #[true, true, true, false, false, false, false, false, false, false, false, false, false, false, false, false, false, false, false, false] rfl rfl (by kernel_rfl) (fun _ _ _ h => h) (Or.inl ⟨by rfl, ?_⟩) ?_ ?_
  rotate_left
  · intro w'
    go_simp
    with_reducible rfl
  rotate_left
  · simp only [Act.put, List.setIfInBounds_toArray, List.set_cons_zero, List.set_cons_succ, i64_w, i32_w]
    rfl
  refine pure_ (i := 3) (N := some 76) (v := ?_) (a' := ?_) #[true, true, true, true, false, false, false, false, false, false, false, false, false, false, false, false, false, false, false, false] rfl rfl (by kernel_rfl) (fun _ _ _ h => h) (Or.inl ⟨by rfl, ?_⟩) ?_ ?_
  rotate_left
  · intro w'
    go_simp
    with_reducible rfl
  rotate_left
  · simp only [Act.put, List.setIfInBounds_toArray, List.set_cons_zero, List.set_cons_succ, i64_w, i32_w]
    rfl
  refine pure_ (i := 5) (N := some 78) (v := ?_) (a' := ?_) #[true, true, true, true, false, true, false, false, false, false, false, false, false, false, false, false, false, false, false, false] rfl rfl (by kernel_rfl) (fun _ _ _ h => h) (Or.inl ⟨by rfl, ?_⟩) ?_ ?_
  rotate_left
  · intro w'
    go_simp
    with_reducible rfl
  rotate_left
  · simp only [Act.put, List.setIfInBounds_toArray, List.set_cons_zero, List.set_cons_succ, i64_w, i32_w]
    rfl
  refine pure_ (i := 7) (N := some 80) (v := ?_) (a' := ?_) #[true, true, true, true, false, true, false, true, false, false, false, false, false, false, false, false, false, false, false, false] rfl rfl (by kernel_rfl) (fun _ _ _ h => h) (Or.inl ⟨by rfl, ?_⟩) ?_ ?_
  rotate_left
  · intro w'
    go_simp
    with_reducible rfl
  rotate_left
  · simp only [Act.put, List.setIfInBounds_toArray, List.set_cons_zero, List.set_cons_succ, i64_w, i32_w]
    rfl
  refine pure_ (i := 9) (N := some 82) (v := ?_) (a' := ?_) #[true, true, true, true, false, true, false, true, false, true, false, false, false, false, false, false, false, false, false, false] rfl rfl (by kernel_rfl) (fun _ _ _ h => h) (Or.inl ⟨by rfl, ?_⟩) ?_ ?_
  rotate_left
  · intro w'
    go_simp
    with_reducible rfl
  rotate_left
  · simp only [Act.put, List.setIfInBounds_toArray, List.set_cons_zero, List.set_cons_succ, i64_w, i32_w]
    rfl
  refine pure_ (i := 11) (N := some 84) (v := ?_) (a' := ?_) #[true, true, true, true, false, true, false, true, false, true, false, true, false, false, false, false, false, false, false, false] rfl rfl (by kernel_rfl) (fun _ _ _ h => h) (Or.inl ⟨by rfl, ?_⟩) ?_ ?_
  rotate_left
  · intro w'
    go_simp
    with_reducible rfl
  rotate_left
  · simp only [Act.put, List.setIfInBounds_toArray, List.set_cons_zero, List.set_cons_succ, i64_w, i32_w]
    rfl
  refine pure_ (i := 12) (N := some 85) (v := ?_) (a' := ?_) #[true, true, true, true, false, true, false, true, false, true, false, true, true, false, false, false, false, false, false, false] rfl rfl (by kernel_rfl) (fun _ _ _ h => h) (Or.inl ⟨by rfl, ?_⟩) ?_ ?_
  rotate_left
  · intro w'
    go_simp
    with_reducible rfl
  rotate_left
  · simp only [Act.put, List.setIfInBounds_toArray, List.set_cons_zero, List.set_cons_succ, i64_w, i32_w]
    rfl
  refine pure_ (i := 13) (N := some 86) (v := ?_) (a' := ?_) #[true, true, true, true, false, true, false, true, false, true, false, true, true, true, false, false, false, false, false, false] rfl rfl (by kernel_rfl) (fun _ _ _ h => h) (Or.inl ⟨by rfl, ?_⟩) ?_ ?_
  rotate_left
  · intro w'
    go_simp
    with_reducible rfl
  rotate_left
  · simp only [Act.put, List.setIfInBounds_toArray, List.set_cons_zero, List.set_cons_succ, i64_w, i32_w]
    rfl
  refine take_ (i := 4) (N := some 77) (v := ?_) (a' := ?_) #[true, true, true, true, true, true, false, true, false, true, false, true, true, true, false, false, false, false, false, false] rfl rfl (by kernel_rfl) (fun _ _ _ h => h) (Or.inl ⟨by rfl, ?_⟩) hHeld ?_ ?_
  rotate_left
  · rintro w' ⟨s0, s1, s2, s3⟩
    go_simp
    with_reducible rfl
  rotate_left
  · simp only [Act.put, List.setIfInBounds_toArray, List.set_cons_zero, List.set_cons_succ, i64_w, i32_w]
    rfl
  refine take_ (i := 6) (N := some 79) (v := ?_) (a' := ?_) #[true, true, true, true, true, true, true, true, false, true, false, true, true, true, false, false, false, false, false, false] rfl rfl (by kernel_rfl) (fun _ _ _ h => h) (Or.inl ⟨by rfl, ?_⟩) hHeld ?_ ?_
  rotate_left
  · rintro w' ⟨s0, s1, s2, s3⟩
    go_simp
    with_reducible rfl
  rotate_left
  · simp only [Act.put, List.setIfInBounds_toArray, List.set_cons_zero, List.set_cons_succ, i64_w, i32_w]
    rfl
  refine take_ (i := 8) (N := some 81) (v := ?_) (a' := ?_) #[true, true, true, true, true, true, true, true, true, true, false, true, true, true, false, false, false, false, false, false] rfl rfl (by kernel_rfl) (fun _ _ _ h => h) (Or.inl ⟨by rfl, ?_⟩) hHeld ?_ ?_
  rotate_left
  · rintro w' ⟨s0, s1, s2, s3⟩
    go_simp
    with_reducible rfl
  rotate_left
  · simp only [Act.put, List.setIfInBounds_toArray, List.set_cons_zero, List.set_cons_succ, i64_w, i32_w]
    rfl
  refine take_ (i := 10) (N := some 83) (v := ?_) (a' := ?_) #[true, true, true, true, true, true, true, true, true, true, true, true, true, true, false, false, false, false, false, false] rfl rfl (by kernel_rfl) (fun _ _ _ h => h) (Or.inl ⟨by rfl, ?_⟩) hHeld ?_ ?_
  rotate_left
  · rintro w' ⟨s0, s1, s2, s3⟩
    go_simp
    with_reducible rfl
  rotate_left
  · simp only [Act.put, List.setIfInBounds_toArray, List.set_cons_zero, List.set_cons_succ, i64_w, i32_w]
    rfl
  refine pure_ (i := 14) (N := some 87) (v := ?_) (a' := ?_) #[true, true, true, true, true, true, true, true, true, true, true, true, true, true, true, false, false, false, false, false] rfl rfl (by kernel_rfl) (fun _ _ _ h => h) (Or.inl ⟨by rfl, ?_⟩) ?_ ?_
  rotate_left
  · intro w'
    go_simp
    with_reducible rfl
  rotate_left
  · simp only [Act.put, List.setIfInBounds_toArray, List.set_cons_zero, List.set_cons_succ, i64_w, i32_w]
    rfl
  refine one_ (i := 15) (N := some 88) #[true, true, true, true, true, true, true, true, true, true, true, true, true, true, true, true, false, false, false, false] rfl rfl (by kernel_rfl) (by decide) (fun K hK => ?_)
  refine value_ (w1 := ?_) (v := ?_) (by rfl) rfl ?_ ?_
  rotate_left 2
  · go_simp
    constructor
    · rfl
    · rfl
  refine hK.out _ _ ⟨ca5 _, ca0 _, ca1 _, ca2 _⟩ (fun hHeld => ?_)
  clear hK K
  refine norm_ (a' := ?_) ?_ ?_
  rotate_left
  · show Act.put _ (some 88) _ = _
    simp only [Act.put, List.setIfInBounds_toArray, List.set_cons_zero, List.set_cons_succ, i64_w, i32_w]
    rfl
  refine last_ (i := 16) (N := some 89) #[true, true, true, true, true, true, true, true, true, true, true, true, true, true, true, true, true, false, false, false] rfl rfl (by kernel_rfl) (by decide) (fun K hK => ?_)
  refine Kd.R_append_step kA (w0 := w5) base (by rfl) (.tmp 77) (.tmp 88) 38 47 (.agg #[.int .i64 0, .int .i64 0, .int .i64 0, .int .i64 0, .int .i64 0, .bool false]) 48 rfl Try.underlying38 infoAcc rfl (by decide) (by omega) vl5 log ⟨th, 1, ix, z, z, true⟩ [.int .i64 th, .int .i64 1, .int .i64 ix, .int .i64 z, .int .i64 z, .bool true] (fun _ => True) (fun _ => False) rfl rfl (kA_mkM _ _ _ _) (fun _ hk => hk.elim) (fun _ _ => trivial) HBD.out.lo (below_drew1 (Below.refl _ _)) hs5.out (by have := HLL.out; omega) ?_
  intro v1 w1 hv1 hb1 hg1 hat1
  obtain ⟨A1, k1, rfl⟩ := Kd.R_slice hv1
  obtain ⟨z1, z2, z3⟩ := HBD.out.pushLog hv1 hg1 hat1
  rw [List.length_append, List.length_cons, List.length_nil] at z1 z2 z3 ⊢
  have HZ := Aside0.mk (RLeft.mk ⟨_, _, _, z1⟩ z2 z3)
  obtain ⟨hc1, hf1⟩ := HBD.out.logStay2 hg1
  clear hv1 hb1 hg1 hat1 z1 z2 z3
  refine hK.out _ _ ?_
  clear hK K
  refine norm_ (a' := ?_) ?_ ?_
  rotate_left
  · show Act.put _ (some 89) _ = _
    simp only [Act.put, List.setIfInBounds_toArray, List.set_cons_zero, List.set_cons_succ, i64_w, i32_w]
    rfl
  refine pure_ (i := 17) (N := some 90) (v := ?_) (a' := ?_) #[true, true, true, true, true, true, true, true, true, true, true, true, true, true, true, true, true, true, false, false] rfl rfl (by kernel_rfl) (fun _ _ _ h => h) (Or.inl ⟨by rfl, ?_⟩) ?_ ?_
  rotate_left
  · intro w'
    go_simp
    with_reducible rfl
  rotate_left
  · simp only [Act.put, List.setIfInBounds_toArray, List.set_cons_zero, List.set_cons_succ, i64_w, i32_w]
    rfl
  refine pure_ (i := 18) (N := some 91) (v := ?_) (a' := ?_) #[true, true, true, true, true, true, true, true, true, true, true, true, true, true, true, true, true, true, true, false] rfl rfl (by kernel_rfl) (fun _ _ _ h => h) (Or.inl ⟨by rfl, ?_⟩) ?_ ?_
  rotate_left
  · intro w'
    go_simp
    with_reducible rfl
  rotate_left
  · simp only [Act.put, List.setIfInBounds_toArray, List.set_cons_zero, List.set_cons_succ, i64_w, i32_w]
    rfl
  refine last_ (i := 19) (N := none) #[true, true, true, true, true, true, true, true, true, true, true, true, true, true, true, true, true, true, true, true] rfl rfl (by kernel_rfl) (by decide) (fun K hK => ?_)
  refine skip_ (w1 := ?_) (by rfl) rfl ?_ ?_
  rotate_left
  · go_simp
    rfl
  refine hK.out _ _ ?_
  clear hK K
  refine done_ (by kernel_rfl) ?_

  have HM9 := Aside0.mk (HM5.out.drew.left HZ.out)
  obtain ⟨w9, hw9⟩ : ∃ w9, w1.setCell ⟨rb, 2, none⟩ (.slice A1 (log.length + 1) k1) = w9 := ⟨_, rfl⟩
  rw [hw9] at HM9 ⊢
  clear hw9 hc1 hf1 HZ
  obtain ⟨r0, _⟩ := HM9.out.cells
  simp only at r0
  clear ca5 ca0 ca1 ca2 p0 p1 p2 p3 p4 f25 c25
  go_wp2
  go_ret2
  exact ⟨rfl, HM9.out.l⟩
set_option maxHeartbeats 8000000 in
theorem do2 (h : RefIs W base rb rw rm log V ws hs) (h4 : ws.length = 4) (hl : log.length ≤ 1000000) (th ix a b z : Int) (h0 : 0 ≤ ix) (h1 : ix < 4) (hz : rd ws ix = z)  :
    Calls Try.prog 14 #[.pointer (some ⟨rb, 0, none⟩), .agg #[.int .i64 2, .int .i64 th, .int .i64 ix, .int .i64 a, .int .i64 b]] W fun e w' => e = .returned (.tuple #[.int .i64 (wrap64 (z + a)), .bool false]) ∧ RLeft W w' base rb rw rm (log ++ [⟨th, 2, ix, z, (wrap64 (z + a)), true⟩]) V (ws.set ix.toNat (wrap64 (z + a))) hs := by
  have H4 := Aside0.mk h4
  have HLL := Aside0.mk hl
  have HIX := Aside0.mk (show ix < ws.length by omega)
  have d1 : decide (ix < 0) = false := decide_eq_false (by omega)
  have d2 : decide (4 ≤ ix) = false := decide_eq_false (by omega)
  clear h4 hl
  go_enter Try.func14, Try.ntmps14
  go_upto_region 1 with (fail)
  have HM := Aside0.mk (Mo.new h 2 th ix a b)
  obtain ⟨b8, hb8⟩ : ∃ k, W.heap.size = k := ⟨_, rfl⟩
  obtain ⟨WA, hWA⟩ : ∃ WA, W.alloc (.cells #[.int .i64 2, .int .i64 th, .int .i64 ix, .int .i64 a, .int .i64 b] 29) = WA := ⟨_, rfl⟩
  rw [hWA] at HM ⊢
  rw [hb8] at HM ⊢
  clear hWA hb8
  obtain ⟨q0, q1, q2, q3, q4⟩ := HM.out.cells
  simp only at q0 q1 q2 q3 q4
  obtain ⟨vl, cw, cm, hB⟩ := HM.out.l.is
  obtain ⟨c0, _, _, _⟩ := hB.cell
  rw [H4.out] at c0
  have hxr := hB.words
  obtain ⟨hx0, hx1⟩ := Kd.R_celln 0 hxr ix h0 HIX.out
  have cz : WA.cell? ⟨rw, ix.toNat, none⟩ = some (.int .i64 (rd ws ix)) := hx0
  have fz : WA.frozen? ⟨rw, ix.toNat, none⟩ = false := hx1
  rw [hz] at cz
  clear hx0 hx1 hxr hB hz
  go_wp2_with (fail)
  go_quiet (fail)
  go_wp2_with (fail)
  go_quiet (fail)
  go_wp2_with (fail)
  rename_i nq1 K aK
  go_region
  obtain ⟨w5, hw5⟩ : ∃ w5, (WA.drewN (nq1 + nq + 1)).setCell ⟨rw, ix.toNat, none⟩ (.int .i64 (wrap64 (z + a))) = w5 := ⟨_, rfl⟩
  have HM5' := (HM.out.drewN (nq1 + nq + 1)).row ix.toNat (wrap64 (z + a))
  rw [hw5] at HM5' ⊢
  clear hw5
  go_wp2_with (fail)
  have HM5 := Aside0.mk HM5'
  clear HM5' cz fz q0 q1 q2 q3 q4 c0 HM
  obtain ⟨p0, p1, p2, p3, p4⟩ := HM5.out.cells
  simp only at p0 p1 p2 p3 p4
  obtain ⟨vl5, cw5, cm5, hB5⟩ := HM5.out.l.is
  have HB5 := Aside0.mk hB5
  obtain ⟨_, _, c25, _⟩ := hB5.cell
  have HC25 := Aside0.mk c25
  have f25 := hB5.free 2
  have HF25 := Aside0.mk f25
  have hs5 := Aside0.mk (Nat.le_trans hB5.hg (Nat.le_of_lt hB5.lt))
  clear hB5
  have HBD := Aside0.mk (HB5.out.below (below_drew1 (Below.refl _ _)))
  have ca5 : ∀ o, (w5.drew.alloc o).cell? ⟨rb, 2, none⟩ = some vl5 := fun o => ((below_alloc (Below.refl w5.heap.size _) o).cell (p := ⟨rb, 2, none⟩) HB5.out.lt).trans HC25.out
  have ca0 : ∀ o, (w5.drew.alloc o).cell? ⟨b8, 0, none⟩ = some (.int .i64 2) := fun o => ((below_alloc (Below.refl w5.heap.size _) o).cell (p := ⟨b8, 0, none⟩) HM5.out.far.lt).trans p0
  have ca1 : ∀ o, (w5.drew.alloc o).cell? ⟨b8, 1, none⟩ = some (.int .i64 th) := fun o => ((below_alloc (Below.refl w5.heap.size _) o).cell (p := ⟨b8, 1, none⟩) HM5.out.far.lt).trans p1
  have ca2 : ∀ o, (w5.drew.alloc o).cell? ⟨b8, 2, none⟩ = some (.int .i64 ix) := fun o => ((below_alloc (Below.refl w5.heap.size _) o).cell (p := ⟨b8, 2, none⟩) HM5.out.far.lt).trans p2
  refine start_ (n := 20) (S := fun w' => w'.cell? ⟨rb, 2, none⟩ = some vl5 ∧ w'.cell? ⟨b8, 0, none⟩ = some (.int .i64 2) ∧ w'.cell? ⟨b8, 1, none⟩ = some (.int .i64 th) ∧ w'.cell? ⟨b8, 2, none⟩ = some (.int .i64 ix)) (ds := [16, 19]) #[false, false, false, false, false, false, false, false, false, false, false, false, false, false, false, false, false, false, false, false] (by kernel_rfl) rfl rfl ⟨HC25.out, p0, p1, p2⟩ (fun hHeld => ?_)
  refine pure_ (i := 0) (N := some 73) (v := ?_) (a' := ?_) #[true, false, false, false, false, false, false, false, false, false, false, false, false, false, false, false, false, false, false, false] rfl rfl (by kernel_rfl) (fun _ _ _ h => h) (Or.inl ⟨by rfl, ?_⟩) ?_ ?_
  rotate_left
  · intro w'
    go_simp
    with_reducible rfl
  rotate_left
  · simp only [Act.put, List.setIfInBounds_toArray, List.set_cons_zero, List.set_cons_succ, i64_w, i32_w]
    rfl
  refine pure_ (i := 1) (N := some 74) (v := ?_) (a' := ?_) #[true, true, false, false, false, false, false, false, false, false, false, false, false, false, false, false, false, false, false, false] rfl rfl (by kernel_rfl) (fun _ _ _ h => h) (Or.inl ⟨by rfl, ?_⟩) ?_ ?_
  rotate_left
  · intro w'
    go_simp
    with_reducible rfl
  rotate_left
  · simp only [Act.put, List.setIfInBounds_toArray, List.set_cons_zero, List.set_cons_succ, i64_w, i32_w]
    rfl
  refine pure_ (i := 2) (N := some 75) (v := ?_) (a' := ?_) #[true, true, true, false, false, false, false, false, false, false, false, false, false, false, false, false, false, false, false, false] rfl rfl (by kernel_rfl) (fun _ _ _ h => h) (Or.inl ⟨by rfl, ?_⟩) ?_ ?_
  rotate_left
  · intro w'
    go_simp
    with_reducible rfl
  rotate_left
  · simp only [Act.put, List.setIfInBounds_toArray, List.set_cons_zero, List.set_cons_succ, i64_w, i32_w]
    rfl
  refine pure_ (i := 3) (N := some 76) (v := ?_) (a' := ?_) #[true, true, true, true, false, false, false, false, false, false, false, false, false, false, false, false, false, false, false, false] rfl rfl (by kernel_rfl) (fun _ _ _ h => h) (Or.inl ⟨by rfl, ?_⟩) ?_ ?_
  rotate_left
  · intro w'
    go_simp
    with_reducible rfl
  rotate_left
  · simp only [Act.put, List.setIfInBounds_toArray, List.set_cons_zero, List.set_cons_succ, i64_w, i32_w]
    rfl
  refine pure_ (i := 5) (N := some 78) (v := ?_) (a' := ?_) #[true, true, true, true, false, true, false, false, false, false, false, false, false, false, false, false, false, false, false, false] rfl rfl (by kernel_rfl) (fun _ _ _ h => h) (Or.inl ⟨by rfl, ?_⟩) ?_ ?_
  rotate_left
  · intro w'
    go_simp
    with_reducible rfl
  rotate_left
  · simp only [Act.put, List.setIfInBounds_toArray, List.set_cons_zero, List.set_cons_succ, i64_w, i32_w]
    rfl
  refine pure_ (i := 7) (N := some 80) (v := ?_) (a' := ?_) #[true, true, true, true, false, true, false, true, false, false, false, false, false, false, false, false, false, false, false, false] rfl rfl (by kernel_rfl) (fun _ _ _ h => h) (Or.inl ⟨by rfl, ?_⟩) ?_ ?_
  rotate_left
  · intro w'
    go_simp
    with_reducible rfl
  rotate_left
  · simp only [Act.put, List.setIfInBounds_toArray, List.set_cons_zero, List.set_cons_succ, i64_w, i32_w]
    rfl
  refine pure_ (i := 9) (N := some 82) (v := ?_) (a' := ?_) #[true, true, true, true, false, true, false, true, false, true, false, false, false, false, false, false, false, false, false, false] rfl rfl (by kernel_rfl) (fun _ _ _ h => h) (Or.inl ⟨by rfl, ?_⟩) ?_ ?_
  rotate_left
  · intro w'
    go_simp
    with_reducible rfl
  rotate_left
  · simp only [Act.put, List.setIfInBounds_toArray, List.set_cons_zero, List.set_cons_succ, i64_w, i32_w]
    rfl
  refine pure_ (i := 11) (N := some 84) (v := ?_) (a' := ?_) #[true, true, true, true, false, true, false, true, false, true, false, true, false, false, false, false, false, false, false, false] rfl rfl (by kernel_rfl) (fun _ _ _ h => h) (Or.inl ⟨by rfl, ?_⟩) ?_ ?_
  rotate_left
  · intro w'
    go_simp
    with_reducible rfl
  rotate_left
  · simp only [Act.put, List.setIfInBounds_toArray, List.set_cons_zero, List.set_cons_succ, i64_w, i32_w]
    rfl
  refine pure_ (i := 12) (N := some 85) (v := ?_) (a' := ?_) #[true, true, true, true, false, true, false, true, false, true, false, true, true, false, false, false, false, false, false, false] rfl rfl (by kernel_rfl) (fun _ _ _ h => h) (Or.inl ⟨by rfl, ?_⟩) ?_ ?_
  rotate_left
  · intro w'
    go_simp
    with_reducible rfl
  rotate_left
  · simp only [Act.put, List.setIfInBounds_toArray, List.set_cons_zero, List.set_cons_succ, i64_w, i32_w]
    rfl
  refine pure_ (i := 13) (N := some 86) (v := ?_) (a' := ?_) #[true, true, true, true, false, true, false, true, false, true, false, true, true, true, false, false, false, false, false, false] rfl rfl (by kernel_rfl) (fun _ _ _ h => h) (Or.inl ⟨by rfl, ?_⟩) ?_ ?_
  rotate_left
  · intro w'
    go_simp
    with_reducible rfl
  rotate_left
  · simp only [Act.put, List.setIfInBounds_toArray, List.set_cons_zero, List.set_cons_succ, i64_w, i32_w]
    rfl
  refine take_ (i := 4) (N := some 77) (v := ?_) (a' := ?_) #[true, true, true, true, true, true, false, true, false, true, false, true, true, true, false, false, false, false, false, false] rfl rfl (by kernel_rfl) (fun _ _ _ h => h) (Or.inl ⟨by rfl, ?_⟩) hHeld ?_ ?_
  rotate_left
  · rintro w' ⟨s0, s1, s2, s3⟩
    go_simp
    with_reducible rfl
  rotate_left
  · simp only [Act.put, List.setIfInBounds_toArray, List.set_cons_zero, List.set_cons_succ, i64_w, i32_w]
    rfl
  refine take_ (i := 6) (N := some 79) (v := ?_) (a' := ?_) #[true, true, true, true, true, true, true, true, false, true, false, true, true, true, false, false, false, false, false, false] rfl rfl (by kernel_rfl) (fun _ _ _ h => h) (Or.inl ⟨by rfl, ?_⟩) hHeld ?_ ?_
  rotate_left
  · rintro w' ⟨s0, s1, s2, s3⟩
    go_simp
    with_reducible rfl
  rotate_left
  · simp only [Act.put, List.setIfInBounds_toArray, List.set_cons_zero, List.set_cons_succ, i64_w, i32_w]
    rfl
  refine take_ (i := 8) (N := some 81) (v := ?_) (a' := ?_) #[true, true, true, true, true, true, true, true, true, true, false, true, true, true, false, false, false, false, false, false] rfl rfl (by kernel_rfl) (fun _ _ _ h => h) (Or.inl ⟨by rfl, ?_⟩) hHeld ?_ ?_
  rotate_left
  · rintro w' ⟨s0, s1, s2, s3⟩
    go_simp
    with_reducible rfl
  rotate_left
  · simp only [Act.put, List.setIfInBounds_toArray, List.set_cons_zero, List.set_cons_succ, i64_w, i32_w]
    rfl
  refine take_ (i := 10) (N := some 83) (v := ?_) (a' := ?_) #[true, true, true, true, true, true, true, true, true, true, true, true, true, true, false, false, false, false, false, false] rfl rfl (by kernel_rfl) (fun _ _ _ h => h) (Or.inl ⟨by rfl, ?_⟩) hHeld ?_ ?_
  rotate_left
  · rintro w' ⟨s0, s1, s2, s3⟩
    go_simp
    with_reducible rfl
  rotate_left
  · simp only [Act.put, List.setIfInBounds_toArray, List.set_cons_zero, List.set_cons_succ, i64_w, i32_w]
    rfl
  refine pure_ (i := 14) (N := some 87) (v := ?_) (a' := ?_) #[true, true, true, true, true, true, true, true, true, true, true, true, true, true, true, false, false, false, false, false] rfl rfl (by kernel_rfl) (fun _ _ _ h => h) (Or.inl ⟨by rfl, ?_⟩) ?_ ?_
  rotate_left
  · intro w'
    go_simp
    with_reducible rfl
  rotate_left
  · simp only [Act.put, List.setIfInBounds_toArray, List.set_cons_zero, List.set_cons_succ, i64_w, i32_w]
    rfl
  refine one_ (i := 15) (N := some 88) #[true, true, true, true, true, true, true, true, true, true, true, true, true, true, true, true, false, false, false, false] rfl rfl (by kernel_rfl) (by decide) (fun K hK => ?_)
  refine value_ (w1 := ?_) (v := ?_) (by rfl) rfl ?_ ?_
  rotate_left 2
  · go_simp
    constructor
    · rfl
    · rfl
  refine hK.out _ _ ⟨ca5 _, ca0 _, ca1 _, ca2 _⟩ (fun hHeld => ?_)
  clear hK K
  refine norm_ (a' := ?_) ?_ ?_
  rotate_left
  · show Act.put _ (some 88) _ = _
    simp only [Act.put, List.setIfInBounds_toArray, List.set_cons_zero, List.set_cons_succ, i64_w, i32_w]
    rfl
  refine last_ (i := 16) (N := some 89) #[true, true, true, true, true, true, true, true, true, true, true, true, true, true, true, true, true, false, false, false] rfl rfl (by kernel_rfl) (by decide) (fun K hK => ?_)
  refine Kd.R_append_step kA (w0 := w5) base (by rfl) (.tmp 77) (.tmp 88) 38 47 (.agg #[.int .i64 0, .int .i64 0, .int .i64 0, .int .i64 0, .int .i64 0, .bool false]) 48 rfl Try.underlying38 infoAcc rfl (by decide) (by omega) vl5 log ⟨th, 2, ix, z, (wrap64 (z + a)), true⟩ [.int .i64 th, .int .i64 2, .int .i64 ix, .int .i64 z, .int .i64 (wrap64 (z + a)), .bool true] (fun _ => True) (fun _ => False) rfl rfl (kA_mkM _ _ _ _) (fun _ hk => hk.elim) (fun _ _ => trivial) HBD.out.lo (below_drew1 (Below.refl _ _)) hs5.out (by have := HLL.out; omega) ?_
  intro v1 w1 hv1 hb1 hg1 hat1
  obtain ⟨A1, k1, rfl⟩ := Kd.R_slice hv1
  obtain ⟨z1, z2, z3⟩ := HBD.out.pushLog hv1 hg1 hat1
  rw [List.length_append, List.length_cons, List.length_nil] at z1 z2 z3 ⊢
  have HZ := Aside0.mk (RLeft.mk ⟨_, _, _, z1⟩ z2 z3)
  obtain ⟨hc1, hf1⟩ := HBD.out.logStay2 hg1
  clear hv1 hb1 hg1 hat1 z1 z2 z3
  refine hK.out _ _ ?_
  clear hK K
  refine norm_ (a' := ?_) ?_ ?_
  rotate_left
  · show Act.put _ (some 89) _ = _
    simp only [Act.put, List.setIfInBounds_toArray, List.set_cons_zero, List.set_cons_succ, i64_w, i32_w]
    rfl
  refine pure_ (i := 17) (N := some 90) (v := ?_) (a' := ?_) #[true, true, true, true, true, true, true, true, true, true, true, true, true, true, true, true, true, true, false, false] rfl rfl (by kernel_rfl) (fun _ _ _ h => h) (Or.inl ⟨by rfl, ?_⟩) ?_ ?_
  rotate_left
  · intro w'
    go_simp
    with_reducible rfl
  rotate_left
  · simp only [Act.put, List.setIfInBounds_toArray, List.set_cons_zero, List.set_cons_succ, i64_w, i32_w]
    rfl
  refine pure_ (i := 18) (N := some 91) (v := ?_) (a' := ?_) #[true, true, true, true, true, true, true, true, true, true, true, true, true, true, true, true, true, true, true, false] rfl rfl (by kernel_rfl) (fun _ _ _ h => h) (Or.inl ⟨by rfl, ?_⟩) ?_ ?_
  rotate_left
  · intro w'
    go_simp
    with_reducible rfl
  rotate_left
  · simp only [Act.put, List.setIfInBounds_toArray, List.set_cons_zero, List.set_cons_succ, i64_w, i32_w]
    rfl
  refine last_ (i := 19) (N := none) #[true, true, true, true, true, true, true, true, true, true, true, true, true, true, true, true, true, true, true, true] rfl rfl (by kernel_rfl) (by decide) (fun K hK => ?_)
  refine skip_ (w1 := ?_) (by rfl) rfl ?_ ?_
  rotate_left
  · go_simp
    rfl
  refine hK.out _ _ ?_
  clear hK K
  refine done_ (by kernel_rfl) ?_

  have HM9 := Aside0.mk (HM5.out.drew.left HZ.out)
  obtain ⟨w9, hw9⟩ : ∃ w9, w1.setCell ⟨rb, 2, none⟩ (.slice A1 (log.length + 1) k1) = w9 := ⟨_, rfl⟩
  rw [hw9] at HM9 ⊢
  clear hw9 hc1 hf1 HZ
  obtain ⟨r0, _⟩ := HM9.out.cells
  simp only at r0
  clear ca5 ca0 ca1 ca2 p0 p1 p2 p3 p4 f25 c25
  go_wp2
  go_ret2
  exact ⟨rfl, HM9.out.l⟩
set_option maxHeartbeats 8000000 in
theorem do4 (h : RefIs W base rb rw rm log V ws hs) (h4 : ws.length = 4) (hl : log.length ≤ 1000000) (th ix a b z : Int) (h0 : 0 ≤ ix) (h1 : ix < 4) (hz : rd ws ix = z)  :
    Calls Try.prog 14 #[.pointer (some ⟨rb, 0, none⟩), .agg #[.int .i64 4, .int .i64 th, .int .i64 ix, .int .i64 a, .int .i64 b]] W fun e w' => e = .returned (.tuple #[.int .i64 0, .bool false]) ∧ RLeft W w' base rb rw rm (log ++ [⟨th, 4, ix, z, a, true⟩]) V (ws.set ix.toNat a) hs := by
  have H4 := Aside0.mk h4
  have HLL := Aside0.mk hl
  have HIX := Aside0.mk (show ix < ws.length by omega)
  have d1 : decide (ix < 0) = false := decide_eq_false (by omega)
  have d2 : decide (4 ≤ ix) = false := decide_eq_false (by omega)
  clear h4 hl
  go_enter Try.func14, Try.ntmps14
  go_upto_region 1 with (fail)
  have HM := Aside0.mk (Mo.new h 4 th ix a b)
  obtain ⟨b8, hb8⟩ : ∃ k, W.heap.size = k := ⟨_, rfl⟩
  obtain ⟨WA, hWA⟩ : ∃ WA, W.alloc (.cells #[.int .i64 4, .int .i64 th, .int .i64 ix, .int .i64 a, .int .i64 b] 29) = WA := ⟨_, rfl⟩
  rw [hWA] at HM ⊢
  rw [hb8] at HM ⊢
  clear hWA hb8
  obtain ⟨q0, q1, q2, q3, q4⟩ := HM.out.cells
  simp only at q0 q1 q2 q3 q4
  obtain ⟨vl, cw, cm, hB⟩ := HM.out.l.is
  obtain ⟨c0, _, _, _⟩ := hB.cell
  rw [H4.out] at c0
  have hxr := hB.words
  obtain ⟨hx0, hx1⟩ := Kd.R_celln 0 hxr ix h0 HIX.out
  have cz : WA.cell? ⟨rw, ix.toNat, none⟩ = some (.int .i64 (rd ws ix)) := hx0
  have fz : WA.frozen? ⟨rw, ix.toNat, none⟩ = false := hx1
  rw [hz] at cz
  clear hx0 hx1 hxr hB hz
  go_wp2_with (fail)
  go_quiet (fail)
  go_wp2_with (fail)
  go_quiet (fail)
  go_wp2_with (fail)
  rename_i nq1 K aK
  go_region
  obtain ⟨w5, hw5⟩ : ∃ w5, (WA.drewN (nq1 + nq + 1)).setCell ⟨rw, ix.toNat, none⟩ (.int .i64 a) = w5 := ⟨_, rfl⟩
  have HM5' := (HM.out.drewN (nq1 + nq + 1)).row ix.toNat a
  rw [hw5] at HM5' ⊢
  clear hw5
  go_wp2_with (fail)
  have HM5 := Aside0.mk HM5'
  clear HM5' cz fz q0 q1 q2 q3 q4 c0 HM
  obtain ⟨p0, p1, p2, p3, p4⟩ := HM5.out.cells
  simp only at p0 p1 p2 p3 p4
  obtain ⟨vl5, cw5, cm5, hB5⟩ := HM5.out.l.is
  have HB5 := Aside0.mk hB5
  obtain ⟨_, _, c25, _⟩ := hB5.cell
  have HC25 := Aside0.mk c25
  have f25 := hB5.free 2
  have HF25 := Aside0.mk f25
  have hs5 := Aside0.mk (Nat.le_trans hB5.hg (Nat.le_of_lt hB5.lt))
  clear hB5
  have HBD := Aside0.mk (HB5.out.below (below_drew1 (Below.refl _ _)))
  have ca5 : ∀ o, (w5.drew.alloc o).cell? ⟨rb, 2, none⟩ = some vl5 := fun o => ((below_alloc (Below.refl w5.heap.size _) o).cell (p := ⟨rb, 2, none⟩) HB5.out.lt).trans HC25.out
  have ca0 : ∀ o, (w5.drew.alloc o).cell? ⟨b8, 0, none⟩ = some (.int .i64 4) := fun o => ((below_alloc (Below.refl w5.heap.size _) o).cell (p := ⟨b8, 0, none⟩) HM5.out.far.lt).trans p0
  have ca1 : ∀ o, (w5.drew.alloc o).cell? ⟨b8, 1, none⟩ = some (.int .i64 th) := fun o => ((below_alloc (Below.refl w5.heap.size _) o).cell (p := ⟨b8, 1, none⟩) HM5.out.far.lt).trans p1
  have ca2 : ∀ o, (w5.drew.alloc o).cell? ⟨b8, 2, none⟩ = some (.int .i64 ix) := fun o => ((below_alloc (Below.refl w5.heap.size _) o).cell (p := ⟨b8, 2, none⟩) HM5.out.far.lt).trans p2
  refine start_ (n := 20) (S := fun w' => w'.cell? ⟨rb, 2, none⟩ = some vl5 ∧ w'.cell? ⟨b8, 0, none⟩ = some (.int .i64 4) ∧ w'.cell? ⟨b8, 1, none⟩ = some (.int .i64 th) ∧ w'.cell? ⟨b8, 2, none⟩ = some (.int .i64 ix)) (ds := [16, 19]) #[false, false, false, false, false, false, false, false, false, false, false, false, false, false, false, false, false, false, false, false] (by kernel_rfl) rfl rfl ⟨HC25.out, p0, p1, p2⟩ (fun hHeld => ?_)
  refine pure_ (i := 0) (N := some 73) (v := ?_) (a' := ?_) #[true, false, false, false, false, false, false, false, false, false, false, false, false, false, false, false, false, false, false, false] rfl rfl (by kernel_rfl) (fun _ _ _ h => h) (Or.inl ⟨by rfl, ?_⟩) ?_ ?_
  rotate_left
  · intro w'
    go_simp
    with_reducible rfl
  rotate_left
  · simp only [Act.put, List.setIfInBounds_toArray, List.set_cons_zero, List.set_cons_succ, i64_w, i32_w]
    rfl
  refine pure_ (i := 1) (N := some 74) (v := ?_) (a' := ?_) #[true, true, false, false, false, false, false, false, false, false, false, false, false, false, false, false, false, false, false, false] rfl rfl (by kernel_rfl) (fun _ _ _ h => h) (Or.inl ⟨by rfl, ?_⟩) ?_ ?_
  rotate_left
  · intro w'
    go_simp
    with_reducible rfl
  rotate_left
  · simp only [Act.put, List.setIfInBounds_toArray, List.set_cons_zero, List.set_cons_succ, i64_w, i32_w]
    rfl
  refine pure_ (i := 2) (N := some 75) (v := ?_) (a' := ?_) #[true, true, true, false, false, false, false, false, false, false, false, false, false, false, false, false, false, false, false, false] rfl rfl (by kernel_rfl) (fun _ _ _ h => h) (Or.inl ⟨by rfl, ?_⟩) ?_ ?_
  rotate_left
  · intro w'
    go_simp
    with_reducible rfl
  rotate_left
  · simp only [Act.put, List.setIfInBounds_toArray, List.set_cons_zero, List.set_cons_succ, i64_w, i32_w]
    rfl
  refine pure_ (i := 3) (N := some 76) (v := ?_) (a' := ?_) #[true, true, true, true, false, false, false, false, false, false, false, false, false, false, false, false, false, false, false, false] rfl rfl (by kernel_rfl) (fun _ _ _ h => h) (Or.inl ⟨by rfl, ?_⟩) ?_ ?_
  rotate_left
  · intro w'
    go_simp
    with_reducible rfl
  rotate_left
  · simp only [Act.put, List.setIfInBounds_toArray, List.set_cons_zero, List.set_cons_succ, i64_w, i32_w]
    rfl
  refine pure_ (i := 5) (N := some 78) (v := ?_) (a' := ?_) #[true, true, true, true, false, true, false, false, false, false, false, false, false, false, false, false, false, false, false, false] rfl rfl (by kernel_rfl) (fun _ _ _ h => h) (Or.inl ⟨by rfl, ?_⟩) ?_ ?_
  rotate_left
  · intro w'
    go_simp
    with_reducible rfl
  rotate_left
  · simp only [Act.put, List.setIfInBounds_toArray, List.set_cons_zero, List.set_cons_succ, i64_w, i32_w]
    rfl
  refine pure_ (i := 7) (N := some 80) (v := ?_) (a' := ?_) #[true, true, true, true, false, true, false, true, false, false, false, false, false, false, false, false, false, false, false, false] rfl rfl (by kernel_rfl) (fun _ _ _ h => h) (Or.inl ⟨by rfl, ?_⟩) ?_ ?_
  rotate_left
  · intro w'
    go_simp
    with_reducible rfl
  rotate_left
  · simp only [Act.put, List.setIfInBounds_toArray, List.set_cons_zero, List.set_cons_succ, i64_w, i32_w]
    rfl
  refine pure_ (i := 9) (N := some 82) (v := ?_) (a' := ?_) #[true, true, true, true, false, true, false, true, false, true, false, false, false, false, false, false, false, false, false, false] rfl rfl (by kernel_rfl) (fun _ _ _ h => h) (Or.inl ⟨by rfl, ?_⟩) ?_ ?_
  rotate_left
  · intro w'
    go_simp
    with_reducible rfl
  rotate_left
  · simp only [Act.put, List.setIfInBounds_toArray, List.set_cons_zero, List.set_cons_succ, i64_w, i32_w]
    rfl
  refine pure_ (i := 11) (N := some 84) (v := ?_) (a' := ?_) #[true, true, true, true, false, true, false, true, false, true, false, true, false, false, false, false, false, false, false, false] rfl rfl (by kernel_rfl) (fun _ _ _ h => h) (Or.inl ⟨by rfl, ?_⟩) ?_ ?_
  rotate_left
  · intro w'
    go_simp
    with_reducible rfl
  rotate_left
  · simp only [Act.put, List.setIfInBounds_toArray, List.set_cons_zero, List.set_cons_succ, i64_w, i32_w]
    rfl
  refine pure_ (i := 12) (N := some 85) (v := ?_) (a' := ?_) #[true, true, true, true, false, true, false, true, false, true, false, true, true, false, false, false, false, false, false, false] rfl rfl (by kernel_rfl) (fun _ _ _ h => h) (Or.inl ⟨by rfl, ?_⟩) ?_ ?_
  rotate_left
  · intro w'
    go_simp
    with_reducible rfl
  rotate_left
  · simp only [Act.put, List.setIfInBounds_toArray, List.set_cons_zero, List.set_cons_succ, i64_w, i32_w]
    rfl
  refine pure_ (i := 13) (N := some 86) (v := ?_) (a' := ?_) #[true, true, true, true, false, true, false, true, false, true, false, true, true, true, false, false, false, false, false, false] rfl rfl (by kernel_rfl) (fun _ _ _ h => h) (Or.inl ⟨by rfl, ?_⟩) ?_ ?_
  rotate_left
  · intro w'
    go_simp
    with_reducible rfl
  rotate_left
  · simp only [Act.put, List.setIfInBounds_toArray, List.set_cons_zero, List.set_cons_succ, i64_w, i32_w]
    rfl
  refine take_ (i := 4) (N := some 77) (v := ?_) (a' := ?_) #[true, true, true, true, true, true, false, true, false, true, false, true, true, true, false, false, false, false, false, false] rfl rfl (by kernel_rfl) (fun _ _ _ h => h) (Or.inl ⟨by rfl, ?_⟩) hHeld ?_ ?_
  rotate_left
  · rintro w' ⟨s0, s1, s2, s3⟩
    go_simp
    with_reducible rfl
  rotate_left
  · simp only [Act.put, List.setIfInBounds_toArray, List.set_cons_zero, List.set_cons_succ, i64_w, i32_w]
    rfl
  refine take_ (i := 6) (N := some 79) (v := ?_) (a' := ?_) #[true, true, true, true, true, true, true, true, false, true, false, true, true, true, false, false, false, false, false, false] rfl rfl (by kernel_rfl) (fun _ _ _ h => h) (Or.inl ⟨by rfl, ?_⟩) hHeld ?_ ?_
  rotate_left
  · rintro w' ⟨s0, s1, s2, s3⟩
    go_simp
    with_reducible rfl
  rotate_left
  · simp only [Act.put, List.setIfInBounds_toArray, List.set_cons_zero, List.set_cons_succ, i64_w, i32_w]
    rfl
  refine take_ (i := 8) (N := some 81) (v := ?_) (a' := ?_) #[true, true, true, true, true, true, true, true, true, true, false, true, true, true, false, false, false, false, false, false] rfl rfl (by kernel_rfl) (fun _ _ _ h => h) (Or.inl ⟨by rfl, ?_⟩) hHeld ?_ ?_
  rotate_left
  · rintro w' ⟨s0, s1, s2, s3⟩
    go_simp
    with_reducible rfl
  rotate_left
  · simp only [Act.put, List.setIfInBounds_toArray, List.set_cons_zero, List.set_cons_succ, i64_w, i32_w]
    rfl
  refine take_ (i := 10) (N := some 83) (v := ?_) (a' := ?_) #[true, true, true, true, true, true, true, true, true, true, true, true, true, true, false, false, false, false, false, false] rfl rfl (by kernel_rfl) (fun _ _ _ h => h) (Or.inl ⟨by rfl, ?_⟩) hHeld ?_ ?_
  rotate_left
  · rintro w' ⟨s0, s1, s2, s3⟩
    go_simp
    with_reducible rfl
  rotate_left
  · simp only [Act.put, List.setIfInBounds_toArray, List.set_cons_zero, List.set_cons_succ, i64_w, i32_w]
    rfl
  refine pure_ (i := 14) (N := some 87) (v := ?_) (a' := ?_) #[true, true, true, true, true, true, true, true, true, true, true, true, true, true, true, false, false, false, false, false] rfl rfl (by kernel_rfl) (fun _ _ _ h => h) (Or.inl ⟨by rfl, ?_⟩) ?_ ?_
  rotate_left
  · intro w'
    go_simp
    with_reducible rfl
  rotate_left
  · simp only [Act.put, List.setIfInBounds_toArray, List.set_cons_zero, List.set_cons_succ, i64_w, i32_w]
    rfl
  refine one_ (i := 15) (N := some 88) #[true, true, true, true, true, true, true, true, true, true, true, true, true, true, true, true, false, false, false, false] rfl rfl (by kernel_rfl) (by decide) (fun K hK => ?_)
  refine value_ (w1 := ?_) (v := ?_) (by rfl) rfl ?_ ?_
  rotate_left 2
  · go_simp
    constructor
    · rfl
    · rfl
  refine hK.out _ _ ⟨ca5 _, ca0 _, ca1 _, ca2 _⟩ (fun hHeld => ?_)
  clear hK K
  refine norm_ (a' := ?_) ?_ ?_
  rotate_left
  · show Act.put _ (some 88) _ = _
    simp only [Act.put, List.setIfInBounds_toArray, List.set_cons_zero, List.set_cons_succ, i64_w, i32_w]
    rfl
  refine last_ (i := 16) (N := some 89) #[true, true, true, true, true, true, true, true, true, true, true, true, true, true, true, true, true, false, false, false] rfl rfl (by kernel_rfl) (by decide) (fun K hK => ?_)
  refine Kd.R_append_step kA (w0 := w5) base (by rfl) (.tmp 77) (.tmp 88) 38 47 (.agg #[.int .i64 0, .int .i64 0, .int .i64 0, .int .i64 0, .int .i64 0, .bool false]) 48 rfl Try.underlying38 infoAcc rfl (by decide) (by omega) vl5 log ⟨th, 4, ix, z, a, true⟩ [.int .i64 th, .int .i64 4, .int .i64 ix, .int .i64 z, .int .i64 a, .bool true] (fun _ => True) (fun _ => False) rfl rfl (kA_mkM _ _ _ _) (fun _ hk => hk.elim) (fun _ _ => trivial) HBD.out.lo (below_drew1 (Below.refl _ _)) hs5.out (by have := HLL.out; omega) ?_
  intro v1 w1 hv1 hb1 hg1 hat1
  obtain ⟨A1, k1, rfl⟩ := Kd.R_slice hv1
  obtain ⟨z1, z2, z3⟩ := HBD.out.pushLog hv1 hg1 hat1
  rw [List.length_append, List.length_cons, List.length_nil] at z1 z2 z3 ⊢
  have HZ := Aside0.mk (RLeft.mk ⟨_, _, _, z1⟩ z2 z3)
  obtain ⟨hc1, hf1⟩ := HBD.out.logStay2 hg1
  clear hv1 hb1 hg1 hat1 z1 z2 z3
  refine hK.out _ _ ?_
  clear hK K
  refine norm_ (a' := ?_) ?_ ?_
  rotate_left
  · show Act.put _ (some 89) _ = _
    simp only [Act.put, List.setIfInBounds_toArray, List.set_cons_zero, List.set_cons_succ, i64_w, i32_w]
    rfl
  refine pure_ (i := 17) (N := some 90) (v := ?_) (a' := ?_) #[true, true, true, true, true, true, true, true, true, true, true, true, true, true, true, true, true, true, false, false] rfl rfl (by kernel_rfl) (fun _ _ _ h => h) (Or.inl ⟨by rfl, ?_⟩) ?_ ?_
  rotate_left
  · intro w'
    go_simp
    with_reducible rfl
  rotate_left
  · simp only [Act.put, List.setIfInBounds_toArray, List.set_cons_zero, List.set_cons_succ, i64_w, i32_w]
    rfl
  refine pure_ (i := 18) (N := some 91) (v := ?_) (a' := ?_) #[true, true, true, true, true, true, true, true, true, true, true, true, true, true, true, true, true, true, true, false] rfl rfl (by kernel_rfl) (fun _ _ _ h => h) (Or.inl ⟨by rfl, ?_⟩) ?_ ?_
  rotate_left
  · intro w'
    go_simp
    with_reducible rfl
  rotate_left
  · simp only [Act.put, List.setIfInBounds_toArray, List.set_cons_zero, List.set_cons_succ, i64_w, i32_w]
    rfl
  refine last_ (i := 19) (N := none) #[true, true, true, true, true, true, true, true, true, true, true, true, true, true, true, true, true, true, true, true] rfl rfl (by kernel_rfl) (by decide) (fun K hK => ?_)
  refine skip_ (w1 := ?_) (by rfl) rfl ?_ ?_
  rotate_left
  · go_simp
    rfl
  refine hK.out _ _ ?_
  clear hK K
  refine done_ (by kernel_rfl) ?_

  have HM9 := Aside0.mk (HM5.out.drew.left HZ.out)
  obtain ⟨w9, hw9⟩ : ∃ w9, w1.setCell ⟨rb, 2, none⟩ (.slice A1 (log.length + 1) k1) = w9 := ⟨_, rfl⟩
  rw [hw9] at HM9 ⊢
  clear hw9 hc1 hf1 HZ
  obtain ⟨r0, _⟩ := HM9.out.cells
  simp only at r0
  clear ca5 ca0 ca1 ca2 p0 p1 p2 p3 p4 f25 c25
  go_wp2
  go_ret2
  exact ⟨rfl, HM9.out.l⟩
set_option maxHeartbeats 8000000 in
theorem do3_yes (h : RefIs W base rb rw rm log V ws hs) (h4 : ws.length = 4) (hl : log.length ≤ 1000000) (th ix a b z : Int) (h0 : 0 ≤ ix) (h1 : ix < 4) (hz : rd ws ix = z) (hv : z = a) :
    Calls Try.prog 14 #[.pointer (some ⟨rb, 0, none⟩), .agg #[.int .i64 3, .int .i64 th, .int .i64 ix, .int .i64 a, .int .i64 b]] W fun e w' => e = .returned (.tuple #[.int .i64 0, .bool true]) ∧ RLeft W w' base rb rw rm (log ++ [⟨th, 3, ix, z, b, true⟩]) V (ws.set ix.toNat b) hs := by
  have H4 := Aside0.mk h4
  have HLL := Aside0.mk hl
  have HIX := Aside0.mk (show ix < ws.length by omega)
  have d1 : decide (ix < 0) = false := decide_eq_false (by omega)
  have d2 : decide (4 ≤ ix) = false := decide_eq_false (by omega)
  have dv : (z == a) = true := beq_iff_eq.2 hv
  clear hv
  clear h4 hl
  go_enter Try.func14, Try.ntmps14
  go_upto_region 1 with (fail)
  have HM := Aside0.mk (Mo.new h 3 th ix a b)
  obtain ⟨b8, hb8⟩ : ∃ k, W.heap.size = k := ⟨_, rfl⟩
  obtain ⟨WA, hWA⟩ : ∃ WA, W.alloc (.cells #[.int .i64 3, .int .i64 th, .int .i64 ix, .int .i64 a, .int .i64 b] 29) = WA := ⟨_, rfl⟩
  rw [hWA] at HM ⊢
  rw [hb8] at HM ⊢
  clear hWA hb8
  obtain ⟨q0, q1, q2, q3, q4⟩ := HM.out.cells
  simp only at q0 q1 q2 q3 q4
  obtain ⟨vl, cw, cm, hB⟩ := HM.out.l.is
  obtain ⟨c0, _, _, _⟩ := hB.cell
  rw [H4.out] at c0
  have hxr := hB.words
  obtain ⟨hx0, hx1⟩ := Kd.R_celln 0 hxr ix h0 HIX.out
  have cz : WA.cell? ⟨rw, ix.toNat, none⟩ = some (.int .i64 (rd ws ix)) := hx0
  have fz : WA.frozen? ⟨rw, ix.toNat, none⟩ = false := hx1
  rw [hz] at cz
  clear hx0 hx1 hxr hB hz
  go_wp2_with (fail)
  go_quiet (fail)
  go_wp2_with (fail)
  go_quiet (fail)
  go_wp2_with (fail)
  rename_i nq1 K aK
  go_region
  obtain ⟨w5, hw5⟩ : ∃ w5, (WA.drewN (nq1 + nq + 1)).setCell ⟨rw, ix.toNat, none⟩ (.int .i64 b) = w5 := ⟨_, rfl⟩
  have HM5' := (HM.out.drewN (nq1 + nq + 1)).row ix.toNat b
  rw [hw5] at HM5' ⊢
  clear hw5
  go_wp2_with (fail)
  have HM5 := Aside0.mk HM5'
  clear HM5' cz fz q0 q1 q2 q3 q4 c0 HM
  obtain ⟨p0, p1, p2, p3, p4⟩ := HM5.out.cells
  simp only at p0 p1 p2 p3 p4
  obtain ⟨vl5, cw5, cm5, hB5⟩ := HM5.out.l.is
  have HB5 := Aside0.mk hB5
  obtain ⟨_, _, c25, _⟩ := hB5.cell
  have HC25 := Aside0.mk c25
  have f25 := hB5.free 2
  have HF25 := Aside0.mk f25
  have hs5 := Aside0.mk (Nat.le_trans hB5.hg (Nat.le_of_lt hB5.lt))
  clear hB5
  have HBD := Aside0.mk (HB5.out.below (below_drew1 (Below.refl _ _)))
  have ca5 : ∀ o, (w5.drew.alloc o).cell? ⟨rb, 2, none⟩ = some vl5 := fun o => ((below_alloc (Below.refl w5.heap.size _) o).cell (p := ⟨rb, 2, none⟩) HB5.out.lt).trans HC25.out
  have ca0 : ∀ o, (w5.drew.alloc o).cell? ⟨b8, 0, none⟩ = some (.int .i64 3) := fun o => ((below_alloc (Below.refl w5.heap.size _) o).cell (p := ⟨b8, 0, none⟩) HM5.out.far.lt).trans p0
  have ca1 : ∀ o, (w5.drew.alloc o).cell? ⟨b8, 1, none⟩ = some (.int .i64 th) := fun o => ((below_alloc (Below.refl w5.heap.size _) o).cell (p := ⟨b8, 1, none⟩) HM5.out.far.lt).trans p1
  have ca2 : ∀ o, (w5.drew.alloc o).cell? ⟨b8, 2, none⟩ = some (.int .i64 ix) := fun o => ((below_alloc (Below.refl w5.heap.size _) o).cell (p := ⟨b8, 2, none⟩) HM5.out.far.lt).trans p2
  refine start_ (n := 20) (S := fun w' => w'.cell? ⟨rb, 2, none⟩ = some vl5 ∧ w'.cell? ⟨b8, 0, none⟩ = some (.int .i64 3) ∧ w'.cell? ⟨b8, 1, none⟩ = some (.int .i64 th) ∧ w'.cell? ⟨b8, 2, none⟩ = some (.int .i64 ix)) (ds := [16, 19]) #[false, false, false, false, false, false, false, false, false, false, false, false, false, false, false, false, false, false, false, false] (by kernel_rfl) rfl rfl ⟨HC25.out, p0, p1, p2⟩ (fun hHeld => ?_)
  refine pure_ (i := 0) (N := some 73) (v := ?_) (a' := ?_) #[true, false, false, false, false, false, false, false, false, false, false, false, false, false, false, false, false, false, false, false] rfl rfl (by kernel_rfl) (fun _ _ _ h => h) (Or.inl ⟨by rfl, ?_⟩) ?_ ?_
  rotate_left
  · intro w'
    go_simp
    with_reducible rfl
  rotate_left
  · simp only [Act.put, List.setIfInBounds_toArray, List.set_cons_zero, List.set_cons_succ, i64_w, i32_w]
    rfl
  refine pure_ (i := 1) (N := some 74) (v := ?_) (a' := ?_) #[true, true, false, false, false, false, false, false, false, false, false, false, false, false, false, false, false, false, false, false] rfl rfl (by kernel_rfl) (fun _ _ _ h => h) (Or.inl ⟨by rfl, ?_⟩) ?_ ?_
  rotate_left
  · intro w'
    go_simp
    with_reducible rfl
  rotate_left
  · simp only [Act.put, List.setIfInBounds_toArray, List.set_cons_zero, List.set_cons_succ, i64_w, i32_w]
    rfl
  refine pure_ (i := 2) (N := some 75) (v := ?_) (a' := ?_) #[true, true, true, false, false, false, false, false, false, false, false, false, false, false, false, false, false, false, false, false] rfl rfl (by kernel_rfl) (fun _ _ _ h => h) (Or.inl ⟨by rfl, ?_⟩) ?_ ?_
  rotate_left
  · intro w'
    go_simp
    with_reducible rfl
  rotate_left
  · simp only [Act.put, List.setIfInBounds_toArray, List.set_cons_zero, List.set_cons_succ, i64_w, i32_w]
    rfl
  refine pure_ (i := 3) (N := some 76) (v := ?_) (a' := ?_) #[true, true, true, true, false, false, false, false, false, false, false, false, false, false, false, false, false, false, false, false] rfl rfl (by kernel_rfl) (fun _ _ _ h => h) (Or.inl ⟨by rfl, ?_⟩) ?_ ?_
  rotate_left
  · intro w'
    go_simp
    with_reducible rfl
  rotate_left
  · simp only [Act.put, List.setIfInBounds_toArray, List.set_cons_zero, List.set_cons_succ, i64_w, i32_w]
    rfl
  refine pure_ (i := 5) (N := some 78) (v := ?_) (a' := ?_) #[true, true, true, true, false, true, false, false, false, false, false, false, false, false, false, false, false, false, false, false] rfl rfl (by kernel_rfl) (fun _ _ _ h => h) (Or.inl ⟨by rfl, ?_⟩) ?_ ?_
  rotate_left
  · intro w'
    go_simp
    with_reducible rfl
  rotate_left
  · simp only [Act.put, List.setIfInBounds_toArray, List.set_cons_zero, List.set_cons_succ, i64_w, i32_w]
    rfl
  refine pure_ (i := 7) (N := some 80) (v := ?_) (a' := ?_) #[true, true, true, true, false, true, false, true, false, false, false, false, false, false, false, false, false, false, false, false] rfl rfl (by kernel_rfl) (fun _ _ _ h => h) (Or.inl ⟨by rfl, ?_⟩) ?_ ?_
  rotate_left
  · intro w'
    go_simp
    with_reducible rfl
  rotate_left
  · simp only [Act.put, List.setIfInBounds_toArray, List.set_cons_zero, List.set_cons_succ, i64_w, i32_w]
    rfl
  refine pure_ (i := 9) (N := some 82) (v := ?_) (a' := ?_) #[true, true, true, true, false, true, false, true, false, true, false, false, false, false, false, false, false, false, false, false] rfl rfl (by kernel_rfl) (fun _ _ _ h => h) (Or.inl ⟨by rfl, ?_⟩) ?_ ?_
  rotate_left
  · intro w'
    go_simp
    with_reducible rfl
  rotate_left
  · simp only [Act.put, List.setIfInBounds_toArray, List.set_cons_zero, List.set_cons_succ, i64_w, i32_w]
    rfl
  refine pure_ (i := 11) (N := some 84) (v := ?_) (a' := ?_) #[true, true, true, true, false, true, false, true, false, true, false, true, false, false, false, false, false, false, false, false] rfl rfl (by kernel_rfl) (fun _ _ _ h => h) (Or.inl ⟨by rfl, ?_⟩) ?_ ?_
  rotate_left
  · intro w'
    go_simp
    with_reducible rfl
  rotate_left
  · simp only [Act.put, List.setIfInBounds_toArray, List.set_cons_zero, List.set_cons_succ, i64_w, i32_w]
    rfl
  refine pure_ (i := 12) (N := some 85) (v := ?_) (a' := ?_) #[true, true, true, true, false, true, false, true, false, true, false, true, true, false, false, false, false, false, false, false] rfl rfl (by kernel_rfl) (fun _ _ _ h => h) (Or.inl ⟨by rfl, ?_⟩) ?_ ?_
  rotate_left
  · intro w'
    go_simp
    with_reducible rfl
  rotate_left
  · simp only [Act.put, List.setIfInBounds_toArray, List.set_cons_zero, List.set_cons_succ, i64_w, i32_w]
    rfl
  refine pure_ (i := 13) (N := some 86) (v := ?_) (a' := ?_) #[true, true, true, true, false, true, false, true, false, true, false, true, true, true, false, false, false, false, false, false] rfl rfl (by kernel_rfl) (fun _ _ _ h => h) (Or.inl ⟨by rfl, ?_⟩) ?_ ?_
  rotate_left
  · intro w'
    go_simp
    with_reducible rfl
  rotate_left
  · simp only [Act.put, List.setIfInBounds_toArray, List.set_cons_zero, List.set_cons_succ, i64_w, i32_w]
    rfl
  refine take_ (i := 4) (N := some 77) (v := ?_) (a' := ?_) #[true, true, true, true, true, true, false, true, false, true, false, true, true, true, false, false, false, false, false, false] rfl rfl (by kernel_rfl) (fun _ _ _ h => h) (Or.inl ⟨by rfl, ?_⟩) hHeld ?_ ?_
  rotate_left
  · rintro w' ⟨s0, s1, s2, s3⟩
    go_simp
    with_reducible rfl
  rotate_left
  · simp only [Act.put, List.setIfInBounds_toArray, List.set_cons_zero, List.set_cons_succ, i64_w, i32_w]
    rfl
  refine take_ (i := 6) (N := some 79) (v := ?_) (a' := ?_) #[true, true, true, true, true, true, true, true, false, true, false, true, true, true, false, false, false, false, false, false] rfl rfl (by kernel_rfl) (fun _ _ _ h => h) (Or.inl ⟨by rfl, ?_⟩) hHeld ?_ ?_
  rotate_left
  · rintro w' ⟨s0, s1, s2, s3⟩
    go_simp
    with_reducible rfl
  rotate_left
  · simp only [Act.put, List.setIfInBounds_toArray, List.set_cons_zero, List.set_cons_succ, i64_w, i32_w]
    rfl
  refine take_ (i := 8) (N := some 81) (v := ?_) (a' := ?_) #[true, true, true, true, true, true, true, true, true, true, false, true, true, true, false, false, false, false, false, false] rfl rfl (by kernel_rfl) (fun _ _ _ h => h) (Or.inl ⟨by rfl, ?_⟩) hHeld ?_ ?_
  rotate_left
  · rintro w' ⟨s0, s1, s2, s3⟩
    go_simp
    with_reducible rfl
  rotate_left
  · simp only [Act.put, List.setIfInBounds_toArray, List.set_cons_zero, List.set_cons_succ, i64_w, i32_w]
    rfl
  refine take_ (i := 10) (N := some 83) (v := ?_) (a' := ?_) #[true, true, true, true, true, true, true, true, true, true, true, true, true, true, false, false, false, false, false, false] rfl rfl (by kernel_rfl) (fun _ _ _ h => h) (Or.inl ⟨by rfl, ?_⟩) hHeld ?_ ?_
  rotate_left
  · rintro w' ⟨s0, s1, s2, s3⟩
    go_simp
    with_reducible rfl
  rotate_left
  · simp only [Act.put, List.setIfInBounds_toArray, List.set_cons_zero, List.set_cons_succ, i64_w, i32_w]
    rfl
  refine pure_ (i := 14) (N := some 87) (v := ?_) (a' := ?_) #[true, true, true, true, true, true, true, true, true, true, true, true, true, true, true, false, false, false, false, false] rfl rfl (by kernel_rfl) (fun _ _ _ h => h) (Or.inl ⟨by rfl, ?_⟩) ?_ ?_
  rotate_left
  · intro w'
    go_simp
    with_reducible rfl
  rotate_left
  · simp only [Act.put, List.setIfInBounds_toArray, List.set_cons_zero, List.set_cons_succ, i64_w, i32_w]
    rfl
  refine one_ (i := 15) (N := some 88) #[true, true, true, true, true, true, true, true, true, true, true, true, true, true, true, true, false, false, false, false] rfl rfl (by kernel_rfl) (by decide) (fun K hK => ?_)
  refine value_ (w1 := ?_) (v := ?_) (by rfl) rfl ?_ ?_
  rotate_left 2
  · go_simp
    constructor
    · rfl
    · rfl
  refine hK.out _ _ ⟨ca5 _, ca0 _, ca1 _, ca2 _⟩ (fun hHeld => ?_)
  clear hK K
  refine norm_ (a' := ?_) ?_ ?_
  rotate_left
  · show Act.put _ (some 88) _ = _
    simp only [Act.put, List.setIfInBounds_toArray, List.set_cons_zero, List.set_cons_succ, i64_w, i32_w]
    rfl
  refine last_ (i := 16) (N := some 89) #[true, true, true, true, true, true, true, true, true, true, true, true, true, true, true, true, true, false, false, false] rfl rfl (by kernel_rfl) (by decide) (fun K hK => ?_)
  refine Kd.R_append_step kA (w0 := w5) base (by rfl) (.tmp 77) (.tmp 88) 38 47 (.agg #[.int .i64 0, .int .i64 0, .int .i64 0, .int .i64 0, .int .i64 0, .bool false]) 48 rfl Try.underlying38 infoAcc rfl (by decide) (by omega) vl5 log ⟨th, 3, ix, z, b, true⟩ [.int .i64 th, .int .i64 3, .int .i64 ix, .int .i64 z, .int .i64 b, .bool true] (fun _ => True) (fun _ => False) rfl rfl (kA_mkM _ _ _ _) (fun _ hk => hk.elim) (fun _ _ => trivial) HBD.out.lo (below_drew1 (Below.refl _ _)) hs5.out (by have := HLL.out; omega) ?_
  intro v1 w1 hv1 hb1 hg1 hat1
  obtain ⟨A1, k1, rfl⟩ := Kd.R_slice hv1
  obtain ⟨z1, z2, z3⟩ := HBD.out.pushLog hv1 hg1 hat1
  rw [List.length_append, List.length_cons, List.length_nil] at z1 z2 z3 ⊢
  have HZ := Aside0.mk (RLeft.mk ⟨_, _, _, z1⟩ z2 z3)
  obtain ⟨hc1, hf1⟩ := HBD.out.logStay2 hg1
  clear hv1 hb1 hg1 hat1 z1 z2 z3
  refine hK.out _ _ ?_
  clear hK K
  refine norm_ (a' := ?_) ?_ ?_
  rotate_left
  · show Act.put _ (some 89) _ = _
    simp only [Act.put, List.setIfInBounds_toArray, List.set_cons_zero, List.set_cons_succ, i64_w, i32_w]
    rfl
  refine pure_ (i := 17) (N := some 90) (v := ?_) (a' := ?_) #[true, true, true, true, true, true, true, true, true, true, true, true, true, true, true, true, true, true, false, false] rfl rfl (by kernel_rfl) (fun _ _ _ h => h) (Or.inl ⟨by rfl, ?_⟩) ?_ ?_
  rotate_left
  · intro w'
    go_simp
    with_reducible rfl
  rotate_left
  · simp only [Act.put, List.setIfInBounds_toArray, List.set_cons_zero, List.set_cons_succ, i64_w, i32_w]
    rfl
  refine pure_ (i := 18) (N := some 91) (v := ?_) (a' := ?_) #[true, true, true, true, true, true, true, true, true, true, true, true, true, true, true, true, true, true, true, false] rfl rfl (by kernel_rfl) (fun _ _ _ h => h) (Or.inl ⟨by rfl, ?_⟩) ?_ ?_
  rotate_left
  · intro w'
    go_simp
    with_reducible rfl
  rotate_left
  · simp only [Act.put, List.setIfInBounds_toArray, List.set_cons_zero, List.set_cons_succ, i64_w, i32_w]
    rfl
  refine last_ (i := 19) (N := none) #[true, true, true, true, true, true, true, true, true, true, true, true, true, true, true, true, true, true, true, true] rfl rfl (by kernel_rfl) (by decide) (fun K hK => ?_)
  refine skip_ (w1 := ?_) (by rfl) rfl ?_ ?_
  rotate_left
  · go_simp
    rfl
  refine hK.out _ _ ?_
  clear hK K
  refine done_ (by kernel_rfl) ?_

  have HM9 := Aside0.mk (HM5.out.drew.left HZ.out)
  obtain ⟨w9, hw9⟩ : ∃ w9, w1.setCell ⟨rb, 2, none⟩ (.slice A1 (log.length + 1) k1) = w9 := ⟨_, rfl⟩
  rw [hw9] at HM9 ⊢
  clear hw9 hc1 hf1 HZ
  obtain ⟨r0, _⟩ := HM9.out.cells
  simp only at r0
  clear ca5 ca0 ca1 ca2 p0 p1 p2 p3 p4 f25 c25
  go_wp2
  go_ret2
  exact ⟨rfl, HM9.out.l⟩
set_option maxHeartbeats 8000000 in
theorem do3_no (h : RefIs W base rb rw rm log V ws hs) (h4 : ws.length = 4) (hl : log.length ≤ 1000000) (th ix a b z : Int) (h0 : 0 ≤ ix) (h1 : ix < 4) (hz : rd ws ix = z) (hv : z ≠ a) :
    Calls Try.prog 14 #[.pointer (some ⟨rb, 0, none⟩), .agg #[.int .i64 3, .int .i64 th, .int .i64 ix, .int .i64 a, .int .i64 b]] W fun e w' => e = .returned (.tuple #[.int .i64 0, .bool false]) ∧ RLeft W w' base rb rw rm (log ++ [⟨th, 3, ix, z, z, false⟩]) V (ws.set ix.toNat z) hs := by
  have H4 := Aside0.mk h4
  have HLL := Aside0.mk hl
  have HIX := Aside0.mk (show ix < ws.length by omega)
  have d1 : decide (ix < 0) = false := decide_eq_false (by omega)
  have d2 : decide (4 ≤ ix) = false := decide_eq_false (by omega)
  have dv : (z == a) = false := beq_eq_false_iff_ne.2 hv
  clear hv
  clear h4 hl
  go_enter Try.func14, Try.ntmps14
  go_upto_region 1 with (fail)
  have HM := Aside0.mk (Mo.new h 3 th ix a b)
  obtain ⟨b8, hb8⟩ : ∃ k, W.heap.size = k := ⟨_, rfl⟩
  obtain ⟨WA, hWA⟩ : ∃ WA, W.alloc (.cells #[.int .i64 3, .int .i64 th, .int .i64 ix, .int .i64 a, .int .i64 b] 29) = WA := ⟨_, rfl⟩
  rw [hWA] at HM ⊢
  rw [hb8] at HM ⊢
  clear hWA hb8
  obtain ⟨q0, q1, q2, q3, q4⟩ := HM.out.cells
  simp only at q0 q1 q2 q3 q4
  obtain ⟨vl, cw, cm, hB⟩ := HM.out.l.is
  obtain ⟨c0, _, _, _⟩ := hB.cell
  rw [H4.out] at c0
  have hxr := hB.words
  obtain ⟨hx0, hx1⟩ := Kd.R_celln 0 hxr ix h0 HIX.out
  have cz : WA.cell? ⟨rw, ix.toNat, none⟩ = some (.int .i64 (rd ws ix)) := hx0
  have fz : WA.frozen? ⟨rw, ix.toNat, none⟩ = false := hx1
  rw [hz] at cz
  clear hx0 hx1 hxr hB hz
  go_wp2_with (fail)
  go_quiet (fail)
  go_wp2_with (fail)
  go_quiet (fail)
  go_wp2_with (fail)
  rename_i nq1 K aK
  go_region
  obtain ⟨w5, hw5⟩ : ∃ w5, (WA.drewN (nq1 + nq + 1)).setCell ⟨rw, ix.toNat, none⟩ (.int .i64 z) = w5 := ⟨_, rfl⟩
  have HM5' := (HM.out.drewN (nq1 + nq + 1)).row ix.toNat z
  rw [hw5] at HM5' ⊢
  clear hw5
  go_wp2_with (fail)
  have HM5 := Aside0.mk HM5'
  clear HM5' cz fz q0 q1 q2 q3 q4 c0 HM
  obtain ⟨p0, p1, p2, p3, p4⟩ := HM5.out.cells
  simp only at p0 p1 p2 p3 p4
  obtain ⟨vl5, cw5, cm5, hB5⟩ := HM5.out.l.is
  have HB5 := Aside0.mk hB5
  obtain ⟨_, _, c25, _⟩ := hB5.cell
  have HC25 := Aside0.mk c25
  have f25 := hB5.free 2
  have HF25 := Aside0.mk f25
  have hs5 := Aside0.mk (Nat.le_trans hB5.hg (Nat.le_of_lt hB5.lt))
  clear hB5
  have HBD := Aside0.mk (HB5.out.below (below_drew1 (Below.refl _ _)))
  have ca5 : ∀ o, (w5.drew.alloc o).cell? ⟨rb, 2, none⟩ = some vl5 := fun o => ((below_alloc (Below.refl w5.heap.size _) o).cell (p := ⟨rb, 2, none⟩) HB5.out.lt).trans HC25.out
  have ca0 : ∀ o, (w5.drew.alloc o).cell? ⟨b8, 0, none⟩ = some (.int .i64 3) := fun o => ((below_alloc (Below.refl w5.heap.size _) o).cell (p := ⟨b8, 0, none⟩) HM5.out.far.lt).trans p0
  have ca1 : ∀ o, (w5.drew.alloc o).cell? ⟨b8, 1, none⟩ = some (.int .i64 th) := fun o => ((below_alloc (Below.refl w5.heap.size _) o).cell (p := ⟨b8, 1, none⟩) HM5.out.far.lt).trans p1
  have ca2 : ∀ o, (w5.drew.alloc o).cell? ⟨b8, 2, none⟩ = some (.int .i64 ix) := fun o => ((below_alloc (Below.refl w5.heap.size _) o).cell (p := ⟨b8, 2, none⟩) HM5.out.far.lt).trans p2
  refine start_ (n := 20) (S := fun w' => w'.cell? ⟨rb, 2, none⟩ = some vl5 ∧ w'.cell? ⟨b8, 0, none⟩ = some (.int .i64 3) ∧ w'.cell? ⟨b8, 1, none⟩ = some (.int .i64 th) ∧ w'.cell? ⟨b8, 2, none⟩ = some (.int .i64 ix)) (ds := [16, 19]) #[false, false, false, false, false, false, false, false, false, false, false, false, false, false, false, false, false, false, false, false] (by kernel_rfl) rfl rfl ⟨HC25.out, p0, p1, p2⟩ (fun hHeld => ?_)
  refine pure_ (i := 0) (N := some 73) (v := ?_) (a' := ?_) #[true, false, false, false, false, false, false, false, false, false, false, false, false, false, false, false, false, false, false, false] rfl rfl (by kernel_rfl) (fun _ _ _ h => h) (Or.inl ⟨by rfl, ?_⟩) ?_ ?_
  rotate_left
  · intro w'
    go_simp
    with_reducible rfl
  rotate_left
  · simp only [Act.put, List.setIfInBounds_toArray, List.set_cons_zero, List.set_cons_succ, i64_w, i32_w]
    rfl
  refine pure_ (i := 1) (N := some 74) (v := ?_) (a' := ?_) #[true, true, false, false, false, false, false, false, false, false, false, false, false, false, false, false, false, false, false, false] rfl rfl (by kernel_rfl) (fun _ _ _ h => h) (Or.inl ⟨by rfl, ?_⟩) ?_ ?_
  rotate_left
  · intro w'
    go_simp
    with_reducible rfl
  rotate_left
  · simp only [Act.put, List.setIfInBounds_toArray, List.set_cons_zero, List.set_cons_succ, i64_w, i32_w]
    rfl
  refine pure_ (i := 2) (N := some 75) (v := ?_) (a' := ?_) #[true, true, true, false, false, false, false, false, false, false, false, false, false, false, false, false, false, false, false, false] rfl rfl (by kernel_rfl) (fun _ _ _ h => h) (Or.inl ⟨by rfl, ?_⟩) ?_ ?_
  rotate_left
  · intro w'
    go_simp
    with_reducible rfl
  rotate_left
  · simp only [Act.put, List.setIfInBounds_toArray, List.set_cons_zero, List.set_cons_succ, i64_w, i32_w]
    rfl
  refine pure_ (i := 3) (N := some 76) (v := ?_) (a' := ?_) #[true, true, true, true, false, false, false, false, false, false, false, false, false, false, false, false, false, false, false, false] rfl rfl (by kernel_rfl) (fun _ _ _ h => h) (Or.inl ⟨by rfl, ?_⟩) ?_ ?_
  rotate_left
  · intro w'
    go_simp
    with_reducible rfl
  rotate_left
  · simp only [Act.put, List.setIfInBounds_toArray, List.set_cons_zero, List.set_cons_succ, i64_w, i32_w]
    rfl
  refine pure_ (i := 5) (N := some 78) (v := ?_) (a' := ?_) #[true, true, true, true, false, true, false, false, false, false, false, false, false, false, false, false, false, false, false, false] rfl rfl (by kernel_rfl) (fun _ _ _ h => h) (Or.inl ⟨by rfl, ?_⟩) ?_ ?_
  rotate_left
  · intro w'
    go_simp
    with_reducible rfl
  rotate_left
  · simp only [Act.put, List.setIfInBounds_toArray, List.set_cons_zero, List.set_cons_succ, i64_w, i32_w]
    rfl
  refine pure_ (i := 7) (N := some 80) (v := ?_) (a' := ?_) #[true, true, true, true, false, true, false, true, false, false, false, false, false, false, false, false, false, false, false, false] rfl rfl (by kernel_rfl) (fun _ _ _ h => h) (Or.inl ⟨by rfl, ?_⟩) ?_ ?_
  rotate_left
  · intro w'
    go_simp
    with_reducible rfl
  rotate_left
  · simp only [Act.put, List.setIfInBounds_toArray, List.set_cons_zero, List.set_cons_succ, i64_w, i32_w]
    rfl
  refine pure_ (i := 9) (N := some 82) (v := ?_) (a' := ?_) #[true, true, true, true, false, true, false, true, false, true, false, false, false, false, false, false, false, false, false, false] rfl rfl (by kernel_rfl) (fun _ _ _ h => h) (Or.inl ⟨by rfl, ?_⟩) ?_ ?_
  rotate_left
  · intro w'
    go_simp
    with_reducible rfl
  rotate_left
  · simp only [Act.put, List.setIfInBounds_toArray, List.set_cons_zero, List.set_cons_succ, i64_w, i32_w]
    rfl
  refine pure_ (i := 11) (N := some 84) (v := ?_) (a' := ?_) #[true, true, true, true, false, true, false, true, false, true, false, true, false, false, false, false, false, false, false, false] rfl rfl (by kernel_rfl) (fun _ _ _ h => h) (Or.inl ⟨by rfl, ?_⟩) ?_ ?_
  rotate_left
  · intro w'
    go_simp
    with_reducible rfl
  rotate_left
  · simp only [Act.put, List.setIfInBounds_toArray, List.set_cons_zero, List.set_cons_succ, i64_w, i32_w]
    rfl
  refine pure_ (i := 12) (N := some 85) (v := ?_) (a' := ?_) #[true, true, true, true, false, true, false, true, false, true, false, true, true, false, false, false, false, false, false, false] rfl rfl (by kernel_rfl) (fun _ _ _ h => h) (Or.inl ⟨by rfl, ?_⟩) ?_ ?_
  rotate_left
  · intro w'
    go_simp
    with_reducible rfl
  rotate_left
  · simp only [Act.put, List.setIfInBounds_toArray, List.set_cons_zero, List.set_cons_succ, i64_w, i32_w]
    rfl
  refine pure_ (i := 13) (N := some 86) (v := ?_) (a' := ?_) #[true, true, true, true, false, true, false, true, false, true, false, true, true, true, false, false, false, false, false, false] rfl rfl (by kernel_rfl) (fun _ _ _ h => h) (Or.inl ⟨by rfl, ?_⟩) ?_ ?_
  rotate_left
  · intro w'
    go_simp
    with_reducible rfl
  rotate_left
  · simp only [Act.put, List.setIfInBounds_toArray, List.set_cons_zero, List.set_cons_succ, i64_w, i32_w]
    rfl
  refine take_ (i := 4) (N := some 77) (v := ?_) (a' := ?_) #[true, true, true, true, true, true, false, true, false, true, false, true, true, true, false, false, false, false, false, false] rfl rfl (by kernel_rfl) (fun _ _ _ h => h) (Or.inl ⟨by rfl, ?_⟩) hHeld ?_ ?_
  rotate_left
  · rintro w' ⟨s0, s1, s2, s3⟩
    go_simp
    with_reducible rfl
  rotate_left
  · simp only [Act.put, List.setIfInBounds_toArray, List.set_cons_zero, List.set_cons_succ, i64_w, i32_w]
    rfl
  refine take_ (i := 6) (N := some 79) (v := ?_) (a' := ?_) #[true, true, true, true, true, true, true, true, false, true, false, true, true, true, false, false, false, false, false, false] rfl rfl (by kernel_rfl) (fun _ _ _ h => h) (Or.inl ⟨by rfl, ?_⟩) hHeld ?_ ?_
  rotate_left
  · rintro w' ⟨s0, s1, s2, s3⟩
    go_simp
    with_reducible rfl
  rotate_left
  · simp only [Act.put, List.setIfInBounds_toArray, List.set_cons_zero, List.set_cons_succ, i64_w, i32_w]
    rfl
  refine take_ (i := 8) (N := some 81) (v := ?_) (a' := ?_) #[true, true, true, true, true, true, true, true, true, true, false, true, true, true, false, false, false, false, false, false] rfl rfl (by kernel_rfl) (fun _ _ _ h => h) (Or.inl ⟨by rfl, ?_⟩) hHeld ?_ ?_
  rotate_left
  · rintro w' ⟨s0, s1, s2, s3⟩
    go_simp
    with_reducible rfl
  rotate_left
  · simp only [Act.put, List.setIfInBounds_toArray, List.set_cons_zero, List.set_cons_succ, i64_w, i32_w]
    rfl
  refine take_ (i := 10) (N := some 83) (v := ?_) (a' := ?_) #[true, true, true, true, true, true, true, true, true, true, true, true, true, true, false, false, false, false, false, false] rfl rfl (by kernel_rfl) (fun _ _ _ h => h) (Or.inl ⟨by rfl, ?_⟩) hHeld ?_ ?_
  rotate_left
  · rintro w' ⟨s0, s1, s2, s3⟩
    go_simp
    with_reducible rfl
  rotate_left
  · simp only [Act.put, List.setIfInBounds_toArray, List.set_cons_zero, List.set_cons_succ, i64_w, i32_w]
    rfl
  refine pure_ (i := 14) (N := some 87) (v := ?_) (a' := ?_) #[true, true, true, true, true, true, true, true, true, true, true, true, true, true, true, false, false, false, false, false] rfl rfl (by kernel_rfl) (fun _ _ _ h => h) (Or.inl ⟨by rfl, ?_⟩) ?_ ?_
  rotate_left
  · intro w'
    go_simp
    with_reducible rfl
  rotate_left
  · simp only [Act.put, List.setIfInBounds_toArray, List.set_cons_zero, List.set_cons_succ, i64_w, i32_w]
    rfl
  refine one_ (i := 15) (N := some 88) #[true, true, true, true, true, true, true, true, true, true, true, true, true, true, true, true, false, false, false, false] rfl rfl (by kernel_rfl) (by decide) (fun K hK => ?_)
  refine value_ (w1 := ?_) (v := ?_) (by rfl) rfl ?_ ?_
  rotate_left 2
  · go_simp
    constructor
    · rfl
    · rfl
  refine hK.out _ _ ⟨ca5 _, ca0 _, ca1 _, ca2 _⟩ (fun hHeld => ?_)
  clear hK K
  refine norm_ (a' := ?_) ?_ ?_
  rotate_left
  · show Act.put _ (some 88) _ = _
    simp only [Act.put, List.setIfInBounds_toArray, List.set_cons_zero, List.set_cons_succ, i64_w, i32_w]
    rfl
  refine last_ (i := 16) (N := some 89) #[true, true, true, true, true, true, true, true, true, true, true, true, true, true, true, true, true, false, false, false] rfl rfl (by kernel_rfl) (by decide) (fun K hK => ?_)
  refine Kd.R_append_step kA (w0 := w5) base (by rfl) (.tmp 77) (.tmp 88) 38 47 (.agg #[.int .i64 0, .int .i64 0, .int .i64 0, .int .i64 0, .int .i64 0, .bool false]) 48 rfl Try.underlying38 infoAcc rfl (by decide) (by omega) vl5 log ⟨th, 3, ix, z, z, false⟩ [.int .i64 th, .int .i64 3, .int .i64 ix, .int .i64 z, .int .i64 z, .bool false] (fun _ => True) (fun _ => False) rfl rfl (kA_mkM _ _ _ _) (fun _ hk => hk.elim) (fun _ _ => trivial) HBD.out.lo (below_drew1 (Below.refl _ _)) hs5.out (by have := HLL.out; omega) ?_
  intro v1 w1 hv1 hb1 hg1 hat1
  obtain ⟨A1, k1, rfl⟩ := Kd.R_slice hv1
  obtain ⟨z1, z2, z3⟩ := HBD.out.pushLog hv1 hg1 hat1
  rw [List.length_append, List.length_cons, List.length_nil] at z1 z2 z3 ⊢
  have HZ := Aside0.mk (RLeft.mk ⟨_, _, _, z1⟩ z2 z3)
  obtain ⟨hc1, hf1⟩ := HBD.out.logStay2 hg1
  clear hv1 hb1 hg1 hat1 z1 z2 z3
  refine hK.out _ _ ?_
  clear hK K
  refine norm_ (a' := ?_) ?_ ?_
  rotate_left
  · show Act.put _ (some 89) _ = _
    simp only [Act.put, List.setIfInBounds_toArray, List.set_cons_zero, List.set_cons_succ, i64_w, i32_w]
    rfl
  refine pure_ (i := 17) (N := some 90) (v := ?_) (a' := ?_) #[true, true, true, true, true, true, true, true, true, true, true, true, true, true, true, true, true, true, false, false] rfl rfl (by kernel_rfl) (fun _ _ _ h => h) (Or.inl ⟨by rfl, ?_⟩) ?_ ?_
  rotate_left
  · intro w'
    go_simp
    with_reducible rfl
  rotate_left
  · simp only [Act.put, List.setIfInBounds_toArray, List.set_cons_zero, List.set_cons_succ, i64_w, i32_w]
    rfl
  refine pure_ (i := 18) (N := some 91) (v := ?_) (a' := ?_) #[true, true, true, true, true, true, true, true, true, true, true, true, true, true, true, true, true, true, true, false] rfl rfl (by kernel_rfl) (fun _ _ _ h => h) (Or.inl ⟨by rfl, ?_⟩) ?_ ?_
  rotate_left
  · intro w'
    go_simp
    with_reducible rfl
  rotate_left
  · simp only [Act.put, List.setIfInBounds_toArray, List.set_cons_zero, List.set_cons_succ, i64_w, i32_w]
    rfl
  refine last_ (i := 19) (N := none) #[true, true, true, true, true, true, true, true, true, true, true, true, true, true, true, true, true, true, true, true] rfl rfl (by kernel_rfl) (by decide) (fun K hK => ?_)
  refine skip_ (w1 := ?_) (by rfl) rfl ?_ ?_
  rotate_left
  · go_simp
    rfl
  refine hK.out _ _ ?_
  clear hK K
  refine done_ (by kernel_rfl) ?_

  have HM9 := Aside0.mk (HM5.out.drew.left HZ.out)
  obtain ⟨w9, hw9⟩ : ∃ w9, w1.setCell ⟨rb, 2, none⟩ (.slice A1 (log.length + 1) k1) = w9 := ⟨_, rfl⟩
  rw [hw9] at HM9 ⊢
  clear hw9 hc1 hf1 HZ
  obtain ⟨r0, _⟩ := HM9.out.cells
  simp only at r0
  clear ca5 ca0 ca1 ca2 p0 p1 p2 p3 p4 f25 c25
  go_wp2
  go_ret2
  exact ⟨rfl, HM9.out.l⟩
end
end Go.Proofs.Ytfkoehokjpcogaa.Hand
