/- shmem: New and Log; the log at most 1000000. -/
import Derived.Test.YtjheocofbfmopaaMemC
namespace Go.Proofs.Ytjheocofbfmopaa.Hand
open Go.RowKit Go.Proofs.YtjheocofbfmopaaW.PrintWords Go.Proofs.YtjheocofbfmopaaW.PrintLast Go.Proofs.YtjheocofbfmopaaW.PrintMore
set_option linter.unusedVariables false
attribute [local go_sem] max2_int min2_int max_two min_two max_three min_three max_four min_four

theorem push_get {A : Array Obj} {o : Obj} {n : Nat} (h : n = A.size) : (A.push o)[n]? = some o := by subst h; simp
theorem kA_now {W W' : World} {x : Acc} {cs : List Value} (h : kA.K W x cs) : kA.K W' x cs := by
  rw [kA_open h]
  exact kA_mk _ _
section
variable {W : World} {base g gw gm : Nat} {s : St}
end

theorem make_run {α : Type} (d : Kd α) (t e : TypeId) (z : Value) (bytes : Nat) (z0 : α) (ht : Try.prog.underlying t = some (.slice e)) (hinfo : (Try.prog.info? e).map (fun i => (i.zero, i.size, i.bytes)) = some (some z, d.sz, bytes)) (hz : z.cells.size = d.sz) (hs0 : 0 < d.sz) (hb0 : 0 < bytes)
    (hzero : ∀ W base, d.M W base (fun _ => False) z0 z.cells.toList) (n : Nat) (hl : n * bytes ≤ 281474976710656) : ∃ C : Array Value,
      (∀ w, (Instr.makeSlice t (.int .i64 n) (.int .i64 n)).run Try.prog w = .ok (.slice (some ⟨w.heap.size, 0, none⟩) n n) (w.alloc (.cells C e))) ∧
      ∀ (w : World) base, base ≤ w.heap.size → d.R e (w.alloc (.cells C e)) base (fun _ => True) (.slice (some ⟨w.heap.size, 0, none⟩) n n) (List.replicate n z0) := by
  obtain ⟨i0, hi, hzz⟩ := Option.map_eq_some_iff.1 hinfo
  simp only [Prod.mk.injEq] at hzz
  obtain ⟨hz0, hz1, hz2⟩ := hzz
  have hm : n ≤ 281474976710656 := Nat.le_trans (Nat.le_mul_of_pos_right _ hb0) hl
  refine ⟨madeCells z.cells (n * d.sz), fun w => ?_, fun w base hb => ?_⟩
  · have hr := run_make (P := Try.prog) w t e i0 z ht hi hz0 .i64 .i64 (n : Int) (n : Int) (by omega) (by omega)
      (by
        have h3 : ((i0.bytes * n : Nat) : Int) ≤ 281474976710656 := by rw [hz2, Nat.mul_comm]; omega
        rwa [Int.natCast_mul] at h3) (by omega)
    simp only [Int.toNat_natCast] at hr
    rw [hz1] at hr
    exact hr
  · have hrep := Kd.reps_made (R := d.M (w.alloc (.cells (madeCells z.cells (n * d.sz)) e)) base (fun _ => False)) (z0 := z0) hz hs0 (hzero _ _) n
    refine ⟨fun _ _ => trivial, (madeCells z.cells (n * d.sz)).toList, ?_, hrep.imp_ (fun p c hp => d.M_mono (fun k hk => hk.elim) hp)⟩
    have h2 := World.ownsRow_lit (base := base) (e := e) (size := d.sz) w (madeCells z.cells (n * d.sz)) n hb (by simpa [maxLen] using (by omega : n ≤ 9223372036854775807)) (by simp [size_madeCells])
    simpa using h2

theorem info3 : (Try.prog.info? 3).map (fun i => (i.zero, i.size, i.bytes)) = some (some (.int .i64 0), 1, 8) := by kernel_rfl
theorem info72 : (Try.prog.info? 106).map (fun i => (i.zero, i.size, i.bytes)) = some (some (.agg #[.bool false, .int .i64 0]), 2, 16) := by kernel_rfl
theorem valid_calls (n : Int) (w : World) : Calls Try.prog 30 #[.int .i64 n] w fun e w' => e = .returned (.bool (decide (0 ≤ n ∧ n ≤ 256))) ∧ w' = w := by
  by_cases h0 : 0 ≤ n
  · by_cases h1 : n ≤ 256
    · have e : decide (0 ≤ n ∧ n ≤ 256) = true := decide_eq_true ⟨h0, h1⟩
      rw [e]
      clear e
      have e1 : decide (n ≤ 256) = true := decide_eq_true h1
      go_enter Try.func30, Try.ntmps30
      go_wp2
      go_ret
      exact ⟨by simp, rfl⟩
    · have e : decide (0 ≤ n ∧ n ≤ 256) = false := decide_eq_false (fun h => h1 h.2)
      rw [e]
      clear e
      have e1 : decide (n ≤ 256) = false := decide_eq_false h1
      go_enter Try.func30, Try.ntmps30
      go_wp2
      go_ret
      exact ⟨by simp, rfl⟩
  · have e : decide (0 ≤ n ∧ n ≤ 256) = false := decide_eq_false (fun h => h0 h.1)
    rw [e]
    clear e
    have e1 : decide (0 ≤ n) = false := decide_eq_false h0
    go_enter Try.func30, Try.ntmps30
    go_wp2
    go_ret
    exact ⟨rfl, rfl⟩
set_option maxHeartbeats 1000000 in
theorem new_nil (a b : Int) (W : World) (h : ¬ ((0 ≤ a ∧ a ≤ 256) ∧ (0 ≤ b ∧ b ≤ 256))) :
    Calls Try.prog 26 #[.int .i64 a, .int .i64 b] W fun e w' => e = .returned (.pointer none) ∧ w' = W := by
  by_cases ha : 0 ≤ a ∧ a ≤ 256
  · have hb : ¬ (0 ≤ b ∧ b ≤ 256) := fun k => h ⟨ha, k⟩
    have e1 : decide (0 ≤ a ∧ a ≤ 256) = true := decide_eq_true ha
    have e2 : decide (0 ≤ b ∧ b ≤ 256) = false := decide_eq_false hb
    have HE1 := Aside0.mk e1
    have HE2 := Aside0.mk e2
    clear h ha hb e1 e2
    go_enter Try.func26, Try.ntmps26
    go_wp2_with (first | (go_at_call 30; refine (valid_calls a _).mono ?_; rintro e w1 ⟨rfl, rfl⟩; rw [HE1.out]) | (go_at_call 30; refine (valid_calls b _).mono ?_; rintro e w1 ⟨rfl, rfl⟩; rw [HE2.out]))
    go_ret
    exact ⟨rfl, rfl⟩
  · have e1 : decide (0 ≤ a ∧ a ≤ 256) = false := decide_eq_false ha
    have HE1 := Aside0.mk e1
    clear h ha e1
    go_enter Try.func26, Try.ntmps26
    go_wp2_with (first | (go_at_call 30; refine (valid_calls a _).mono ?_; rintro e w1 ⟨rfl, rfl⟩; rw [HE1.out]))
    go_ret
    exact ⟨rfl, rfl⟩
set_option maxHeartbeats 2000000 in
theorem new_calls (a b : Nat) (W : World) (h1 : a ≤ 256) (h3 : b ≤ 256) :
    Calls Try.prog 26 #[.int .i64 a, .int .i64 b] W fun e w' => ∃ g gw gm, e = .returned (.pointer (some ⟨g, 0, none⟩)) ∧ Is w' W.heap.size g gw gm ⟨[], 0, List.replicate a 0, List.replicate b ⟨false, 0⟩⟩ ∧ Below W.heap.size W w' := by
  obtain ⟨CA, hA, hRA⟩ := make_run (Kd.int .i64) 29 3 (.int .i64 0) 8 0 Try.underlying29 info3 rfl (by decide) (by omega) (fun _ _ => rfl) a (by omega)
  obtain ⟨CB, hB, hRB⟩ := make_run kM 71 106 (.agg #[.bool false, .int .i64 0]) 16 ⟨false, 0⟩ Try.underlying71 info72 rfl (by decide) (by omega) (fun _ _ => kM_mkM _ _ _ _) b (by omega)
  have HA := Aside0.mk hRA
  have HB := Aside0.mk hRB
  clear hRA hRB
  go_enter Try.func26, Try.ntmps26
  have e1 : decide (0 ≤ (a : Int) ∧ (a : Int) ≤ 256) = true := decide_eq_true (by omega)
  have e2 : decide (0 ≤ (b : Int) ∧ (b : Int) ≤ 256) = true := decide_eq_true (by omega)
  have HE1 := Aside0.mk e1
  have HE2 := Aside0.mk e2
  clear e1 e2
  go_wp2_with (first | (go_at_call 30; refine (valid_calls a _).mono ?_; rintro e w1 ⟨rfl, rfl⟩; rw [HE1.out]) | (go_at_call 30; refine (valid_calls b _).mono ?_; rintro e w1 ⟨rfl, rfl⟩; rw [HE2.out]))
  go_region
  all_goals go_wp2
  all_goals go_ret
  · have k1 := Kd.R_alloc (Kd.R_alloc (HA.out w1 w1.heap.size (Nat.le_refl _)) (.cells CB 106)) (.cells #[Value.slice none 0 0, .int .i64 0, .slice (some ⟨w1.heap.size, 0, none⟩) a a, .slice (some ⟨w1.heap.size + 1, 0, none⟩) b b] 78)
    have k2 := HB.out (w1.alloc (.cells CA 3)) w1.heap.size (by simp)
    have k3 := Kd.R_alloc k2 (.cells #[Value.slice none 0 0, .int .i64 0, .slice (some ⟨w1.heap.size, 0, none⟩) a a, .slice (some ⟨w1.heap.size + 1, 0, none⟩) b b] 78)
    refine ⟨w1.heap.size + 1 + 1, w1.heap.size, w1.heap.size + 1, rfl, ⟨_, a, b, ⟨?_, Kd.R_nil _ _ _ _ _, ?_, ?_, by omega⟩⟩, below_drew1 (below_alloc (below_alloc (below_alloc (Below.refl _ _) _) _) _)⟩
    · show (((w1.heap.push _).push _).push _)[_]? = _
      simp only [List.length_replicate]
      refine push_get ?_
      simp
    · simp only [List.length_replicate]; exact k1
    · simp only [List.length_replicate]; rw [show (w1.alloc (.cells CA 3)).heap.size = w1.heap.size + 1 by simp] at k3; exact k3
  · have k1 := Kd.R_alloc (Kd.R_alloc (HB.out w1 w1.heap.size (Nat.le_refl _)) (.cells CA 3)) (.cells #[Value.slice none 0 0, .int .i64 0, .slice (some ⟨w1.heap.size + 1, 0, none⟩) a a, .slice (some ⟨w1.heap.size, 0, none⟩) b b] 78)
    have k2 := HA.out (w1.alloc (.cells CB 106)) w1.heap.size (by simp)
    have k3 := Kd.R_alloc k2 (.cells #[Value.slice none 0 0, .int .i64 0, .slice (some ⟨w1.heap.size + 1, 0, none⟩) a a, .slice (some ⟨w1.heap.size, 0, none⟩) b b] 78)
    refine ⟨w1.heap.size + 1 + 1, w1.heap.size + 1, w1.heap.size, rfl, ⟨_, a, b, ⟨?_, Kd.R_nil _ _ _ _ _, ?_, ?_, by omega⟩⟩, below_drew1 (below_alloc (below_alloc (below_alloc (Below.refl _ _) _) _) _)⟩
    · show (((w1.heap.push _).push _).push _)[_]? = _
      simp only [List.length_replicate]
      refine push_get ?_
      simp
    · simp only [List.length_replicate]; rw [show (w1.alloc (.cells CB 106)).heap.size = w1.heap.size + 1 by simp] at k3; exact k3
    · simp only [List.length_replicate]; exact k1
end Go.Proofs.Ytjheocofbfmopaa.Hand
