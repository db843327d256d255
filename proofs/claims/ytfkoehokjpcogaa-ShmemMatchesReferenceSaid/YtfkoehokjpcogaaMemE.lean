/- shmem: New and Log; the log at most 1000000. -/
import Derived.Test.YtfkoehokjpcogaaMemC
namespace Go.Proofs.Ytfkoehokjpcogaa.Hand
open Go.RowKit Go.Proofs.YtfkoehokjpcogaaW.PrintWords Go.Proofs.YtfkoehokjpcogaaW.PrintLast Go.Proofs.YtfkoehokjpcogaaW.PrintMore
set_option linter.unusedVariables false
attribute [local go_sem] max2_int min2_int max_two min_two max_three min_three max_four min_four

theorem push_get {A : Array Obj} {o : Obj} {n : Nat} (h : n = A.size) : (A.push o)[n]? = some o := by subst h; simp
theorem kA_now {W W' : World} {x : Acc} {cs : List Value} (h : kA.K W x cs) : kA.K W' x cs := by
  rw [kA_open h]
  exact kA_mk _ _
set_option maxHeartbeats 1000000 in
set_option maxRecDepth 100000 in
theorem cloneAcc_calls (A0 : Option Addr) (c0 : Nat) (l0 : List Acc) (w : World) (hr0 : Kd.C kA w A0 l0.length l0) (hl : l0.length ≤ 1000000) :
    Calls Try.prog 31 #[.slice A0 l0.length c0] w fun e w' => ∃ v : Value, e = .returned v ∧ Kd.R kA 47 w' w.heap.size (fun _ => True) v l0 ∧ Below w.heap.size w w' := by
  have qT : ∀ (w : World) (a : Option Addr) (n c n' c' : Nat), (binOp .eql 38 (.slice a n c) (.slice none n' c')).run Try.prog w = .ok (.bool a.isNone) w := fun w a n c n' c' => Lib.run_eql_slice_nil w _ _ a n c n' c' Try.underlying38
  have HR := Aside0.mk hr0
  have HL := Aside0.mk hl
  clear hr0 hl
  rcases A0 with _ | ad
  · obtain rfl : l0 = [] := by
      have h := HR.out
      cases l0 with
      | nil => rfl
      | cons x xs =>
        obtain ⟨ad, h2, _⟩ := h.2.2 (by simp)
        cases h2
    go_enter Try.func31, Try.ntmps31
    go_wp2
    go_ret
    exact ⟨_, rfl, Kd.R_nil _ _ _ _ _, Below.refl _ _⟩
  · go_enter Try.func31, Try.ntmps31
    go_wp2_with (first | ((with_reducible refine gate_dst (N := 5) rfl ?_); refine Kd.R_lit kA _ 47 ?hg (N := 5) ?hd (xs := ([] : List Acc)) (inner := []) (ok := fun _ => True) (okp := fun _ => True) ?hr ?hp (fun _ hk => hk) trivial (Below.refl _ _) (Nat.le_refl _) (by simp) ?_; (case hd => rfl); (case hg => rfl); (case hr => first | (go_simp; done) | (go_simp; rfl)); (case hp => exact Reps.none _ _); intro v5 w5 ho5 hb5 hg5 hnew5; have HO5 := Aside0.mk ho5; have HB5 := Aside0.mk hb5; clear ho5 hb5 hg5 hnew5) | ((with_reducible refine gate_builtin (b := .append) (xs := #[.tmp 5, .tmp 6]) rfl ?_); at_builtin; refine Kd.R_append_rows kA (Rr := kA.K w5) (w0 := w) w.heap.size rfl (.tmp 5) (.tmp 6) 38 47 (.agg #[.int .i64 0, .int .i64 0, .int .i64 0, .int .i64 0, .int .i64 0, .bool false]) 48 rfl Try.underlying38 infoAcc rfl (by decide) (by omega) v5 [] l0 (some ad) l0.length c0 (fun _ => True) (fun _ => False) rfl rfl HO5.out ?aR ?aK (fun _ h => h.elim) (fun _ _ => trivial) HB5.out HB5.out.size ?aL ?_; (case aR => exact Kd.C_below HR.out HB5.out); (case aK => (intro q cs hq; rw [kA_open hq]; exact kA_mkM _ _ _ _)); (case aL => have := HL.out; simp; omega); intro v7 w7 ho7 hb7 hg7 hat7; have HO7 := Aside0.mk ho7; have HB7 := Aside0.mk hb7; clear ho7 hb7 hg7 hat7))
    go_ret
    exact ⟨_, rfl, HO7.out, HB7.out⟩

section
variable {W : World} {base g gw gm : Nat} {s : St}
set_option maxHeartbeats 1000000 in
theorem log_calls (h : Is W base g gw gm s) (hf : s.fit) :
    Calls Try.prog 18 #[.pointer (some ⟨g, 0, none⟩)] W fun e w' => ∃ v : Value, e = .returned v ∧ Kd.R kA 47 w' W.heap.size (fun _ => True) v s.log ∧ Below W.heap.size W w' := by
  obtain ⟨_, _, f3, _, _⟩ := hf
  obtain ⟨vl, cw, cm, hm⟩ := h
  obtain ⟨c0, _, _, _⟩ := hm.cell
  obtain ⟨A, c, rfl, _, hC⟩ := Kd.R_reads hm.lo
  have HC := Aside0.mk hC
  have HL := Aside0.mk f3
  clear hm hC f3
  go_enter Try.func18, Try.ntmps18
  go_wp2_with (first | (go_at_call 31; refine (cloneAcc_calls A c s.log W HC.out HL.out).mono ?_; rintro e w1 ⟨v, rfl, hv, hb⟩; have HV := Aside0.mk hv; have HB := Aside0.mk hb; clear hv hb))
  go_ret
  exact ⟨_, rfl, HV.out, HB.out⟩
end

theorem make_run {α : Type} (d : Kd α) (t e : TypeId) (z : Value) (bytes : Nat) (z0 : α) (ht : Try.prog.underlying t = some (.slice e)) (hinfo : (Try.prog.info? e).map (fun i => (i.zero, i.size, i.bytes)) = some (some z, d.sz, bytes)) (hz : z.cells.size = d.sz) (hs0 : 0 < d.sz) (hb0 : 0 < bytes)
    (hzero : ∀ W base, d.M W base (fun _ => False) z0 z.cells.toList) (n : Nat) (hl : n * bytes ≤ 281474976710656) : ∃ C : Array Value,
      (∀ w, (Instr.makeSlice t (.int .i64 n) (.int .i64 n)).run Try.prog w = .ok (.slice (some ⟨w.heap.size, 0, none⟩) n n) (w.alloc (.cells C e))) ∧
      ∀ (w : World) base, base ≤ w.heap.size → d.R e (w.alloc (.cells C e)) base (fun _ => True) (.slice (some ⟨w.heap.size, 0, none⟩) n n) (List.replicate n z0) := by
  obtain ⟨i0, hi, hzz⟩ := Option.map_eq_some_iff.1 hinfo
  simp only [Prod.mk.injEq] at hzz
  obtain ⟨hz0, hz1, hz2⟩ := hzz
  have hm : n ≤ 281474976710656 := Nat.le_trans (Nat.le_mul_of_pos_right _ hb0) hl
  refine ⟨madeCells z.cells (n * d.sz), fun w => ?_, fun w base hb => ?_⟩
  · have hr := run_make (P := Try.prog) w t e i0 z ht hi hz0 .i64 .i64 (n : Int) (n : Int) (by omega) (by omega)
      (by
        have h3 : ((i0.bytes * n : Nat) : Int) ≤ 281474976710656 := by rw [hz2, Nat.mul_comm]; omega
        rwa [Int.natCast_mul] at h3) (by omega)
    simp only [Int.toNat_natCast] at hr
    rw [hz1] at hr
    exact hr
  · have hrep := Kd.reps_made (R := d.M (w.alloc (.cells (madeCells z.cells (n * d.sz)) e)) base (fun _ => False)) (z0 := z0) hz hs0 (hzero _ _) n
    refine ⟨fun _ _ => trivial, (madeCells z.cells (n * d.sz)).toList, ?_, hrep.imp_ (fun p c hp => d.M_mono (fun k hk => hk.elim) hp)⟩
    have h2 := World.ownsRow_lit (base := base) (e := e) (size := d.sz) w (madeCells z.cells (n * d.sz)) n hb (by simpa [maxLen] using (by omega : n ≤ 9223372036854775807)) (by simp [size_madeCells])
    simpa using h2

theorem info3 : (Try.prog.info? 3).map (fun i => (i.zero, i.size, i.bytes)) = some (some (.int .i64 0), 1, 8) := by kernel_rfl
theorem info72 : (Try.prog.info? 72).map (fun i => (i.zero, i.size, i.bytes)) = some (some (.agg #[.bool false, .int .i64 0]), 2, 16) := by kernel_rfl
theorem valid_calls (n : Int) (w : World) : Calls Try.prog 27 #[.int .i64 n] w fun e w' => e = .returned (.bool (decide (0 ≤ n ∧ n ≤ 256))) ∧ w' = w := by
  by_cases h0 : 0 ≤ n
  · by_cases h1 : n ≤ 256
    · have e : decide (0 ≤ n ∧ n ≤ 256) = true := decide_eq_true ⟨h0, h1⟩
      rw [e]
      clear e
      have e1 : decide (n ≤ 256) = true := decide_eq_true h1
      go_enter Try.func27, Try.ntmps27
      go_wp2
      go_ret
      exact ⟨by simp, rfl⟩
    · have e : decide (0 ≤ n ∧ n ≤ 256) = false := decide_eq_false (fun h => h1 h.2)
      rw [e]
      clear e
      have e1 : decide (n ≤ 256) = false := decide_eq_false h1
      go_enter Try.func27, Try.ntmps27
      go_wp2
      go_ret
      exact ⟨by simp, rfl⟩
  · have e : decide (0 ≤ n ∧ n ≤ 256) = false := decide_eq_false (fun h => h0 h.1)
    rw [e]
    clear e
    have e1 : decide (0 ≤ n) = false := decide_eq_false h0
    go_enter Try.func27, Try.ntmps27
    go_wp2
    go_ret
    exact ⟨rfl, rfl⟩
set_option maxHeartbeats 1000000 in
theorem new_nil (a b : Int) (W : World) (h : ¬ ((0 ≤ a ∧ a ≤ 256) ∧ (0 ≤ b ∧ b ≤ 256))) :
    Calls Try.prog 10 #[.int .i64 a, .int .i64 b] W fun e w' => e = .returned (.pointer none) ∧ w' = W := by
  by_cases ha : 0 ≤ a ∧ a ≤ 256
  · have hb : ¬ (0 ≤ b ∧ b ≤ 256) := fun k => h ⟨ha, k⟩
    have e1 : decide (0 ≤ a ∧ a ≤ 256) = true := decide_eq_true ha
    have e2 : decide (0 ≤ b ∧ b ≤ 256) = false := decide_eq_false hb
    have HE1 := Aside0.mk e1
    have HE2 := Aside0.mk e2
    clear h ha hb e1 e2
    go_enter Try.func10, Try.ntmps10
    go_wp2_with (first | (go_at_call 27; refine (valid_calls a _).mono ?_; rintro e w1 ⟨rfl, rfl⟩; rw [HE1.out]) | (go_at_call 27; refine (valid_calls b _).mono ?_; rintro e w1 ⟨rfl, rfl⟩; rw [HE2.out]))
    go_ret
    exact ⟨rfl, rfl⟩
  · have e1 : decide (0 ≤ a ∧ a ≤ 256) = false := decide_eq_false ha
    have HE1 := Aside0.mk e1
    clear h ha e1
    go_enter Try.func10, Try.ntmps10
    go_wp2_with (first | (go_at_call 27; refine (valid_calls a _).mono ?_; rintro e w1 ⟨rfl, rfl⟩; rw [HE1.out]))
    go_ret
    exact ⟨rfl, rfl⟩
set_option maxHeartbeats 2000000 in
theorem new_calls (a b : Nat) (W : World) (h1 : a ≤ 256) (h3 : b ≤ 256) :
    Calls Try.prog 10 #[.int .i64 a, .int .i64 b] W fun e w' => ∃ g gw gm, e = .returned (.pointer (some ⟨g, 0, none⟩)) ∧ Is w' W.heap.size g gw gm ⟨[], 0, List.replicate a 0, List.replicate b ⟨false, 0⟩⟩ ∧ Below W.heap.size W w' := by
  obtain ⟨CA, hA, hRA⟩ := make_run (Kd.int .i64) 37 3 (.int .i64 0) 8 0 Try.underlying37 info3 rfl (by decide) (by omega) (fun _ _ => rfl) a (by omega)
  obtain ⟨CB, hB, hRB⟩ := make_run kM 59 72 (.agg #[.bool false, .int .i64 0]) 16 ⟨false, 0⟩ Try.underlying59 info72 rfl (by decide) (by omega) (fun _ _ => kM_mkM _ _ _ _) b (by omega)
  have HA := Aside0.mk hRA
  have HB := Aside0.mk hRB
  clear hRA hRB
  go_enter Try.func10, Try.ntmps10
  have e1 : decide (0 ≤ (a : Int) ∧ (a : Int) ≤ 256) = true := decide_eq_true (by omega)
  have e2 : decide (0 ≤ (b : Int) ∧ (b : Int) ≤ 256) = true := decide_eq_true (by omega)
  have HE1 := Aside0.mk e1
  have HE2 := Aside0.mk e2
  clear e1 e2
  go_wp2_with (first | (go_at_call 27; refine (valid_calls a _).mono ?_; rintro e w1 ⟨rfl, rfl⟩; rw [HE1.out]) | (go_at_call 27; refine (valid_calls b _).mono ?_; rintro e w1 ⟨rfl, rfl⟩; rw [HE2.out]))
  go_region
  all_goals go_wp2
  all_goals go_ret
  · have k1 := Kd.R_alloc (Kd.R_alloc (HA.out w1 w1.heap.size (Nat.le_refl _)) (.cells CB 72)) (.cells #[Value.slice none 0 0, .int .i64 0, .slice (some ⟨w1.heap.size, 0, none⟩) a a, .slice (some ⟨w1.heap.size + 1, 0, none⟩) b b] 65)
    have k2 := HB.out (w1.alloc (.cells CA 3)) w1.heap.size (by simp)
    have k3 := Kd.R_alloc k2 (.cells #[Value.slice none 0 0, .int .i64 0, .slice (some ⟨w1.heap.size, 0, none⟩) a a, .slice (some ⟨w1.heap.size + 1, 0, none⟩) b b] 65)
    refine ⟨w1.heap.size + 1 + 1, w1.heap.size, w1.heap.size + 1, rfl, ⟨_, a, b, ⟨?_, Kd.R_nil _ _ _ _ _, ?_, ?_, by omega⟩⟩, below_drew1 (below_alloc (below_alloc (below_alloc (Below.refl _ _) _) _) _)⟩
    · show (((w1.heap.push _).push _).push _)[_]? = _
      simp only [List.length_replicate]
      refine push_get ?_
      simp
    · simp only [List.length_replicate]; exact k1
    · simp only [List.length_replicate]; rw [show (w1.alloc (.cells CA 3)).heap.size = w1.heap.size + 1 by simp] at k3; exact k3
  · have k1 := Kd.R_alloc (Kd.R_alloc (HB.out w1 w1.heap.size (Nat.le_refl _)) (.cells CA 3)) (.cells #[Value.slice none 0 0, .int .i64 0, .slice (some ⟨w1.heap.size + 1, 0, none⟩) a a, .slice (some ⟨w1.heap.size, 0, none⟩) b b] 65)
    have k2 := HA.out (w1.alloc (.cells CB 72)) w1.heap.size (by simp)
    have k3 := Kd.R_alloc k2 (.cells #[Value.slice none 0 0, .int .i64 0, .slice (some ⟨w1.heap.size + 1, 0, none⟩) a a, .slice (some ⟨w1.heap.size, 0, none⟩) b b] 65)
    refine ⟨w1.heap.size + 1 + 1, w1.heap.size + 1, w1.heap.size, rfl, ⟨_, a, b, ⟨?_, Kd.R_nil _ _ _ _ _, ?_, ?_, by omega⟩⟩, below_drew1 (below_alloc (below_alloc (below_alloc (Below.refl _ _) _) _) _)⟩
    · show (((w1.heap.push _).push _).push _)[_]? = _
      simp only [List.length_replicate]
      refine push_get ?_
      simp
    · simp only [List.length_replicate]; rw [show (w1.alloc (.cells CB 72)).heap.size = w1.heap.size + 1 by simp] at k3; exact k3
    · simp only [List.length_replicate]; exact k1
end Go.Proofs.Ytfkoehokjpcogaa.Hand
