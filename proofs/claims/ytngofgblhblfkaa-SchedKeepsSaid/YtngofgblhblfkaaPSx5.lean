/- Written by a program of this session out of the translation: for each Go function a Lean function, and the proof that the call computes it; the conditions stand in each theorem. -/
import Derived.Test.YtngofgblhblfkaaPSx0
import Derived.Test.YtngofgblhblfkaaPSx1
namespace Go.Proofs.Ytngofgblhblfkaa.PS
open Go.RowKit Go.Proofs.Ytngofgblhblfkaa.Hand Go.Proofs.YtngofgblhblfkaaW.PrintWords Go.Proofs.YtngofgblhblfkaaW.PrintLast Go.Proofs.YtngofgblhblfkaaW.PrintMore
attribute [local go_sem] max2_int min2_int max_two min_two max_three min_three max_four min_four   -- for this text's walks alone
set_option linter.unusedVariables false
set_option linter.unusedSimpArgs false

/-! ### ropeladderlaw02_SchedKeeps: function 6 -/
mutual
def ropeladderlaw02_SchedKeeps.l0 : Nat → Bool → Int → Int → List Int → List Int → Int → Option (Bool)
  | 0, _, _, _, _, _, _ => none
  | k + 1, x7, x8, x9, x10, x11, x12 => if x12 < (x11.length : Int) then (ropeladderlaw02_SchedKeeps.l1 k x7 x8 x9 x10 x11 x12 0 0 0) else (some x7)
def ropeladderlaw02_SchedKeeps.l1 : Nat → Bool → Int → Int → List Int → List Int → Int → Int → Int → Int → Option (Bool)
  | 0, _, _, _, _, _, _, _, _, _ => none
  | k + 1, x7, x8, x9, x10, x11, x12, x13, x14, x15 => if x15 < x8 then (ropeladderlaw02_SchedKeeps.l2 k x7 x8 x9 x10 x11 x12 x13 x14 x15 0 (wrap64 (x12 - 1))) else (if x13 < (wrap64 (x9 - x8)) then (if 0 ≤ x12 then (if x12 < (x11.length : Int) then (if x12 < (x10.length : Int) then (if (rd x11 x12) = (rd x10 x12) then (if x13 ≥ (wrap64 (x9 - x8)) then (if x14 = x13 then (ropeladderlaw02_SchedKeeps.l0 k x7 x8 x9 x10 x11 (wrap64 (x12 + 1))) else (some false)) else (ropeladderlaw02_SchedKeeps.l0 k x7 x8 x9 x10 x11 (wrap64 (x12 + 1)))) else (some false)) else (none)) else (none)) else (none)) else (if x13 ≥ (wrap64 (x9 - x8)) then (if x14 = x13 then (ropeladderlaw02_SchedKeeps.l0 k x7 x8 x9 x10 x11 (wrap64 (x12 + 1))) else (some false)) else (ropeladderlaw02_SchedKeeps.l0 k x7 x8 x9 x10 x11 (wrap64 (x12 + 1)))))
def ropeladderlaw02_SchedKeeps.l2 : Nat → Bool → Int → Int → List Int → List Int → Int → Int → Int → Int → Int → Int → Option (Bool)
  | 0, _, _, _, _, _, _, _, _, _, _, _ => none
  | k + 1, x7, x8, x9, x10, x11, x12, x13, x14, x15, x16, x17 => if x17 ≥ 0 then (if 0 ≤ x17 then (if x17 < (x11.length : Int) then (if (rd x11 x17) = x15 then (if 0 ≤ x12 then (if x12 < (x11.length : Int) then (if x15 = (rd x11 x12) then (ropeladderlaw02_SchedKeeps.l1 k x7 x8 x9 x10 x11 x12 (mx x13 x16) x16 (wrap64 (x15 + 1))) else (ropeladderlaw02_SchedKeeps.l1 k x7 x8 x9 x10 x11 x12 (mx x13 x16) x14 (wrap64 (x15 + 1)))) else (none)) else (none)) else (ropeladderlaw02_SchedKeeps.l2 k x7 x8 x9 x10 x11 x12 x13 x14 x15 (wrap64 (x16 + 1)) (wrap64 (x17 - 1)))) else (none)) else (none)) else (if 0 ≤ x12 then (if x12 < (x11.length : Int) then (if x15 = (rd x11 x12) then (ropeladderlaw02_SchedKeeps.l1 k x7 x8 x9 x10 x11 x12 (mx x13 x16) x16 (wrap64 (x15 + 1))) else (ropeladderlaw02_SchedKeeps.l1 k x7 x8 x9 x10 x11 x12 (mx x13 x16) x14 (wrap64 (x15 + 1)))) else (none)) else (none))
end
def ropeladderlaw02_SchedKeeps.f (k : Nat) (a0 : Int) (l1 : List Int) (a2 : Int) : Option (Bool) := (ropeladderlaw02_head.f k).bind fun t227 => (if (l1.length : Int) > 300 then (some t227) else ((ropeladderlaw02_Threads.f a0).bind fun t228 => ((ropeladderlaw02_Picks.f k l1 t228).bind fun t229 => ((sched_Repair.f t229 t228 (wrap64 (t228 + (Int.tmod (wrap64 (a2)) 30)))).bind fun t232 => (if (t232.length : Int) = (t229.length : Int) then (ropeladderlaw02_SchedKeeps.l0 k t227 t228 (wrap64 (t228 + (Int.tmod (wrap64 (a2)) 30))) t229 t232 0) else (some false))))))
theorem ropeladderlaw02_SchedKeeps.mono_l : ∀ k, (∀ y0 y1 y2 y3 y4 y5, LeO (ropeladderlaw02_SchedKeeps.l0 k y0 y1 y2 y3 y4 y5) (ropeladderlaw02_SchedKeeps.l0 (k + 1) y0 y1 y2 y3 y4 y5)) ∧ (∀ y0 y1 y2 y3 y4 y5 y6 y7 y8, LeO (ropeladderlaw02_SchedKeeps.l1 k y0 y1 y2 y3 y4 y5 y6 y7 y8) (ropeladderlaw02_SchedKeeps.l1 (k + 1) y0 y1 y2 y3 y4 y5 y6 y7 y8)) ∧ (∀ y0 y1 y2 y3 y4 y5 y6 y7 y8 y9 y10, LeO (ropeladderlaw02_SchedKeeps.l2 k y0 y1 y2 y3 y4 y5 y6 y7 y8 y9 y10) (ropeladderlaw02_SchedKeeps.l2 (k + 1) y0 y1 y2 y3 y4 y5 y6 y7 y8 y9 y10))
  | 0 => ⟨fun _ _ _ _ _ _ r h => by simp [ropeladderlaw02_SchedKeeps.l0] at h, fun _ _ _ _ _ _ _ _ _ r h => by simp [ropeladderlaw02_SchedKeeps.l1] at h, fun _ _ _ _ _ _ _ _ _ _ _ r h => by simp [ropeladderlaw02_SchedKeeps.l2] at h⟩
  | k + 1 => by
    obtain ⟨ih0, ih1, ih2⟩ := ropeladderlaw02_SchedKeeps.mono_l k
    refine ⟨?_, ?_, ?_⟩
    · intro y0 y1 y2 y3 y4 y5
      unfold ropeladderlaw02_SchedKeeps.l0
      repeat' first
      | (with_reducible exact ih0 _ _ _ _ _ _)
      | (with_reducible exact ih1 _ _ _ _ _ _ _ _ _)
      | (with_reducible exact ih2 _ _ _ _ _ _ _ _ _ _ _)
      | (with_reducible exact ropeladderlaw02_Picks.mono _ _ _)
      | (with_reducible exact ropeladderlaw02_head.mono _)
      | (with_reducible exact LeO.refl _)
      | (with_reducible exact LeO.none _)
      | (with_reducible refine LeO.ite ?_ ?_)
      | (with_reducible refine LeO.bind ?_ (fun _ => ?_))
      | exact ih0 _ _ _ _ _ _
      | exact ih1 _ _ _ _ _ _ _ _ _
      | exact ih2 _ _ _ _ _ _ _ _ _ _ _
      | exact ropeladderlaw02_Picks.mono _ _ _
      | exact ropeladderlaw02_head.mono _
      | exact LeO.none _
      | refine LeO.ite ?_ ?_
      | refine LeO.bind ?_ (fun _ => ?_)
    · intro y0 y1 y2 y3 y4 y5 y6 y7 y8
      unfold ropeladderlaw02_SchedKeeps.l1
      repeat' first
      | (with_reducible exact ih0 _ _ _ _ _ _)
      | (with_reducible exact ih1 _ _ _ _ _ _ _ _ _)
      | (with_reducible exact ih2 _ _ _ _ _ _ _ _ _ _ _)
      | (with_reducible exact ropeladderlaw02_Picks.mono _ _ _)
      | (with_reducible exact ropeladderlaw02_head.mono _)
      | (with_reducible exact LeO.refl _)
      | (with_reducible exact LeO.none _)
      | (with_reducible refine LeO.ite ?_ ?_)
      | (with_reducible refine LeO.bind ?_ (fun _ => ?_))
      | exact ih0 _ _ _ _ _ _
      | exact ih1 _ _ _ _ _ _ _ _ _
      | exact ih2 _ _ _ _ _ _ _ _ _ _ _
      | exact ropeladderlaw02_Picks.mono _ _ _
      | exact ropeladderlaw02_head.mono _
      | exact LeO.none _
      | refine LeO.ite ?_ ?_
      | refine LeO.bind ?_ (fun _ => ?_)
    · intro y0 y1 y2 y3 y4 y5 y6 y7 y8 y9 y10
      unfold ropeladderlaw02_SchedKeeps.l2
      repeat' first
      | (with_reducible exact ih0 _ _ _ _ _ _)
      | (with_reducible exact ih1 _ _ _ _ _ _ _ _ _)
      | (with_reducible exact ih2 _ _ _ _ _ _ _ _ _ _ _)
      | (with_reducible exact ropeladderlaw02_Picks.mono _ _ _)
      | (with_reducible exact ropeladderlaw02_head.mono _)
      | (with_reducible exact LeO.refl _)
      | (with_reducible exact LeO.none _)
      | (with_reducible refine LeO.ite ?_ ?_)
      | (with_reducible refine LeO.bind ?_ (fun _ => ?_))
      | exact ih0 _ _ _ _ _ _
      | exact ih1 _ _ _ _ _ _ _ _ _
      | exact ih2 _ _ _ _ _ _ _ _ _ _ _
      | exact ropeladderlaw02_Picks.mono _ _ _
      | exact ropeladderlaw02_head.mono _
      | exact LeO.none _
      | refine LeO.ite ?_ ?_
      | refine LeO.bind ?_ (fun _ => ?_)
theorem ropeladderlaw02_SchedKeeps.mono : ∀ a0 a1 a2 k, LeO (ropeladderlaw02_SchedKeeps.f k a0 a1 a2) (ropeladderlaw02_SchedKeeps.f (k + 1) a0 a1 a2) := by
  intro a0 a1 a2 k
  obtain ⟨ih0, ih1, ih2⟩ := ropeladderlaw02_SchedKeeps.mono_l k
  unfold ropeladderlaw02_SchedKeeps.f
  repeat' first
      | (with_reducible exact ih0 _ _ _ _ _ _)
      | (with_reducible exact ih1 _ _ _ _ _ _ _ _ _)
      | (with_reducible exact ih2 _ _ _ _ _ _ _ _ _ _ _)
      | (with_reducible exact ropeladderlaw02_Picks.mono _ _ _)
      | (with_reducible exact ropeladderlaw02_head.mono _)
      | (with_reducible exact LeO.refl _)
      | (with_reducible exact LeO.none _)
      | (with_reducible refine LeO.ite ?_ ?_)
      | (with_reducible refine LeO.bind ?_ (fun _ => ?_))
      | exact ih0 _ _ _ _ _ _
      | exact ih1 _ _ _ _ _ _ _ _ _
      | exact ih2 _ _ _ _ _ _ _ _ _ _ _
      | exact ropeladderlaw02_Picks.mono _ _ _
      | exact ropeladderlaw02_head.mono _
      | exact LeO.none _
      | refine LeO.ite ?_ ?_
      | refine LeO.bind ?_ (fun _ => ?_)
set_option maxHeartbeats 8000000 in
set_option maxRecDepth 100000 in
theorem ropeladderlaw02_SchedKeeps.calls (k : Nat) (a0 : Int) (A1 : Option Addr) (c1 : Nat) (l1 : List Int) (a2 : Int) (r : Bool) (w : World) (hr1 : Kd.C (Kd.int .u8) w A1 l1.length l1) (hc1 : l1.length ≤ c1) (h : ropeladderlaw02_SchedKeeps.f k a0 l1 a2 = some r) :
    Calls Try.prog 6 #[.int .u8 a0, .slice A1 l1.length c1, .int .u8 a2] w fun e w' => e = .returned (.bool r) ∧ Below w.heap.size w w' := by
  have HR1 := Aside0.mk hr1
  have HC1 := Aside0.mk hc1
  clear hr1 hc1
  have HB := Aside0.mk (Below.refl w.heap.size w)
  have H : ((ropeladderlaw02_head.f k).bind fun t227 => (if (l1.length : Int) > 300 then (some t227) else ((ropeladderlaw02_Threads.f a0).bind fun t228 => ((ropeladderlaw02_Picks.f k l1 t228).bind fun t229 => ((sched_Repair.f t229 t228 (wrap64 (t228 + (Int.tmod (wrap64 (a2)) 30)))).bind fun t232 => (if (t232.length : Int) = (t229.length : Int) then (ropeladderlaw02_SchedKeeps.l0 k t227 t228 (wrap64 (t228 + (Int.tmod (wrap64 (a2)) 30))) t229 t232 0) else (some false))))))) = some r := h
  clear h
  replace H := Option.bind_eq_some_iff.mp H
  obtain ⟨t227, A40, H⟩ := H
  replace H : (if (l1.length : Int) > 300 then (some t227) else ((ropeladderlaw02_Threads.f a0).bind fun t228 => ((ropeladderlaw02_Picks.f k l1 t228).bind fun t229 => ((sched_Repair.f t229 t228 (wrap64 (t228 + (Int.tmod (wrap64 (a2)) 30)))).bind fun t232 => (if (t232.length : Int) = (t229.length : Int) then (ropeladderlaw02_SchedKeeps.l0 k t227 t228 (wrap64 (t228 + (Int.tmod (wrap64 (a2)) 30))) t229 t232 0) else (some false)))))) = some r := H
  have A4 := Aside0.mk A40
  clear A40
  by_cases c5 : (l1.length : Int) > 300
  · rw [if_pos c5] at H
    have c5b0 : decide (300 < (l1.length : Int)) = true := decide_eq_true c5
    have c5b1 : decide (300 < l1.length) = true := decide_eq_true (by omega)
    clear c5
    obtain rfl := Option.some.inj H
    go_enter Try.func6, Try.ntmps6
    go_wp2_with (first | (go_at_call 9; (with_reducible refine (ropeladderlaw02_head.calls k  t227 _ A4.out).mono ?_); rintro e w6 ⟨rfl, hb⟩; have n0_ := Aside0.mk (below_step (by repeat (first | (with_reducible first | exact HB.out | apply below_alloc | apply pw_below_drewN | apply below_drew1) | exact HB.out)) hb); clear HB; have HB := n0_; clear n0_; (try clear hb); (try clear hb2); (try clear hk); (try clear hi)))
    repeat (go_quiet (first | (go_at_call 9; (with_reducible refine (ropeladderlaw02_head.calls k  t227 _ A4.out).mono ?_); clear A4; rintro e w6 ⟨rfl, hb⟩; have n0_ := Aside0.mk (below_step (by repeat (first | (with_reducible first | exact HB.out | apply below_alloc | apply pw_below_drewN | apply below_drew1) | exact HB.out)) hb); clear HB; have HB := n0_; clear n0_; (try clear hb); (try clear hb2); (try clear hk); (try clear hi))); try go_wp2_with (first | (go_at_call 9; (with_reducible refine (ropeladderlaw02_head.calls k  t227 _ A4.out).mono ?_); clear A4; rintro e w6 ⟨rfl, hb⟩; have n0_ := Aside0.mk (below_step (by repeat (first | (with_reducible first | exact HB.out | apply below_alloc | apply pw_below_drewN | apply below_drew1) | exact HB.out)) hb); clear HB; have HB := n0_; clear n0_; (try clear hb); (try clear hb2); (try clear hk); (try clear hi))))
    go_ret
    exact ⟨by first | rfl | (simp [errW_none, errW_some] <;> rfl) | (simp [*, errW_none, errW_some] <;> rfl), by repeat (first | (with_reducible first | exact HB.out | apply below_alloc | apply pw_below_drewN | apply below_drew1) | exact HB.out)⟩
  · rw [if_neg c5] at H
    have c5b0 : decide (300 < (l1.length : Int)) = false := decide_eq_false c5
    have c5b1 : decide (300 < l1.length) = false := decide_eq_false (by omega)
    clear c5
    replace H := Option.bind_eq_some_iff.mp H
    obtain ⟨t228, A70, H⟩ := H
    replace H : ((ropeladderlaw02_Picks.f k l1 t228).bind fun t229 => ((sched_Repair.f t229 t228 (wrap64 (t228 + (Int.tmod (wrap64 (a2)) 30)))).bind fun t232 => (if (t232.length : Int) = (t229.length : Int) then (ropeladderlaw02_SchedKeeps.l0 k t227 t228 (wrap64 (t228 + (Int.tmod (wrap64 (a2)) 30))) t229 t232 0) else (some false)))) = some r := H
    have A7 := Aside0.mk A70
    clear A70
    replace H := Option.bind_eq_some_iff.mp H
    obtain ⟨t229, A80, H⟩ := H
    replace H : ((sched_Repair.f t229 t228 (wrap64 (t228 + (Int.tmod (wrap64 (a2)) 30)))).bind fun t232 => (if (t232.length : Int) = (t229.length : Int) then (ropeladderlaw02_SchedKeeps.l0 k t227 t228 (wrap64 (t228 + (Int.tmod (wrap64 (a2)) 30))) t229 t232 0) else (some false))) = some r := H
    have A8 := Aside0.mk A80
    clear A80
    replace H := Option.bind_eq_some_iff.mp H
    obtain ⟨t232, A90, H⟩ := H
    replace H : (if (t232.length : Int) = (t229.length : Int) then (ropeladderlaw02_SchedKeeps.l0 k t227 t228 (wrap64 (t228 + (Int.tmod (wrap64 (a2)) 30))) t229 t232 0) else (some false)) = some r := H
    have A9 := Aside0.mk A90
    clear A90
    by_cases c10 : (t232.length : Int) = (t229.length : Int)
    · rw [if_pos c10] at H
      have c10b0 : ((t232.length : Int) == (t229.length : Int)) = true := beq_iff_eq.mpr c10
      have c10b1 : ((t232.length : Int) != (t229.length : Int)) = false := bne_eq_false_iff_eq.mpr c10
      have c10b2 : (t232.length == t229.length) = true := by first | simpa using c10 | (simp at c10 ⊢; omega)
      clear c10
      have H' := Aside0.mk H
      clear H
      go_enter Try.func6, Try.ntmps6
      go_wp2_with (first | (go_at_call 9; (with_reducible refine (ropeladderlaw02_head.calls k  t227 _ A4.out).mono ?_); rintro e w11 ⟨rfl, hb⟩; have n0_ := Aside0.mk (below_step (by repeat (first | (with_reducible first | exact HB.out | apply below_alloc | apply pw_below_drewN | apply below_drew1) | exact HB.out)) hb); clear HB; have HB := n0_; clear n0_; (try clear hb); (try clear hb2); (try clear hk); (try clear hi)) | (go_at_call 10; (with_reducible refine (ropeladderlaw02_Threads.calls a0 t228 _ A7.out).mono ?_); rintro e w' ⟨rfl, ⟨nd, rfl⟩⟩; (try first | exact ⟨rfl, _, World.drewN_drewN _ _ _⟩ | exact ⟨rfl, _, Eq.trans (World.drewN_drewN _ _ _) (congrArg (World.drewN _) (Nat.add_assoc _ _ _))⟩)) | (go_at_call 11; (with_reducible refine (ropeladderlaw02_Picks.calls k _ _ l1 t228 t229 _ ?side1 ?side2 A8.out).mono ?_); (case side1 => repeat (first | exact (Kd.C_below HR1.out (by repeat (first | (with_reducible first | exact HB.out | apply below_alloc | apply pw_below_drewN | apply below_drew1) | exact HB.out))) | (with_reducible refine Kd.C_alloc ?_ _) | (with_reducible refine Kd.C_drewN ?_ _) | (with_reducible refine Kd.C_drew ?_))); (case side2 => exact HC1.out); rintro e w12 ⟨v230, rfl, ho0, hb⟩; have n0_ := Aside0.mk (Kd.R_lower ho0 (below_size (by repeat (first | (with_reducible first | exact HB.out | apply below_alloc | apply pw_below_drewN | apply below_drew1) | exact HB.out)))); have n1_ := Aside0.mk (below_step (by repeat (first | (with_reducible first | exact HB.out | apply below_alloc | apply pw_below_drewN | apply below_drew1) | exact HB.out)) hb); clear HB; have HO231 := n0_; have HB := n1_; clear n0_ n1_; (try clear hb); (try clear hb2); (try clear hk); (try clear hi); (try clear ho0); obtain ⟨Ao13, co13, eo13⟩ := Kd.R_slice HO231.out; subst eo13) | (go_at_call 19; (with_reducible refine (sched_Repair.calls _ _ t229 t228 (wrap64 (t228 + (Int.tmod (wrap64 (a2)) 30))) t232 _ ?side1 ?side2 A9.out).mono ?_); (case side1 => repeat (first | exact (Kd.R_reads' HO231.out).2.2 | (with_reducible refine Kd.C_alloc ?_ _) | (with_reducible refine Kd.C_drewN ?_ _) | (with_reducible refine Kd.C_drew ?_))); (case side2 => exact (Kd.R_reads' HO231.out).2.1); rintro e w14 ⟨v233, rfl, ho0, hb⟩; have n0_ := Aside0.mk (Kd.R_elder' (by (with_reducible repeat (first | apply Kd.R_alloc | apply Kd.R_drewN | apply Kd.R_drew)); exact HO231.out) (Kd.R_base ho0) hb); have n1_ := Aside0.mk (Kd.R_lower (Kd.R_new' ho0 (Kd.R_lt (by (with_reducible repeat (first | apply Kd.R_alloc | apply Kd.R_drewN | apply Kd.R_drew)); exact HO231.out))) (below_size (by repeat (first | (with_reducible first | exact HB.out | apply below_alloc | apply pw_below_drewN | apply below_drew1) | exact HB.out)))); have n2_ := Aside0.mk (below_step (by repeat (first | (with_reducible first | exact HB.out | apply below_alloc | apply pw_below_drewN | apply below_drew1) | exact HB.out)) hb); clear HO231; clear HB; have HO231 := n0_; have HO234 := n1_; have HB := n2_; clear n0_ n1_ n2_; (try clear hb); (try clear hb2); (try clear hk); (try clear hi); (try clear ho0); obtain ⟨Ao15, co15, eo15⟩ := Kd.R_slice HO234.out; subst eo15))
      repeat (go_quiet (first | (go_at_call 9; (with_reducible refine (ropeladderlaw02_head.calls k  t227 _ A4.out).mono ?_); clear A4; rintro e w11 ⟨rfl, hb⟩; have n0_ := Aside0.mk (below_step (by repeat (first | (with_reducible first | exact HB.out | apply below_alloc | apply pw_below_drewN | apply below_drew1) | exact HB.out)) hb); clear HB; have HB := n0_; clear n0_; (try clear hb); (try clear hb2); (try clear hk); (try clear hi)) | (go_at_call 10; (with_reducible refine (ropeladderlaw02_Threads.calls a0 t228 _ A7.out).mono ?_); clear A7; rintro e w' ⟨rfl, ⟨nd, rfl⟩⟩; (try first | exact ⟨rfl, _, World.drewN_drewN _ _ _⟩ | exact ⟨rfl, _, Eq.trans (World.drewN_drewN _ _ _) (congrArg (World.drewN _) (Nat.add_assoc _ _ _))⟩)) | (go_at_call 11; (with_reducible refine (ropeladderlaw02_Picks.calls k _ _ l1 t228 t229 _ ?side1 ?side2 A8.out).mono ?_); clear A8; (case side1 => repeat (first | exact (Kd.C_below HR1.out (by repeat (first | (with_reducible first | exact HB.out | apply below_alloc | apply pw_below_drewN | apply below_drew1) | exact HB.out))) | (with_reducible refine Kd.C_alloc ?_ _) | (with_reducible refine Kd.C_drewN ?_ _) | (with_reducible refine Kd.C_drew ?_))); (case side2 => exact HC1.out); rintro e w12 ⟨v230, rfl, ho0, hb⟩; have n0_ := Aside0.mk (Kd.R_lower ho0 (below_size (by repeat (first | (with_reducible first | exact HB.out | apply below_alloc | apply pw_below_drewN | apply below_drew1) | exact HB.out)))); have n1_ := Aside0.mk (below_step (by repeat (first | (with_reducible first | exact HB.out | apply below_alloc | apply pw_below_drewN | apply below_drew1) | exact HB.out)) hb); clear HB; have HO231 := n0_; have HB := n1_; clear n0_ n1_; (try clear hb); (try clear hb2); (try clear hk); (try clear hi); (try clear ho0); obtain ⟨Ao13, co13, eo13⟩ := Kd.R_slice HO231.out; subst eo13) | (go_at_call 19; (with_reducible refine (sched_Repair.calls _ _ t229 t228 (wrap64 (t228 + (Int.tmod (wrap64 (a2)) 30))) t232 _ ?side1 ?side2 A9.out).mono ?_); clear A9; (case side1 => repeat (first | exact (Kd.R_reads' HO231.out).2.2 | (with_reducible refine Kd.C_alloc ?_ _) | (with_reducible refine Kd.C_drewN ?_ _) | (with_reducible refine Kd.C_drew ?_))); (case side2 => exact (Kd.R_reads' HO231.out).2.1); rintro e w14 ⟨v233, rfl, ho0, hb⟩; have n0_ := Aside0.mk (Kd.R_elder' (by (with_reducible repeat (first | apply Kd.R_alloc | apply Kd.R_drewN | apply Kd.R_drew)); exact HO231.out) (Kd.R_base ho0) hb); have n1_ := Aside0.mk (Kd.R_lower (Kd.R_new' ho0 (Kd.R_lt (by (with_reducible repeat (first | apply Kd.R_alloc | apply Kd.R_drewN | apply Kd.R_drew)); exact HO231.out))) (below_size (by repeat (first | (with_reducible first | exact HB.out | apply below_alloc | apply pw_below_drewN | apply below_drew1) | exact HB.out)))); have n2_ := Aside0.mk (below_step (by repeat (first | (with_reducible first | exact HB.out | apply below_alloc | apply pw_below_drewN | apply below_drew1) | exact HB.out)) hb); clear HO231; clear HB; have HO231 := n0_; have HO234 := n1_; have HB := n2_; clear n0_ n1_ n2_; (try clear hb); (try clear hb2); (try clear hk); (try clear hi); (try clear ho0); obtain ⟨Ao15, co15, eo15⟩ := Kd.R_slice HO234.out; subst eo15)); try go_wp2_with (first | (go_at_call 9; (with_reducible refine (ropeladderlaw02_head.calls k  t227 _ A4.out).mono ?_); clear A4; rintro e w11 ⟨rfl, hb⟩; have n0_ := Aside0.mk (below_step (by repeat (first | (with_reducible first | exact HB.out | apply below_alloc | apply pw_below_drewN | apply below_drew1) | exact HB.out)) hb); clear HB; have HB := n0_; clear n0_; (try clear hb); (try clear hb2); (try clear hk); (try clear hi)) | (go_at_call 10; (with_reducible refine (ropeladderlaw02_Threads.calls a0 t228 _ A7.out).mono ?_); clear A7; rintro e w' ⟨rfl, ⟨nd, rfl⟩⟩; (try first | exact ⟨rfl, _, World.drewN_drewN _ _ _⟩ | exact ⟨rfl, _, Eq.trans (World.drewN_drewN _ _ _) (congrArg (World.drewN _) (Nat.add_assoc _ _ _))⟩)) | (go_at_call 11; (with_reducible refine (ropeladderlaw02_Picks.calls k _ _ l1 t228 t229 _ ?side1 ?side2 A8.out).mono ?_); clear A8; (case side1 => repeat (first | exact (Kd.C_below HR1.out (by repeat (first | (with_reducible first | exact HB.out | apply below_alloc | apply pw_below_drewN | apply below_drew1) | exact HB.out))) | (with_reducible refine Kd.C_alloc ?_ _) | (with_reducible refine Kd.C_drewN ?_ _) | (with_reducible refine Kd.C_drew ?_))); (case side2 => exact HC1.out); rintro e w12 ⟨v230, rfl, ho0, hb⟩; have n0_ := Aside0.mk (Kd.R_lower ho0 (below_size (by repeat (first | (with_reducible first | exact HB.out | apply below_alloc | apply pw_below_drewN | apply below_drew1) | exact HB.out)))); have n1_ := Aside0.mk (below_step (by repeat (first | (with_reducible first | exact HB.out | apply below_alloc | apply pw_below_drewN | apply below_drew1) | exact HB.out)) hb); clear HB; have HO231 := n0_; have HB := n1_; clear n0_ n1_; (try clear hb); (try clear hb2); (try clear hk); (try clear hi); (try clear ho0); obtain ⟨Ao13, co13, eo13⟩ := Kd.R_slice HO231.out; subst eo13) | (go_at_call 19; (with_reducible refine (sched_Repair.calls _ _ t229 t228 (wrap64 (t228 + (Int.tmod (wrap64 (a2)) 30))) t232 _ ?side1 ?side2 A9.out).mono ?_); clear A9; (case side1 => repeat (first | exact (Kd.R_reads' HO231.out).2.2 | (with_reducible refine Kd.C_alloc ?_ _) | (with_reducible refine Kd.C_drewN ?_ _) | (with_reducible refine Kd.C_drew ?_))); (case side2 => exact (Kd.R_reads' HO231.out).2.1); rintro e w14 ⟨v233, rfl, ho0, hb⟩; have n0_ := Aside0.mk (Kd.R_elder' (by (with_reducible repeat (first | apply Kd.R_alloc | apply Kd.R_drewN | apply Kd.R_drew)); exact HO231.out) (Kd.R_base ho0) hb); have n1_ := Aside0.mk (Kd.R_lower (Kd.R_new' ho0 (Kd.R_lt (by (with_reducible repeat (first | apply Kd.R_alloc | apply Kd.R_drewN | apply Kd.R_drew)); exact HO231.out))) (below_size (by repeat (first | (with_reducible first | exact HB.out | apply below_alloc | apply pw_below_drewN | apply below_drew1) | exact HB.out)))); have n2_ := Aside0.mk (below_step (by repeat (first | (with_reducible first | exact HB.out | apply below_alloc | apply pw_below_drewN | apply below_drew1) | exact HB.out)) hb); clear HO231; clear HB; have HO231 := n0_; have HO234 := n1_; have HB := n2_; clear n0_ n1_ n2_; (try clear hb); (try clear hb2); (try clear hk); (try clear hi); (try clear ho0); obtain ⟨Ao15, co15, eo15⟩ := Kd.R_slice HO234.out; subst eo15)))
      go_loopg [12] k (fun kq v12 w' => ∃ (x12_1 : Int), v12 = .int .i64 x12_1 ∧ Aside0 (ropeladderlaw02_SchedKeeps.l0 kq t227 t228 (wrap64 (t228 + (Int.tmod (wrap64 (a2)) 30))) t229 t232 x12_1 = some r) ∧ Aside0 (kq ≤ k) ∧ Aside0 (Kd.R (Kd.int .i64) 3 w' w.heap.size (fun k_ => some k_ ≠ ((.slice Ao15 t232.length co15) : Value).ownBlock) (.slice Ao13 t229.length co13) t229) ∧ Aside0 (Kd.R (Kd.int .i64) 3 w' w.heap.size (fun k_ => some k_ ≠ ((.slice Ao13 t229.length co13) : Value).ownBlock) (.slice Ao15 t232.length co15) t232) ∧ Aside0 (Below w.heap.size w w'))
      case atStart => exact ⟨(0), (by first | rfl | (simp; done) | (simp [*]; done)), H', ⟨Nat.le_refl _⟩, ⟨by (with_reducible repeat (first | apply Kd.R_alloc | apply Kd.R_drewN | apply Kd.R_drew)); exact Kd.R_mono HO231.out (fun _ hk => hk.2)⟩, ⟨by (with_reducible repeat (first | apply Kd.R_alloc | apply Kd.R_drewN | apply Kd.R_drew)); exact Kd.R_mono HO234.out (fun _ hk => hk.2)⟩, ⟨by repeat (first | (with_reducible first | exact HB.out | apply below_alloc | apply pw_below_drewN | apply below_drew1) | exact HB.out)⟩⟩
      case round =>
        clear H'
        try clear c1
        try clear p2
        try clear c5
        try clear c5b0
        try clear c5b1
        try clear c6
        try clear p6
        try clear c10
        try clear c10b0
        try clear c10b1
        try clear c10b2
        obtain ⟨x12_1, rfl, HA, HK1, HO_10, HO_11, HB⟩ := hrel
        cases gk with
        | zero => exact absurd HA.out (by simp [ropeladderlaw02_SchedKeeps.l0])
        | succ k1 =>
          have H := HA.out
          clear HA
          simp only [ropeladderlaw02_SchedKeeps.l0] at H
          by_cases c16 : x12_1 < (t232.length : Int)
          · rw [if_pos c16] at H
            have c16b0 : decide (x12_1 < (t232.length : Int)) = true := decide_eq_true c16
            clear c16
            have H' := Aside0.mk H
            clear H
            go_wp2
            repeat (go_quiet (fail); try go_wp2)
            go_loopg [13, 14, 15] k1 (fun kq v13 v14 v15 w' => ∃ (x13_2 : Int) (x14_2 : Int) (x15_2 : Int), v13 = .int .i64 x13_2 ∧ v14 = .int .i64 x14_2 ∧ v15 = .int .i64 x15_2 ∧ Aside0 (ropeladderlaw02_SchedKeeps.l1 kq t227 t228 (wrap64 (t228 + (Int.tmod (wrap64 (a2)) 30))) t229 t232 x12_1 x13_2 x14_2 x15_2 = some r) ∧ Aside0 (kq ≤ k1) ∧ Aside0 (Kd.R (Kd.int .i64) 3 w' w.heap.size (fun k_ => some k_ ≠ ((.slice Ao15 t232.length co15) : Value).ownBlock) (.slice Ao13 t229.length co13) t229) ∧ Aside0 (Kd.R (Kd.int .i64) 3 w' w.heap.size (fun k_ => some k_ ≠ ((.slice Ao13 t229.length co13) : Value).ownBlock) (.slice Ao15 t232.length co15) t232) ∧ Aside0 (Below w.heap.size w w'))
            case atStart => exact ⟨(0), (0), (0), (by first | rfl | (simp; done) | (simp [*]; done)), (by first | rfl | (simp; done) | (simp [*]; done)), (by first | rfl | (simp; done) | (simp [*]; done)), H', ⟨Nat.le_refl _⟩, ⟨by (with_reducible repeat (first | apply Kd.R_alloc | apply Kd.R_drewN | apply Kd.R_drew)); exact HO_10.out⟩, ⟨by (with_reducible repeat (first | apply Kd.R_alloc | apply Kd.R_drewN | apply Kd.R_drew)); exact HO_11.out⟩, ⟨by repeat (first | (with_reducible first | exact HB.out | apply below_alloc | apply pw_below_drewN | apply below_drew1) | exact HB.out)⟩⟩
            case round =>
              clear H'
              try clear c1
              try clear p2
              try clear c5
              try clear c5b0
              try clear c5b1
              try clear c6
              try clear p6
              try clear c10
              try clear c10b0
              try clear c10b1
              try clear c10b2
              try clear c16
              try clear c16b0
              try clear p2
              try clear p6
              obtain ⟨x13_2, x14_2, x15_2, rfl, rfl, rfl, HA, HK2, HO_10, HO_11, HB⟩ := hrel
              cases gk with
              | zero => exact absurd HA.out (by simp [ropeladderlaw02_SchedKeeps.l1])
              | succ k2 =>
                have H := HA.out
                clear HA
                simp only [ropeladderlaw02_SchedKeeps.l1] at H
                by_cases c17 : x15_2 < t228
                · rw [if_pos c17] at H
                  have c17b0 : decide (x15_2 < t228) = true := decide_eq_true c17
                  clear c17
                  have H' := Aside0.mk H
                  clear H
                  go_wp2
                  repeat (go_quiet (fail); try go_wp2)
                  go_loopg [16, 17] k2 (fun kq v16 v17 w' => ∃ (x16_3 : Int) (x17_3 : Int), v16 = .int .i64 x16_3 ∧ v17 = .int .i64 x17_3 ∧ Aside0 (ropeladderlaw02_SchedKeeps.l2 kq t227 t228 (wrap64 (t228 + (Int.tmod (wrap64 (a2)) 30))) t229 t232 x12_1 x13_2 x14_2 x15_2 x16_3 x17_3 = some r) ∧ Aside0 (kq ≤ k2) ∧ Aside0 (Kd.R (Kd.int .i64) 3 w' w.heap.size (fun k_ => some k_ ≠ ((.slice Ao15 t232.length co15) : Value).ownBlock) (.slice Ao13 t229.length co13) t229) ∧ Aside0 (Kd.R (Kd.int .i64) 3 w' w.heap.size (fun k_ => some k_ ≠ ((.slice Ao13 t229.length co13) : Value).ownBlock) (.slice Ao15 t232.length co15) t232) ∧ Aside0 (Below w.heap.size w w'))
                  case atStart => exact ⟨(0), (wrap64 (x12_1 - 1)), (by first | rfl | (simp; done) | (simp [*]; done)), (by first | rfl | (simp; done) | (simp [*]; done)), H', ⟨Nat.le_refl _⟩, ⟨by (with_reducible repeat (first | apply Kd.R_alloc | apply Kd.R_drewN | apply Kd.R_drew)); exact HO_10.out⟩, ⟨by (with_reducible repeat (first | apply Kd.R_alloc | apply Kd.R_drewN | apply Kd.R_drew)); exact HO_11.out⟩, ⟨by repeat (first | (with_reducible first | exact HB.out | apply below_alloc | apply pw_below_drewN | apply below_drew1) | exact HB.out)⟩⟩
                  case round =>
                    clear H'
                    try clear c1
                    try clear p2
                    try clear c5
                    try clear c5b0
                    try clear c5b1
                    try clear c6
                    try clear p6
                    try clear c10
                    try clear c10b0
                    try clear c10b1
                    try clear c10b2
                    try clear c16
                    try clear c16b0
                    try clear c17
                    try clear c17b0
                    try clear p2
                    try clear p6
                    obtain ⟨x16_3, x17_3, rfl, rfl, HA, HK3, HO_10, HO_11, HB⟩ := hrel
                    cases gk with
                    | zero => exact absurd HA.out (by simp [ropeladderlaw02_SchedKeeps.l2])
                    | succ k3 =>
                      have H := HA.out
                      clear HA
                      simp only [ropeladderlaw02_SchedKeeps.l2] at H
                      by_cases c18 : x17_3 ≥ 0
                      · rw [if_pos c18] at H
                        have c18b0 : decide (0 ≤ x17_3) = true := decide_eq_true c18
                        clear c18
                        by_cases c19 : 0 ≤ x17_3
                        · rw [if_pos c19] at H
                          have c19b0 : decide (0 ≤ x17_3) = true := decide_eq_true c19
                          clear c19
                          by_cases c20 : x17_3 < (t232.length : Int)
                          · rw [if_pos c20] at H
                            have c20b0 : decide (x17_3 < (t232.length : Int)) = true := decide_eq_true c20
                            clear c20
                            by_cases c21 : (rd t232 x17_3) = x15_2
                            · rw [if_pos c21] at H
                              have c21b0 : ((rd t232 x17_3) == x15_2) = true := beq_iff_eq.mpr c21
                              have c21b1 : ((rd t232 x17_3) != x15_2) = false := bne_eq_false_iff_eq.mpr c21
                              clear c21
                              obtain ⟨ji22, hji22⟩ : ∃ j_ : Int, (mx x13_2 x16_3) = j_ := ⟨_, rfl⟩
                              replace H : (if 0 ≤ x12_1 then (if x12_1 < (t232.length : Int) then (if x15_2 = (rd t232 x12_1) then (ropeladderlaw02_SchedKeeps.l1 k3 t227 t228 (wrap64 (t228 + (Int.tmod (wrap64 (a2)) 30))) t229 t232 x12_1 ji22 x16_3 (wrap64 (x15_2 + 1))) else (ropeladderlaw02_SchedKeeps.l1 k3 t227 t228 (wrap64 (t228 + (Int.tmod (wrap64 (a2)) 30))) t229 t232 x12_1 ji22 x14_2 (wrap64 (x15_2 + 1)))) else (none)) else (none)) = some r := by first | (rw [hji22] at H; exact H) | (simp only [hji22] at H ⊢; exact H)
                              have hji22_ : (if x13_2 < x16_3 then x16_3 else x13_2) = ji22 := hji22
                              by_cases c23 : 0 ≤ x12_1
                              · rw [if_pos c23] at H
                                have c23b0 : decide (0 ≤ x12_1) = true := decide_eq_true c23
                                clear c23
                                by_cases c24 : x12_1 < (t232.length : Int)
                                · rw [if_pos c24] at H
                                  have c24b0 : decide (x12_1 < (t232.length : Int)) = true := decide_eq_true c24
                                  clear c24
                                  by_cases c25 : x15_2 = (rd t232 x12_1)
                                  · rw [if_pos c25] at H
                                    have c25b0 : (x15_2 == (rd t232 x12_1)) = true := beq_iff_eq.mpr c25
                                    have c25b1 : (x15_2 != (rd t232 x12_1)) = false := bne_eq_false_iff_eq.mpr c25
                                    clear c25
                                    have H' := Aside0.mk H
                                    clear H
                                    have p237 : 0 ≤ (x17_3 : Int) := of_decide_eq_true (by first | (with_reducible assumption) | assumption)
                                    have q237 : x17_3 < (t232.length : Int) := of_decide_eq_true (by first | (with_reducible assumption) | assumption)
                                    obtain ⟨ad237, e237, hx237_0⟩ := Kd.at_int (Kd.R_reads' HO_11.out).2.2 x17_3 p237 q237
                                    cases e237
                                    replace p237 := eq_true p237
                                    replace q237 := eq_true q237
                                    have p238 : 0 ≤ (x12_1 : Int) := of_decide_eq_true (by first | (with_reducible assumption) | assumption)
                                    have q238 : x12_1 < (t232.length : Int) := of_decide_eq_true (by first | (with_reducible assumption) | assumption)
                                    obtain ⟨ad238, e238, hx238_0⟩ := Kd.at_int (Kd.R_reads' HO_11.out).2.2 x12_1 p238 q238
                                    obtain rfl : ad237 = ad238 := (by injection e238)
                                    replace p238 := eq_true p238
                                    replace q238 := eq_true q238
                                    go_wp2
                                    repeat (go_quiet (fail); try go_wp2)
                                    go_roundg k3
                                    case measure => have := HK1.out; have := HK2.out; have := HK3.out; omega
                                    case rel => exact ⟨(ji22), (x16_3), (wrap64 (x15_2 + 1)), (by first | rfl | (simp; done) | (simp only [← hji22] <;> (first | rfl | simp)) | (simp [*]; done)), (by first | rfl | (simp; done) | (simp [*]; done)), (by first | rfl | (simp; done) | (simp [*]; done)), H', ⟨by have := HK1.out; have := HK2.out; have := HK3.out; omega⟩, ⟨by (with_reducible repeat (first | apply Kd.R_alloc | apply Kd.R_drewN | apply Kd.R_drew)); exact HO_10.out⟩, ⟨by (with_reducible repeat (first | apply Kd.R_alloc | apply Kd.R_drewN | apply Kd.R_drew)); exact HO_11.out⟩, ⟨by repeat (first | (with_reducible first | exact HB.out | apply below_alloc | apply pw_below_drewN | apply below_drew1) | exact HB.out)⟩⟩
                                  · rw [if_neg c25] at H
                                    have c25b0 : (x15_2 == (rd t232 x12_1)) = false := beq_eq_false_iff_ne.mpr c25
                                    have c25b1 : (x15_2 != (rd t232 x12_1)) = true := bne_iff_ne.mpr c25
                                    have H' := Aside0.mk H
                                    clear H
                                    have p237 : 0 ≤ (x17_3 : Int) := of_decide_eq_true (by first | (with_reducible assumption) | assumption)
                                    have q237 : x17_3 < (t232.length : Int) := of_decide_eq_true (by first | (with_reducible assumption) | assumption)
                                    obtain ⟨ad237, e237, hx237_0⟩ := Kd.at_int (Kd.R_reads' HO_11.out).2.2 x17_3 p237 q237
                                    cases e237
                                    replace p237 := eq_true p237
                                    replace q237 := eq_true q237
                                    have p238 : 0 ≤ (x12_1 : Int) := of_decide_eq_true (by first | (with_reducible assumption) | assumption)
                                    have q238 : x12_1 < (t232.length : Int) := of_decide_eq_true (by first | (with_reducible assumption) | assumption)
                                    obtain ⟨ad238, e238, hx238_0⟩ := Kd.at_int (Kd.R_reads' HO_11.out).2.2 x12_1 p238 q238
                                    obtain rfl : ad237 = ad238 := (by injection e238)
                                    replace p238 := eq_true p238
                                    replace q238 := eq_true q238
                                    go_wp2
                                    repeat (go_quiet (fail); try go_wp2)
                                    go_roundg k3
                                    case measure => have := HK1.out; have := HK2.out; have := HK3.out; omega
                                    case rel => exact ⟨(ji22), (x14_2), (wrap64 (x15_2 + 1)), (by first | rfl | (simp; done) | (simp only [← hji22] <;> (first | rfl | simp)) | (simp [*]; done)), (by first | rfl | (simp; done) | (simp [*]; done)), (by first | rfl | (simp; done) | (simp [*]; done)), H', ⟨by have := HK1.out; have := HK2.out; have := HK3.out; omega⟩, ⟨by (with_reducible repeat (first | apply Kd.R_alloc | apply Kd.R_drewN | apply Kd.R_drew)); exact HO_10.out⟩, ⟨by (with_reducible repeat (first | apply Kd.R_alloc | apply Kd.R_drewN | apply Kd.R_drew)); exact HO_11.out⟩, ⟨by repeat (first | (with_reducible first | exact HB.out | apply below_alloc | apply pw_below_drewN | apply below_drew1) | exact HB.out)⟩⟩
                                · rw [if_neg c24] at H
                                  exact absurd H (by simp)
                              · rw [if_neg c23] at H
                                exact absurd H (by simp)
                            · rw [if_neg c21] at H
                              have c21b0 : ((rd t232 x17_3) == x15_2) = false := beq_eq_false_iff_ne.mpr c21
                              have c21b1 : ((rd t232 x17_3) != x15_2) = true := bne_iff_ne.mpr c21
                              have H' := Aside0.mk H
                              clear H
                              have p237 : 0 ≤ (x17_3 : Int) := of_decide_eq_true (by first | (with_reducible assumption) | assumption)
                              have q237 : x17_3 < (t232.length : Int) := of_decide_eq_true (by first | (with_reducible assumption) | assumption)
                              obtain ⟨ad237, e237, hx237_0⟩ := Kd.at_int (Kd.R_reads' HO_11.out).2.2 x17_3 p237 q237
                              cases e237
                              replace p237 := eq_true p237
                              replace q237 := eq_true q237
                              go_wp2
                              repeat (go_quiet (fail); try go_wp2)
                              go_roundg k3
                              case measure => have := HK1.out; have := HK2.out; have := HK3.out; omega
                              case rel => exact ⟨(wrap64 (x16_3 + 1)), (wrap64 (x17_3 - 1)), (by first | rfl | (simp; done) | (simp [*]; done)), (by first | rfl | (simp; done) | (simp [*]; done)), H', ⟨by have := HK1.out; have := HK2.out; have := HK3.out; omega⟩, ⟨by (with_reducible repeat (first | apply Kd.R_alloc | apply Kd.R_drewN | apply Kd.R_drew)); exact HO_10.out⟩, ⟨by (with_reducible repeat (first | apply Kd.R_alloc | apply Kd.R_drewN | apply Kd.R_drew)); exact HO_11.out⟩, ⟨by repeat (first | (with_reducible first | exact HB.out | apply below_alloc | apply pw_below_drewN | apply below_drew1) | exact HB.out)⟩⟩
                          · rw [if_neg c20] at H
                            exact absurd H (by simp)
                        · rw [if_neg c19] at H
                          exact absurd H (by simp)
                      · rw [if_neg c18] at H
                        have c18b0 : decide (0 ≤ x17_3) = false := decide_eq_false c18
                        clear c18
                        obtain ⟨ji26, hji26⟩ : ∃ j_ : Int, (mx x13_2 x16_3) = j_ := ⟨_, rfl⟩
                        replace H : (if 0 ≤ x12_1 then (if x12_1 < (t232.length : Int) then (if x15_2 = (rd t232 x12_1) then (ropeladderlaw02_SchedKeeps.l1 k3 t227 t228 (wrap64 (t228 + (Int.tmod (wrap64 (a2)) 30))) t229 t232 x12_1 ji26 x16_3 (wrap64 (x15_2 + 1))) else (ropeladderlaw02_SchedKeeps.l1 k3 t227 t228 (wrap64 (t228 + (Int.tmod (wrap64 (a2)) 30))) t229 t232 x12_1 ji26 x14_2 (wrap64 (x15_2 + 1)))) else (none)) else (none)) = some r := by first | (rw [hji26] at H; exact H) | (simp only [hji26] at H ⊢; exact H)
                        have hji26_ : (if x13_2 < x16_3 then x16_3 else x13_2) = ji26 := hji26
                        by_cases c27 : 0 ≤ x12_1
                        · rw [if_pos c27] at H
                          have c27b0 : decide (0 ≤ x12_1) = true := decide_eq_true c27
                          clear c27
                          by_cases c28 : x12_1 < (t232.length : Int)
                          · rw [if_pos c28] at H
                            have c28b0 : decide (x12_1 < (t232.length : Int)) = true := decide_eq_true c28
                            clear c28
                            by_cases c29 : x15_2 = (rd t232 x12_1)
                            · rw [if_pos c29] at H
                              have c29b0 : (x15_2 == (rd t232 x12_1)) = true := beq_iff_eq.mpr c29
                              have c29b1 : (x15_2 != (rd t232 x12_1)) = false := bne_eq_false_iff_eq.mpr c29
                              clear c29
                              have H' := Aside0.mk H
                              clear H
                              have p239 : 0 ≤ (x12_1 : Int) := of_decide_eq_true (by first | (with_reducible assumption) | assumption)
                              have q239 : x12_1 < (t232.length : Int) := of_decide_eq_true (by first | (with_reducible assumption) | assumption)
                              obtain ⟨ad239, e239, hx239_0⟩ := Kd.at_int (Kd.R_reads' HO_11.out).2.2 x12_1 p239 q239
                              cases e239
                              replace p239 := eq_true p239
                              replace q239 := eq_true q239
                              go_wp2
                              repeat (go_quiet (fail); try go_wp2)
                              go_roundg k3
                              case measure => have := HK1.out; have := HK2.out; have := HK3.out; omega
                              case rel => exact ⟨(ji26), (x16_3), (wrap64 (x15_2 + 1)), (by first | rfl | (simp; done) | (simp only [← hji26] <;> (first | rfl | simp)) | (simp [*]; done)), (by first | rfl | (simp; done) | (simp [*]; done)), (by first | rfl | (simp; done) | (simp [*]; done)), H', ⟨by have := HK1.out; have := HK2.out; have := HK3.out; omega⟩, ⟨by (with_reducible repeat (first | apply Kd.R_alloc | apply Kd.R_drewN | apply Kd.R_drew)); exact HO_10.out⟩, ⟨by (with_reducible repeat (first | apply Kd.R_alloc | apply Kd.R_drewN | apply Kd.R_drew)); exact HO_11.out⟩, ⟨by repeat (first | (with_reducible first | exact HB.out | apply below_alloc | apply pw_below_drewN | apply below_drew1) | exact HB.out)⟩⟩
                            · rw [if_neg c29] at H
                              have c29b0 : (x15_2 == (rd t232 x12_1)) = false := beq_eq_false_iff_ne.mpr c29
                              have c29b1 : (x15_2 != (rd t232 x12_1)) = true := bne_iff_ne.mpr c29
                              have H' := Aside0.mk H
                              clear H
                              have p239 : 0 ≤ (x12_1 : Int) := of_decide_eq_true (by first | (with_reducible assumption) | assumption)
                              have q239 : x12_1 < (t232.length : Int) := of_decide_eq_true (by first | (with_reducible assumption) | assumption)
                              obtain ⟨ad239, e239, hx239_0⟩ := Kd.at_int (Kd.R_reads' HO_11.out).2.2 x12_1 p239 q239
                              cases e239
                              replace p239 := eq_true p239
                              replace q239 := eq_true q239
                              go_wp2
                              repeat (go_quiet (fail); try go_wp2)
                              go_roundg k3
                              case measure => have := HK1.out; have := HK2.out; have := HK3.out; omega
                              case rel => exact ⟨(ji26), (x14_2), (wrap64 (x15_2 + 1)), (by first | rfl | (simp; done) | (simp only [← hji26] <;> (first | rfl | simp)) | (simp [*]; done)), (by first | rfl | (simp; done) | (simp [*]; done)), (by first | rfl | (simp; done) | (simp [*]; done)), H', ⟨by have := HK1.out; have := HK2.out; have := HK3.out; omega⟩, ⟨by (with_reducible repeat (first | apply Kd.R_alloc | apply Kd.R_drewN | apply Kd.R_drew)); exact HO_10.out⟩, ⟨by (with_reducible repeat (first | apply Kd.R_alloc | apply Kd.R_drewN | apply Kd.R_drew)); exact HO_11.out⟩, ⟨by repeat (first | (with_reducible first | exact HB.out | apply below_alloc | apply pw_below_drewN | apply below_drew1) | exact HB.out)⟩⟩
                          · rw [if_neg c28] at H
                            exact absurd H (by simp)
                        · rw [if_neg c27] at H
                          exact absurd H (by simp)
                · rw [if_neg c17] at H
                  have c17b0 : decide (x15_2 < t228) = false := decide_eq_false c17
                  clear c17
                  by_cases c30 : x13_2 < (wrap64 ((wrap64 (t228 + (Int.tmod (wrap64 (a2)) 30))) - t228))
                  · rw [if_pos c30] at H
                    have c30b0 : decide (x13_2 < (wrap64 ((wrap64 (t228 + (Int.tmod (wrap64 (a2)) 30))) - t228))) = true := decide_eq_true c30
                    clear c30
                    by_cases c31 : 0 ≤ x12_1
                    · rw [if_pos c31] at H
                      have c31b0 : decide (0 ≤ x12_1) = true := decide_eq_true c31
                      clear c31
                      by_cases c32 : x12_1 < (t232.length : Int)
                      · rw [if_pos c32] at H
                        have c32b0 : decide (x12_1 < (t232.length : Int)) = true := decide_eq_true c32
                        clear c32
                        by_cases c33 : x12_1 < (t229.length : Int)
                        · rw [if_pos c33] at H
                          have c33b0 : decide (x12_1 < (t229.length : Int)) = true := decide_eq_true c33
                          clear c33
                          by_cases c34 : (rd t232 x12_1) = (rd t229 x12_1)
                          · rw [if_pos c34] at H
                            have c34b0 : ((rd t232 x12_1) == (rd t229 x12_1)) = true := beq_iff_eq.mpr c34
                            have c34b1 : ((rd t232 x12_1) != (rd t229 x12_1)) = false := bne_eq_false_iff_eq.mpr c34
                            clear c34
                            by_cases c35 : x13_2 ≥ (wrap64 ((wrap64 (t228 + (Int.tmod (wrap64 (a2)) 30))) - t228))
                            · rw [if_pos c35] at H
                              have c35b0 : decide ((wrap64 ((wrap64 (t228 + (Int.tmod (wrap64 (a2)) 30))) - t228)) ≤ x13_2) = true := decide_eq_true c35
                              clear c35
                              by_cases c36 : x14_2 = x13_2
                              · rw [if_pos c36] at H
                                have c36b0 : (x14_2 == x13_2) = true := beq_iff_eq.mpr c36
                                have c36b1 : (x14_2 != x13_2) = false := bne_eq_false_iff_eq.mpr c36
                                clear c36
                                have H' := Aside0.mk H
                                clear H
                                have p235 : 0 ≤ (x12_1 : Int) := of_decide_eq_true (by first | (with_reducible assumption) | assumption)
                                have q235 : x12_1 < (t232.length : Int) := of_decide_eq_true (by first | (with_reducible assumption) | assumption)
                                obtain ⟨ad235, e235, hx235_0⟩ := Kd.at_int (Kd.R_reads' HO_11.out).2.2 x12_1 p235 q235
                                cases e235
                                replace p235 := eq_true p235
                                replace q235 := eq_true q235
                                have p236 : 0 ≤ (x12_1 : Int) := of_decide_eq_true (by first | (with_reducible assumption) | assumption)
                                have q236 : x12_1 < (t229.length : Int) := of_decide_eq_true (by first | (with_reducible assumption) | assumption)
                                obtain ⟨ad236, e236, hx236_0⟩ := Kd.at_int (Kd.R_reads' HO_10.out).2.2 x12_1 p236 q236
                                cases e236
                                replace p236 := eq_true p236
                                replace q236 := eq_true q236
                                go_wp2
                                repeat (go_quiet (fail); try go_wp2)
                                go_roundg k2
                                case measure => have := HK1.out; have := HK2.out; omega
                                case rel => exact ⟨(wrap64 (x12_1 + 1)), (by first | rfl | (simp; done) | (simp [*]; done)), H', ⟨by have := HK1.out; have := HK2.out; omega⟩, ⟨by (with_reducible repeat (first | apply Kd.R_alloc | apply Kd.R_drewN | apply Kd.R_drew)); exact HO_10.out⟩, ⟨by (with_reducible repeat (first | apply Kd.R_alloc | apply Kd.R_drewN | apply Kd.R_drew)); exact HO_11.out⟩, ⟨by repeat (first | (with_reducible first | exact HB.out | apply below_alloc | apply pw_below_drewN | apply below_drew1) | exact HB.out)⟩⟩
                              · rw [if_neg c36] at H
                                have c36b0 : (x14_2 == x13_2) = false := beq_eq_false_iff_ne.mpr c36
                                have c36b1 : (x14_2 != x13_2) = true := bne_iff_ne.mpr c36
                                obtain rfl := Option.some.inj H
                                have p235 : 0 ≤ (x12_1 : Int) := of_decide_eq_true (by first | (with_reducible assumption) | assumption)
                                have q235 : x12_1 < (t232.length : Int) := of_decide_eq_true (by first | (with_reducible assumption) | assumption)
                                obtain ⟨ad235, e235, hx235_0⟩ := Kd.at_int (Kd.R_reads' HO_11.out).2.2 x12_1 p235 q235
                                cases e235
                                replace p235 := eq_true p235
                                replace q235 := eq_true q235
                                have p236 : 0 ≤ (x12_1 : Int) := of_decide_eq_true (by first | (with_reducible assumption) | assumption)
                                have q236 : x12_1 < (t229.length : Int) := of_decide_eq_true (by first | (with_reducible assumption) | assumption)
                                obtain ⟨ad236, e236, hx236_0⟩ := Kd.at_int (Kd.R_reads' HO_10.out).2.2 x12_1 p236 q236
                                cases e236
                                replace p236 := eq_true p236
                                replace q236 := eq_true q236
                                go_wp2
                                repeat (go_quiet (fail); try go_wp2)
                                go_ret
                                exact ⟨by first | rfl | (simp [errW_none, errW_some] <;> rfl) | (simp [*, errW_none, errW_some] <;> rfl), by repeat (first | (with_reducible first | exact HB.out | apply below_alloc | apply pw_below_drewN | apply below_drew1) | exact HB.out)⟩
                            · rw [if_neg c35] at H
                              have c35b0 : decide ((wrap64 ((wrap64 (t228 + (Int.tmod (wrap64 (a2)) 30))) - t228)) ≤ x13_2) = false := decide_eq_false c35
                              clear c35
                              have H' := Aside0.mk H
                              clear H
                              have p235 : 0 ≤ (x12_1 : Int) := of_decide_eq_true (by first | (with_reducible assumption) | assumption)
                              have q235 : x12_1 < (t232.length : Int) := of_decide_eq_true (by first | (with_reducible assumption) | assumption)
                              obtain ⟨ad235, e235, hx235_0⟩ := Kd.at_int (Kd.R_reads' HO_11.out).2.2 x12_1 p235 q235
                              cases e235
                              replace p235 := eq_true p235
                              replace q235 := eq_true q235
                              have p236 : 0 ≤ (x12_1 : Int) := of_decide_eq_true (by first | (with_reducible assumption) | assumption)
                              have q236 : x12_1 < (t229.length : Int) := of_decide_eq_true (by first | (with_reducible assumption) | assumption)
                              obtain ⟨ad236, e236, hx236_0⟩ := Kd.at_int (Kd.R_reads' HO_10.out).2.2 x12_1 p236 q236
                              cases e236
                              replace p236 := eq_true p236
                              replace q236 := eq_true q236
                              go_wp2
                              repeat (go_quiet (fail); try go_wp2)
                              go_roundg k2
                              case measure => have := HK1.out; have := HK2.out; omega
                              case rel => exact ⟨(wrap64 (x12_1 + 1)), (by first | rfl | (simp; done) | (simp [*]; done)), H', ⟨by have := HK1.out; have := HK2.out; omega⟩, ⟨by (with_reducible repeat (first | apply Kd.R_alloc | apply Kd.R_drewN | apply Kd.R_drew)); exact HO_10.out⟩, ⟨by (with_reducible repeat (first | apply Kd.R_alloc | apply Kd.R_drewN | apply Kd.R_drew)); exact HO_11.out⟩, ⟨by repeat (first | (with_reducible first | exact HB.out | apply below_alloc | apply pw_below_drewN | apply below_drew1) | exact HB.out)⟩⟩
                          · rw [if_neg c34] at H
                            have c34b0 : ((rd t232 x12_1) == (rd t229 x12_1)) = false := beq_eq_false_iff_ne.mpr c34
                            have c34b1 : ((rd t232 x12_1) != (rd t229 x12_1)) = true := bne_iff_ne.mpr c34
                            obtain rfl := Option.some.inj H
                            have p235 : 0 ≤ (x12_1 : Int) := of_decide_eq_true (by first | (with_reducible assumption) | assumption)
                            have q235 : x12_1 < (t232.length : Int) := of_decide_eq_true (by first | (with_reducible assumption) | assumption)
                            obtain ⟨ad235, e235, hx235_0⟩ := Kd.at_int (Kd.R_reads' HO_11.out).2.2 x12_1 p235 q235
                            cases e235
                            replace p235 := eq_true p235
                            replace q235 := eq_true q235
                            have p236 : 0 ≤ (x12_1 : Int) := of_decide_eq_true (by first | (with_reducible assumption) | assumption)
                            have q236 : x12_1 < (t229.length : Int) := of_decide_eq_true (by first | (with_reducible assumption) | assumption)
                            obtain ⟨ad236, e236, hx236_0⟩ := Kd.at_int (Kd.R_reads' HO_10.out).2.2 x12_1 p236 q236
                            cases e236
                            replace p236 := eq_true p236
                            replace q236 := eq_true q236
                            go_wp2
                            repeat (go_quiet (fail); try go_wp2)
                            go_ret
                            exact ⟨by first | rfl | (simp [errW_none, errW_some] <;> rfl) | (simp [*, errW_none, errW_some] <;> rfl), by repeat (first | (with_reducible first | exact HB.out | apply below_alloc | apply pw_below_drewN | apply below_drew1) | exact HB.out)⟩
                        · rw [if_neg c33] at H
                          exact absurd H (by simp)
                      · rw [if_neg c32] at H
                        exact absurd H (by simp)
                    · rw [if_neg c31] at H
                      exact absurd H (by simp)
                  · rw [if_neg c30] at H
                    have c30b0 : decide (x13_2 < (wrap64 ((wrap64 (t228 + (Int.tmod (wrap64 (a2)) 30))) - t228))) = false := decide_eq_false c30
                    clear c30
                    by_cases c37 : x13_2 ≥ (wrap64 ((wrap64 (t228 + (Int.tmod (wrap64 (a2)) 30))) - t228))
                    · rw [if_pos c37] at H
                      have c37b0 : decide ((wrap64 ((wrap64 (t228 + (Int.tmod (wrap64 (a2)) 30))) - t228)) ≤ x13_2) = true := decide_eq_true c37
                      clear c37
                      by_cases c38 : x14_2 = x13_2
                      · rw [if_pos c38] at H
                        have c38b0 : (x14_2 == x13_2) = true := beq_iff_eq.mpr c38
                        have c38b1 : (x14_2 != x13_2) = false := bne_eq_false_iff_eq.mpr c38
                        clear c38
                        have H' := Aside0.mk H
                        clear H
                        go_wp2
                        repeat (go_quiet (fail); try go_wp2)
                        go_roundg k2
                        case measure => have := HK1.out; have := HK2.out; omega
                        case rel => exact ⟨(wrap64 (x12_1 + 1)), (by first | rfl | (simp; done) | (simp [*]; done)), H', ⟨by have := HK1.out; have := HK2.out; omega⟩, ⟨by (with_reducible repeat (first | apply Kd.R_alloc | apply Kd.R_drewN | apply Kd.R_drew)); exact HO_10.out⟩, ⟨by (with_reducible repeat (first | apply Kd.R_alloc | apply Kd.R_drewN | apply Kd.R_drew)); exact HO_11.out⟩, ⟨by repeat (first | (with_reducible first | exact HB.out | apply below_alloc | apply pw_below_drewN | apply below_drew1) | exact HB.out)⟩⟩
                      · rw [if_neg c38] at H
                        have c38b0 : (x14_2 == x13_2) = false := beq_eq_false_iff_ne.mpr c38
                        have c38b1 : (x14_2 != x13_2) = true := bne_iff_ne.mpr c38
                        obtain rfl := Option.some.inj H
                        go_wp2
                        repeat (go_quiet (fail); try go_wp2)
                        go_ret
                        exact ⟨by first | rfl | (simp [errW_none, errW_some] <;> rfl) | (simp [*, errW_none, errW_some] <;> rfl), by repeat (first | (with_reducible first | exact HB.out | apply below_alloc | apply pw_below_drewN | apply below_drew1) | exact HB.out)⟩
                    · rw [if_neg c37] at H
                      have c37b0 : decide ((wrap64 ((wrap64 (t228 + (Int.tmod (wrap64 (a2)) 30))) - t228)) ≤ x13_2) = false := decide_eq_false c37
                      clear c37
                      have H' := Aside0.mk H
                      clear H
                      go_wp2
                      repeat (go_quiet (fail); try go_wp2)
                      go_roundg k2
                      case measure => have := HK1.out; have := HK2.out; omega
                      case rel => exact ⟨(wrap64 (x12_1 + 1)), (by first | rfl | (simp; done) | (simp [*]; done)), H', ⟨by have := HK1.out; have := HK2.out; omega⟩, ⟨by (with_reducible repeat (first | apply Kd.R_alloc | apply Kd.R_drewN | apply Kd.R_drew)); exact HO_10.out⟩, ⟨by (with_reducible repeat (first | apply Kd.R_alloc | apply Kd.R_drewN | apply Kd.R_drew)); exact HO_11.out⟩, ⟨by repeat (first | (with_reducible first | exact HB.out | apply below_alloc | apply pw_below_drewN | apply below_drew1) | exact HB.out)⟩⟩
          · rw [if_neg c16] at H
            have c16b0 : decide (x12_1 < (t232.length : Int)) = false := decide_eq_false c16
            clear c16
            obtain rfl := Option.some.inj H
            go_wp2
            repeat (go_quiet (fail); try go_wp2)
            go_ret
            exact ⟨by first | rfl | (simp [errW_none, errW_some] <;> rfl) | (simp [*, errW_none, errW_some] <;> rfl), by repeat (first | (with_reducible first | exact HB.out | apply below_alloc | apply pw_below_drewN | apply below_drew1) | exact HB.out)⟩
    · rw [if_neg c10] at H
      have c10b0 : ((t232.length : Int) == (t229.length : Int)) = false := beq_eq_false_iff_ne.mpr c10
      have c10b1 : ((t232.length : Int) != (t229.length : Int)) = true := bne_iff_ne.mpr c10
      have c10b2 : (t232.length == t229.length) = false := by first | simpa using c10 | (simp at c10 ⊢; omega)
      obtain rfl := Option.some.inj H
      go_enter Try.func6, Try.ntmps6
      go_wp2_with (first | (go_at_call 9; (with_reducible refine (ropeladderlaw02_head.calls k  t227 _ A4.out).mono ?_); rintro e w39 ⟨rfl, hb⟩; have n0_ := Aside0.mk (below_step (by repeat (first | (with_reducible first | exact HB.out | apply below_alloc | apply pw_below_drewN | apply below_drew1) | exact HB.out)) hb); clear HB; have HB := n0_; clear n0_; (try clear hb); (try clear hb2); (try clear hk); (try clear hi)) | (go_at_call 10; (with_reducible refine (ropeladderlaw02_Threads.calls a0 t228 _ A7.out).mono ?_); rintro e w' ⟨rfl, ⟨nd, rfl⟩⟩; (try first | exact ⟨rfl, _, World.drewN_drewN _ _ _⟩ | exact ⟨rfl, _, Eq.trans (World.drewN_drewN _ _ _) (congrArg (World.drewN _) (Nat.add_assoc _ _ _))⟩)) | (go_at_call 11; (with_reducible refine (ropeladderlaw02_Picks.calls k _ _ l1 t228 t229 _ ?side1 ?side2 A8.out).mono ?_); (case side1 => repeat (first | exact (Kd.C_below HR1.out (by repeat (first | (with_reducible first | exact HB.out | apply below_alloc | apply pw_below_drewN | apply below_drew1) | exact HB.out))) | (with_reducible refine Kd.C_alloc ?_ _) | (with_reducible refine Kd.C_drewN ?_ _) | (with_reducible refine Kd.C_drew ?_))); (case side2 => exact HC1.out); rintro e w40 ⟨v230, rfl, ho0, hb⟩; have n0_ := Aside0.mk (Kd.R_lower ho0 (below_size (by repeat (first | (with_reducible first | exact HB.out | apply below_alloc | apply pw_below_drewN | apply below_drew1) | exact HB.out)))); have n1_ := Aside0.mk (below_step (by repeat (first | (with_reducible first | exact HB.out | apply below_alloc | apply pw_below_drewN | apply below_drew1) | exact HB.out)) hb); clear HB; have HO231 := n0_; have HB := n1_; clear n0_ n1_; (try clear hb); (try clear hb2); (try clear hk); (try clear hi); (try clear ho0); obtain ⟨Ao41, co41, eo41⟩ := Kd.R_slice HO231.out; subst eo41) | (go_at_call 19; (with_reducible refine (sched_Repair.calls _ _ t229 t228 (wrap64 (t228 + (Int.tmod (wrap64 (a2)) 30))) t232 _ ?side1 ?side2 A9.out).mono ?_); (case side1 => repeat (first | exact (Kd.R_reads' HO231.out).2.2 | (with_reducible refine Kd.C_alloc ?_ _) | (with_reducible refine Kd.C_drewN ?_ _) | (with_reducible refine Kd.C_drew ?_))); (case side2 => exact (Kd.R_reads' HO231.out).2.1); rintro e w42 ⟨v233, rfl, ho0, hb⟩; have n0_ := Aside0.mk (Kd.R_elder' (by (with_reducible repeat (first | apply Kd.R_alloc | apply Kd.R_drewN | apply Kd.R_drew)); exact HO231.out) (Kd.R_base ho0) hb); have n1_ := Aside0.mk (Kd.R_lower (Kd.R_new' ho0 (Kd.R_lt (by (with_reducible repeat (first | apply Kd.R_alloc | apply Kd.R_drewN | apply Kd.R_drew)); exact HO231.out))) (below_size (by repeat (first | (with_reducible first | exact HB.out | apply below_alloc | apply pw_below_drewN | apply below_drew1) | exact HB.out)))); have n2_ := Aside0.mk (below_step (by repeat (first | (with_reducible first | exact HB.out | apply below_alloc | apply pw_below_drewN | apply below_drew1) | exact HB.out)) hb); clear HO231; clear HB; have HO231 := n0_; have HO234 := n1_; have HB := n2_; clear n0_ n1_ n2_; (try clear hb); (try clear hb2); (try clear hk); (try clear hi); (try clear ho0); obtain ⟨Ao43, co43, eo43⟩ := Kd.R_slice HO234.out; subst eo43))
      repeat (go_quiet (first | (go_at_call 9; (with_reducible refine (ropeladderlaw02_head.calls k  t227 _ A4.out).mono ?_); clear A4; rintro e w39 ⟨rfl, hb⟩; have n0_ := Aside0.mk (below_step (by repeat (first | (with_reducible first | exact HB.out | apply below_alloc | apply pw_below_drewN | apply below_drew1) | exact HB.out)) hb); clear HB; have HB := n0_; clear n0_; (try clear hb); (try clear hb2); (try clear hk); (try clear hi)) | (go_at_call 10; (with_reducible refine (ropeladderlaw02_Threads.calls a0 t228 _ A7.out).mono ?_); clear A7; rintro e w' ⟨rfl, ⟨nd, rfl⟩⟩; (try first | exact ⟨rfl, _, World.drewN_drewN _ _ _⟩ | exact ⟨rfl, _, Eq.trans (World.drewN_drewN _ _ _) (congrArg (World.drewN _) (Nat.add_assoc _ _ _))⟩)) | (go_at_call 11; (with_reducible refine (ropeladderlaw02_Picks.calls k _ _ l1 t228 t229 _ ?side1 ?side2 A8.out).mono ?_); clear A8; (case side1 => repeat (first | exact (Kd.C_below HR1.out (by repeat (first | (with_reducible first | exact HB.out | apply below_alloc | apply pw_below_drewN | apply below_drew1) | exact HB.out))) | (with_reducible refine Kd.C_alloc ?_ _) | (with_reducible refine Kd.C_drewN ?_ _) | (with_reducible refine Kd.C_drew ?_))); (case side2 => exact HC1.out); rintro e w40 ⟨v230, rfl, ho0, hb⟩; have n0_ := Aside0.mk (Kd.R_lower ho0 (below_size (by repeat (first | (with_reducible first | exact HB.out | apply below_alloc | apply pw_below_drewN | apply below_drew1) | exact HB.out)))); have n1_ := Aside0.mk (below_step (by repeat (first | (with_reducible first | exact HB.out | apply below_alloc | apply pw_below_drewN | apply below_drew1) | exact HB.out)) hb); clear HB; have HO231 := n0_; have HB := n1_; clear n0_ n1_; (try clear hb); (try clear hb2); (try clear hk); (try clear hi); (try clear ho0); obtain ⟨Ao41, co41, eo41⟩ := Kd.R_slice HO231.out; subst eo41) | (go_at_call 19; (with_reducible refine (sched_Repair.calls _ _ t229 t228 (wrap64 (t228 + (Int.tmod (wrap64 (a2)) 30))) t232 _ ?side1 ?side2 A9.out).mono ?_); clear A9; (case side1 => repeat (first | exact (Kd.R_reads' HO231.out).2.2 | (with_reducible refine Kd.C_alloc ?_ _) | (with_reducible refine Kd.C_drewN ?_ _) | (with_reducible refine Kd.C_drew ?_))); (case side2 => exact (Kd.R_reads' HO231.out).2.1); rintro e w42 ⟨v233, rfl, ho0, hb⟩; have n0_ := Aside0.mk (Kd.R_elder' (by (with_reducible repeat (first | apply Kd.R_alloc | apply Kd.R_drewN | apply Kd.R_drew)); exact HO231.out) (Kd.R_base ho0) hb); have n1_ := Aside0.mk (Kd.R_lower (Kd.R_new' ho0 (Kd.R_lt (by (with_reducible repeat (first | apply Kd.R_alloc | apply Kd.R_drewN | apply Kd.R_drew)); exact HO231.out))) (below_size (by repeat (first | (with_reducible first | exact HB.out | apply below_alloc | apply pw_below_drewN | apply below_drew1) | exact HB.out)))); have n2_ := Aside0.mk (below_step (by repeat (first | (with_reducible first | exact HB.out | apply below_alloc | apply pw_below_drewN | apply below_drew1) | exact HB.out)) hb); clear HO231; clear HB; have HO231 := n0_; have HO234 := n1_; have HB := n2_; clear n0_ n1_ n2_; (try clear hb); (try clear hb2); (try clear hk); (try clear hi); (try clear ho0); obtain ⟨Ao43, co43, eo43⟩ := Kd.R_slice HO234.out; subst eo43)); try go_wp2_with (first | (go_at_call 9; (with_reducible refine (ropeladderlaw02_head.calls k  t227 _ A4.out).mono ?_); clear A4; rintro e w39 ⟨rfl, hb⟩; have n0_ := Aside0.mk (below_step (by repeat (first | (with_reducible first | exact HB.out | apply below_alloc | apply pw_below_drewN | apply below_drew1) | exact HB.out)) hb); clear HB; have HB := n0_; clear n0_; (try clear hb); (try clear hb2); (try clear hk); (try clear hi)) | (go_at_call 10; (with_reducible refine (ropeladderlaw02_Threads.calls a0 t228 _ A7.out).mono ?_); clear A7; rintro e w' ⟨rfl, ⟨nd, rfl⟩⟩; (try first | exact ⟨rfl, _, World.drewN_drewN _ _ _⟩ | exact ⟨rfl, _, Eq.trans (World.drewN_drewN _ _ _) (congrArg (World.drewN _) (Nat.add_assoc _ _ _))⟩)) | (go_at_call 11; (with_reducible refine (ropeladderlaw02_Picks.calls k _ _ l1 t228 t229 _ ?side1 ?side2 A8.out).mono ?_); clear A8; (case side1 => repeat (first | exact (Kd.C_below HR1.out (by repeat (first | (with_reducible first | exact HB.out | apply below_alloc | apply pw_below_drewN | apply below_drew1) | exact HB.out))) | (with_reducible refine Kd.C_alloc ?_ _) | (with_reducible refine Kd.C_drewN ?_ _) | (with_reducible refine Kd.C_drew ?_))); (case side2 => exact HC1.out); rintro e w40 ⟨v230, rfl, ho0, hb⟩; have n0_ := Aside0.mk (Kd.R_lower ho0 (below_size (by repeat (first | (with_reducible first | exact HB.out | apply below_alloc | apply pw_below_drewN | apply below_drew1) | exact HB.out)))); have n1_ := Aside0.mk (below_step (by repeat (first | (with_reducible first | exact HB.out | apply below_alloc | apply pw_below_drewN | apply below_drew1) | exact HB.out)) hb); clear HB; have HO231 := n0_; have HB := n1_; clear n0_ n1_; (try clear hb); (try clear hb2); (try clear hk); (try clear hi); (try clear ho0); obtain ⟨Ao41, co41, eo41⟩ := Kd.R_slice HO231.out; subst eo41) | (go_at_call 19; (with_reducible refine (sched_Repair.calls _ _ t229 t228 (wrap64 (t228 + (Int.tmod (wrap64 (a2)) 30))) t232 _ ?side1 ?side2 A9.out).mono ?_); clear A9; (case side1 => repeat (first | exact (Kd.R_reads' HO231.out).2.2 | (with_reducible refine Kd.C_alloc ?_ _) | (with_reducible refine Kd.C_drewN ?_ _) | (with_reducible refine Kd.C_drew ?_))); (case side2 => exact (Kd.R_reads' HO231.out).2.1); rintro e w42 ⟨v233, rfl, ho0, hb⟩; have n0_ := Aside0.mk (Kd.R_elder' (by (with_reducible repeat (first | apply Kd.R_alloc | apply Kd.R_drewN | apply Kd.R_drew)); exact HO231.out) (Kd.R_base ho0) hb); have n1_ := Aside0.mk (Kd.R_lower (Kd.R_new' ho0 (Kd.R_lt (by (with_reducible repeat (first | apply Kd.R_alloc | apply Kd.R_drewN | apply Kd.R_drew)); exact HO231.out))) (below_size (by repeat (first | (with_reducible first | exact HB.out | apply below_alloc | apply pw_below_drewN | apply below_drew1) | exact HB.out)))); have n2_ := Aside0.mk (below_step (by repeat (first | (with_reducible first | exact HB.out | apply below_alloc | apply pw_below_drewN | apply below_drew1) | exact HB.out)) hb); clear HO231; clear HB; have HO231 := n0_; have HO234 := n1_; have HB := n2_; clear n0_ n1_ n2_; (try clear hb); (try clear hb2); (try clear hk); (try clear hi); (try clear ho0); obtain ⟨Ao43, co43, eo43⟩ := Kd.R_slice HO234.out; subst eo43)))
      go_ret
      exact ⟨by first | rfl | (simp [errW_none, errW_some] <;> rfl) | (simp [*, errW_none, errW_some] <;> rfl), by repeat (first | (with_reducible first | exact HB.out | apply below_alloc | apply pw_below_drewN | apply below_drew1) | exact HB.out)⟩

/-- THE ONE PURE STATEMENT of ropeladderlaw02_SchedKeeps: yours. -/
def ropeladderlaw02_SchedKeeps.Pure : Prop := ∀ (a0 : Int) (l1 : List Int) (a2 : Int), (Lit.int .u8 a0).wf = true → l1.length ≤ maxLen → l1.length * 1 ≤ 140737488351232 → (∀ x ∈ l1, (Lit.int .u8 x).wf = true) → (Lit.int .u8 a2).wf = true → ∃ k, ropeladderlaw02_SchedKeeps.f k a0 l1 a2 = some true
theorem ropeladderlaw02_SchedKeeps.walk (P : ropeladderlaw02_SchedKeeps.Pure) (a0 : Int) (a1 : Option Addr) (len1 cap1 : Nat) (z1 : List Int) (a2 : Int) (w : World) (w0 : (Lit.int .u8 a0).wf = true) (w1 : (a1 = none ∧ len1 = 0 ∧ cap1 = 0 ∧ z1 = []) ∨ ∃ x, a1 = some x ∧ len1 ≤ cap1 ∧ cap1 ≤ maxLen ∧ z1.length = cap1 ∧ (∀ i, i < z1.length → w.cell? (x.add i) = some (.int .u8 (z1.getD i 0))) ∧ ∀ n ∈ z1, (Lit.int .u8 n).wf = true) (y1 : len1 * 1 ≤ 140737488351232) (w2 : (Lit.int .u8 a2).wf = true) :
    Calls Try.prog 6 #[.int .u8 a0, .slice a1 len1 cap1, .int .u8 a2] w fun e w' => e = .returned (.bool true) ∧ Below w.heap.size w w' := by
  obtain ⟨l1, rfl, hr1, hm1, hw1, hc1⟩ := ReadsInt.ofRowC w1
  obtain ⟨k, h⟩ := P a0 l1 a2 w0 hm1 y1 hw1 w2
  refine (ropeladderlaw02_SchedKeeps.calls k a0 _ _ l1 a2 true w (Kd.C_of_reads (d := (0 : Int)) (h1 := fun _ => rfl) hr1) hc1 h).mono ?_
  rintro e w' ⟨rfl, hd⟩
  exact ⟨rfl, hd⟩

/-! ### ropeladderlaw02_SchedRobin: function 7 -/
def ropeladderlaw02_SchedRobin.f (k : Nat) (a0 : Int) (a1 : Int) (a2 : Int) (a3 : Int) : Option (Bool) := (ropeladderlaw02_head.f k).bind fun t240 => ((ropeladderlaw02_Threads.f a1).bind fun t241 => (if t241 = 0 then (none) else ((sched_RoundRobin.f k (Int.tmod (wrap64 (a0)) t241) t241 (wrap64 (a2))).bind fun t242 => (if (t242.length : Int) = (wrap64 (a2)) then (if t240 = true then ((sched_Fair.f t242 t241 (wrap64 (t241 + (wrap64 (a3))))).bind fun t245 => (if t245 = true then ((sched_Repair.f t242 t241 (wrap64 (2 * t241))).bind fun t246 => ((ropeladderref02_Same.f k t246 t242).bind fun t249 => (some t249))) else (some false))) else (some false)) else (some false)))))
theorem ropeladderlaw02_SchedRobin.mono : ∀ a0 a1 a2 a3 k, LeO (ropeladderlaw02_SchedRobin.f k a0 a1 a2 a3) (ropeladderlaw02_SchedRobin.f (k + 1) a0 a1 a2 a3) := by
  intro a0 a1 a2 a3 k
  unfold ropeladderlaw02_SchedRobin.f
  repeat' first
      | (with_reducible exact ropeladderlaw02_head.mono _)
      | (with_reducible exact ropeladderref02_Same.mono _ _ _)
      | (with_reducible exact sched_RoundRobin.mono _ _ _ _)
      | (with_reducible exact LeO.refl _)
      | (with_reducible exact LeO.none _)
      | (with_reducible refine LeO.ite ?_ ?_)
      | (with_reducible refine LeO.bind ?_ (fun _ => ?_))
      | exact ropeladderlaw02_head.mono _
      | exact ropeladderref02_Same.mono _ _ _
      | exact sched_RoundRobin.mono _ _ _ _
      | exact LeO.none _
      | refine LeO.ite ?_ ?_
      | refine LeO.bind ?_ (fun _ => ?_)
set_option maxHeartbeats 8000000 in
set_option maxRecDepth 100000 in
theorem ropeladderlaw02_SchedRobin.calls (k : Nat) (a0 : Int) (a1 : Int) (a2 : Int) (a3 : Int) (r : Bool) (w : World) (h : ropeladderlaw02_SchedRobin.f k a0 a1 a2 a3 = some r) :
    Calls Try.prog 7 #[.int .u8 a0, .int .u8 a1, .int .u8 a2, .int .u8 a3] w fun e w' => e = .returned (.bool r) ∧ Below w.heap.size w w' := by
  have HB := Aside0.mk (Below.refl w.heap.size w)
  have H : ((ropeladderlaw02_head.f k).bind fun t240 => ((ropeladderlaw02_Threads.f a1).bind fun t241 => (if t241 = 0 then (none) else ((sched_RoundRobin.f k (Int.tmod (wrap64 (a0)) t241) t241 (wrap64 (a2))).bind fun t242 => (if (t242.length : Int) = (wrap64 (a2)) then (if t240 = true then ((sched_Fair.f t242 t241 (wrap64 (t241 + (wrap64 (a3))))).bind fun t245 => (if t245 = true then ((sched_Repair.f t242 t241 (wrap64 (2 * t241))).bind fun t246 => ((ropeladderref02_Same.f k t246 t242).bind fun t249 => (some t249))) else (some false))) else (some false)) else (some false)))))) = some r := h
  clear h
  replace H := Option.bind_eq_some_iff.mp H
  obtain ⟨t240, A50, H⟩ := H
  replace H : ((ropeladderlaw02_Threads.f a1).bind fun t241 => (if t241 = 0 then (none) else ((sched_RoundRobin.f k (Int.tmod (wrap64 (a0)) t241) t241 (wrap64 (a2))).bind fun t242 => (if (t242.length : Int) = (wrap64 (a2)) then (if t240 = true then ((sched_Fair.f t242 t241 (wrap64 (t241 + (wrap64 (a3))))).bind fun t245 => (if t245 = true then ((sched_Repair.f t242 t241 (wrap64 (2 * t241))).bind fun t246 => ((ropeladderref02_Same.f k t246 t242).bind fun t249 => (some t249))) else (some false))) else (some false)) else (some false))))) = some r := H
  have A5 := Aside0.mk A50
  clear A50
  replace H := Option.bind_eq_some_iff.mp H
  obtain ⟨t241, A60, H⟩ := H
  replace H : (if t241 = 0 then (none) else ((sched_RoundRobin.f k (Int.tmod (wrap64 (a0)) t241) t241 (wrap64 (a2))).bind fun t242 => (if (t242.length : Int) = (wrap64 (a2)) then (if t240 = true then ((sched_Fair.f t242 t241 (wrap64 (t241 + (wrap64 (a3))))).bind fun t245 => (if t245 = true then ((sched_Repair.f t242 t241 (wrap64 (2 * t241))).bind fun t246 => ((ropeladderref02_Same.f k t246 t242).bind fun t249 => (some t249))) else (some false))) else (some false)) else (some false)))) = some r := H
  have A6 := Aside0.mk A60
  clear A60
  by_cases c7 : t241 = 0
  · rw [if_pos c7] at H
    exact absurd H (by simp)
  · rw [if_neg c7] at H
    have c7b0 : (t241 == 0) = false := beq_eq_false_iff_ne.mpr c7
    have c7b1 : (t241 != 0) = true := bne_iff_ne.mpr c7
    replace H := Option.bind_eq_some_iff.mp H
    obtain ⟨t242, A80, H⟩ := H
    replace H : (if (t242.length : Int) = (wrap64 (a2)) then (if t240 = true then ((sched_Fair.f t242 t241 (wrap64 (t241 + (wrap64 (a3))))).bind fun t245 => (if t245 = true then ((sched_Repair.f t242 t241 (wrap64 (2 * t241))).bind fun t246 => ((ropeladderref02_Same.f k t246 t242).bind fun t249 => (some t249))) else (some false))) else (some false)) else (some false)) = some r := H
    have A8 := Aside0.mk A80
    clear A80
    by_cases c9 : (t242.length : Int) = (wrap64 (a2))
    · rw [if_pos c9] at H
      have c9b0 : ((t242.length : Int) == (wrap64 (a2))) = true := beq_iff_eq.mpr c9
      have c9b1 : ((t242.length : Int) != (wrap64 (a2))) = false := bne_eq_false_iff_eq.mpr c9
      clear c9
      by_cases c10 : t240 = true
      · subst c10
        have H1 : ((sched_Fair.f t242 t241 (wrap64 (t241 + (wrap64 (a3))))).bind fun t245 => (if t245 = true then ((sched_Repair.f t242 t241 (wrap64 (2 * t241))).bind fun t246 => ((ropeladderref02_Same.f k t246 t242).bind fun t249 => (some t249))) else (some false))) = some r := by rw [if_pos rfl] at H; exact H
        clear H
        have H := H1
        clear H1
        replace H := Option.bind_eq_some_iff.mp H
        obtain ⟨t245, A110, H⟩ := H
        replace H : (if t245 = true then ((sched_Repair.f t242 t241 (wrap64 (2 * t241))).bind fun t246 => ((ropeladderref02_Same.f k t246 t242).bind fun t249 => (some t249))) else (some false)) = some r := H
        have A11 := Aside0.mk A110
        clear A110
        by_cases c12 : t245 = true
        · subst c12
          have H1 : ((sched_Repair.f t242 t241 (wrap64 (2 * t241))).bind fun t246 => ((ropeladderref02_Same.f k t246 t242).bind fun t249 => (some t249))) = some r := by rw [if_pos rfl] at H; exact H
          clear H
          have H := H1
          clear H1
          replace H := Option.bind_eq_some_iff.mp H
          obtain ⟨t246, A130, H⟩ := H
          replace H : ((ropeladderref02_Same.f k t246 t242).bind fun t249 => (some t249)) = some r := H
          have A13 := Aside0.mk A130
          clear A130
          replace H := Option.bind_eq_some_iff.mp H
          obtain ⟨t249, A140, H⟩ := H
          replace H : (some t249) = some r := H
          have A14 := Aside0.mk A140
          clear A140
          obtain rfl := Option.some.inj H
          go_enter Try.func7, Try.ntmps7
          go_wp2_with (first | ((with_reducible refine gate_callee (f := 9) rfl ?_); refine goesL_ (some 12) rfl rfl Try.func9 (by kernel_rfl) rfl #[] rfl (by (try simp only [List.map_toArray, List.map_cons, List.map_nil]); first | done | rfl | (simp only [List.length_drop, List.length_take]; rfl)) ?_; (with_reducible refine (ropeladderlaw02_head.calls k  true _ A5.out).mono ?_); rintro e w15 ⟨rfl, hb⟩; refine ⟨_, rfl, ?_⟩; have n0_ := Aside0.mk (below_step (by repeat (first | (with_reducible first | exact HB.out | apply below_alloc | apply pw_below_drewN | apply below_drew1) | exact HB.out)) hb); clear HB; have HB := n0_; clear n0_; (try clear hb); (try clear hb2); (try clear hk); (try clear hi)) | ((with_reducible refine gate_callee (f := 10) rfl ?_); refine goesL_ (some 14) rfl rfl Try.func10 (by kernel_rfl) rfl #[.int .u8 a1] rfl (by (try simp only [List.map_toArray, List.map_cons, List.map_nil]); first | done | rfl | (simp only [List.length_drop, List.length_take]; rfl)) ?_; (with_reducible refine (ropeladderlaw02_Threads.calls a1 t241 _ A6.out).mono ?_); rintro e w' ⟨rfl, ⟨nd, rfl⟩⟩; refine ⟨_, rfl, ?_⟩) | ((with_reducible refine gate_callee (f := 15) rfl ?_); refine goesL_ (some 22) rfl rfl Try.func15 (by kernel_rfl) rfl #[.int .i64 (Int.tmod (wrap64 (a0)) t241), .int .i64 t241, .int .i64 (wrap64 (a2))] rfl (by (try simp only [List.map_toArray, List.map_cons, List.map_nil]); first | done | rfl | (simp only [List.length_drop, List.length_take]; rfl)) ?_; (with_reducible refine (sched_RoundRobin.calls k (Int.tmod (wrap64 (a0)) t241) t241 (wrap64 (a2)) t242 _ A8.out).mono ?_); rintro e w16 ⟨v243, rfl, ho0, hb⟩; refine ⟨_, rfl, ?_⟩; have n0_ := Aside0.mk (Kd.R_lower ho0 (below_size (by repeat (first | (with_reducible first | exact HB.out | apply below_alloc | apply pw_below_drewN | apply below_drew1) | exact HB.out)))); have n1_ := Aside0.mk (below_step (by repeat (first | (with_reducible first | exact HB.out | apply below_alloc | apply pw_below_drewN | apply below_drew1) | exact HB.out)) hb); clear HB; have HO244 := n0_; have HB := n1_; clear n0_ n1_; (try clear hb); (try clear hb2); (try clear hk); (try clear hi); (try clear ho0); obtain ⟨Ao17, co17, eo17⟩ := Kd.R_slice HO244.out; subst eo17) | (go_at_call 17; (with_reducible refine (sched_Fair.calls _ _ t242 t241 (wrap64 (t241 + (wrap64 (a3)))) true _ ?side1 ?side2 A11.out).mono ?_); (case side1 => repeat (first | exact (Kd.R_reads' HO244.out).2.2 | (with_reducible refine Kd.C_alloc ?_ _) | (with_reducible refine Kd.C_drewN ?_ _) | (with_reducible refine Kd.C_drew ?_))); (case side2 => exact (Kd.R_reads' HO244.out).2.1); rintro e w18 ⟨rfl, hb⟩; have n0_ := Aside0.mk (Kd.R_below (by (with_reducible repeat (first | apply Kd.R_alloc | apply Kd.R_drewN | apply Kd.R_drew)); exact HO244.out) hb); have n1_ := Aside0.mk (below_step (by repeat (first | (with_reducible first | exact HB.out | apply below_alloc | apply pw_below_drewN | apply below_drew1) | exact HB.out)) hb); clear HO244; clear HB; have HO244 := n0_; have HB := n1_; clear n0_ n1_; (try clear hb); (try clear hb2); (try clear hk); (try clear hi)) | (go_at_call 19; (with_reducible refine (sched_Repair.calls _ _ t242 t241 (wrap64 (2 * t241)) t246 _ ?side1 ?side2 A13.out).mono ?_); (case side1 => repeat (first | exact (Kd.R_reads' HO244.out).2.2 | (with_reducible refine Kd.C_alloc ?_ _) | (with_reducible refine Kd.C_drewN ?_ _) | (with_reducible refine Kd.C_drew ?_))); (case side2 => exact (Kd.R_reads' HO244.out).2.1); rintro e w19 ⟨v247, rfl, ho0, hb⟩; have n0_ := Aside0.mk (Kd.R_elder' (by (with_reducible repeat (first | apply Kd.R_alloc | apply Kd.R_drewN | apply Kd.R_drew)); exact HO244.out) (Kd.R_base ho0) hb); have n1_ := Aside0.mk (Kd.R_lower (Kd.R_new' ho0 (Kd.R_lt (by (with_reducible repeat (first | apply Kd.R_alloc | apply Kd.R_drewN | apply Kd.R_drew)); exact HO244.out))) (below_size (by repeat (first | (with_reducible first | exact HB.out | apply below_alloc | apply pw_below_drewN | apply below_drew1) | exact HB.out)))); have n2_ := Aside0.mk (below_step (by repeat (first | (with_reducible first | exact HB.out | apply below_alloc | apply pw_below_drewN | apply below_drew1) | exact HB.out)) hb); clear HO244; clear HB; have HO244 := n0_; have HO248 := n1_; have HB := n2_; clear n0_ n1_ n2_; (try clear hb); (try clear hb2); (try clear hk); (try clear hi); (try clear ho0); obtain ⟨Ao20, co20, eo20⟩ := Kd.R_slice HO248.out; subst eo20) | (go_at_call 12; (with_reducible refine (ropeladderref02_Same.calls k _ _ t246 _ _ t242 t249 _ ?side1 ?side2 ?side3 ?side4 A14.out).mono ?_); (case side1 => repeat (first | exact (Kd.R_reads' HO248.out).2.2 | (with_reducible refine Kd.C_alloc ?_ _) | (with_reducible refine Kd.C_drewN ?_ _) | (with_reducible refine Kd.C_drew ?_))); (case side2 => exact (Kd.R_reads' HO248.out).2.1); (case side3 => repeat (first | exact (Kd.R_reads' HO244.out).2.2 | (with_reducible refine Kd.C_alloc ?_ _) | (with_reducible refine Kd.C_drewN ?_ _) | (with_reducible refine Kd.C_drew ?_))); (case side4 => exact (Kd.R_reads' HO244.out).2.1); rintro e w' ⟨rfl, ⟨nd, rfl⟩⟩))
          go_ret
          exact ⟨by first | rfl | (simp [errW_none, errW_some] <;> rfl) | (simp [*, errW_none, errW_some] <;> rfl), by repeat (first | (with_reducible first | exact HB.out | apply below_alloc | apply pw_below_drewN | apply below_drew1) | exact HB.out)⟩
        · replace c12 := Bool.eq_false_iff.mpr c12
          subst c12
          have H1 : (some false) = some r := by rw [if_neg (show ¬ (false = true) by decide)] at H; exact H
          clear H
          have H := H1
          clear H1
          obtain rfl := Option.some.inj H
          go_enter Try.func7, Try.ntmps7
          go_wp2_with (first | ((with_reducible refine gate_callee (f := 9) rfl ?_); refine goesL_ (some 12) rfl rfl Try.func9 (by kernel_rfl) rfl #[] rfl (by (try simp only [List.map_toArray, List.map_cons, List.map_nil]); first | done | rfl | (simp only [List.length_drop, List.length_take]; rfl)) ?_; (with_reducible refine (ropeladderlaw02_head.calls k  true _ A5.out).mono ?_); rintro e w21 ⟨rfl, hb⟩; refine ⟨_, rfl, ?_⟩; have n0_ := Aside0.mk (below_step (by repeat (first | (with_reducible first | exact HB.out | apply below_alloc | apply pw_below_drewN | apply below_drew1) | exact HB.out)) hb); clear HB; have HB := n0_; clear n0_; (try clear hb); (try clear hb2); (try clear hk); (try clear hi)) | ((with_reducible refine gate_callee (f := 10) rfl ?_); refine goesL_ (some 14) rfl rfl Try.func10 (by kernel_rfl) rfl #[.int .u8 a1] rfl (by (try simp only [List.map_toArray, List.map_cons, List.map_nil]); first | done | rfl | (simp only [List.length_drop, List.length_take]; rfl)) ?_; (with_reducible refine (ropeladderlaw02_Threads.calls a1 t241 _ A6.out).mono ?_); rintro e w' ⟨rfl, ⟨nd, rfl⟩⟩; refine ⟨_, rfl, ?_⟩) | ((with_reducible refine gate_callee (f := 15) rfl ?_); refine goesL_ (some 22) rfl rfl Try.func15 (by kernel_rfl) rfl #[.int .i64 (Int.tmod (wrap64 (a0)) t241), .int .i64 t241, .int .i64 (wrap64 (a2))] rfl (by (try simp only [List.map_toArray, List.map_cons, List.map_nil]); first | done | rfl | (simp only [List.length_drop, List.length_take]; rfl)) ?_; (with_reducible refine (sched_RoundRobin.calls k (Int.tmod (wrap64 (a0)) t241) t241 (wrap64 (a2)) t242 _ A8.out).mono ?_); rintro e w22 ⟨v243, rfl, ho0, hb⟩; refine ⟨_, rfl, ?_⟩; have n0_ := Aside0.mk (Kd.R_lower ho0 (below_size (by repeat (first | (with_reducible first | exact HB.out | apply below_alloc | apply pw_below_drewN | apply below_drew1) | exact HB.out)))); have n1_ := Aside0.mk (below_step (by repeat (first | (with_reducible first | exact HB.out | apply below_alloc | apply pw_below_drewN | apply below_drew1) | exact HB.out)) hb); clear HB; have HO244 := n0_; have HB := n1_; clear n0_ n1_; (try clear hb); (try clear hb2); (try clear hk); (try clear hi); (try clear ho0); obtain ⟨Ao23, co23, eo23⟩ := Kd.R_slice HO244.out; subst eo23) | (go_at_call 17; (with_reducible refine (sched_Fair.calls _ _ t242 t241 (wrap64 (t241 + (wrap64 (a3)))) false _ ?side1 ?side2 A11.out).mono ?_); (case side1 => repeat (first | exact (Kd.R_reads' HO244.out).2.2 | (with_reducible refine Kd.C_alloc ?_ _) | (with_reducible refine Kd.C_drewN ?_ _) | (with_reducible refine Kd.C_drew ?_))); (case side2 => exact (Kd.R_reads' HO244.out).2.1); rintro e w24 ⟨rfl, hb⟩; have n0_ := Aside0.mk (Kd.R_below (by (with_reducible repeat (first | apply Kd.R_alloc | apply Kd.R_drewN | apply Kd.R_drew)); exact HO244.out) hb); have n1_ := Aside0.mk (below_step (by repeat (first | (with_reducible first | exact HB.out | apply below_alloc | apply pw_below_drewN | apply below_drew1) | exact HB.out)) hb); clear HO244; clear HB; have HO244 := n0_; have HB := n1_; clear n0_ n1_; (try clear hb); (try clear hb2); (try clear hk); (try clear hi)))
          go_ret
          exact ⟨by first | rfl | (simp [errW_none, errW_some] <;> rfl) | (simp [*, errW_none, errW_some] <;> rfl), by repeat (first | (with_reducible first | exact HB.out | apply below_alloc | apply pw_below_drewN | apply below_drew1) | exact HB.out)⟩
      · replace c10 := Bool.eq_false_iff.mpr c10
        subst c10
        have H1 : (some false) = some r := by rw [if_neg (show ¬ (false = true) by decide)] at H; exact H
        clear H
        have H := H1
        clear H1
        obtain rfl := Option.some.inj H
        go_enter Try.func7, Try.ntmps7
        go_wp2_with (first | ((with_reducible refine gate_callee (f := 9) rfl ?_); refine goesL_ (some 12) rfl rfl Try.func9 (by kernel_rfl) rfl #[] rfl (by (try simp only [List.map_toArray, List.map_cons, List.map_nil]); first | done | rfl | (simp only [List.length_drop, List.length_take]; rfl)) ?_; (with_reducible refine (ropeladderlaw02_head.calls k  false _ A5.out).mono ?_); rintro e w25 ⟨rfl, hb⟩; refine ⟨_, rfl, ?_⟩; have n0_ := Aside0.mk (below_step (by repeat (first | (with_reducible first | exact HB.out | apply below_alloc | apply pw_below_drewN | apply below_drew1) | exact HB.out)) hb); clear HB; have HB := n0_; clear n0_; (try clear hb); (try clear hb2); (try clear hk); (try clear hi)) | ((with_reducible refine gate_callee (f := 10) rfl ?_); refine goesL_ (some 14) rfl rfl Try.func10 (by kernel_rfl) rfl #[.int .u8 a1] rfl (by (try simp only [List.map_toArray, List.map_cons, List.map_nil]); first | done | rfl | (simp only [List.length_drop, List.length_take]; rfl)) ?_; (with_reducible refine (ropeladderlaw02_Threads.calls a1 t241 _ A6.out).mono ?_); rintro e w' ⟨rfl, ⟨nd, rfl⟩⟩; refine ⟨_, rfl, ?_⟩) | ((with_reducible refine gate_callee (f := 15) rfl ?_); refine goesL_ (some 22) rfl rfl Try.func15 (by kernel_rfl) rfl #[.int .i64 (Int.tmod (wrap64 (a0)) t241), .int .i64 t241, .int .i64 (wrap64 (a2))] rfl (by (try simp only [List.map_toArray, List.map_cons, List.map_nil]); first | done | rfl | (simp only [List.length_drop, List.length_take]; rfl)) ?_; (with_reducible refine (sched_RoundRobin.calls k (Int.tmod (wrap64 (a0)) t241) t241 (wrap64 (a2)) t242 _ A8.out).mono ?_); rintro e w26 ⟨v243, rfl, ho0, hb⟩; refine ⟨_, rfl, ?_⟩; have n0_ := Aside0.mk (Kd.R_lower ho0 (below_size (by repeat (first | (with_reducible first | exact HB.out | apply below_alloc | apply pw_below_drewN | apply below_drew1) | exact HB.out)))); have n1_ := Aside0.mk (below_step (by repeat (first | (with_reducible first | exact HB.out | apply below_alloc | apply pw_below_drewN | apply below_drew1) | exact HB.out)) hb); clear HB; have HO244 := n0_; have HB := n1_; clear n0_ n1_; (try clear hb); (try clear hb2); (try clear hk); (try clear hi); (try clear ho0); obtain ⟨Ao27, co27, eo27⟩ := Kd.R_slice HO244.out; subst eo27))
        go_ret
        exact ⟨by first | rfl | (simp [errW_none, errW_some] <;> rfl) | (simp [*, errW_none, errW_some] <;> rfl), by repeat (first | (with_reducible first | exact HB.out | apply below_alloc | apply pw_below_drewN | apply below_drew1) | exact HB.out)⟩
    · rw [if_neg c9] at H
      have c9b0 : ((t242.length : Int) == (wrap64 (a2))) = false := beq_eq_false_iff_ne.mpr c9
      have c9b1 : ((t242.length : Int) != (wrap64 (a2))) = true := bne_iff_ne.mpr c9
      obtain rfl := Option.some.inj H
      go_enter Try.func7, Try.ntmps7
      go_wp2_with (first | ((with_reducible refine gate_callee (f := 9) rfl ?_); refine goesL_ (some 12) rfl rfl Try.func9 (by kernel_rfl) rfl #[] rfl (by (try simp only [List.map_toArray, List.map_cons, List.map_nil]); first | done | rfl | (simp only [List.length_drop, List.length_take]; rfl)) ?_; (with_reducible refine (ropeladderlaw02_head.calls k  t240 _ A5.out).mono ?_); rintro e w28 ⟨rfl, hb⟩; refine ⟨_, rfl, ?_⟩; have n0_ := Aside0.mk (below_step (by repeat (first | (with_reducible first | exact HB.out | apply below_alloc | apply pw_below_drewN | apply below_drew1) | exact HB.out)) hb); clear HB; have HB := n0_; clear n0_; (try clear hb); (try clear hb2); (try clear hk); (try clear hi)) | ((with_reducible refine gate_callee (f := 10) rfl ?_); refine goesL_ (some 14) rfl rfl Try.func10 (by kernel_rfl) rfl #[.int .u8 a1] rfl (by (try simp only [List.map_toArray, List.map_cons, List.map_nil]); first | done | rfl | (simp only [List.length_drop, List.length_take]; rfl)) ?_; (with_reducible refine (ropeladderlaw02_Threads.calls a1 t241 _ A6.out).mono ?_); rintro e w' ⟨rfl, ⟨nd, rfl⟩⟩; refine ⟨_, rfl, ?_⟩) | ((with_reducible refine gate_callee (f := 15) rfl ?_); refine goesL_ (some 22) rfl rfl Try.func15 (by kernel_rfl) rfl #[.int .i64 (Int.tmod (wrap64 (a0)) t241), .int .i64 t241, .int .i64 (wrap64 (a2))] rfl (by (try simp only [List.map_toArray, List.map_cons, List.map_nil]); first | done | rfl | (simp only [List.length_drop, List.length_take]; rfl)) ?_; (with_reducible refine (sched_RoundRobin.calls k (Int.tmod (wrap64 (a0)) t241) t241 (wrap64 (a2)) t242 _ A8.out).mono ?_); rintro e w29 ⟨v243, rfl, ho0, hb⟩; refine ⟨_, rfl, ?_⟩; have n0_ := Aside0.mk (Kd.R_lower ho0 (below_size (by repeat (first | (with_reducible first | exact HB.out | apply below_alloc | apply pw_below_drewN | apply below_drew1) | exact HB.out)))); have n1_ := Aside0.mk (below_step (by repeat (first | (with_reducible first | exact HB.out | apply below_alloc | apply pw_below_drewN | apply below_drew1) | exact HB.out)) hb); clear HB; have HO244 := n0_; have HB := n1_; clear n0_ n1_; (try clear hb); (try clear hb2); (try clear hk); (try clear hi); (try clear ho0); obtain ⟨Ao30, co30, eo30⟩ := Kd.R_slice HO244.out; subst eo30))
      go_ret
      exact ⟨by first | rfl | (simp [errW_none, errW_some] <;> rfl) | (simp [*, errW_none, errW_some] <;> rfl), by repeat (first | (with_reducible first | exact HB.out | apply below_alloc | apply pw_below_drewN | apply below_drew1) | exact HB.out)⟩

/-- THE ONE PURE STATEMENT of ropeladderlaw02_SchedRobin: yours. -/
def ropeladderlaw02_SchedRobin.Pure : Prop := ∀ (a0 : Int) (a1 : Int) (a2 : Int) (a3 : Int), (Lit.int .u8 a0).wf = true → (Lit.int .u8 a1).wf = true → (Lit.int .u8 a2).wf = true → (Lit.int .u8 a3).wf = true → ∃ k, ropeladderlaw02_SchedRobin.f k a0 a1 a2 a3 = some true
theorem ropeladderlaw02_SchedRobin.walk (P : ropeladderlaw02_SchedRobin.Pure) (a0 : Int) (a1 : Int) (a2 : Int) (a3 : Int) (w : World) (w0 : (Lit.int .u8 a0).wf = true) (w1 : (Lit.int .u8 a1).wf = true) (w2 : (Lit.int .u8 a2).wf = true) (w3 : (Lit.int .u8 a3).wf = true) :
    Calls Try.prog 7 #[.int .u8 a0, .int .u8 a1, .int .u8 a2, .int .u8 a3] w fun e w' => e = .returned (.bool true) ∧ Below w.heap.size w w' := by
  obtain ⟨k, h⟩ := P a0 a1 a2 a3 w0 w1 w2 w3
  refine (ropeladderlaw02_SchedRobin.calls k a0 a1 a2 a3 true w h).mono ?_
  rintro e w' ⟨rfl, hd⟩
  exact ⟨rfl, hd⟩

end Go.Proofs.Ytngofgblhblfkaa.PS
