/- Written by a program of this session out of the translation: for each Go function a Lean function, and the proof that the call computes it; the conditions stand in each theorem. -/
import Derived.Test.YtngofgblhblfkaaPSx0
import Derived.Test.YtngofgblhblfkaaPSx1
namespace Go.Proofs.Ytngofgblhblfkaa.PS
open Go.RowKit Go.Proofs.Ytngofgblhblfkaa.Hand Go.Proofs.YtngofgblhblfkaaW.PrintWords Go.Proofs.YtngofgblhblfkaaW.PrintLast Go.Proofs.YtngofgblhblfkaaW.PrintMore
attribute [local go_sem] max2_int min2_int max_two min_two max_three min_three max_four min_four   -- for this text's walks alone
set_option linter.unusedVariables false
set_option linter.unusedSimpArgs false

/-! ### ropeladderlaw02_SchedRandom: function 8 -/
mutual
def ropeladderlaw02_SchedRandom.j0 : Nat → Int → Bool → Int → List Int → List Int → Bool → Option (Bool)
  | 0, _, _, _, _, _, _ => none
  | k + 1, x0, x9, x10, x11, x12, x42 => if x42 = true then (some false) else (ropeladderlaw02_SchedRandom.l0 k x9 x10 x11 x12 x0 0)
def ropeladderlaw02_SchedRandom.l0 : Nat → Bool → Int → List Int → List Int → Int → Int → Option (Bool)
  | 0, _, _, _, _, _, _ => none
  | k + 1, x9, x10, x11, x12, x13, x14 => if x14 < (x11.length : Int) then (if 0 ≤ x14 then (if (rd x11 x14) < 0 then (some false) else (if (rd x11 x14) ≥ x10 then (some false) else (if x10 = 0 then (none) else (if (rd x11 x14) = ((((x13 * 1664525 + 1013904223) % 4294967296) / 65536) % x10) then (ropeladderlaw02_SchedRandom.l0 k x9 x10 x11 x12 ((x13 * 1664525 + 1013904223) % 4294967296) (wrap64 (x14 + 1))) else (some false))))) else (none)) else (if x9 = true then (if 0 ≤ (x12.length : Int) then (if (x12.length : Int) ≤ (x11.length : Int) then ((ropeladderref02_Same.f k x12 (x11.take ((x12.length : Int) : Int).toNat)).bind fun t265 => (some t265)) else (none)) else (none)) else (some false))
end
def ropeladderlaw02_SchedRandom.f (k : Nat) (a0 : Int) (a1 : Int) (a2 : Int) (a3 : Int) : Option (Bool) := (ropeladderlaw02_head.f k).bind fun t250 => ((ropeladderlaw02_Threads.f a1).bind fun t251 => ((sched_Random.f a0 t251 (wrap64 (a2))).bind fun t252 => ((sched_Random.f a0 t251 (mn (wrap64 (a3)) (wrap64 (a2)))).bind fun t255 => (if (t252.length : Int) = (wrap64 (a2)) then (ropeladderlaw02_SchedRandom.j0 k a0 t250 t251 t252 t255 (decide ((t255.length : Int) > (t252.length : Int)))) else (ropeladderlaw02_SchedRandom.j0 k a0 t250 t251 t252 t255 true)))))
theorem ropeladderlaw02_SchedRandom.mono_l : ∀ k, (∀ y0 y1 y2 y3 y4 y5, LeO (ropeladderlaw02_SchedRandom.j0 k y0 y1 y2 y3 y4 y5) (ropeladderlaw02_SchedRandom.j0 (k + 1) y0 y1 y2 y3 y4 y5)) ∧ (∀ y0 y1 y2 y3 y4 y5, LeO (ropeladderlaw02_SchedRandom.l0 k y0 y1 y2 y3 y4 y5) (ropeladderlaw02_SchedRandom.l0 (k + 1) y0 y1 y2 y3 y4 y5))
  | 0 => ⟨fun _ _ _ _ _ _ r h => by simp [ropeladderlaw02_SchedRandom.j0] at h, fun _ _ _ _ _ _ r h => by simp [ropeladderlaw02_SchedRandom.l0] at h⟩
  | k + 1 => by
    obtain ⟨ih0, ih1⟩ := ropeladderlaw02_SchedRandom.mono_l k
    refine ⟨?_, ?_⟩
    · intro y0 y1 y2 y3 y4 y5
      unfold ropeladderlaw02_SchedRandom.j0
      repeat' first
      | (with_reducible exact ih0 _ _ _ _ _ _)
      | (with_reducible exact ih1 _ _ _ _ _ _)
      | (with_reducible exact ropeladderlaw02_head.mono _)
      | (with_reducible exact ropeladderref02_Same.mono _ _ _)
      | (with_reducible exact LeO.refl _)
      | (with_reducible exact LeO.none _)
      | (with_reducible refine LeO.ite ?_ ?_)
      | (with_reducible refine LeO.bind ?_ (fun _ => ?_))
      | exact ih0 _ _ _ _ _ _
      | exact ih1 _ _ _ _ _ _
      | exact ropeladderlaw02_head.mono _
      | exact ropeladderref02_Same.mono _ _ _
      | exact LeO.none _
      | refine LeO.ite ?_ ?_
      | refine LeO.bind ?_ (fun _ => ?_)
    · intro y0 y1 y2 y3 y4 y5
      unfold ropeladderlaw02_SchedRandom.l0
      repeat' first
      | (with_reducible exact ih0 _ _ _ _ _ _)
      | (with_reducible exact ih1 _ _ _ _ _ _)
      | (with_reducible exact ropeladderlaw02_head.mono _)
      | (with_reducible exact ropeladderref02_Same.mono _ _ _)
      | (with_reducible exact LeO.refl _)
      | (with_reducible exact LeO.none _)
      | (with_reducible refine LeO.ite ?_ ?_)
      | (with_reducible refine LeO.bind ?_ (fun _ => ?_))
      | exact ih0 _ _ _ _ _ _
      | exact ih1 _ _ _ _ _ _
      | exact ropeladderlaw02_head.mono _
      | exact ropeladderref02_Same.mono _ _ _
      | exact LeO.none _
      | refine LeO.ite ?_ ?_
      | refine LeO.bind ?_ (fun _ => ?_)
theorem ropeladderlaw02_SchedRandom.mono : ∀ a0 a1 a2 a3 k, LeO (ropeladderlaw02_SchedRandom.f k a0 a1 a2 a3) (ropeladderlaw02_SchedRandom.f (k + 1) a0 a1 a2 a3) := by
  intro a0 a1 a2 a3 k
  obtain ⟨ih0, ih1⟩ := ropeladderlaw02_SchedRandom.mono_l k
  unfold ropeladderlaw02_SchedRandom.f
  repeat' first
      | (with_reducible exact ih0 _ _ _ _ _ _)
      | (with_reducible exact ih1 _ _ _ _ _ _)
      | (with_reducible exact ropeladderlaw02_head.mono _)
      | (with_reducible exact ropeladderref02_Same.mono _ _ _)
      | (with_reducible exact LeO.refl _)
      | (with_reducible exact LeO.none _)
      | (with_reducible refine LeO.ite ?_ ?_)
      | (with_reducible refine LeO.bind ?_ (fun _ => ?_))
      | exact ih0 _ _ _ _ _ _
      | exact ih1 _ _ _ _ _ _
      | exact ropeladderlaw02_head.mono _
      | exact ropeladderref02_Same.mono _ _ _
      | exact LeO.none _
      | refine LeO.ite ?_ ?_
      | refine LeO.bind ?_ (fun _ => ?_)
set_option maxHeartbeats 8000000 in
set_option maxRecDepth 100000 in
theorem ropeladderlaw02_SchedRandom.calls (k : Nat) (a0 : Int) (a1 : Int) (a2 : Int) (a3 : Int) (r : Bool) (w : World) (h : ropeladderlaw02_SchedRandom.f k a0 a1 a2 a3 = some r) :
    Calls Try.prog 8 #[.int .u32 a0, .int .u8 a1, .int .u8 a2, .int .u8 a3] w fun e w' => e = .returned (.bool r) ∧ Below w.heap.size w w' := by
  have HB := Aside0.mk (Below.refl w.heap.size w)
  have H : ((ropeladderlaw02_head.f k).bind fun t250 => ((ropeladderlaw02_Threads.f a1).bind fun t251 => ((sched_Random.f a0 t251 (wrap64 (a2))).bind fun t252 => ((sched_Random.f a0 t251 (mn (wrap64 (a3)) (wrap64 (a2)))).bind fun t255 => (if (t252.length : Int) = (wrap64 (a2)) then (ropeladderlaw02_SchedRandom.j0 k a0 t250 t251 t252 t255 (decide ((t255.length : Int) > (t252.length : Int)))) else (ropeladderlaw02_SchedRandom.j0 k a0 t250 t251 t252 t255 true)))))) = some r := h
  clear h
  replace H := Option.bind_eq_some_iff.mp H
  obtain ⟨t250, A50, H⟩ := H
  replace H : ((ropeladderlaw02_Threads.f a1).bind fun t251 => ((sched_Random.f a0 t251 (wrap64 (a2))).bind fun t252 => ((sched_Random.f a0 t251 (mn (wrap64 (a3)) (wrap64 (a2)))).bind fun t255 => (if (t252.length : Int) = (wrap64 (a2)) then (ropeladderlaw02_SchedRandom.j0 k a0 t250 t251 t252 t255 (decide ((t255.length : Int) > (t252.length : Int)))) else (ropeladderlaw02_SchedRandom.j0 k a0 t250 t251 t252 t255 true))))) = some r := H
  have A5 := Aside0.mk A50
  clear A50
  replace H := Option.bind_eq_some_iff.mp H
  obtain ⟨t251, A60, H⟩ := H
  replace H : ((sched_Random.f a0 t251 (wrap64 (a2))).bind fun t252 => ((sched_Random.f a0 t251 (mn (wrap64 (a3)) (wrap64 (a2)))).bind fun t255 => (if (t252.length : Int) = (wrap64 (a2)) then (ropeladderlaw02_SchedRandom.j0 k a0 t250 t251 t252 t255 (decide ((t255.length : Int) > (t252.length : Int)))) else (ropeladderlaw02_SchedRandom.j0 k a0 t250 t251 t252 t255 true)))) = some r := H
  have A6 := Aside0.mk A60
  clear A60
  replace H := Option.bind_eq_some_iff.mp H
  obtain ⟨t252, A70, H⟩ := H
  replace H : ((sched_Random.f a0 t251 (mn (wrap64 (a3)) (wrap64 (a2)))).bind fun t255 => (if (t252.length : Int) = (wrap64 (a2)) then (ropeladderlaw02_SchedRandom.j0 k a0 t250 t251 t252 t255 (decide ((t255.length : Int) > (t252.length : Int)))) else (ropeladderlaw02_SchedRandom.j0 k a0 t250 t251 t252 t255 true))) = some r := H
  have A7 := Aside0.mk A70
  clear A70
  obtain ⟨ji8, hji8⟩ : ∃ j_ : Int, (mn (wrap64 (a3)) (wrap64 (a2))) = j_ := ⟨_, rfl⟩
  replace H : ((sched_Random.f a0 t251 (ji8)).bind fun t255 => (if (t252.length : Int) = (wrap64 (a2)) then (ropeladderlaw02_SchedRandom.j0 k a0 t250 t251 t252 t255 (decide ((t255.length : Int) > (t252.length : Int)))) else (ropeladderlaw02_SchedRandom.j0 k a0 t250 t251 t252 t255 true))) = some r := by first | (rw [hji8] at H; exact H) | (simp only [hji8] at H ⊢; exact H)
  (try rw [hji8] at A5)
  (try rw [hji8] at A6)
  (try rw [hji8] at A7)
  have hji8_ : (if (wrap64 (a2)) < (wrap64 (a3)) then (wrap64 (a2)) else (wrap64 (a3))) = ji8 := hji8
  replace H := Option.bind_eq_some_iff.mp H
  obtain ⟨t255, A90, H⟩ := H
  replace H : (if (t252.length : Int) = (wrap64 (a2)) then (ropeladderlaw02_SchedRandom.j0 k a0 t250 t251 t252 t255 (decide ((t255.length : Int) > (t252.length : Int)))) else (ropeladderlaw02_SchedRandom.j0 k a0 t250 t251 t252 t255 true)) = some r := H
  have A9 := Aside0.mk A90
  clear A90
  have HC10 := Aside0.mk H
  clear H
  go_enter Try.func8, Try.ntmps8
  go_upto_region 5 with (first | (go_at_call 9; (with_reducible refine (ropeladderlaw02_head.calls k  t250 _ A5.out).mono ?_); rintro e w11 ⟨rfl, hb⟩; have n0_ := Aside0.mk (below_step (by repeat (first | (with_reducible first | exact HB.out | apply below_alloc | apply pw_below_drewN | apply below_drew1) | exact HB.out)) hb); clear HB; have HB := n0_; clear n0_; (try clear hb); (try clear hb2); (try clear hk); (try clear hi)) | (go_at_call 10; (with_reducible refine (ropeladderlaw02_Threads.calls a1 t251 _ A6.out).mono ?_); rintro e w' ⟨rfl, ⟨nd, rfl⟩⟩; (try first | exact ⟨rfl, _, World.drewN_drewN _ _ _⟩ | exact ⟨rfl, _, Eq.trans (World.drewN_drewN _ _ _) (congrArg (World.drewN _) (Nat.add_assoc _ _ _))⟩)) | (go_at_call 13; (with_reducible refine (sched_Random.calls a0 t251 (wrap64 (a2)) t252 _ A7.out).mono ?_); rintro e w12 ⟨v253, rfl, ho0, hb⟩; have n0_ := Aside0.mk (Kd.R_lower ho0 (below_size (by repeat (first | (with_reducible first | exact HB.out | apply below_alloc | apply pw_below_drewN | apply below_drew1) | exact HB.out)))); have n1_ := Aside0.mk (below_step (by repeat (first | (with_reducible first | exact HB.out | apply below_alloc | apply pw_below_drewN | apply below_drew1) | exact HB.out)) hb); clear HB; have HO254 := n0_; have HB := n1_; clear n0_ n1_; (try clear hb); (try clear hb2); (try clear hk); (try clear hi); (try clear ho0)) | (go_at_call 13; (with_reducible refine (sched_Random.calls a0 t251 ji8 t255 _ A9.out).mono ?_); rintro e w13 ⟨v256, rfl, ho0, hb⟩; have n0_ := Aside0.mk (Kd.R_elder' (by (with_reducible repeat (first | apply Kd.R_alloc | apply Kd.R_drewN | apply Kd.R_drew)); exact HO254.out) (Kd.R_base ho0) hb); have n1_ := Aside0.mk (Kd.R_lower (Kd.R_new' ho0 (Kd.R_lt (by (with_reducible repeat (first | apply Kd.R_alloc | apply Kd.R_drewN | apply Kd.R_drew)); exact HO254.out))) (below_size (by repeat (first | (with_reducible first | exact HB.out | apply below_alloc | apply pw_below_drewN | apply below_drew1) | exact HB.out)))); have n2_ := Aside0.mk (below_step (by repeat (first | (with_reducible first | exact HB.out | apply below_alloc | apply pw_below_drewN | apply below_drew1) | exact HB.out)) hb); clear HO254; clear HB; have HO254 := n0_; have HO257 := n1_; have HB := n2_; clear n0_ n1_ n2_; (try clear hb); (try clear hb2); (try clear hk); (try clear hi); (try clear ho0)))
  repeat (go_quiet (first | (go_at_call 9; (with_reducible refine (ropeladderlaw02_head.calls k  t250 _ A5.out).mono ?_); rintro e w11 ⟨rfl, hb⟩; have n0_ := Aside0.mk (below_step (by repeat (first | (with_reducible first | exact HB.out | apply below_alloc | apply pw_below_drewN | apply below_drew1) | exact HB.out)) hb); clear HB; have HB := n0_; clear n0_; (try clear hb); (try clear hb2); (try clear hk); (try clear hi)) | (go_at_call 10; (with_reducible refine (ropeladderlaw02_Threads.calls a1 t251 _ A6.out).mono ?_); rintro e w' ⟨rfl, ⟨nd, rfl⟩⟩; (try first | exact ⟨rfl, _, World.drewN_drewN _ _ _⟩ | exact ⟨rfl, _, Eq.trans (World.drewN_drewN _ _ _) (congrArg (World.drewN _) (Nat.add_assoc _ _ _))⟩)) | (go_at_call 13; (with_reducible refine (sched_Random.calls a0 t251 (wrap64 (a2)) t252 _ A7.out).mono ?_); rintro e w12 ⟨v253, rfl, ho0, hb⟩; have n0_ := Aside0.mk (Kd.R_lower ho0 (below_size (by repeat (first | (with_reducible first | exact HB.out | apply below_alloc | apply pw_below_drewN | apply below_drew1) | exact HB.out)))); have n1_ := Aside0.mk (below_step (by repeat (first | (with_reducible first | exact HB.out | apply below_alloc | apply pw_below_drewN | apply below_drew1) | exact HB.out)) hb); clear HB; have HO254 := n0_; have HB := n1_; clear n0_ n1_; (try clear hb); (try clear hb2); (try clear hk); (try clear hi); (try clear ho0)) | (go_at_call 13; (with_reducible refine (sched_Random.calls a0 t251 ji8 t255 _ A9.out).mono ?_); rintro e w13 ⟨v256, rfl, ho0, hb⟩; have n0_ := Aside0.mk (Kd.R_elder' (by (with_reducible repeat (first | apply Kd.R_alloc | apply Kd.R_drewN | apply Kd.R_drew)); exact HO254.out) (Kd.R_base ho0) hb); have n1_ := Aside0.mk (Kd.R_lower (Kd.R_new' ho0 (Kd.R_lt (by (with_reducible repeat (first | apply Kd.R_alloc | apply Kd.R_drewN | apply Kd.R_drew)); exact HO254.out))) (below_size (by repeat (first | (with_reducible first | exact HB.out | apply below_alloc | apply pw_below_drewN | apply below_drew1) | exact HB.out)))); have n2_ := Aside0.mk (below_step (by repeat (first | (with_reducible first | exact HB.out | apply below_alloc | apply pw_below_drewN | apply below_drew1) | exact HB.out)) hb); clear HO254; clear HB; have HO254 := n0_; have HO257 := n1_; have HB := n2_; clear n0_ n1_ n2_; (try clear hb); (try clear hb2); (try clear hk); (try clear hi); (try clear ho0))); go_upto_region 5 with (first | (go_at_call 9; (with_reducible refine (ropeladderlaw02_head.calls k  t250 _ A5.out).mono ?_); rintro e w11 ⟨rfl, hb⟩; have n0_ := Aside0.mk (below_step (by repeat (first | (with_reducible first | exact HB.out | apply below_alloc | apply pw_below_drewN | apply below_drew1) | exact HB.out)) hb); clear HB; have HB := n0_; clear n0_; (try clear hb); (try clear hb2); (try clear hk); (try clear hi)) | (go_at_call 10; (with_reducible refine (ropeladderlaw02_Threads.calls a1 t251 _ A6.out).mono ?_); rintro e w' ⟨rfl, ⟨nd, rfl⟩⟩; (try first | exact ⟨rfl, _, World.drewN_drewN _ _ _⟩ | exact ⟨rfl, _, Eq.trans (World.drewN_drewN _ _ _) (congrArg (World.drewN _) (Nat.add_assoc _ _ _))⟩)) | (go_at_call 13; (with_reducible refine (sched_Random.calls a0 t251 (wrap64 (a2)) t252 _ A7.out).mono ?_); rintro e w12 ⟨v253, rfl, ho0, hb⟩; have n0_ := Aside0.mk (Kd.R_lower ho0 (below_size (by repeat (first | (with_reducible first | exact HB.out | apply below_alloc | apply pw_below_drewN | apply below_drew1) | exact HB.out)))); have n1_ := Aside0.mk (below_step (by repeat (first | (with_reducible first | exact HB.out | apply below_alloc | apply pw_below_drewN | apply below_drew1) | exact HB.out)) hb); clear HB; have HO254 := n0_; have HB := n1_; clear n0_ n1_; (try clear hb); (try clear hb2); (try clear hk); (try clear hi); (try clear ho0)) | (go_at_call 13; (with_reducible refine (sched_Random.calls a0 t251 ji8 t255 _ A9.out).mono ?_); rintro e w13 ⟨v256, rfl, ho0, hb⟩; have n0_ := Aside0.mk (Kd.R_elder' (by (with_reducible repeat (first | apply Kd.R_alloc | apply Kd.R_drewN | apply Kd.R_drew)); exact HO254.out) (Kd.R_base ho0) hb); have n1_ := Aside0.mk (Kd.R_lower (Kd.R_new' ho0 (Kd.R_lt (by (with_reducible repeat (first | apply Kd.R_alloc | apply Kd.R_drewN | apply Kd.R_drew)); exact HO254.out))) (below_size (by repeat (first | (with_reducible first | exact HB.out | apply below_alloc | apply pw_below_drewN | apply below_drew1) | exact HB.out)))); have n2_ := Aside0.mk (below_step (by repeat (first | (with_reducible first | exact HB.out | apply below_alloc | apply pw_below_drewN | apply below_drew1) | exact HB.out)) hb); clear HO254; clear HB; have HO254 := n0_; have HO257 := n1_; have HB := n2_; clear n0_ n1_ n2_; (try clear hb); (try clear hb2); (try clear hk); (try clear hi); (try clear ho0))))
  (try simp only [Act.put, List.setIfInBounds_toArray, List.set_cons_zero, List.set_cons_succ])
  go_cut [42] (fun v42 wc => ∃ (kq : Nat) (x42_9 : Bool), v42 = .bool x42_9 ∧ Aside0 (ropeladderlaw02_SchedRandom.j0 kq a0 t250 t251 t252 t255 x42_9 = some r) ∧ Aside0 (kq ≤ k) ∧ Aside0 (Kd.R (Kd.int .i64) 3 wc w.heap.size (fun k_ => some k_ ≠ (v256 : Value).ownBlock) v253 t252) ∧ Aside0 (Kd.R (Kd.int .i64) 3 wc w.heap.size (fun k_ => some k_ ≠ (v253 : Value).ownBlock) v256 t255) ∧ Aside0 (Below w.heap.size w wc))
  case first =>
    have H := HC10.out
    clear HC10
    by_cases c14 : (t252.length : Int) = (wrap64 (a2))
    · rw [if_pos c14] at H
      have c14b0 : ((t252.length : Int) == (wrap64 (a2))) = true := beq_iff_eq.mpr c14
      have c14b1 : ((t252.length : Int) != (wrap64 (a2))) = false := bne_eq_false_iff_eq.mpr c14
      clear c14
      (first | rw [c14b0] | (simp only [i64_w, i32_w]; rw [c14b0]) | skip)
      have H' := Aside0.mk H
      clear H
      obtain ⟨Ao15, co15, eo15⟩ := Kd.R_slice HO254.out
      subst eo15
      obtain ⟨Ao16, co16, eo16⟩ := Kd.R_slice HO257.out
      subst eo16
      go_wp2
      repeat (go_quiet (fail); try go_wp2)
      go_meet
      case rel => exact ⟨_, (decide ((t255.length : Int) > (t252.length : Int))), (by first | rfl | (simp; done) | (simp [*]; done)), H', ⟨by first | omega | exact Nat.le_refl _⟩, ⟨by (with_reducible repeat (first | apply Kd.R_alloc | apply Kd.R_drewN | apply Kd.R_drew)); exact Kd.R_mono HO254.out (fun _ hk => hk.2)⟩, ⟨by (with_reducible repeat (first | apply Kd.R_alloc | apply Kd.R_drewN | apply Kd.R_drew)); exact Kd.R_mono HO257.out (fun _ hk => hk.2)⟩, ⟨by repeat (first | (with_reducible first | exact HB.out | apply below_alloc | apply pw_below_drewN | apply below_drew1) | exact HB.out)⟩⟩
    · rw [if_neg c14] at H
      have c14b0 : ((t252.length : Int) == (wrap64 (a2))) = false := beq_eq_false_iff_ne.mpr c14
      have c14b1 : ((t252.length : Int) != (wrap64 (a2))) = true := bne_iff_ne.mpr c14
      (first | rw [c14b0] | (simp only [i64_w, i32_w]; rw [c14b0]) | skip)
      have H' := Aside0.mk H
      clear H
      obtain ⟨Ao17, co17, eo17⟩ := Kd.R_slice HO254.out
      subst eo17
      go_wp2
      repeat (go_quiet (fail); try go_wp2)
      go_meet
      case rel => exact ⟨_, (true), (by first | rfl | (simp; done) | (simp [*]; done)), H', ⟨by first | omega | exact Nat.le_refl _⟩, ⟨by (with_reducible repeat (first | apply Kd.R_alloc | apply Kd.R_drewN | apply Kd.R_drew)); exact Kd.R_mono HO254.out (fun _ hk => hk.2)⟩, ⟨by (with_reducible repeat (first | apply Kd.R_alloc | apply Kd.R_drewN | apply Kd.R_drew)); exact Kd.R_mono HO257.out (fun _ hk => hk.2)⟩, ⟨by repeat (first | (with_reducible first | exact HB.out | apply below_alloc | apply pw_below_drewN | apply below_drew1) | exact HB.out)⟩⟩
  case rest =>
    clear HC10
    try clear c1
    try clear p2
    try clear p6
    try clear c8
    try clear c14
    try clear c14b0
    try clear c14b1
    obtain ⟨kq, x42_9, rfl, HA, HJ9, HO_11, HO_12, HB⟩ := hcut
    cases kq with
    | zero => exact absurd HA.out (by simp [ropeladderlaw02_SchedRandom.j0])
    | succ kj9 =>
      have H := HA.out
      clear HA
      simp only [ropeladderlaw02_SchedRandom.j0] at H
      by_cases c18 : x42_9 = true
      · subst c18
        have H1 : (some false) = some r := by rw [if_pos rfl] at H; exact H
        clear H
        have H := H1
        clear H1
        obtain rfl := Option.some.inj H
        go_wp2
        repeat (go_quiet (fail); try go_wp2)
        go_ret
        exact ⟨by first | rfl | (simp [errW_none, errW_some] <;> rfl) | (simp only [← hji8]; first | rfl | (simp [errW_none, errW_some] <;> rfl)) | (simp [*, errW_none, errW_some] <;> rfl), by repeat (first | (with_reducible first | exact HB.out | apply below_alloc | apply pw_below_drewN | apply below_drew1) | exact HB.out)⟩
      · replace c18 := Bool.eq_false_iff.mpr c18
        subst c18
        have H1 : (ropeladderlaw02_SchedRandom.l0 kj9 t250 t251 t252 t255 a0 0) = some r := by rw [if_neg (show ¬ (false = true) by decide)] at H; exact H
        clear H
        have H := H1
        clear H1
        have H' := Aside0.mk H
        clear H
        go_wp2
        repeat (go_quiet (fail); try go_wp2)
        go_loopg [13, 14] kj9 (fun kq v13 v14 w' => ∃ (x13_2 : Int) (x14_2 : Int), v13 = .int .u32 x13_2 ∧ v14 = .int .i64 x14_2 ∧ Aside0 (ropeladderlaw02_SchedRandom.l0 kq t250 t251 t252 t255 x13_2 x14_2 = some r) ∧ Aside0 (kq ≤ kj9) ∧ Aside0 (Kd.R (Kd.int .i64) 3 w' w.heap.size (fun k_ => some k_ ≠ (v256 : Value).ownBlock) v253 t252) ∧ Aside0 (Kd.R (Kd.int .i64) 3 w' w.heap.size (fun k_ => some k_ ≠ (v253 : Value).ownBlock) v256 t255) ∧ Aside0 (Below w.heap.size w w'))
        case atStart => exact ⟨(a0), (0), (by first | rfl | (simp; done) | (simp [*]; done)), (by first | rfl | (simp; done) | (simp [*]; done)), H', ⟨Nat.le_refl _⟩, ⟨by (with_reducible repeat (first | apply Kd.R_alloc | apply Kd.R_drewN | apply Kd.R_drew)); exact HO_11.out⟩, ⟨by (with_reducible repeat (first | apply Kd.R_alloc | apply Kd.R_drewN | apply Kd.R_drew)); exact HO_12.out⟩, ⟨by repeat (first | (with_reducible first | exact HB.out | apply below_alloc | apply pw_below_drewN | apply below_drew1) | exact HB.out)⟩⟩
        case round =>
          clear H'
          try clear c1
          try clear p2
          try clear p6
          try clear c8
          try clear c14
          try clear c14b0
          try clear c14b1
          try clear c18
          try clear p2
          try clear p6
          obtain ⟨x13_2, x14_2, rfl, rfl, HA, HK2, HO_11, HO_12, HB⟩ := hrel
          cases gk with
          | zero => exact absurd HA.out (by simp [ropeladderlaw02_SchedRandom.l0])
          | succ k2 =>
            have H := HA.out
            clear HA
            simp only [ropeladderlaw02_SchedRandom.l0] at H
            by_cases c19 : x14_2 < (t252.length : Int)
            · rw [if_pos c19] at H
              have c19b0 : decide (x14_2 < (t252.length : Int)) = true := decide_eq_true c19
              clear c19
              by_cases c20 : 0 ≤ x14_2
              · rw [if_pos c20] at H
                have c20b0 : decide (0 ≤ x14_2) = true := decide_eq_true c20
                clear c20
                by_cases c21 : (rd t252 x14_2) < 0
                · rw [if_pos c21] at H
                  have c21b0 : decide ((rd t252 x14_2) < 0) = true := decide_eq_true c21
                  clear c21
                  obtain rfl := Option.some.inj H
                  obtain ⟨Ao22, co22, eo22⟩ := Kd.R_slice HO_11.out
                  subst eo22
                  have p258 : 0 ≤ (x14_2 : Int) := of_decide_eq_true (by first | (with_reducible assumption) | assumption)
                  have q258 : x14_2 < (t252.length : Int) := of_decide_eq_true (by first | (with_reducible assumption) | assumption)
                  obtain ⟨ad258, e258, hx258_0⟩ := Kd.at_int (Kd.R_reads' HO_11.out).2.2 x14_2 p258 q258
                  cases e258
                  replace p258 := eq_true p258
                  replace q258 := eq_true q258
                  go_wp2
                  repeat (go_quiet (fail); try go_wp2)
                  go_ret
                  exact ⟨by first | rfl | (simp [errW_none, errW_some] <;> rfl) | (simp only [← hji8]; first | rfl | (simp [errW_none, errW_some] <;> rfl)) | (simp [*, errW_none, errW_some] <;> rfl), by repeat (first | (with_reducible first | exact HB.out | apply below_alloc | apply pw_below_drewN | apply below_drew1) | exact HB.out)⟩
                · rw [if_neg c21] at H
                  have c21b0 : decide ((rd t252 x14_2) < 0) = false := decide_eq_false c21
                  clear c21
                  by_cases c23 : (rd t252 x14_2) ≥ t251
                  · rw [if_pos c23] at H
                    have c23b0 : decide (t251 ≤ (rd t252 x14_2)) = true := decide_eq_true c23
                    clear c23
                    obtain rfl := Option.some.inj H
                    obtain ⟨Ao24, co24, eo24⟩ := Kd.R_slice HO_11.out
                    subst eo24
                    have p258 : 0 ≤ (x14_2 : Int) := of_decide_eq_true (by first | (with_reducible assumption) | assumption)
                    have q258 : x14_2 < (t252.length : Int) := of_decide_eq_true (by first | (with_reducible assumption) | assumption)
                    obtain ⟨ad258, e258, hx258_0⟩ := Kd.at_int (Kd.R_reads' HO_11.out).2.2 x14_2 p258 q258
                    cases e258
                    replace p258 := eq_true p258
                    replace q258 := eq_true q258
                    have p259 : 0 ≤ (x14_2 : Int) := of_decide_eq_true (by first | (with_reducible assumption) | assumption)
                    have q259 : x14_2 < (t252.length : Int) := of_decide_eq_true (by first | (with_reducible assumption) | assumption)
                    obtain ⟨ad259, e259, hx259_0⟩ := Kd.at_int (Kd.R_reads' HO_11.out).2.2 x14_2 p259 q259
                    obtain rfl : ad258 = ad259 := (by injection e259)
                    replace p259 := eq_true p259
                    replace q259 := eq_true q259
                    go_wp2
                    repeat (go_quiet (fail); try go_wp2)
                    go_ret
                    exact ⟨by first | rfl | (simp [errW_none, errW_some] <;> rfl) | (simp only [← hji8]; first | rfl | (simp [errW_none, errW_some] <;> rfl)) | (simp [*, errW_none, errW_some] <;> rfl), by repeat (first | (with_reducible first | exact HB.out | apply below_alloc | apply pw_below_drewN | apply below_drew1) | exact HB.out)⟩
                  · rw [if_neg c23] at H
                    have c23b0 : decide (t251 ≤ (rd t252 x14_2)) = false := decide_eq_false c23
                    clear c23
                    by_cases c25 : t251 = 0
                    · rw [if_pos c25] at H
                      exact absurd H (by simp)
                    · rw [if_neg c25] at H
                      have c25b0 : (t251 == 0) = false := beq_eq_false_iff_ne.mpr c25
                      have c25b1 : (t251 != 0) = true := bne_iff_ne.mpr c25
                      by_cases c26 : (rd t252 x14_2) = ((((x13_2 * 1664525 + 1013904223) % 4294967296) / 65536) % t251)
                      · rw [if_pos c26] at H
                        have c26b0 : ((rd t252 x14_2) == ((((x13_2 * 1664525 + 1013904223) % 4294967296) / 65536) % t251)) = true := beq_iff_eq.mpr c26
                        have c26b1 : ((rd t252 x14_2) != ((((x13_2 * 1664525 + 1013904223) % 4294967296) / 65536) % t251)) = false := bne_eq_false_iff_eq.mpr c26
                        clear c26
                        have H' := Aside0.mk H
                        clear H
                        obtain ⟨Ao27, co27, eo27⟩ := Kd.R_slice HO_11.out
                        subst eo27
                        have p258 : 0 ≤ (x14_2 : Int) := of_decide_eq_true (by first | (with_reducible assumption) | assumption)
                        have q258 : x14_2 < (t252.length : Int) := of_decide_eq_true (by first | (with_reducible assumption) | assumption)
                        obtain ⟨ad258, e258, hx258_0⟩ := Kd.at_int (Kd.R_reads' HO_11.out).2.2 x14_2 p258 q258
                        cases e258
                        replace p258 := eq_true p258
                        replace q258 := eq_true q258
                        have p259 : 0 ≤ (x14_2 : Int) := of_decide_eq_true (by first | (with_reducible assumption) | assumption)
                        have q259 : x14_2 < (t252.length : Int) := of_decide_eq_true (by first | (with_reducible assumption) | assumption)
                        obtain ⟨ad259, e259, hx259_0⟩ := Kd.at_int (Kd.R_reads' HO_11.out).2.2 x14_2 p259 q259
                        obtain rfl : ad258 = ad259 := (by injection e259)
                        replace p259 := eq_true p259
                        replace q259 := eq_true q259
                        have p260 : 0 ≤ (x14_2 : Int) := of_decide_eq_true (by first | (with_reducible assumption) | assumption)
                        have q260 : x14_2 < (t252.length : Int) := of_decide_eq_true (by first | (with_reducible assumption) | assumption)
                        obtain ⟨ad260, e260, hx260_0⟩ := Kd.at_int (Kd.R_reads' HO_11.out).2.2 x14_2 p260 q260
                        obtain rfl : ad258 = ad260 := (by injection e260)
                        replace p260 := eq_true p260
                        replace q260 := eq_true q260
                        go_wp2
                        repeat (go_quiet (fail); try go_wp2)
                        go_roundg k2
                        case measure => have := HJ9.out; have := HK2.out; omega
                        case rel => exact ⟨((x13_2 * 1664525 + 1013904223) % 4294967296), (wrap64 (x14_2 + 1)), (by first | rfl | (simp; done) | (simp [*]; done)), (by first | rfl | (simp; done) | (simp [*]; done)), H', ⟨by have := HJ9.out; have := HK2.out; omega⟩, ⟨by (with_reducible repeat (first | apply Kd.R_alloc | apply Kd.R_drewN | apply Kd.R_drew)); exact HO_11.out⟩, ⟨by (with_reducible repeat (first | apply Kd.R_alloc | apply Kd.R_drewN | apply Kd.R_drew)); exact HO_12.out⟩, ⟨by repeat (first | (with_reducible first | exact HB.out | apply below_alloc | apply pw_below_drewN | apply below_drew1) | exact HB.out)⟩⟩
                      · rw [if_neg c26] at H
                        have c26b0 : ((rd t252 x14_2) == ((((x13_2 * 1664525 + 1013904223) % 4294967296) / 65536) % t251)) = false := beq_eq_false_iff_ne.mpr c26
                        have c26b1 : ((rd t252 x14_2) != ((((x13_2 * 1664525 + 1013904223) % 4294967296) / 65536) % t251)) = true := bne_iff_ne.mpr c26
                        obtain rfl := Option.some.inj H
                        obtain ⟨Ao28, co28, eo28⟩ := Kd.R_slice HO_11.out
                        subst eo28
                        have p258 : 0 ≤ (x14_2 : Int) := of_decide_eq_true (by first | (with_reducible assumption) | assumption)
                        have q258 : x14_2 < (t252.length : Int) := of_decide_eq_true (by first | (with_reducible assumption) | assumption)
                        obtain ⟨ad258, e258, hx258_0⟩ := Kd.at_int (Kd.R_reads' HO_11.out).2.2 x14_2 p258 q258
                        cases e258
                        replace p258 := eq_true p258
                        replace q258 := eq_true q258
                        have p259 : 0 ≤ (x14_2 : Int) := of_decide_eq_true (by first | (with_reducible assumption) | assumption)
                        have q259 : x14_2 < (t252.length : Int) := of_decide_eq_true (by first | (with_reducible assumption) | assumption)
                        obtain ⟨ad259, e259, hx259_0⟩ := Kd.at_int (Kd.R_reads' HO_11.out).2.2 x14_2 p259 q259
                        obtain rfl : ad258 = ad259 := (by injection e259)
                        replace p259 := eq_true p259
                        replace q259 := eq_true q259
                        have p260 : 0 ≤ (x14_2 : Int) := of_decide_eq_true (by first | (with_reducible assumption) | assumption)
                        have q260 : x14_2 < (t252.length : Int) := of_decide_eq_true (by first | (with_reducible assumption) | assumption)
                        obtain ⟨ad260, e260, hx260_0⟩ := Kd.at_int (Kd.R_reads' HO_11.out).2.2 x14_2 p260 q260
                        obtain rfl : ad258 = ad260 := (by injection e260)
                        replace p260 := eq_true p260
                        replace q260 := eq_true q260
                        go_wp2
                        repeat (go_quiet (fail); try go_wp2)
                        go_ret
                        exact ⟨by first | rfl | (simp [errW_none, errW_some] <;> rfl) | (simp only [← hji8]; first | rfl | (simp [errW_none, errW_some] <;> rfl)) | (simp [*, errW_none, errW_some] <;> rfl), by repeat (first | (with_reducible first | exact HB.out | apply below_alloc | apply pw_below_drewN | apply below_drew1) | exact HB.out)⟩
              · rw [if_neg c20] at H
                exact absurd H (by simp)
            · rw [if_neg c19] at H
              have c19b0 : decide (x14_2 < (t252.length : Int)) = false := decide_eq_false c19
              clear c19
              by_cases c29 : t250 = true
              · subst c29
                have H1 : (if 0 ≤ (t255.length : Int) then (if (t255.length : Int) ≤ (t252.length : Int) then ((ropeladderref02_Same.f k2 t255 (t252.take ((t255.length : Int) : Int).toNat)).bind fun t265 => (some t265)) else (none)) else (none)) = some r := by rw [if_pos rfl] at H; exact H
                clear H
                have H := H1
                clear H1
                by_cases c30 : 0 ≤ (t255.length : Int)
                · rw [if_pos c30] at H
                  have c30b0 := eq_true c30
                  have c30b1 : decide (0 ≤ (t255.length : Int)) = true := decide_eq_true c30
                  clear c30
                  by_cases c31 : (t255.length : Int) ≤ (t252.length : Int)
                  · rw [if_pos c31] at H
                    have c31b0 := eq_true c31
                    have c31b1 : decide ((t255.length : Int) ≤ (t252.length : Int)) = true := decide_eq_true c31
                    clear c31
                    obtain ⟨y261, hy261⟩ : ∃ y_ : List Int, y_ = (t252.take ((t255.length : Int) : Int).toNat) := ⟨_, rfl⟩
                    replace H : ((ropeladderref02_Same.f k2 t255 y261).bind fun t265 => (some t265)) = some r := by first | (rw [hy261]; with_reducible exact H) | (have H2_ := (Option.bind_some _ _).symm.trans H; rw [hy261]; with_reducible exact H2_) | (have H2_ := (Option.bind_some _ _).symm.trans H; with_reducible exact H2_) | with_reducible exact H | (rw [hy261]; exact H) | exact H
                    have Ny261 := Aside0.mk hy261
                    clear hy261
                    replace H := Option.bind_eq_some_iff.mp H
                    obtain ⟨t265, A320, H⟩ := H
                    replace H : (some t265) = some r := H
                    have A32 := Aside0.mk A320
                    clear A320
                    obtain rfl := Option.some.inj H
                    obtain ⟨Ao33, co33, eo33⟩ := Kd.R_slice HO_11.out
                    subst eo33
                    obtain ⟨Ao34, co34, eo34⟩ := Kd.R_slice HO_12.out
                    subst eo34
                    have q35 : ((t255.length : Int) : Int) ≤ ((t252.length : Int) : Int) := of_decide_eq_true (by first | (with_reducible assumption) | assumption)
                    obtain ⟨i035, hi035, _, hsz35, _⟩ := info_parts info3
                    have hroom35 : t252.length ≤ co33 := (Kd.R_reads' HO_11.out).2.1
                    have hC35 : Kd.C (Kd.int .i64) _ Ao33 t252.length t252 := (Kd.R_reads' HO_11.out).2.2
                    have hcut35 := cut_to (P := Try.prog) 26 3 .i64 Try.underlying26 hi035 Ao33 t252.length co33 (t255.length : Int) (of_decide_eq_true (by first | (with_reducible assumption) | assumption)) q35 hroom35
                    have hr35 := Kd.C_take (m := ((t255.length : Int) : Int).toNat) hC35 (by omega)
                    have hy35 : y261.length = ((t255.length : Int) : Int).toNat := (by rw [Ny261.out, List.length_take]; omega)
                    rw [← Ny261.out] at hr35
                    rw [← hy35] at hcut35
                    have HR264 := Aside0.mk hr35
                    have HC264 := Aside0.mk (show y261.length ≤ co33 from by omega)
                    clear hr35 hC35 hroom35 hi035 hsz35
                    have KY35 := Aside0.mk hy35
                    clear hy35
                    have KL35 := Aside0.mk (show ((t255.length : Int) : Int).toNat ≤ t252.length from by omega)
                    replace q35 := eq_true q35
                    go_wp2_with (first | (go_at_call 12; (with_reducible refine (ropeladderref02_Same.calls k2 _ _ t255 _ _ y261 t265 _ ?side1 ?side2 ?side3 ?side4 A32.out).mono ?_); (case side1 => repeat (first | exact (Kd.R_reads' HO_12.out).2.2 | (with_reducible refine Kd.C_alloc ?_ _) | (with_reducible refine Kd.C_drewN ?_ _) | (with_reducible refine Kd.C_drew ?_))); (case side2 => exact (Kd.R_reads' HO_12.out).2.1); (case side3 => repeat (first | exact (by repeat (first | (with_reducible exact HR264.out) | (with_reducible refine Kd.C_alloc ?_ _) | (with_reducible refine Kd.C_drewN ?_ _) | (with_reducible refine Kd.C_drew ?_) | exact HR264.out)) | (with_reducible refine Kd.C_alloc ?_ _) | (with_reducible refine Kd.C_drewN ?_ _) | (with_reducible refine Kd.C_drew ?_))); (case side4 => exact HC264.out); rintro e w' ⟨rfl, ⟨nd, rfl⟩⟩; (try first | exact ⟨rfl, _, World.drewN_drewN _ _ _⟩ | exact ⟨rfl, _, Eq.trans (World.drewN_drewN _ _ _) (congrArg (World.drewN _) (Nat.add_assoc _ _ _))⟩)))
                    repeat (go_quiet (first | (go_at_call 12; (with_reducible refine (ropeladderref02_Same.calls k2 _ _ t255 _ _ y261 t265 _ ?side1 ?side2 ?side3 ?side4 A32.out).mono ?_); clear A32; (case side1 => repeat (first | exact (Kd.R_reads' HO_12.out).2.2 | (with_reducible refine Kd.C_alloc ?_ _) | (with_reducible refine Kd.C_drewN ?_ _) | (with_reducible refine Kd.C_drew ?_))); (case side2 => exact (Kd.R_reads' HO_12.out).2.1); (case side3 => repeat (first | exact (by repeat (first | (with_reducible exact HR264.out) | (with_reducible refine Kd.C_alloc ?_ _) | (with_reducible refine Kd.C_drewN ?_ _) | (with_reducible refine Kd.C_drew ?_) | exact HR264.out)) | (with_reducible refine Kd.C_alloc ?_ _) | (with_reducible refine Kd.C_drewN ?_ _) | (with_reducible refine Kd.C_drew ?_))); (case side4 => exact HC264.out); rintro e w' ⟨rfl, ⟨nd, rfl⟩⟩; (try first | exact ⟨rfl, _, World.drewN_drewN _ _ _⟩ | exact ⟨rfl, _, Eq.trans (World.drewN_drewN _ _ _) (congrArg (World.drewN _) (Nat.add_assoc _ _ _))⟩))); try go_wp2_with (first | (go_at_call 12; (with_reducible refine (ropeladderref02_Same.calls k2 _ _ t255 _ _ y261 t265 _ ?side1 ?side2 ?side3 ?side4 A32.out).mono ?_); clear A32; (case side1 => repeat (first | exact (Kd.R_reads' HO_12.out).2.2 | (with_reducible refine Kd.C_alloc ?_ _) | (with_reducible refine Kd.C_drewN ?_ _) | (with_reducible refine Kd.C_drew ?_))); (case side2 => exact (Kd.R_reads' HO_12.out).2.1); (case side3 => repeat (first | exact (by repeat (first | (with_reducible exact HR264.out) | (with_reducible refine Kd.C_alloc ?_ _) | (with_reducible refine Kd.C_drewN ?_ _) | (with_reducible refine Kd.C_drew ?_) | exact HR264.out)) | (with_reducible refine Kd.C_alloc ?_ _) | (with_reducible refine Kd.C_drewN ?_ _) | (with_reducible refine Kd.C_drew ?_))); (case side4 => exact HC264.out); rintro e w' ⟨rfl, ⟨nd, rfl⟩⟩; (try first | exact ⟨rfl, _, World.drewN_drewN _ _ _⟩ | exact ⟨rfl, _, Eq.trans (World.drewN_drewN _ _ _) (congrArg (World.drewN _) (Nat.add_assoc _ _ _))⟩))))
                    go_ret
                    exact ⟨by first | rfl | (simp [errW_none, errW_some] <;> rfl) | (simp only [← hji8]; first | rfl | (simp [errW_none, errW_some] <;> rfl)) | (simp [*, errW_none, errW_some] <;> rfl), by repeat (first | (with_reducible first | exact HB.out | apply below_alloc | apply pw_below_drewN | apply below_drew1) | exact HB.out)⟩
                  · rw [if_neg c31] at H
                    exact absurd H (by simp)
                · rw [if_neg c30] at H
                  exact absurd H (by simp)
              · replace c29 := Bool.eq_false_iff.mpr c29
                subst c29
                have H1 : (some false) = some r := by rw [if_neg (show ¬ (false = true) by decide)] at H; exact H
                clear H
                have H := H1
                clear H1
                obtain rfl := Option.some.inj H
                obtain ⟨Ao36, co36, eo36⟩ := Kd.R_slice HO_11.out
                subst eo36
                go_wp2
                repeat (go_quiet (fail); try go_wp2)
                go_ret
                exact ⟨by first | rfl | (simp [errW_none, errW_some] <;> rfl) | (simp only [← hji8]; first | rfl | (simp [errW_none, errW_some] <;> rfl)) | (simp [*, errW_none, errW_some] <;> rfl), by repeat (first | (with_reducible first | exact HB.out | apply below_alloc | apply pw_below_drewN | apply below_drew1) | exact HB.out)⟩

/-- THE ONE PURE STATEMENT of ropeladderlaw02_SchedRandom: yours. -/
def ropeladderlaw02_SchedRandom.Pure : Prop := ∀ (a0 : Int) (a1 : Int) (a2 : Int) (a3 : Int), (Lit.int .u32 a0).wf = true → (Lit.int .u8 a1).wf = true → (Lit.int .u8 a2).wf = true → (Lit.int .u8 a3).wf = true → ∃ k, ropeladderlaw02_SchedRandom.f k a0 a1 a2 a3 = some true
theorem ropeladderlaw02_SchedRandom.walk (P : ropeladderlaw02_SchedRandom.Pure) (a0 : Int) (a1 : Int) (a2 : Int) (a3 : Int) (w : World) (w0 : (Lit.int .u32 a0).wf = true) (w1 : (Lit.int .u8 a1).wf = true) (w2 : (Lit.int .u8 a2).wf = true) (w3 : (Lit.int .u8 a3).wf = true) :
    Calls Try.prog 8 #[.int .u32 a0, .int .u8 a1, .int .u8 a2, .int .u8 a3] w fun e w' => e = .returned (.bool true) ∧ Below w.heap.size w w' := by
  obtain ⟨k, h⟩ := P a0 a1 a2 a3 w0 w1 w2 w3
  refine (ropeladderlaw02_SchedRandom.calls k a0 a1 a2 a3 true w h).mono ?_
  rintro e w' ⟨rfl, hd⟩
  exact ⟨rfl, hd⟩

end Go.Proofs.Ytngofgblhblfkaa.PS
