/- Written by a program of this session out of the translation: for each Go function a Lean function, and the proof that the call computes it; the conditions stand in each theorem. -/
import Derived.Test.YtngofgblhblfkaaPSx0
import Derived.Test.YtngofgblhblfkaaPSx1
import Derived.Test.YtngofgblhblfkaaPSx2
namespace Go.Proofs.Ytngofgblhblfkaa.PS
open Go.RowKit Go.Proofs.Ytngofgblhblfkaa.Hand Go.Proofs.YtngofgblhblfkaaW.PrintWords Go.Proofs.YtngofgblhblfkaaW.PrintLast Go.Proofs.YtngofgblhblfkaaW.PrintMore
attribute [local go_sem] max2_int min2_int max_two min_two max_three min_three max_four min_four   -- for this text's walks alone
set_option linter.unusedVariables false
set_option linter.unusedSimpArgs false

/-! ### ropeladderlaw02_SchedWindows: function 4 -/
mutual
def ropeladderlaw02_SchedWindows.l0 : Nat → Bool → Int → List Int → Int → Bool → Int → Option (Bool)
  | 0, _, _, _, _, _, _ => none
  | k + 1, x7, x8, x9, x10, x11, x12 => if (wrap64 (x12 + x10)) ≤ (x9.length : Int) then (ropeladderlaw02_SchedWindows.l1 k x7 x8 x9 x10 x11 x12 0) else (if x7 = true then ((sched_Fair.f x9 x8 x10).bind fun t213 => (some (t213 == x11))) else (some false))
def ropeladderlaw02_SchedWindows.l1 : Nat → Bool → Int → List Int → Int → Bool → Int → Int → Option (Bool)
  | 0, _, _, _, _, _, _, _ => none
  | k + 1, x7, x8, x9, x10, x11, x12, x13 => if x13 < x8 then (ropeladderlaw02_SchedWindows.l2 k x7 x8 x9 x10 x11 x12 x13 false x12) else (ropeladderlaw02_SchedWindows.l0 k x7 x8 x9 x10 x11 (wrap64 (x12 + 1)))
def ropeladderlaw02_SchedWindows.l2 : Nat → Bool → Int → List Int → Int → Bool → Int → Int → Bool → Int → Option (Bool)
  | 0, _, _, _, _, _, _, _, _, _ => none
  | k + 1, x7, x8, x9, x10, x11, x12, x13, x14, x15 => if x15 < (wrap64 (x12 + x10)) then (if x14 = true then (ropeladderlaw02_SchedWindows.l2 k x7 x8 x9 x10 x11 x12 x13 true (wrap64 (x15 + 1))) else (if 0 ≤ x15 then (if x15 < (x9.length : Int) then (ropeladderlaw02_SchedWindows.l2 k x7 x8 x9 x10 x11 x12 x13 ((rd x9 x15) == x13) (wrap64 (x15 + 1))) else (none)) else (none))) else (if x11 = true then (ropeladderlaw02_SchedWindows.l1 k x7 x8 x9 x10 x14 x12 (wrap64 (x13 + 1))) else (ropeladderlaw02_SchedWindows.l1 k x7 x8 x9 x10 false x12 (wrap64 (x13 + 1))))
end
def ropeladderlaw02_SchedWindows.f (k : Nat) (a0 : Int) (l1 : List Int) (a2 : Int) : Option (Bool) := (ropeladderlaw02_head.f k).bind fun t208 => (if (l1.length : Int) > 100 then (some t208) else ((ropeladderlaw02_Threads.f a0).bind fun t209 => ((ropeladderlaw02_Picks.f k l1 t209).bind fun t210 => (ropeladderlaw02_SchedWindows.l0 k t208 t209 t210 (wrap64 ((Int.tmod (wrap64 (a2)) 30) + 1)) true 0))))
theorem ropeladderlaw02_SchedWindows.mono_l : ∀ k, (∀ y0 y1 y2 y3 y4 y5, LeO (ropeladderlaw02_SchedWindows.l0 k y0 y1 y2 y3 y4 y5) (ropeladderlaw02_SchedWindows.l0 (k + 1) y0 y1 y2 y3 y4 y5)) ∧ (∀ y0 y1 y2 y3 y4 y5 y6, LeO (ropeladderlaw02_SchedWindows.l1 k y0 y1 y2 y3 y4 y5 y6) (ropeladderlaw02_SchedWindows.l1 (k + 1) y0 y1 y2 y3 y4 y5 y6)) ∧ (∀ y0 y1 y2 y3 y4 y5 y6 y7 y8, LeO (ropeladderlaw02_SchedWindows.l2 k y0 y1 y2 y3 y4 y5 y6 y7 y8) (ropeladderlaw02_SchedWindows.l2 (k + 1) y0 y1 y2 y3 y4 y5 y6 y7 y8))
  | 0 => ⟨fun _ _ _ _ _ _ r h => by simp [ropeladderlaw02_SchedWindows.l0] at h, fun _ _ _ _ _ _ _ r h => by simp [ropeladderlaw02_SchedWindows.l1] at h, fun _ _ _ _ _ _ _ _ _ r h => by simp [ropeladderlaw02_SchedWindows.l2] at h⟩
  | k + 1 => by
    obtain ⟨ih0, ih1, ih2⟩ := ropeladderlaw02_SchedWindows.mono_l k
    refine ⟨?_, ?_, ?_⟩
    · intro y0 y1 y2 y3 y4 y5
      unfold ropeladderlaw02_SchedWindows.l0
      repeat' first
      | (with_reducible exact ih0 _ _ _ _ _ _)
      | (with_reducible exact ih1 _ _ _ _ _ _ _)
      | (with_reducible exact ih2 _ _ _ _ _ _ _ _ _)
      | (with_reducible exact ropeladderlaw02_Picks.mono _ _ _)
      | (with_reducible exact ropeladderlaw02_head.mono _)
      | (with_reducible exact LeO.refl _)
      | (with_reducible exact LeO.none _)
      | (with_reducible refine LeO.ite ?_ ?_)
      | (with_reducible refine LeO.bind ?_ (fun _ => ?_))
      | exact ih0 _ _ _ _ _ _
      | exact ih1 _ _ _ _ _ _ _
      | exact ih2 _ _ _ _ _ _ _ _ _
      | exact ropeladderlaw02_Picks.mono _ _ _
      | exact ropeladderlaw02_head.mono _
      | exact LeO.none _
      | refine LeO.ite ?_ ?_
      | refine LeO.bind ?_ (fun _ => ?_)
    · intro y0 y1 y2 y3 y4 y5 y6
      unfold ropeladderlaw02_SchedWindows.l1
      repeat' first
      | (with_reducible exact ih0 _ _ _ _ _ _)
      | (with_reducible exact ih1 _ _ _ _ _ _ _)
      | (with_reducible exact ih2 _ _ _ _ _ _ _ _ _)
      | (with_reducible exact ropeladderlaw02_Picks.mono _ _ _)
      | (with_reducible exact ropeladderlaw02_head.mono _)
      | (with_reducible exact LeO.refl _)
      | (with_reducible exact LeO.none _)
      | (with_reducible refine LeO.ite ?_ ?_)
      | (with_reducible refine LeO.bind ?_ (fun _ => ?_))
      | exact ih0 _ _ _ _ _ _
      | exact ih1 _ _ _ _ _ _ _
      | exact ih2 _ _ _ _ _ _ _ _ _
      | exact ropeladderlaw02_Picks.mono _ _ _
      | exact ropeladderlaw02_head.mono _
      | exact LeO.none _
      | refine LeO.ite ?_ ?_
      | refine LeO.bind ?_ (fun _ => ?_)
    · intro y0 y1 y2 y3 y4 y5 y6 y7 y8
      unfold ropeladderlaw02_SchedWindows.l2
      repeat' first
      | (with_reducible exact ih0 _ _ _ _ _ _)
      | (with_reducible exact ih1 _ _ _ _ _ _ _)
      | (with_reducible exact ih2 _ _ _ _ _ _ _ _ _)
      | (with_reducible exact ropeladderlaw02_Picks.mono _ _ _)
      | (with_reducible exact ropeladderlaw02_head.mono _)
      | (with_reducible exact LeO.refl _)
      | (with_reducible exact LeO.none _)
      | (with_reducible refine LeO.ite ?_ ?_)
      | (with_reducible refine LeO.bind ?_ (fun _ => ?_))
      | exact ih0 _ _ _ _ _ _
      | exact ih1 _ _ _ _ _ _ _
      | exact ih2 _ _ _ _ _ _ _ _ _
      | exact ropeladderlaw02_Picks.mono _ _ _
      | exact ropeladderlaw02_head.mono _
      | exact LeO.none _
      | refine LeO.ite ?_ ?_
      | refine LeO.bind ?_ (fun _ => ?_)
theorem ropeladderlaw02_SchedWindows.mono : ∀ a0 a1 a2 k, LeO (ropeladderlaw02_SchedWindows.f k a0 a1 a2) (ropeladderlaw02_SchedWindows.f (k + 1) a0 a1 a2) := by
  intro a0 a1 a2 k
  obtain ⟨ih0, ih1, ih2⟩ := ropeladderlaw02_SchedWindows.mono_l k
  unfold ropeladderlaw02_SchedWindows.f
  repeat' first
      | (with_reducible exact ih0 _ _ _ _ _ _)
      | (with_reducible exact ih1 _ _ _ _ _ _ _)
      | (with_reducible exact ih2 _ _ _ _ _ _ _ _ _)
      | (with_reducible exact ropeladderlaw02_Picks.mono _ _ _)
      | (with_reducible exact ropeladderlaw02_head.mono _)
      | (with_reducible exact LeO.refl _)
      | (with_reducible exact LeO.none _)
      | (with_reducible refine LeO.ite ?_ ?_)
      | (with_reducible refine LeO.bind ?_ (fun _ => ?_))
      | exact ih0 _ _ _ _ _ _
      | exact ih1 _ _ _ _ _ _ _
      | exact ih2 _ _ _ _ _ _ _ _ _
      | exact ropeladderlaw02_Picks.mono _ _ _
      | exact ropeladderlaw02_head.mono _
      | exact LeO.none _
      | refine LeO.ite ?_ ?_
      | refine LeO.bind ?_ (fun _ => ?_)
set_option maxHeartbeats 8000000 in
set_option maxRecDepth 100000 in
theorem ropeladderlaw02_SchedWindows.calls (k : Nat) (a0 : Int) (A1 : Option Addr) (c1 : Nat) (l1 : List Int) (a2 : Int) (r : Bool) (w : World) (hr1 : Kd.C (Kd.int .u8) w A1 l1.length l1) (hc1 : l1.length ≤ c1) (h : ropeladderlaw02_SchedWindows.f k a0 l1 a2 = some r) :
    Calls Try.prog 4 #[.int .u8 a0, .slice A1 l1.length c1, .int .u8 a2] w fun e w' => e = .returned (.bool r) ∧ Below w.heap.size w w' := by
  have HR1 := Aside0.mk hr1
  have HC1 := Aside0.mk hc1
  clear hr1 hc1
  have HB := Aside0.mk (Below.refl w.heap.size w)
  have H : ((ropeladderlaw02_head.f k).bind fun t208 => (if (l1.length : Int) > 100 then (some t208) else ((ropeladderlaw02_Threads.f a0).bind fun t209 => ((ropeladderlaw02_Picks.f k l1 t209).bind fun t210 => (ropeladderlaw02_SchedWindows.l0 k t208 t209 t210 (wrap64 ((Int.tmod (wrap64 (a2)) 30) + 1)) true 0))))) = some r := h
  clear h
  replace H := Option.bind_eq_some_iff.mp H
  obtain ⟨t208, A40, H⟩ := H
  replace H : (if (l1.length : Int) > 100 then (some t208) else ((ropeladderlaw02_Threads.f a0).bind fun t209 => ((ropeladderlaw02_Picks.f k l1 t209).bind fun t210 => (ropeladderlaw02_SchedWindows.l0 k t208 t209 t210 (wrap64 ((Int.tmod (wrap64 (a2)) 30) + 1)) true 0)))) = some r := H
  have A4 := Aside0.mk A40
  clear A40
  by_cases c5 : (l1.length : Int) > 100
  · rw [if_pos c5] at H
    have c5b0 : decide (100 < (l1.length : Int)) = true := decide_eq_true c5
    have c5b1 : decide (100 < l1.length) = true := decide_eq_true (by omega)
    clear c5
    obtain rfl := Option.some.inj H
    go_enter Try.func4, Try.ntmps4
    go_wp2_with (first | ((with_reducible refine gate_callee (f := 9) rfl ?_); refine goesL_ (some 16) rfl rfl Try.func9 (by kernel_rfl) rfl #[] rfl (by (try simp only [List.map_toArray, List.map_cons, List.map_nil]); first | done | rfl | (simp only [List.length_drop, List.length_take]; rfl)) ?_; (with_reducible refine (ropeladderlaw02_head.calls k  t208 _ A4.out).mono ?_); rintro e w6 ⟨rfl, hb⟩; refine ⟨_, rfl, ?_⟩; have n0_ := Aside0.mk (below_step (by repeat (first | (with_reducible first | exact HB.out | apply below_alloc | apply pw_below_drewN | apply below_drew1) | exact HB.out)) hb); clear HB; have HB := n0_; clear n0_; (try clear hb); (try clear hb2); (try clear hk); (try clear hi)))
    go_ret
    exact ⟨by first | rfl | (simp [errW_none, errW_some] <;> rfl) | (simp [*, errW_none, errW_some] <;> rfl), by repeat (first | (with_reducible first | exact HB.out | apply below_alloc | apply pw_below_drewN | apply below_drew1) | exact HB.out)⟩
  · rw [if_neg c5] at H
    have c5b0 : decide (100 < (l1.length : Int)) = false := decide_eq_false c5
    have c5b1 : decide (100 < l1.length) = false := decide_eq_false (by omega)
    clear c5
    replace H := Option.bind_eq_some_iff.mp H
    obtain ⟨t209, A70, H⟩ := H
    replace H : ((ropeladderlaw02_Picks.f k l1 t209).bind fun t210 => (ropeladderlaw02_SchedWindows.l0 k t208 t209 t210 (wrap64 ((Int.tmod (wrap64 (a2)) 30) + 1)) true 0)) = some r := H
    have A7 := Aside0.mk A70
    clear A70
    replace H := Option.bind_eq_some_iff.mp H
    obtain ⟨t210, A80, H⟩ := H
    replace H : (ropeladderlaw02_SchedWindows.l0 k t208 t209 t210 (wrap64 ((Int.tmod (wrap64 (a2)) 30) + 1)) true 0) = some r := H
    have A8 := Aside0.mk A80
    clear A80
    have H' := Aside0.mk H
    clear H
    go_enter Try.func4, Try.ntmps4
    go_wp2_with (first | ((with_reducible refine gate_callee (f := 9) rfl ?_); refine goesL_ (some 16) rfl rfl Try.func9 (by kernel_rfl) rfl #[] rfl (by (try simp only [List.map_toArray, List.map_cons, List.map_nil]); first | done | rfl | (simp only [List.length_drop, List.length_take]; rfl)) ?_; (with_reducible refine (ropeladderlaw02_head.calls k  t208 _ A4.out).mono ?_); rintro e w9 ⟨rfl, hb⟩; refine ⟨_, rfl, ?_⟩; have n0_ := Aside0.mk (below_step (by repeat (first | (with_reducible first | exact HB.out | apply below_alloc | apply pw_below_drewN | apply below_drew1) | exact HB.out)) hb); clear HB; have HB := n0_; clear n0_; (try clear hb); (try clear hb2); (try clear hk); (try clear hi)) | ((with_reducible refine gate_callee (f := 10) rfl ?_); refine goesL_ (some 22) rfl rfl Try.func10 (by kernel_rfl) rfl #[.int .u8 a0] rfl (by (try simp only [List.map_toArray, List.map_cons, List.map_nil]); first | done | rfl | (simp only [List.length_drop, List.length_take]; rfl)) ?_; (with_reducible refine (ropeladderlaw02_Threads.calls a0 t209 _ A7.out).mono ?_); rintro e w' ⟨rfl, ⟨nd, rfl⟩⟩; refine ⟨_, rfl, ?_⟩) | ((with_reducible refine gate_callee (f := 11) rfl ?_); refine goesL_ (some 25) rfl rfl Try.func11 (by kernel_rfl) rfl #[.slice A1 l1.length c1, .int .i64 t209] rfl (by (try simp only [List.map_toArray, List.map_cons, List.map_nil]); first | done | rfl | (simp only [List.length_drop, List.length_take]; rfl)) ?_; (with_reducible refine (ropeladderlaw02_Picks.calls k _ _ l1 t209 t210 _ ?side1 ?side2 A8.out).mono ?_); (case side1 => repeat (first | exact (Kd.C_below HR1.out (by repeat (first | (with_reducible first | exact HB.out | apply below_alloc | apply pw_below_drewN | apply below_drew1) | exact HB.out))) | (with_reducible refine Kd.C_alloc ?_ _) | (with_reducible refine Kd.C_drewN ?_ _) | (with_reducible refine Kd.C_drew ?_))); (case side2 => exact HC1.out); rintro e w10 ⟨v211, rfl, ho0, hb⟩; refine ⟨_, rfl, ?_⟩; have n0_ := Aside0.mk (Kd.R_lower ho0 (below_size (by repeat (first | (with_reducible first | exact HB.out | apply below_alloc | apply pw_below_drewN | apply below_drew1) | exact HB.out)))); have n1_ := Aside0.mk (below_step (by repeat (first | (with_reducible first | exact HB.out | apply below_alloc | apply pw_below_drewN | apply below_drew1) | exact HB.out)) hb); clear HB; have HO212 := n0_; have HB := n1_; clear n0_ n1_; (try clear hb); (try clear hb2); (try clear hk); (try clear hi); (try clear ho0)))
    go_loopg [11, 12] k (fun kq v11 v12 w' => ∃ (x11_1 : Bool) (x12_1 : Int), v11 = .bool x11_1 ∧ v12 = .int .i64 x12_1 ∧ Aside0 (ropeladderlaw02_SchedWindows.l0 kq t208 t209 t210 (wrap64 ((Int.tmod (wrap64 (a2)) 30) + 1)) x11_1 x12_1 = some r) ∧ Aside0 (kq ≤ k) ∧ Aside0 (Kd.R (Kd.int .i64) 3 w' w.heap.size (fun _ => True) v211 t210) ∧ Aside0 (Below w.heap.size w w'))
    case atStart => exact ⟨(true), (0), (by first | rfl | (simp; done) | (simp [*]; done)), (by first | rfl | (simp; done) | (simp [*]; done)), H', ⟨Nat.le_refl _⟩, ⟨by (with_reducible repeat (first | apply Kd.R_alloc | apply Kd.R_drewN | apply Kd.R_drew)); exact HO212.out⟩, ⟨by repeat (first | (with_reducible first | exact HB.out | apply below_alloc | apply pw_below_drewN | apply below_drew1) | exact HB.out)⟩⟩
    case round =>
      clear H'
      try clear c1
      try clear p2
      try clear c4
      try clear c5
      try clear c5b0
      try clear c5b1
      try clear p6
      try clear c9
      try clear c10
      obtain ⟨x11_1, x12_1, rfl, rfl, HA, HK1, HO_9, HB⟩ := hrel
      cases gk with
      | zero => exact absurd HA.out (by simp [ropeladderlaw02_SchedWindows.l0])
      | succ k1 =>
        have H := HA.out
        clear HA
        simp only [ropeladderlaw02_SchedWindows.l0] at H
        by_cases c11 : (wrap64 (x12_1 + (wrap64 ((Int.tmod (wrap64 (a2)) 30) + 1)))) ≤ (t210.length : Int)
        · rw [if_pos c11] at H
          have c11b0 : decide ((wrap64 (x12_1 + (wrap64 ((Int.tmod (wrap64 (a2)) 30) + 1)))) ≤ (t210.length : Int)) = true := decide_eq_true c11
          clear c11
          have H' := Aside0.mk H
          clear H
          obtain ⟨Ao12, co12, eo12⟩ := Kd.R_slice HO_9.out
          subst eo12
          go_wp2
          go_loopg [11, 13] k1 (fun kq v11 v13 w' => ∃ (x11_2 : Bool) (x13_2 : Int), v11 = .bool x11_2 ∧ v13 = .int .i64 x13_2 ∧ Aside0 (ropeladderlaw02_SchedWindows.l1 kq t208 t209 t210 (wrap64 ((Int.tmod (wrap64 (a2)) 30) + 1)) x11_2 x12_1 x13_2 = some r) ∧ Aside0 (kq ≤ k1) ∧ Aside0 (Kd.R (Kd.int .i64) 3 w' w.heap.size (fun _ => True) (.slice Ao12 t210.length co12) t210) ∧ Aside0 (Below w.heap.size w w'))
          case atStart => exact ⟨(x11_1), (0), (by first | rfl | (simp; done) | (simp [*]; done)), (by first | rfl | (simp; done) | (simp [*]; done)), H', ⟨Nat.le_refl _⟩, ⟨by (with_reducible repeat (first | apply Kd.R_alloc | apply Kd.R_drewN | apply Kd.R_drew)); exact HO_9.out⟩, ⟨by repeat (first | (with_reducible first | exact HB.out | apply below_alloc | apply pw_below_drewN | apply below_drew1) | exact HB.out)⟩⟩
          case round =>
            clear H'
            try clear c1
            try clear p2
            try clear c4
            try clear c5
            try clear c5b0
            try clear c5b1
            try clear p6
            try clear c9
            try clear c10
            try clear c11
            try clear c11b0
            try clear p2
            try clear p6
            obtain ⟨x11_2, x13_2, rfl, rfl, HA, HK2, HO_9, HB⟩ := hrel
            cases gk with
            | zero => exact absurd HA.out (by simp [ropeladderlaw02_SchedWindows.l1])
            | succ k2 =>
              have H := HA.out
              clear HA
              simp only [ropeladderlaw02_SchedWindows.l1] at H
              by_cases c13 : x13_2 < t209
              · rw [if_pos c13] at H
                have c13b0 : decide (x13_2 < t209) = true := decide_eq_true c13
                clear c13
                have H' := Aside0.mk H
                clear H
                go_wp2
                go_loopg [14, 15] k2 (fun kq v14 v15 w' => ∃ (x14_3 : Bool) (x15_3 : Int), v14 = .bool x14_3 ∧ v15 = .int .i64 x15_3 ∧ Aside0 (ropeladderlaw02_SchedWindows.l2 kq t208 t209 t210 (wrap64 ((Int.tmod (wrap64 (a2)) 30) + 1)) x11_2 x12_1 x13_2 x14_3 x15_3 = some r) ∧ Aside0 (kq ≤ k2) ∧ Aside0 (Kd.R (Kd.int .i64) 3 w' w.heap.size (fun _ => True) (.slice Ao12 t210.length co12) t210) ∧ Aside0 (Below w.heap.size w w'))
                case atStart => exact ⟨(false), (x12_1), (by first | rfl | (simp; done) | (simp [*]; done)), (by first | rfl | (simp; done) | (simp [*]; done)), H', ⟨Nat.le_refl _⟩, ⟨by (with_reducible repeat (first | apply Kd.R_alloc | apply Kd.R_drewN | apply Kd.R_drew)); exact HO_9.out⟩, ⟨by repeat (first | (with_reducible first | exact HB.out | apply below_alloc | apply pw_below_drewN | apply below_drew1) | exact HB.out)⟩⟩
                case round =>
                  clear H'
                  try clear c1
                  try clear p2
                  try clear c4
                  try clear c5
                  try clear c5b0
                  try clear c5b1
                  try clear p6
                  try clear c9
                  try clear c10
                  try clear c11
                  try clear c11b0
                  try clear c13
                  try clear c13b0
                  try clear p2
                  try clear p6
                  obtain ⟨x14_3, x15_3, rfl, rfl, HA, HK3, HO_9, HB⟩ := hrel
                  cases gk with
                  | zero => exact absurd HA.out (by simp [ropeladderlaw02_SchedWindows.l2])
                  | succ k3 =>
                    have H := HA.out
                    clear HA
                    simp only [ropeladderlaw02_SchedWindows.l2] at H
                    by_cases c14 : x15_3 < (wrap64 (x12_1 + (wrap64 ((Int.tmod (wrap64 (a2)) 30) + 1))))
                    · rw [if_pos c14] at H
                      have c14b0 : decide (x15_3 < (wrap64 (x12_1 + (wrap64 ((Int.tmod (wrap64 (a2)) 30) + 1))))) = true := decide_eq_true c14
                      clear c14
                      by_cases c15 : x14_3 = true
                      · subst c15
                        have H1 : (ropeladderlaw02_SchedWindows.l2 k3 t208 t209 t210 (wrap64 ((Int.tmod (wrap64 (a2)) 30) + 1)) x11_2 x12_1 x13_2 true (wrap64 (x15_3 + 1))) = some r := by rw [if_pos rfl] at H; exact H
                        clear H
                        have H := H1
                        clear H1
                        have H' := Aside0.mk H
                        clear H
                        go_wp2
                        go_roundg k3
                        case measure => have := HK1.out; have := HK2.out; have := HK3.out; omega
                        case rel => exact ⟨(true), (wrap64 (x15_3 + 1)), (by first | rfl | (simp; done) | (simp [*]; done)), (by first | rfl | (simp; done) | (simp [*]; done)), H', ⟨by have := HK1.out; have := HK2.out; have := HK3.out; omega⟩, ⟨by (with_reducible repeat (first | apply Kd.R_alloc | apply Kd.R_drewN | apply Kd.R_drew)); exact HO_9.out⟩, ⟨by repeat (first | (with_reducible first | exact HB.out | apply below_alloc | apply pw_below_drewN | apply below_drew1) | exact HB.out)⟩⟩
                      · replace c15 := Bool.eq_false_iff.mpr c15
                        subst c15
                        have H1 : (if 0 ≤ x15_3 then (if x15_3 < (t210.length : Int) then (ropeladderlaw02_SchedWindows.l2 k3 t208 t209 t210 (wrap64 ((Int.tmod (wrap64 (a2)) 30) + 1)) x11_2 x12_1 x13_2 ((rd t210 x15_3) == x13_2) (wrap64 (x15_3 + 1))) else (none)) else (none)) = some r := by rw [if_neg (show ¬ (false = true) by decide)] at H; exact H
                        clear H
                        have H := H1
                        clear H1
                        by_cases c16 : 0 ≤ x15_3
                        · rw [if_pos c16] at H
                          have c16b0 : decide (0 ≤ x15_3) = true := decide_eq_true c16
                          clear c16
                          by_cases c17 : x15_3 < (t210.length : Int)
                          · rw [if_pos c17] at H
                            have c17b0 : decide (x15_3 < (t210.length : Int)) = true := decide_eq_true c17
                            clear c17
                            have H' := Aside0.mk H
                            clear H
                            have p214 : 0 ≤ (x15_3 : Int) := of_decide_eq_true (by first | (with_reducible assumption) | assumption)
                            have q214 : x15_3 < (t210.length : Int) := of_decide_eq_true (by first | (with_reducible assumption) | assumption)
                            obtain ⟨ad214, e214, hx214_0⟩ := Kd.at_int (Kd.R_reads' HO_9.out).2.2 x15_3 p214 q214
                            cases e214
                            replace p214 := eq_true p214
                            replace q214 := eq_true q214
                            go_wp2
                            go_roundg k3
                            case measure => have := HK1.out; have := HK2.out; have := HK3.out; omega
                            case rel => exact ⟨(((rd t210 x15_3) == x13_2)), (wrap64 (x15_3 + 1)), (by first | rfl | (simp; done) | (simp [*]; done)), (by first | rfl | (simp; done) | (simp [*]; done)), H', ⟨by have := HK1.out; have := HK2.out; have := HK3.out; omega⟩, ⟨by (with_reducible repeat (first | apply Kd.R_alloc | apply Kd.R_drewN | apply Kd.R_drew)); exact HO_9.out⟩, ⟨by repeat (first | (with_reducible first | exact HB.out | apply below_alloc | apply pw_below_drewN | apply below_drew1) | exact HB.out)⟩⟩
                          · rw [if_neg c17] at H
                            exact absurd H (by simp)
                        · rw [if_neg c16] at H
                          exact absurd H (by simp)
                    · rw [if_neg c14] at H
                      have c14b0 : decide (x15_3 < (wrap64 (x12_1 + (wrap64 ((Int.tmod (wrap64 (a2)) 30) + 1))))) = false := decide_eq_false c14
                      clear c14
                      by_cases c18 : x11_2 = true
                      · subst c18
                        have H1 : (ropeladderlaw02_SchedWindows.l1 k3 t208 t209 t210 (wrap64 ((Int.tmod (wrap64 (a2)) 30) + 1)) x14_3 x12_1 (wrap64 (x13_2 + 1))) = some r := by rw [if_pos rfl] at H; exact H
                        clear H
                        have H := H1
                        clear H1
                        have H' := Aside0.mk H
                        clear H
                        go_wp2
                        go_roundg k3
                        case measure => have := HK1.out; have := HK2.out; have := HK3.out; omega
                        case rel => exact ⟨(x14_3), (wrap64 (x13_2 + 1)), (by first | rfl | (simp; done) | (simp [*]; done)), (by first | rfl | (simp; done) | (simp [*]; done)), H', ⟨by have := HK1.out; have := HK2.out; have := HK3.out; omega⟩, ⟨by (with_reducible repeat (first | apply Kd.R_alloc | apply Kd.R_drewN | apply Kd.R_drew)); exact HO_9.out⟩, ⟨by repeat (first | (with_reducible first | exact HB.out | apply below_alloc | apply pw_below_drewN | apply below_drew1) | exact HB.out)⟩⟩
                      · replace c18 := Bool.eq_false_iff.mpr c18
                        subst c18
                        have H1 : (ropeladderlaw02_SchedWindows.l1 k3 t208 t209 t210 (wrap64 ((Int.tmod (wrap64 (a2)) 30) + 1)) false x12_1 (wrap64 (x13_2 + 1))) = some r := by rw [if_neg (show ¬ (false = true) by decide)] at H; exact H
                        clear H
                        have H := H1
                        clear H1
                        have H' := Aside0.mk H
                        clear H
                        go_wp2
                        go_roundg k3
                        case measure => have := HK1.out; have := HK2.out; have := HK3.out; omega
                        case rel => exact ⟨(false), (wrap64 (x13_2 + 1)), (by first | rfl | (simp; done) | (simp [*]; done)), (by first | rfl | (simp; done) | (simp [*]; done)), H', ⟨by have := HK1.out; have := HK2.out; have := HK3.out; omega⟩, ⟨by (with_reducible repeat (first | apply Kd.R_alloc | apply Kd.R_drewN | apply Kd.R_drew)); exact HO_9.out⟩, ⟨by repeat (first | (with_reducible first | exact HB.out | apply below_alloc | apply pw_below_drewN | apply below_drew1) | exact HB.out)⟩⟩
              · rw [if_neg c13] at H
                have c13b0 : decide (x13_2 < t209) = false := decide_eq_false c13
                clear c13
                have H' := Aside0.mk H
                clear H
                go_wp2
                go_roundg k2
                case measure => have := HK1.out; have := HK2.out; omega
                case rel => exact ⟨(x11_2), (wrap64 (x12_1 + 1)), (by first | rfl | (simp; done) | (simp [*]; done)), (by first | rfl | (simp; done) | (simp [*]; done)), H', ⟨by have := HK1.out; have := HK2.out; omega⟩, ⟨by (with_reducible repeat (first | apply Kd.R_alloc | apply Kd.R_drewN | apply Kd.R_drew)); exact HO_9.out⟩, ⟨by repeat (first | (with_reducible first | exact HB.out | apply below_alloc | apply pw_below_drewN | apply below_drew1) | exact HB.out)⟩⟩
        · rw [if_neg c11] at H
          have c11b0 : decide ((wrap64 (x12_1 + (wrap64 ((Int.tmod (wrap64 (a2)) 30) + 1)))) ≤ (t210.length : Int)) = false := decide_eq_false c11
          clear c11
          by_cases c19 : t208 = true
          · subst c19
            have H1 : ((sched_Fair.f t210 t209 (wrap64 ((Int.tmod (wrap64 (a2)) 30) + 1))).bind fun t213 => (some (t213 == x11_1))) = some r := by rw [if_pos rfl] at H; exact H
            clear H
            have H := H1
            clear H1
            replace H := Option.bind_eq_some_iff.mp H
            obtain ⟨t213, A200, H⟩ := H
            replace H : (some (t213 == x11_1)) = some r := H
            have A20 := Aside0.mk A200
            clear A200
            obtain rfl := Option.some.inj H
            obtain ⟨Ao21, co21, eo21⟩ := Kd.R_slice HO_9.out
            subst eo21
            go_wp2_with (first | (go_at_call 17; (with_reducible refine (sched_Fair.calls _ _ t210 t209 (wrap64 ((Int.tmod (wrap64 (a2)) 30) + 1)) t213 _ ?side1 ?side2 A20.out).mono ?_); (case side1 => repeat (first | exact (Kd.R_reads' HO_9.out).2.2 | (with_reducible refine Kd.C_alloc ?_ _) | (with_reducible refine Kd.C_drewN ?_ _) | (with_reducible refine Kd.C_drew ?_))); (case side2 => exact (Kd.R_reads' HO_9.out).2.1); rintro e w22 ⟨rfl, hb⟩; have n0_ := Aside0.mk (Kd.R_below (by (with_reducible repeat (first | apply Kd.R_alloc | apply Kd.R_drewN | apply Kd.R_drew)); exact HO_9.out) hb); have n1_ := Aside0.mk (below_step (by repeat (first | (with_reducible first | exact HB.out | apply below_alloc | apply pw_below_drewN | apply below_drew1) | exact HB.out)) hb); clear HO_9; clear HB; have HO_9 := n0_; have HB := n1_; clear n0_ n1_; (try clear hb); (try clear hb2); (try clear hk); (try clear hi)))
            go_ret
            exact ⟨by first | rfl | (simp [errW_none, errW_some] <;> rfl) | (simp [*, errW_none, errW_some] <;> rfl), by repeat (first | (with_reducible first | exact HB.out | apply below_alloc | apply pw_below_drewN | apply below_drew1) | exact HB.out)⟩
          · replace c19 := Bool.eq_false_iff.mpr c19
            subst c19
            have H1 : (some false) = some r := by rw [if_neg (show ¬ (false = true) by decide)] at H; exact H
            clear H
            have H := H1
            clear H1
            obtain rfl := Option.some.inj H
            obtain ⟨Ao23, co23, eo23⟩ := Kd.R_slice HO_9.out
            subst eo23
            go_wp2
            go_ret
            exact ⟨by first | rfl | (simp [errW_none, errW_some] <;> rfl) | (simp [*, errW_none, errW_some] <;> rfl), by repeat (first | (with_reducible first | exact HB.out | apply below_alloc | apply pw_below_drewN | apply below_drew1) | exact HB.out)⟩

/-- THE ONE PURE STATEMENT of ropeladderlaw02_SchedWindows: yours. -/
def ropeladderlaw02_SchedWindows.Pure : Prop := ∀ (a0 : Int) (l1 : List Int) (a2 : Int), (Lit.int .u8 a0).wf = true → l1.length ≤ maxLen → l1.length * 1 ≤ 140737488351232 → (∀ x ∈ l1, (Lit.int .u8 x).wf = true) → (Lit.int .u8 a2).wf = true → ∃ k, ropeladderlaw02_SchedWindows.f k a0 l1 a2 = some true
theorem ropeladderlaw02_SchedWindows.walk (P : ropeladderlaw02_SchedWindows.Pure) (a0 : Int) (a1 : Option Addr) (len1 cap1 : Nat) (z1 : List Int) (a2 : Int) (w : World) (w0 : (Lit.int .u8 a0).wf = true) (w1 : (a1 = none ∧ len1 = 0 ∧ cap1 = 0 ∧ z1 = []) ∨ ∃ x, a1 = some x ∧ len1 ≤ cap1 ∧ cap1 ≤ maxLen ∧ z1.length = cap1 ∧ (∀ i, i < z1.length → w.cell? (x.add i) = some (.int .u8 (z1.getD i 0))) ∧ ∀ n ∈ z1, (Lit.int .u8 n).wf = true) (y1 : len1 * 1 ≤ 140737488351232) (w2 : (Lit.int .u8 a2).wf = true) :
    Calls Try.prog 4 #[.int .u8 a0, .slice a1 len1 cap1, .int .u8 a2] w fun e w' => e = .returned (.bool true) ∧ Below w.heap.size w w' := by
  obtain ⟨l1, rfl, hr1, hm1, hw1, hc1⟩ := ReadsInt.ofRowC w1
  obtain ⟨k, h⟩ := P a0 l1 a2 w0 hm1 y1 hw1 w2
  refine (ropeladderlaw02_SchedWindows.calls k a0 _ _ l1 a2 true w (Kd.C_of_reads (d := (0 : Int)) (h1 := fun _ => rfl) hr1) hc1 h).mono ?_
  rintro e w' ⟨rfl, hd⟩
  exact ⟨rfl, hd⟩

/-! ### ropeladderlaw02_SchedRepairs: function 5 -/
def ropeladderlaw02_SchedRepairs.l0 : Nat → Bool → Int → Int → List Int → Int → Option (Bool)
  | 0, _, _, _, _, _ => none
  | k + 1, x7, x8, x9, x11, x12 => if x12 < (x11.length : Int) then (if 0 ≤ x12 then (if (rd x11 x12) < 0 then (some false) else (if (rd x11 x12) ≥ x8 then (some false) else (ropeladderlaw02_SchedRepairs.l0 k x7 x8 x9 x11 (wrap64 (x12 + 1))))) else (none)) else (if x7 = true then ((sched_Fair.f x11 x8 x9).bind fun t225 => (if t225 = true then ((ropeladderref02_Fair.f k x11 x8 x9).bind fun t226 => (some t226)) else (some false))) else (some false))
def ropeladderlaw02_SchedRepairs.f (k : Nat) (a0 : Int) (l1 : List Int) (a2 : Int) : Option (Bool) := (ropeladderlaw02_head.f k).bind fun t215 => (if (l1.length : Int) > 500 then (some t215) else ((ropeladderlaw02_Threads.f a0).bind fun t216 => ((ropeladderlaw02_Picks.f k l1 t216).bind fun t217 => ((sched_Repair.f t217 t216 (wrap64 (t216 + (Int.tmod (wrap64 (a2)) 30)))).bind fun t220 => (if (t220.length : Int) = (t217.length : Int) then (ropeladderlaw02_SchedRepairs.l0 k t215 t216 (wrap64 (t216 + (Int.tmod (wrap64 (a2)) 30))) t220 0) else (some false))))))
theorem ropeladderlaw02_SchedRepairs.mono_l : ∀ k, (∀ y0 y1 y2 y3 y4, LeO (ropeladderlaw02_SchedRepairs.l0 k y0 y1 y2 y3 y4) (ropeladderlaw02_SchedRepairs.l0 (k + 1) y0 y1 y2 y3 y4))
  | 0 => fun _ _ _ _ _ r h => by simp [ropeladderlaw02_SchedRepairs.l0] at h
  | k + 1 => by
    have ih0 := ropeladderlaw02_SchedRepairs.mono_l k
    · intro y0 y1 y2 y3 y4
      unfold ropeladderlaw02_SchedRepairs.l0
      repeat' first
      | (with_reducible exact ih0 _ _ _ _ _)
      | (with_reducible exact ropeladderlaw02_Picks.mono _ _ _)
      | (with_reducible exact ropeladderlaw02_head.mono _)
      | (with_reducible exact ropeladderref02_Fair.mono _ _ _ _)
      | (with_reducible exact LeO.refl _)
      | (with_reducible exact LeO.none _)
      | (with_reducible refine LeO.ite ?_ ?_)
      | (with_reducible refine LeO.bind ?_ (fun _ => ?_))
      | exact ih0 _ _ _ _ _
      | exact ropeladderlaw02_Picks.mono _ _ _
      | exact ropeladderlaw02_head.mono _
      | exact ropeladderref02_Fair.mono _ _ _ _
      | exact LeO.none _
      | refine LeO.ite ?_ ?_
      | refine LeO.bind ?_ (fun _ => ?_)
theorem ropeladderlaw02_SchedRepairs.mono : ∀ a0 a1 a2 k, LeO (ropeladderlaw02_SchedRepairs.f k a0 a1 a2) (ropeladderlaw02_SchedRepairs.f (k + 1) a0 a1 a2) := by
  intro a0 a1 a2 k
  have ih0 := ropeladderlaw02_SchedRepairs.mono_l k
  unfold ropeladderlaw02_SchedRepairs.f
  repeat' first
      | (with_reducible exact ih0 _ _ _ _ _)
      | (with_reducible exact ropeladderlaw02_Picks.mono _ _ _)
      | (with_reducible exact ropeladderlaw02_head.mono _)
      | (with_reducible exact ropeladderref02_Fair.mono _ _ _ _)
      | (with_reducible exact LeO.refl _)
      | (with_reducible exact LeO.none _)
      | (with_reducible refine LeO.ite ?_ ?_)
      | (with_reducible refine LeO.bind ?_ (fun _ => ?_))
      | exact ih0 _ _ _ _ _
      | exact ropeladderlaw02_Picks.mono _ _ _
      | exact ropeladderlaw02_head.mono _
      | exact ropeladderref02_Fair.mono _ _ _ _
      | exact LeO.none _
      | refine LeO.ite ?_ ?_
      | refine LeO.bind ?_ (fun _ => ?_)
set_option maxHeartbeats 8000000 in
set_option maxRecDepth 100000 in
theorem ropeladderlaw02_SchedRepairs.calls (k : Nat) (a0 : Int) (A1 : Option Addr) (c1 : Nat) (l1 : List Int) (a2 : Int) (r : Bool) (w : World) (hr1 : Kd.C (Kd.int .u8) w A1 l1.length l1) (hc1 : l1.length ≤ c1) (h : ropeladderlaw02_SchedRepairs.f k a0 l1 a2 = some r) :
    Calls Try.prog 5 #[.int .u8 a0, .slice A1 l1.length c1, .int .u8 a2] w fun e w' => e = .returned (.bool r) ∧ Below w.heap.size w w' := by
  have HR1 := Aside0.mk hr1
  have HC1 := Aside0.mk hc1
  clear hr1 hc1
  have HB := Aside0.mk (Below.refl w.heap.size w)
  have H : ((ropeladderlaw02_head.f k).bind fun t215 => (if (l1.length : Int) > 500 then (some t215) else ((ropeladderlaw02_Threads.f a0).bind fun t216 => ((ropeladderlaw02_Picks.f k l1 t216).bind fun t217 => ((sched_Repair.f t217 t216 (wrap64 (t216 + (Int.tmod (wrap64 (a2)) 30)))).bind fun t220 => (if (t220.length : Int) = (t217.length : Int) then (ropeladderlaw02_SchedRepairs.l0 k t215 t216 (wrap64 (t216 + (Int.tmod (wrap64 (a2)) 30))) t220 0) else (some false))))))) = some r := h
  clear h
  replace H := Option.bind_eq_some_iff.mp H
  obtain ⟨t215, A40, H⟩ := H
  replace H : (if (l1.length : Int) > 500 then (some t215) else ((ropeladderlaw02_Threads.f a0).bind fun t216 => ((ropeladderlaw02_Picks.f k l1 t216).bind fun t217 => ((sched_Repair.f t217 t216 (wrap64 (t216 + (Int.tmod (wrap64 (a2)) 30)))).bind fun t220 => (if (t220.length : Int) = (t217.length : Int) then (ropeladderlaw02_SchedRepairs.l0 k t215 t216 (wrap64 (t216 + (Int.tmod (wrap64 (a2)) 30))) t220 0) else (some false)))))) = some r := H
  have A4 := Aside0.mk A40
  clear A40
  by_cases c5 : (l1.length : Int) > 500
  · rw [if_pos c5] at H
    have c5b0 : decide (500 < (l1.length : Int)) = true := decide_eq_true c5
    have c5b1 : decide (500 < l1.length) = true := decide_eq_true (by omega)
    clear c5
    obtain rfl := Option.some.inj H
    go_enter Try.func5, Try.ntmps5
    go_wp2_with (first | ((with_reducible refine gate_callee (f := 9) rfl ?_); refine goesL_ (some 13) rfl rfl Try.func9 (by kernel_rfl) rfl #[] rfl (by (try simp only [List.map_toArray, List.map_cons, List.map_nil]); first | done | rfl | (simp only [List.length_drop, List.length_take]; rfl)) ?_; (with_reducible refine (ropeladderlaw02_head.calls k  t215 _ A4.out).mono ?_); rintro e w6 ⟨rfl, hb⟩; refine ⟨_, rfl, ?_⟩; have n0_ := Aside0.mk (below_step (by repeat (first | (with_reducible first | exact HB.out | apply below_alloc | apply pw_below_drewN | apply below_drew1) | exact HB.out)) hb); clear HB; have HB := n0_; clear n0_; (try clear hb); (try clear hb2); (try clear hk); (try clear hi)))
    go_ret
    exact ⟨by first | rfl | (simp [errW_none, errW_some] <;> rfl) | (simp [*, errW_none, errW_some] <;> rfl), by repeat (first | (with_reducible first | exact HB.out | apply below_alloc | apply pw_below_drewN | apply below_drew1) | exact HB.out)⟩
  · rw [if_neg c5] at H
    have c5b0 : decide (500 < (l1.length : Int)) = false := decide_eq_false c5
    have c5b1 : decide (500 < l1.length) = false := decide_eq_false (by omega)
    clear c5
    replace H := Option.bind_eq_some_iff.mp H
    obtain ⟨t216, A70, H⟩ := H
    replace H : ((ropeladderlaw02_Picks.f k l1 t216).bind fun t217 => ((sched_Repair.f t217 t216 (wrap64 (t216 + (Int.tmod (wrap64 (a2)) 30)))).bind fun t220 => (if (t220.length : Int) = (t217.length : Int) then (ropeladderlaw02_SchedRepairs.l0 k t215 t216 (wrap64 (t216 + (Int.tmod (wrap64 (a2)) 30))) t220 0) else (some false)))) = some r := H
    have A7 := Aside0.mk A70
    clear A70
    replace H := Option.bind_eq_some_iff.mp H
    obtain ⟨t217, A80, H⟩ := H
    replace H : ((sched_Repair.f t217 t216 (wrap64 (t216 + (Int.tmod (wrap64 (a2)) 30)))).bind fun t220 => (if (t220.length : Int) = (t217.length : Int) then (ropeladderlaw02_SchedRepairs.l0 k t215 t216 (wrap64 (t216 + (Int.tmod (wrap64 (a2)) 30))) t220 0) else (some false))) = some r := H
    have A8 := Aside0.mk A80
    clear A80
    replace H := Option.bind_eq_some_iff.mp H
    obtain ⟨t220, A90, H⟩ := H
    replace H : (if (t220.length : Int) = (t217.length : Int) then (ropeladderlaw02_SchedRepairs.l0 k t215 t216 (wrap64 (t216 + (Int.tmod (wrap64 (a2)) 30))) t220 0) else (some false)) = some r := H
    have A9 := Aside0.mk A90
    clear A90
    by_cases c10 : (t220.length : Int) = (t217.length : Int)
    · rw [if_pos c10] at H
      have c10b0 : ((t220.length : Int) == (t217.length : Int)) = true := beq_iff_eq.mpr c10
      have c10b1 : ((t220.length : Int) != (t217.length : Int)) = false := bne_eq_false_iff_eq.mpr c10
      have c10b2 : (t220.length == t217.length) = true := by first | simpa using c10 | (simp at c10 ⊢; omega)
      clear c10
      have H' := Aside0.mk H
      clear H
      go_enter Try.func5, Try.ntmps5
      go_wp2_with (first | ((with_reducible refine gate_callee (f := 9) rfl ?_); refine goesL_ (some 13) rfl rfl Try.func9 (by kernel_rfl) rfl #[] rfl (by (try simp only [List.map_toArray, List.map_cons, List.map_nil]); first | done | rfl | (simp only [List.length_drop, List.length_take]; rfl)) ?_; (with_reducible refine (ropeladderlaw02_head.calls k  t215 _ A4.out).mono ?_); rintro e w11 ⟨rfl, hb⟩; refine ⟨_, rfl, ?_⟩; have n0_ := Aside0.mk (below_step (by repeat (first | (with_reducible first | exact HB.out | apply below_alloc | apply pw_below_drewN | apply below_drew1) | exact HB.out)) hb); clear HB; have HB := n0_; clear n0_; (try clear hb); (try clear hb2); (try clear hk); (try clear hi)) | ((with_reducible refine gate_callee (f := 10) rfl ?_); refine goesL_ (some 19) rfl rfl Try.func10 (by kernel_rfl) rfl #[.int .u8 a0] rfl (by (try simp only [List.map_toArray, List.map_cons, List.map_nil]); first | done | rfl | (simp only [List.length_drop, List.length_take]; rfl)) ?_; (with_reducible refine (ropeladderlaw02_Threads.calls a0 t216 _ A7.out).mono ?_); rintro e w' ⟨rfl, ⟨nd, rfl⟩⟩; refine ⟨_, rfl, ?_⟩) | ((with_reducible refine gate_callee (f := 11) rfl ?_); refine goesL_ (some 27) rfl rfl Try.func11 (by kernel_rfl) rfl #[.slice A1 l1.length c1, .int .i64 t216] rfl (by (try simp only [List.map_toArray, List.map_cons, List.map_nil]); first | done | rfl | (simp only [List.length_drop, List.length_take]; rfl)) ?_; (with_reducible refine (ropeladderlaw02_Picks.calls k _ _ l1 t216 t217 _ ?side1 ?side2 A8.out).mono ?_); (case side1 => repeat (first | exact (Kd.C_below HR1.out (by repeat (first | (with_reducible first | exact HB.out | apply below_alloc | apply pw_below_drewN | apply below_drew1) | exact HB.out))) | (with_reducible refine Kd.C_alloc ?_ _) | (with_reducible refine Kd.C_drewN ?_ _) | (with_reducible refine Kd.C_drew ?_))); (case side2 => exact HC1.out); rintro e w12 ⟨v218, rfl, ho0, hb⟩; refine ⟨_, rfl, ?_⟩; have n0_ := Aside0.mk (Kd.R_lower ho0 (below_size (by repeat (first | (with_reducible first | exact HB.out | apply below_alloc | apply pw_below_drewN | apply below_drew1) | exact HB.out)))); have n1_ := Aside0.mk (below_step (by repeat (first | (with_reducible first | exact HB.out | apply below_alloc | apply pw_below_drewN | apply below_drew1) | exact HB.out)) hb); clear HB; have HO219 := n0_; have HB := n1_; clear n0_ n1_; (try clear hb); (try clear hb2); (try clear hk); (try clear hi); (try clear ho0); obtain ⟨Ao13, co13, eo13⟩ := Kd.R_slice HO219.out; subst eo13) | ((with_reducible refine gate_callee (f := 19) rfl ?_); refine goesL_ (some 31) rfl rfl Try.func19 (by kernel_rfl) rfl #[.slice Ao13 t217.length co13, .int .i64 t216, .int .i64 (wrap64 (t216 + (Int.tmod (wrap64 (a2)) 30)))] rfl (by (try simp only [List.map_toArray, List.map_cons, List.map_nil]); first | done | rfl | (simp only [List.length_drop, List.length_take]; rfl)) ?_; (with_reducible refine (sched_Repair.calls _ _ t217 t216 (wrap64 (t216 + (Int.tmod (wrap64 (a2)) 30))) t220 _ ?side1 ?side2 A9.out).mono ?_); (case side1 => repeat (first | exact (Kd.R_reads' HO219.out).2.2 | (with_reducible refine Kd.C_alloc ?_ _) | (with_reducible refine Kd.C_drewN ?_ _) | (with_reducible refine Kd.C_drew ?_))); (case side2 => exact (Kd.R_reads' HO219.out).2.1); rintro e w14 ⟨v221, rfl, ho0, hb⟩; refine ⟨_, rfl, ?_⟩; have n0_ := Aside0.mk (Kd.R_elder' (by (with_reducible repeat (first | apply Kd.R_alloc | apply Kd.R_drewN | apply Kd.R_drew)); exact HO219.out) (Kd.R_base ho0) hb); have n1_ := Aside0.mk (Kd.R_lower (Kd.R_new' ho0 (Kd.R_lt (by (with_reducible repeat (first | apply Kd.R_alloc | apply Kd.R_drewN | apply Kd.R_drew)); exact HO219.out))) (below_size (by repeat (first | (with_reducible first | exact HB.out | apply below_alloc | apply pw_below_drewN | apply below_drew1) | exact HB.out)))); have n2_ := Aside0.mk (below_step (by repeat (first | (with_reducible first | exact HB.out | apply below_alloc | apply pw_below_drewN | apply below_drew1) | exact HB.out)) hb); clear HO219; clear HB; have HO219 := n0_; have HO222 := n1_; have HB := n2_; clear n0_ n1_ n2_; (try clear hb); (try clear hb2); (try clear hk); (try clear hi); (try clear ho0); obtain ⟨Ao15, co15, eo15⟩ := Kd.R_slice HO222.out; subst eo15))
      go_loopg [12] k (fun kq v12 w' => ∃ (x12_1 : Int), v12 = .int .i64 x12_1 ∧ Aside0 (ropeladderlaw02_SchedRepairs.l0 kq t215 t216 (wrap64 (t216 + (Int.tmod (wrap64 (a2)) 30))) t220 x12_1 = some r) ∧ Aside0 (kq ≤ k) ∧ Aside0 (Kd.R (Kd.int .i64) 3 w' w.heap.size (fun _ => True) (.slice Ao15 t220.length co15) t220) ∧ Aside0 (Below w.heap.size w w'))
      case atStart => exact ⟨(0), (by first | rfl | (simp; done) | (simp [*]; done)), H', ⟨Nat.le_refl _⟩, ⟨by (with_reducible repeat (first | apply Kd.R_alloc | apply Kd.R_drewN | apply Kd.R_drew)); exact Kd.R_mono HO222.out (fun _ hk => trivial)⟩, ⟨by repeat (first | (with_reducible first | exact HB.out | apply below_alloc | apply pw_below_drewN | apply below_drew1) | exact HB.out)⟩⟩
      case round =>
        clear H'
        try clear c1
        try clear p2
        try clear c5
        try clear c5b0
        try clear c5b1
        try clear p6
        try clear c9
        try clear c10
        try clear c10b0
        try clear c10b1
        try clear c10b2
        try clear c11
        obtain ⟨x12_1, rfl, HA, HK1, HO_11, HB⟩ := hrel
        cases gk with
        | zero => exact absurd HA.out (by simp [ropeladderlaw02_SchedRepairs.l0])
        | succ k1 =>
          have H := HA.out
          clear HA
          simp only [ropeladderlaw02_SchedRepairs.l0] at H
          by_cases c16 : x12_1 < (t220.length : Int)
          · rw [if_pos c16] at H
            have c16b0 : decide (x12_1 < (t220.length : Int)) = true := decide_eq_true c16
            clear c16
            by_cases c17 : 0 ≤ x12_1
            · rw [if_pos c17] at H
              have c17b0 : decide (0 ≤ x12_1) = true := decide_eq_true c17
              clear c17
              by_cases c18 : (rd t220 x12_1) < 0
              · rw [if_pos c18] at H
                have c18b0 : decide ((rd t220 x12_1) < 0) = true := decide_eq_true c18
                clear c18
                obtain rfl := Option.some.inj H
                have p223 : 0 ≤ (x12_1 : Int) := of_decide_eq_true (by first | (with_reducible assumption) | assumption)
                have q223 : x12_1 < (t220.length : Int) := of_decide_eq_true (by first | (with_reducible assumption) | assumption)
                obtain ⟨ad223, e223, hx223_0⟩ := Kd.at_int (Kd.R_reads' HO_11.out).2.2 x12_1 p223 q223
                cases e223
                replace p223 := eq_true p223
                replace q223 := eq_true q223
                go_wp2
                go_ret
                exact ⟨by first | rfl | (simp [errW_none, errW_some] <;> rfl) | (simp [*, errW_none, errW_some] <;> rfl), by repeat (first | (with_reducible first | exact HB.out | apply below_alloc | apply pw_below_drewN | apply below_drew1) | exact HB.out)⟩
              · rw [if_neg c18] at H
                have c18b0 : decide ((rd t220 x12_1) < 0) = false := decide_eq_false c18
                clear c18
                by_cases c19 : (rd t220 x12_1) ≥ t216
                · rw [if_pos c19] at H
                  have c19b0 : decide (t216 ≤ (rd t220 x12_1)) = true := decide_eq_true c19
                  clear c19
                  obtain rfl := Option.some.inj H
                  have p223 : 0 ≤ (x12_1 : Int) := of_decide_eq_true (by first | (with_reducible assumption) | assumption)
                  have q223 : x12_1 < (t220.length : Int) := of_decide_eq_true (by first | (with_reducible assumption) | assumption)
                  obtain ⟨ad223, e223, hx223_0⟩ := Kd.at_int (Kd.R_reads' HO_11.out).2.2 x12_1 p223 q223
                  cases e223
                  replace p223 := eq_true p223
                  replace q223 := eq_true q223
                  have p224 : 0 ≤ (x12_1 : Int) := of_decide_eq_true (by first | (with_reducible assumption) | assumption)
                  have q224 : x12_1 < (t220.length : Int) := of_decide_eq_true (by first | (with_reducible assumption) | assumption)
                  obtain ⟨ad224, e224, hx224_0⟩ := Kd.at_int (Kd.R_reads' HO_11.out).2.2 x12_1 p224 q224
                  obtain rfl : ad223 = ad224 := (by injection e224)
                  replace p224 := eq_true p224
                  replace q224 := eq_true q224
                  go_wp2
                  go_ret
                  exact ⟨by first | rfl | (simp [errW_none, errW_some] <;> rfl) | (simp [*, errW_none, errW_some] <;> rfl), by repeat (first | (with_reducible first | exact HB.out | apply below_alloc | apply pw_below_drewN | apply below_drew1) | exact HB.out)⟩
                · rw [if_neg c19] at H
                  have c19b0 : decide (t216 ≤ (rd t220 x12_1)) = false := decide_eq_false c19
                  clear c19
                  have H' := Aside0.mk H
                  clear H
                  have p223 : 0 ≤ (x12_1 : Int) := of_decide_eq_true (by first | (with_reducible assumption) | assumption)
                  have q223 : x12_1 < (t220.length : Int) := of_decide_eq_true (by first | (with_reducible assumption) | assumption)
                  obtain ⟨ad223, e223, hx223_0⟩ := Kd.at_int (Kd.R_reads' HO_11.out).2.2 x12_1 p223 q223
                  cases e223
                  replace p223 := eq_true p223
                  replace q223 := eq_true q223
                  have p224 : 0 ≤ (x12_1 : Int) := of_decide_eq_true (by first | (with_reducible assumption) | assumption)
                  have q224 : x12_1 < (t220.length : Int) := of_decide_eq_true (by first | (with_reducible assumption) | assumption)
                  obtain ⟨ad224, e224, hx224_0⟩ := Kd.at_int (Kd.R_reads' HO_11.out).2.2 x12_1 p224 q224
                  obtain rfl : ad223 = ad224 := (by injection e224)
                  replace p224 := eq_true p224
                  replace q224 := eq_true q224
                  go_wp2
                  go_roundg k1
                  case measure => have := HK1.out; omega
                  case rel => exact ⟨(wrap64 (x12_1 + 1)), (by first | rfl | (simp; done) | (simp [*]; done)), H', ⟨by have := HK1.out; omega⟩, ⟨by (with_reducible repeat (first | apply Kd.R_alloc | apply Kd.R_drewN | apply Kd.R_drew)); exact HO_11.out⟩, ⟨by repeat (first | (with_reducible first | exact HB.out | apply below_alloc | apply pw_below_drewN | apply below_drew1) | exact HB.out)⟩⟩
            · rw [if_neg c17] at H
              exact absurd H (by simp)
          · rw [if_neg c16] at H
            have c16b0 : decide (x12_1 < (t220.length : Int)) = false := decide_eq_false c16
            clear c16
            by_cases c20 : t215 = true
            · subst c20
              have H1 : ((sched_Fair.f t220 t216 (wrap64 (t216 + (Int.tmod (wrap64 (a2)) 30)))).bind fun t225 => (if t225 = true then ((ropeladderref02_Fair.f k1 t220 t216 (wrap64 (t216 + (Int.tmod (wrap64 (a2)) 30)))).bind fun t226 => (some t226)) else (some false))) = some r := by rw [if_pos rfl] at H; exact H
              clear H
              have H := H1
              clear H1
              replace H := Option.bind_eq_some_iff.mp H
              obtain ⟨t225, A210, H⟩ := H
              replace H : (if t225 = true then ((ropeladderref02_Fair.f k1 t220 t216 (wrap64 (t216 + (Int.tmod (wrap64 (a2)) 30)))).bind fun t226 => (some t226)) else (some false)) = some r := H
              have A21 := Aside0.mk A210
              clear A210
              by_cases c22 : t225 = true
              · subst c22
                have H1 : ((ropeladderref02_Fair.f k1 t220 t216 (wrap64 (t216 + (Int.tmod (wrap64 (a2)) 30)))).bind fun t226 => (some t226)) = some r := by rw [if_pos rfl] at H; exact H
                clear H
                have H := H1
                clear H1
                replace H := Option.bind_eq_some_iff.mp H
                obtain ⟨t226, A230, H⟩ := H
                replace H : (some t226) = some r := H
                have A23 := Aside0.mk A230
                clear A230
                obtain rfl := Option.some.inj H
                go_wp2_with (first | (go_at_call 17; (with_reducible refine (sched_Fair.calls _ _ t220 t216 (wrap64 (t216 + (Int.tmod (wrap64 (a2)) 30))) true _ ?side1 ?side2 A21.out).mono ?_); (case side1 => repeat (first | exact (Kd.R_reads' HO_11.out).2.2 | (with_reducible refine Kd.C_alloc ?_ _) | (with_reducible refine Kd.C_drewN ?_ _) | (with_reducible refine Kd.C_drew ?_))); (case side2 => exact (Kd.R_reads' HO_11.out).2.1); rintro e w24 ⟨rfl, hb⟩; have n0_ := Aside0.mk (Kd.R_below (by (with_reducible repeat (first | apply Kd.R_alloc | apply Kd.R_drewN | apply Kd.R_drew)); exact HO_11.out) hb); have n1_ := Aside0.mk (below_step (by repeat (first | (with_reducible first | exact HB.out | apply below_alloc | apply pw_below_drewN | apply below_drew1) | exact HB.out)) hb); clear HO_11; clear HB; have HO_11 := n0_; have HB := n1_; clear n0_ n1_; (try clear hb); (try clear hb2); (try clear hk); (try clear hi)) | (go_at_call 18; (with_reducible refine (ropeladderref02_Fair.calls k1 _ _ t220 t216 (wrap64 (t216 + (Int.tmod (wrap64 (a2)) 30))) t226 _ ?side1 ?side2 A23.out).mono ?_); (case side1 => repeat (first | exact (Kd.R_reads' HO_11.out).2.2 | (with_reducible refine Kd.C_alloc ?_ _) | (with_reducible refine Kd.C_drewN ?_ _) | (with_reducible refine Kd.C_drew ?_))); (case side2 => exact (Kd.R_reads' HO_11.out).2.1); rintro e w' ⟨rfl, ⟨nd, rfl⟩⟩))
                go_ret
                exact ⟨by first | rfl | (simp [errW_none, errW_some] <;> rfl) | (simp [*, errW_none, errW_some] <;> rfl), by repeat (first | (with_reducible first | exact HB.out | apply below_alloc | apply pw_below_drewN | apply below_drew1) | exact HB.out)⟩
              · replace c22 := Bool.eq_false_iff.mpr c22
                subst c22
                have H1 : (some false) = some r := by rw [if_neg (show ¬ (false = true) by decide)] at H; exact H
                clear H
                have H := H1
                clear H1
                obtain rfl := Option.some.inj H
                go_wp2_with (first | (go_at_call 17; (with_reducible refine (sched_Fair.calls _ _ t220 t216 (wrap64 (t216 + (Int.tmod (wrap64 (a2)) 30))) false _ ?side1 ?side2 A21.out).mono ?_); (case side1 => repeat (first | exact (Kd.R_reads' HO_11.out).2.2 | (with_reducible refine Kd.C_alloc ?_ _) | (with_reducible refine Kd.C_drewN ?_ _) | (with_reducible refine Kd.C_drew ?_))); (case side2 => exact (Kd.R_reads' HO_11.out).2.1); rintro e w25 ⟨rfl, hb⟩; have n0_ := Aside0.mk (Kd.R_below (by (with_reducible repeat (first | apply Kd.R_alloc | apply Kd.R_drewN | apply Kd.R_drew)); exact HO_11.out) hb); have n1_ := Aside0.mk (below_step (by repeat (first | (with_reducible first | exact HB.out | apply below_alloc | apply pw_below_drewN | apply below_drew1) | exact HB.out)) hb); clear HO_11; clear HB; have HO_11 := n0_; have HB := n1_; clear n0_ n1_; (try clear hb); (try clear hb2); (try clear hk); (try clear hi)))
                go_ret
                exact ⟨by first | rfl | (simp [errW_none, errW_some] <;> rfl) | (simp [*, errW_none, errW_some] <;> rfl), by repeat (first | (with_reducible first | exact HB.out | apply below_alloc | apply pw_below_drewN | apply below_drew1) | exact HB.out)⟩
            · replace c20 := Bool.eq_false_iff.mpr c20
              subst c20
              have H1 : (some false) = some r := by rw [if_neg (show ¬ (false = true) by decide)] at H; exact H
              clear H
              have H := H1
              clear H1
              obtain rfl := Option.some.inj H
              go_wp2
              go_ret
              exact ⟨by first | rfl | (simp [errW_none, errW_some] <;> rfl) | (simp [*, errW_none, errW_some] <;> rfl), by repeat (first | (with_reducible first | exact HB.out | apply below_alloc | apply pw_below_drewN | apply below_drew1) | exact HB.out)⟩
    · rw [if_neg c10] at H
      have c10b0 : ((t220.length : Int) == (t217.length : Int)) = false := beq_eq_false_iff_ne.mpr c10
      have c10b1 : ((t220.length : Int) != (t217.length : Int)) = true := bne_iff_ne.mpr c10
      have c10b2 : (t220.length == t217.length) = false := by first | simpa using c10 | (simp at c10 ⊢; omega)
      obtain rfl := Option.some.inj H
      go_enter Try.func5, Try.ntmps5
      go_wp2_with (first | ((with_reducible refine gate_callee (f := 9) rfl ?_); refine goesL_ (some 13) rfl rfl Try.func9 (by kernel_rfl) rfl #[] rfl (by (try simp only [List.map_toArray, List.map_cons, List.map_nil]); first | done | rfl | (simp only [List.length_drop, List.length_take]; rfl)) ?_; (with_reducible refine (ropeladderlaw02_head.calls k  t215 _ A4.out).mono ?_); rintro e w26 ⟨rfl, hb⟩; refine ⟨_, rfl, ?_⟩; have n0_ := Aside0.mk (below_step (by repeat (first | (with_reducible first | exact HB.out | apply below_alloc | apply pw_below_drewN | apply below_drew1) | exact HB.out)) hb); clear HB; have HB := n0_; clear n0_; (try clear hb); (try clear hb2); (try clear hk); (try clear hi)) | ((with_reducible refine gate_callee (f := 10) rfl ?_); refine goesL_ (some 19) rfl rfl Try.func10 (by kernel_rfl) rfl #[.int .u8 a0] rfl (by (try simp only [List.map_toArray, List.map_cons, List.map_nil]); first | done | rfl | (simp only [List.length_drop, List.length_take]; rfl)) ?_; (with_reducible refine (ropeladderlaw02_Threads.calls a0 t216 _ A7.out).mono ?_); rintro e w' ⟨rfl, ⟨nd, rfl⟩⟩; refine ⟨_, rfl, ?_⟩) | ((with_reducible refine gate_callee (f := 11) rfl ?_); refine goesL_ (some 27) rfl rfl Try.func11 (by kernel_rfl) rfl #[.slice A1 l1.length c1, .int .i64 t216] rfl (by (try simp only [List.map_toArray, List.map_cons, List.map_nil]); first | done | rfl | (simp only [List.length_drop, List.length_take]; rfl)) ?_; (with_reducible refine (ropeladderlaw02_Picks.calls k _ _ l1 t216 t217 _ ?side1 ?side2 A8.out).mono ?_); (case side1 => repeat (first | exact (Kd.C_below HR1.out (by repeat (first | (with_reducible first | exact HB.out | apply below_alloc | apply pw_below_drewN | apply below_drew1) | exact HB.out))) | (with_reducible refine Kd.C_alloc ?_ _) | (with_reducible refine Kd.C_drewN ?_ _) | (with_reducible refine Kd.C_drew ?_))); (case side2 => exact HC1.out); rintro e w27 ⟨v218, rfl, ho0, hb⟩; refine ⟨_, rfl, ?_⟩; have n0_ := Aside0.mk (Kd.R_lower ho0 (below_size (by repeat (first | (with_reducible first | exact HB.out | apply below_alloc | apply pw_below_drewN | apply below_drew1) | exact HB.out)))); have n1_ := Aside0.mk (below_step (by repeat (first | (with_reducible first | exact HB.out | apply below_alloc | apply pw_below_drewN | apply below_drew1) | exact HB.out)) hb); clear HB; have HO219 := n0_; have HB := n1_; clear n0_ n1_; (try clear hb); (try clear hb2); (try clear hk); (try clear hi); (try clear ho0); obtain ⟨Ao28, co28, eo28⟩ := Kd.R_slice HO219.out; subst eo28) | ((with_reducible refine gate_callee (f := 19) rfl ?_); refine goesL_ (some 31) rfl rfl Try.func19 (by kernel_rfl) rfl #[.slice Ao28 t217.length co28, .int .i64 t216, .int .i64 (wrap64 (t216 + (Int.tmod (wrap64 (a2)) 30)))] rfl (by (try simp only [List.map_toArray, List.map_cons, List.map_nil]); first | done | rfl | (simp only [List.length_drop, List.length_take]; rfl)) ?_; (with_reducible refine (sched_Repair.calls _ _ t217 t216 (wrap64 (t216 + (Int.tmod (wrap64 (a2)) 30))) t220 _ ?side1 ?side2 A9.out).mono ?_); (case side1 => repeat (first | exact (Kd.R_reads' HO219.out).2.2 | (with_reducible refine Kd.C_alloc ?_ _) | (with_reducible refine Kd.C_drewN ?_ _) | (with_reducible refine Kd.C_drew ?_))); (case side2 => exact (Kd.R_reads' HO219.out).2.1); rintro e w29 ⟨v221, rfl, ho0, hb⟩; refine ⟨_, rfl, ?_⟩; have n0_ := Aside0.mk (Kd.R_elder' (by (with_reducible repeat (first | apply Kd.R_alloc | apply Kd.R_drewN | apply Kd.R_drew)); exact HO219.out) (Kd.R_base ho0) hb); have n1_ := Aside0.mk (Kd.R_lower (Kd.R_new' ho0 (Kd.R_lt (by (with_reducible repeat (first | apply Kd.R_alloc | apply Kd.R_drewN | apply Kd.R_drew)); exact HO219.out))) (below_size (by repeat (first | (with_reducible first | exact HB.out | apply below_alloc | apply pw_below_drewN | apply below_drew1) | exact HB.out)))); have n2_ := Aside0.mk (below_step (by repeat (first | (with_reducible first | exact HB.out | apply below_alloc | apply pw_below_drewN | apply below_drew1) | exact HB.out)) hb); clear HO219; clear HB; have HO219 := n0_; have HO222 := n1_; have HB := n2_; clear n0_ n1_ n2_; (try clear hb); (try clear hb2); (try clear hk); (try clear hi); (try clear ho0); obtain ⟨Ao30, co30, eo30⟩ := Kd.R_slice HO222.out; subst eo30))
      go_ret
      exact ⟨by first | rfl | (simp [errW_none, errW_some] <;> rfl) | (simp [*, errW_none, errW_some] <;> rfl), by repeat (first | (with_reducible first | exact HB.out | apply below_alloc | apply pw_below_drewN | apply below_drew1) | exact HB.out)⟩

/-- THE ONE PURE STATEMENT of ropeladderlaw02_SchedRepairs: yours. -/
def ropeladderlaw02_SchedRepairs.Pure : Prop := ∀ (a0 : Int) (l1 : List Int) (a2 : Int), (Lit.int .u8 a0).wf = true → l1.length ≤ maxLen → l1.length * 1 ≤ 140737488351232 → (∀ x ∈ l1, (Lit.int .u8 x).wf = true) → (Lit.int .u8 a2).wf = true → ∃ k, ropeladderlaw02_SchedRepairs.f k a0 l1 a2 = some true
theorem ropeladderlaw02_SchedRepairs.walk (P : ropeladderlaw02_SchedRepairs.Pure) (a0 : Int) (a1 : Option Addr) (len1 cap1 : Nat) (z1 : List Int) (a2 : Int) (w : World) (w0 : (Lit.int .u8 a0).wf = true) (w1 : (a1 = none ∧ len1 = 0 ∧ cap1 = 0 ∧ z1 = []) ∨ ∃ x, a1 = some x ∧ len1 ≤ cap1 ∧ cap1 ≤ maxLen ∧ z1.length = cap1 ∧ (∀ i, i < z1.length → w.cell? (x.add i) = some (.int .u8 (z1.getD i 0))) ∧ ∀ n ∈ z1, (Lit.int .u8 n).wf = true) (y1 : len1 * 1 ≤ 140737488351232) (w2 : (Lit.int .u8 a2).wf = true) :
    Calls Try.prog 5 #[.int .u8 a0, .slice a1 len1 cap1, .int .u8 a2] w fun e w' => e = .returned (.bool true) ∧ Below w.heap.size w w' := by
  obtain ⟨l1, rfl, hr1, hm1, hw1, hc1⟩ := ReadsInt.ofRowC w1
  obtain ⟨k, h⟩ := P a0 l1 a2 w0 hm1 y1 hw1 w2
  refine (ropeladderlaw02_SchedRepairs.calls k a0 _ _ l1 a2 true w (Kd.C_of_reads (d := (0 : Int)) (h1 := fun _ => rfl) hr1) hc1 h).mono ?_
  rintro e w' ⟨rfl, hd⟩
  exact ⟨rfl, hd⟩

end Go.Proofs.Ytngofgblhblfkaa.PS
