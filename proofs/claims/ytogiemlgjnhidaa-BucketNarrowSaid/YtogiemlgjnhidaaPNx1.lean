/- Written by a program of this session out of the translation: for each Go function a Lean function, and the proof that the call computes it; the conditions stand in each theorem. -/
import Derived.Test.YtogiemlgjnhidaaPNx0
namespace Go.Proofs.Ytogiemlgjnhidaa.PN
open Go.RowKit Go.Proofs.YtogiemlgjnhidaaW.PrintWords Go.Proofs.YtogiemlgjnhidaaW.PrintLast Go.Proofs.YtogiemlgjnhidaaW.PrintMore
attribute [local go_sem] max2_int min2_int max_two min_two max_three min_three max_four min_four   -- for this text's walks alone
set_option linter.unusedVariables false
set_option linter.unusedSimpArgs false

/-! ### bucket_ceilDiv_int: function 19 -/
def bucket_ceilDiv_int.f (a0 : Int) (a1 : Int) : Option (Int) := if a1 = 0 then (none) else (some (wrap64 (Int.tdiv (wrap64 ((wrap64 (a0 + a1)) - 1)) a1)))
set_option maxHeartbeats 8000000 in
set_option maxRecDepth 100000 in
theorem bucket_ceilDiv_int.calls (a0 : Int) (a1 : Int) (r : Int) (w : World) (h : bucket_ceilDiv_int.f a0 a1 = some r) :
    Calls Try.prog 19 #[.int .i64 a0, .int .i64 a1] w fun e w' => e = .returned (.int .i64 r) ∧ Drawn0 w w' := by
  have H : (if a1 = 0 then (none) else (some (wrap64 (Int.tdiv (wrap64 ((wrap64 (a0 + a1)) - 1)) a1)))) = some r := h
  clear h
  by_cases c3 : a1 = 0
  · rw [if_pos c3] at H
    exact absurd H (by simp)
  · rw [if_neg c3] at H
    have c3b0 : (a1 == 0) = false := beq_eq_false_iff_ne.mpr c3
    have c3b1 : (a1 != 0) = true := bne_iff_ne.mpr c3
    obtain rfl := Option.some.inj H
    go_enter Try.func19, Try.ntmps19
    go_wp2
    go_ret
    exact ⟨by first | rfl | (simp; done) | (simp [*]; done), by repeat (first | exact Drawn0.refl _ | apply Drawn0.step)⟩

/-! ### bucket_Width: function 11 -/
def bucket_Width.f (a0 : Int) (a1 : Int) : Option (Int) := (bucket_ceilDiv_int.f (wrap64 ((wrap64 (a1 - a0)) + 1)) 8).bind fun t101 => (some t101)
set_option maxHeartbeats 8000000 in
set_option maxRecDepth 100000 in
theorem bucket_Width.calls (a0 : Int) (a1 : Int) (r : Int) (w : World) (h : bucket_Width.f a0 a1 = some r) :
    Calls Try.prog 11 #[.int .i64 a0, .int .i64 a1] w fun e w' => e = .returned (.int .i64 r) ∧ Drawn0 w w' := by
  have H : ((bucket_ceilDiv_int.f (wrap64 ((wrap64 (a1 - a0)) + 1)) 8).bind fun t101 => (some t101)) = some r := h
  clear h
  replace H := Option.bind_eq_some_iff.mp H
  obtain ⟨t101, A30, H⟩ := H
  replace H : (some t101) = some r := H
  have A3 := Aside0.mk A30
  clear A30
  obtain rfl := Option.some.inj H
  go_enter Try.func11, Try.ntmps11
  go_wp2_with (first | ((with_reducible refine gate_callee (f := 19) rfl ?_); refine goesL_ (some 9) rfl rfl Try.func19 (by kernel_rfl) rfl #[.int .i64 (wrap64 ((wrap64 (a1 - a0)) + 1)), .int .i64 8] rfl (by (try simp only [List.map_toArray, List.map_cons, List.map_nil]); first | done | rfl | (simp only [List.length_drop, List.length_take]; rfl)) ?_; (with_reducible refine (bucket_ceilDiv_int.calls (wrap64 ((wrap64 (a1 - a0)) + 1)) 8 t101 _ A3.out).mono ?_); rintro e w' ⟨rfl, ⟨nd, rfl⟩⟩; refine ⟨_, rfl, ?_⟩))
  go_ret
  exact ⟨by first | rfl | (simp; done) | (simp [*]; done), by repeat (first | exact Drawn0.refl _ | apply Drawn0.step)⟩

/-! ### bucket_Narrow: function 13 -/
def bucket_Narrow.f (a0 : Int) : Option (Int) := (bucket_ceilDiv_int.f a0 8).bind fun t102 => (some t102)
set_option maxHeartbeats 8000000 in
set_option maxRecDepth 100000 in
theorem bucket_Narrow.calls (a0 : Int) (r : Int) (w : World) (h : bucket_Narrow.f a0 = some r) :
    Calls Try.prog 13 #[.int .i64 a0] w fun e w' => e = .returned (.int .i64 r) ∧ Drawn0 w w' := by
  have H : ((bucket_ceilDiv_int.f a0 8).bind fun t102 => (some t102)) = some r := h
  clear h
  replace H := Option.bind_eq_some_iff.mp H
  obtain ⟨t102, A20, H⟩ := H
  replace H : (some t102) = some r := H
  have A2 := Aside0.mk A20
  clear A20
  obtain rfl := Option.some.inj H
  go_enter Try.func13, Try.ntmps13
  go_wp2_with (first | ((with_reducible refine gate_callee (f := 19) rfl ?_); refine goesL_ (some 4) rfl rfl Try.func19 (by kernel_rfl) rfl #[.int .i64 a0, .int .i64 8] rfl (by (try simp only [List.map_toArray, List.map_cons, List.map_nil]); first | done | rfl | (simp only [List.length_drop, List.length_take]; rfl)) ?_; (with_reducible refine (bucket_ceilDiv_int.calls a0 8 t102 _ A2.out).mono ?_); rintro e w' ⟨rfl, ⟨nd, rfl⟩⟩; refine ⟨_, rfl, ?_⟩))
  go_ret
  exact ⟨by first | rfl | (simp; done) | (simp [*]; done), by repeat (first | exact Drawn0.refl _ | apply Drawn0.step)⟩

/-! ### bucket_Index: function 15 -/
def bucket_Index.f (a0 : Int) (a1 : Int) (a2 : Int) : Option (Int) := if a1 = 0 then (none) else (some (wrap64 (Int.tdiv (wrap64 (a2 - a0)) a1)))
set_option maxHeartbeats 8000000 in
set_option maxRecDepth 100000 in
theorem bucket_Index.calls (a0 : Int) (a1 : Int) (a2 : Int) (r : Int) (w : World) (h : bucket_Index.f a0 a1 a2 = some r) :
    Calls Try.prog 15 #[.int .i64 a0, .int .i64 a1, .int .i64 a2] w fun e w' => e = .returned (.int .i64 r) ∧ Drawn0 w w' := by
  have H : (if a1 = 0 then (none) else (some (wrap64 (Int.tdiv (wrap64 (a2 - a0)) a1)))) = some r := h
  clear h
  by_cases c4 : a1 = 0
  · rw [if_pos c4] at H
    exact absurd H (by simp)
  · rw [if_neg c4] at H
    have c4b0 : (a1 == 0) = false := beq_eq_false_iff_ne.mpr c4
    have c4b1 : (a1 != 0) = true := bne_iff_ne.mpr c4
    obtain rfl := Option.some.inj H
    go_enter Try.func15, Try.ntmps15
    go_wp2
    go_ret
    exact ⟨by first | rfl | (simp; done) | (simp [*]; done), by repeat (first | exact Drawn0.refl _ | apply Drawn0.step)⟩

/-! ### bucket_Start: function 17 -/
def bucket_Start.f (a0 : Int) (a1 : Int) (a2 : Int) : Option (Int) := some (wrap64 (a0 + (wrap64 (a2 * a1))))
set_option maxHeartbeats 8000000 in
set_option maxRecDepth 100000 in
theorem bucket_Start.calls (a0 : Int) (a1 : Int) (a2 : Int) (r : Int) (w : World) (h : bucket_Start.f a0 a1 a2 = some r) :
    Calls Try.prog 17 #[.int .i64 a0, .int .i64 a1, .int .i64 a2] w fun e w' => e = .returned (.int .i64 r) ∧ Drawn0 w w' := by
  have H : (some (wrap64 (a0 + (wrap64 (a2 * a1))))) = some r := h
  clear h
  obtain rfl := Option.some.inj H
  go_enter Try.func17, Try.ntmps17
  go_wp2
  go_ret
  exact ⟨by first | rfl | (simp; done) | (simp [*]; done), by repeat (first | exact Drawn0.refl _ | apply Drawn0.step)⟩

/-! ### ropeladderlaw06_head: function 8 -/
def ropeladderlaw06_head.f  : Option (Bool) := (bucket_Width.f 10 25).bind fun t103 => (if t103 = 2 then ((bucket_Width.f 5 5).bind fun t104 => (if t104 = 1 then ((bucket_Index.f 10 2 25).bind fun t105 => (if t105 = 7 then ((bucket_Index.f 10 2 10).bind fun t106 => (if t106 = 0 then ((bucket_Narrow.f 9).bind fun t107 => (if t107 = 2 then ((bucket_Narrow.f 8).bind fun t108 => (if t108 = 1 then ((bucket_Start.f 10 2 3).bind fun t109 => (some (t109 == 16))) else (some false))) else (some false))) else (some false))) else (some false))) else (some false))) else (some false))
set_option maxHeartbeats 8000000 in
set_option maxRecDepth 100000 in
theorem ropeladderlaw06_head.calls  (r : Bool) (w : World) (h : ropeladderlaw06_head.f  = some r) :
    Calls Try.prog 8 #[] w fun e w' => e = .returned (.bool r) ∧ Drawn0 w w' := by
  have H : ((bucket_Width.f 10 25).bind fun t103 => (if t103 = 2 then ((bucket_Width.f 5 5).bind fun t104 => (if t104 = 1 then ((bucket_Index.f 10 2 25).bind fun t105 => (if t105 = 7 then ((bucket_Index.f 10 2 10).bind fun t106 => (if t106 = 0 then ((bucket_Narrow.f 9).bind fun t107 => (if t107 = 2 then ((bucket_Narrow.f 8).bind fun t108 => (if t108 = 1 then ((bucket_Start.f 10 2 3).bind fun t109 => (some (t109 == 16))) else (some false))) else (some false))) else (some false))) else (some false))) else (some false))) else (some false))) = some r := h
  clear h
  replace H := Option.bind_eq_some_iff.mp H
  obtain ⟨t103, A10, H⟩ := H
  replace H : (if t103 = 2 then ((bucket_Width.f 5 5).bind fun t104 => (if t104 = 1 then ((bucket_Index.f 10 2 25).bind fun t105 => (if t105 = 7 then ((bucket_Index.f 10 2 10).bind fun t106 => (if t106 = 0 then ((bucket_Narrow.f 9).bind fun t107 => (if t107 = 2 then ((bucket_Narrow.f 8).bind fun t108 => (if t108 = 1 then ((bucket_Start.f 10 2 3).bind fun t109 => (some (t109 == 16))) else (some false))) else (some false))) else (some false))) else (some false))) else (some false))) else (some false)) = some r := H
  have A1 := Aside0.mk A10
  clear A10
  by_cases c2 : t103 = 2
  · rw [if_pos c2] at H
    have c2b0 : (t103 == 2) = true := beq_iff_eq.mpr c2
    have c2b1 : (t103 != 2) = false := bne_eq_false_iff_eq.mpr c2
    clear c2
    replace H := Option.bind_eq_some_iff.mp H
    obtain ⟨t104, A30, H⟩ := H
    replace H : (if t104 = 1 then ((bucket_Index.f 10 2 25).bind fun t105 => (if t105 = 7 then ((bucket_Index.f 10 2 10).bind fun t106 => (if t106 = 0 then ((bucket_Narrow.f 9).bind fun t107 => (if t107 = 2 then ((bucket_Narrow.f 8).bind fun t108 => (if t108 = 1 then ((bucket_Start.f 10 2 3).bind fun t109 => (some (t109 == 16))) else (some false))) else (some false))) else (some false))) else (some false))) else (some false)) = some r := H
    have A3 := Aside0.mk A30
    clear A30
    by_cases c4 : t104 = 1
    · rw [if_pos c4] at H
      have c4b0 : (t104 == 1) = true := beq_iff_eq.mpr c4
      have c4b1 : (t104 != 1) = false := bne_eq_false_iff_eq.mpr c4
      clear c4
      replace H := Option.bind_eq_some_iff.mp H
      obtain ⟨t105, A50, H⟩ := H
      replace H : (if t105 = 7 then ((bucket_Index.f 10 2 10).bind fun t106 => (if t106 = 0 then ((bucket_Narrow.f 9).bind fun t107 => (if t107 = 2 then ((bucket_Narrow.f 8).bind fun t108 => (if t108 = 1 then ((bucket_Start.f 10 2 3).bind fun t109 => (some (t109 == 16))) else (some false))) else (some false))) else (some false))) else (some false)) = some r := H
      have A5 := Aside0.mk A50
      clear A50
      by_cases c6 : t105 = 7
      · rw [if_pos c6] at H
        have c6b0 : (t105 == 7) = true := beq_iff_eq.mpr c6
        have c6b1 : (t105 != 7) = false := bne_eq_false_iff_eq.mpr c6
        clear c6
        replace H := Option.bind_eq_some_iff.mp H
        obtain ⟨t106, A70, H⟩ := H
        replace H : (if t106 = 0 then ((bucket_Narrow.f 9).bind fun t107 => (if t107 = 2 then ((bucket_Narrow.f 8).bind fun t108 => (if t108 = 1 then ((bucket_Start.f 10 2 3).bind fun t109 => (some (t109 == 16))) else (some false))) else (some false))) else (some false)) = some r := H
        have A7 := Aside0.mk A70
        clear A70
        by_cases c8 : t106 = 0
        · rw [if_pos c8] at H
          have c8b0 : (t106 == 0) = true := beq_iff_eq.mpr c8
          have c8b1 : (t106 != 0) = false := bne_eq_false_iff_eq.mpr c8
          clear c8
          replace H := Option.bind_eq_some_iff.mp H
          obtain ⟨t107, A90, H⟩ := H
          replace H : (if t107 = 2 then ((bucket_Narrow.f 8).bind fun t108 => (if t108 = 1 then ((bucket_Start.f 10 2 3).bind fun t109 => (some (t109 == 16))) else (some false))) else (some false)) = some r := H
          have A9 := Aside0.mk A90
          clear A90
          by_cases c10 : t107 = 2
          · rw [if_pos c10] at H
            have c10b0 : (t107 == 2) = true := beq_iff_eq.mpr c10
            have c10b1 : (t107 != 2) = false := bne_eq_false_iff_eq.mpr c10
            clear c10
            replace H := Option.bind_eq_some_iff.mp H
            obtain ⟨t108, A110, H⟩ := H
            replace H : (if t108 = 1 then ((bucket_Start.f 10 2 3).bind fun t109 => (some (t109 == 16))) else (some false)) = some r := H
            have A11 := Aside0.mk A110
            clear A110
            by_cases c12 : t108 = 1
            · rw [if_pos c12] at H
              have c12b0 : (t108 == 1) = true := beq_iff_eq.mpr c12
              have c12b1 : (t108 != 1) = false := bne_eq_false_iff_eq.mpr c12
              clear c12
              replace H := Option.bind_eq_some_iff.mp H
              obtain ⟨t109, A130, H⟩ := H
              replace H : (some (t109 == 16)) = some r := H
              have A13 := Aside0.mk A130
              clear A130
              obtain rfl := Option.some.inj H
              go_enter Try.func8, Try.ntmps8
              go_wp2_with (first | ((with_reducible refine gate_callee (f := 11) rfl ?_); refine goesL_ (some 1) rfl rfl Try.func11 (by kernel_rfl) rfl #[.int .i64 10, .int .i64 25] rfl (by (try simp only [List.map_toArray, List.map_cons, List.map_nil]); first | done | rfl | (simp only [List.length_drop, List.length_take]; rfl)) ?_; (with_reducible refine (bucket_Width.calls 10 25 t103 _ A1.out).mono ?_); clear A1; rintro e w' ⟨rfl, ⟨nd, rfl⟩⟩; refine ⟨_, rfl, ?_⟩) | (go_at_call 11; (with_reducible refine (bucket_Width.calls 5 5 t104 _ A3.out).mono ?_); clear A3; rintro e w' ⟨rfl, ⟨nd, rfl⟩⟩) | (go_at_call 15; (with_reducible refine (bucket_Index.calls 10 2 25 t105 _ A5.out).mono ?_); clear A5; rintro e w' ⟨rfl, ⟨nd, rfl⟩⟩) | (go_at_call 15; (with_reducible refine (bucket_Index.calls 10 2 10 t106 _ A7.out).mono ?_); clear A7; rintro e w' ⟨rfl, ⟨nd, rfl⟩⟩) | (go_at_call 13; (with_reducible refine (bucket_Narrow.calls 9 t107 _ A9.out).mono ?_); clear A9; rintro e w' ⟨rfl, ⟨nd, rfl⟩⟩) | (go_at_call 13; (with_reducible refine (bucket_Narrow.calls 8 t108 _ A11.out).mono ?_); clear A11; rintro e w' ⟨rfl, ⟨nd, rfl⟩⟩) | (go_at_call 17; (with_reducible refine (bucket_Start.calls 10 2 3 t109 _ A13.out).mono ?_); rintro e w' ⟨rfl, ⟨nd, rfl⟩⟩))
              go_ret
              exact ⟨by first | rfl | (simp; done) | (simp [*]; done), by repeat (first | exact Drawn0.refl _ | apply Drawn0.step)⟩
            · rw [if_neg c12] at H
              have c12b0 : (t108 == 1) = false := beq_eq_false_iff_ne.mpr c12
              have c12b1 : (t108 != 1) = true := bne_iff_ne.mpr c12
              obtain rfl := Option.some.inj H
              go_enter Try.func8, Try.ntmps8
              go_wp2_with (first | ((with_reducible refine gate_callee (f := 11) rfl ?_); refine goesL_ (some 1) rfl rfl Try.func11 (by kernel_rfl) rfl #[.int .i64 10, .int .i64 25] rfl (by (try simp only [List.map_toArray, List.map_cons, List.map_nil]); first | done | rfl | (simp only [List.length_drop, List.length_take]; rfl)) ?_; (with_reducible refine (bucket_Width.calls 10 25 t103 _ A1.out).mono ?_); clear A1; rintro e w' ⟨rfl, ⟨nd, rfl⟩⟩; refine ⟨_, rfl, ?_⟩) | (go_at_call 11; (with_reducible refine (bucket_Width.calls 5 5 t104 _ A3.out).mono ?_); clear A3; rintro e w' ⟨rfl, ⟨nd, rfl⟩⟩) | (go_at_call 15; (with_reducible refine (bucket_Index.calls 10 2 25 t105 _ A5.out).mono ?_); clear A5; rintro e w' ⟨rfl, ⟨nd, rfl⟩⟩) | (go_at_call 15; (with_reducible refine (bucket_Index.calls 10 2 10 t106 _ A7.out).mono ?_); clear A7; rintro e w' ⟨rfl, ⟨nd, rfl⟩⟩) | (go_at_call 13; (with_reducible refine (bucket_Narrow.calls 9 t107 _ A9.out).mono ?_); clear A9; rintro e w' ⟨rfl, ⟨nd, rfl⟩⟩) | (go_at_call 13; (with_reducible refine (bucket_Narrow.calls 8 t108 _ A11.out).mono ?_); clear A11; rintro e w' ⟨rfl, ⟨nd, rfl⟩⟩))
              go_ret
              exact ⟨by first | rfl | (simp; done) | (simp [*]; done), by repeat (first | exact Drawn0.refl _ | apply Drawn0.step)⟩
          · rw [if_neg c10] at H
            have c10b0 : (t107 == 2) = false := beq_eq_false_iff_ne.mpr c10
            have c10b1 : (t107 != 2) = true := bne_iff_ne.mpr c10
            obtain rfl := Option.some.inj H
            go_enter Try.func8, Try.ntmps8
            go_wp2_with (first | ((with_reducible refine gate_callee (f := 11) rfl ?_); refine goesL_ (some 1) rfl rfl Try.func11 (by kernel_rfl) rfl #[.int .i64 10, .int .i64 25] rfl (by (try simp only [List.map_toArray, List.map_cons, List.map_nil]); first | done | rfl | (simp only [List.length_drop, List.length_take]; rfl)) ?_; (with_reducible refine (bucket_Width.calls 10 25 t103 _ A1.out).mono ?_); clear A1; rintro e w' ⟨rfl, ⟨nd, rfl⟩⟩; refine ⟨_, rfl, ?_⟩) | (go_at_call 11; (with_reducible refine (bucket_Width.calls 5 5 t104 _ A3.out).mono ?_); clear A3; rintro e w' ⟨rfl, ⟨nd, rfl⟩⟩) | (go_at_call 15; (with_reducible refine (bucket_Index.calls 10 2 25 t105 _ A5.out).mono ?_); clear A5; rintro e w' ⟨rfl, ⟨nd, rfl⟩⟩) | (go_at_call 15; (with_reducible refine (bucket_Index.calls 10 2 10 t106 _ A7.out).mono ?_); clear A7; rintro e w' ⟨rfl, ⟨nd, rfl⟩⟩) | (go_at_call 13; (with_reducible refine (bucket_Narrow.calls 9 t107 _ A9.out).mono ?_); rintro e w' ⟨rfl, ⟨nd, rfl⟩⟩))
            go_ret
            exact ⟨by first | rfl | (simp; done) | (simp [*]; done), by repeat (first | exact Drawn0.refl _ | apply Drawn0.step)⟩
        · rw [if_neg c8] at H
          have c8b0 : (t106 == 0) = false := beq_eq_false_iff_ne.mpr c8
          have c8b1 : (t106 != 0) = true := bne_iff_ne.mpr c8
          obtain rfl := Option.some.inj H
          go_enter Try.func8, Try.ntmps8
          go_wp2_with (first | ((with_reducible refine gate_callee (f := 11) rfl ?_); refine goesL_ (some 1) rfl rfl Try.func11 (by kernel_rfl) rfl #[.int .i64 10, .int .i64 25] rfl (by (try simp only [List.map_toArray, List.map_cons, List.map_nil]); first | done | rfl | (simp only [List.length_drop, List.length_take]; rfl)) ?_; (with_reducible refine (bucket_Width.calls 10 25 t103 _ A1.out).mono ?_); clear A1; rintro e w' ⟨rfl, ⟨nd, rfl⟩⟩; refine ⟨_, rfl, ?_⟩) | (go_at_call 11; (with_reducible refine (bucket_Width.calls 5 5 t104 _ A3.out).mono ?_); clear A3; rintro e w' ⟨rfl, ⟨nd, rfl⟩⟩) | (go_at_call 15; (with_reducible refine (bucket_Index.calls 10 2 25 t105 _ A5.out).mono ?_); clear A5; rintro e w' ⟨rfl, ⟨nd, rfl⟩⟩) | (go_at_call 15; (with_reducible refine (bucket_Index.calls 10 2 10 t106 _ A7.out).mono ?_); clear A7; rintro e w' ⟨rfl, ⟨nd, rfl⟩⟩))
          go_ret
          exact ⟨by first | rfl | (simp; done) | (simp [*]; done), by repeat (first | exact Drawn0.refl _ | apply Drawn0.step)⟩
      · rw [if_neg c6] at H
        have c6b0 : (t105 == 7) = false := beq_eq_false_iff_ne.mpr c6
        have c6b1 : (t105 != 7) = true := bne_iff_ne.mpr c6
        obtain rfl := Option.some.inj H
        go_enter Try.func8, Try.ntmps8
        go_wp2_with (first | ((with_reducible refine gate_callee (f := 11) rfl ?_); refine goesL_ (some 1) rfl rfl Try.func11 (by kernel_rfl) rfl #[.int .i64 10, .int .i64 25] rfl (by (try simp only [List.map_toArray, List.map_cons, List.map_nil]); first | done | rfl | (simp only [List.length_drop, List.length_take]; rfl)) ?_; (with_reducible refine (bucket_Width.calls 10 25 t103 _ A1.out).mono ?_); clear A1; rintro e w' ⟨rfl, ⟨nd, rfl⟩⟩; refine ⟨_, rfl, ?_⟩) | (go_at_call 11; (with_reducible refine (bucket_Width.calls 5 5 t104 _ A3.out).mono ?_); clear A3; rintro e w' ⟨rfl, ⟨nd, rfl⟩⟩) | (go_at_call 15; (with_reducible refine (bucket_Index.calls 10 2 25 t105 _ A5.out).mono ?_); rintro e w' ⟨rfl, ⟨nd, rfl⟩⟩))
        go_ret
        exact ⟨by first | rfl | (simp; done) | (simp [*]; done), by repeat (first | exact Drawn0.refl _ | apply Drawn0.step)⟩
    · rw [if_neg c4] at H
      have c4b0 : (t104 == 1) = false := beq_eq_false_iff_ne.mpr c4
      have c4b1 : (t104 != 1) = true := bne_iff_ne.mpr c4
      obtain rfl := Option.some.inj H
      go_enter Try.func8, Try.ntmps8
      go_wp2_with (first | ((with_reducible refine gate_callee (f := 11) rfl ?_); refine goesL_ (some 1) rfl rfl Try.func11 (by kernel_rfl) rfl #[.int .i64 10, .int .i64 25] rfl (by (try simp only [List.map_toArray, List.map_cons, List.map_nil]); first | done | rfl | (simp only [List.length_drop, List.length_take]; rfl)) ?_; (with_reducible refine (bucket_Width.calls 10 25 t103 _ A1.out).mono ?_); clear A1; rintro e w' ⟨rfl, ⟨nd, rfl⟩⟩; refine ⟨_, rfl, ?_⟩) | (go_at_call 11; (with_reducible refine (bucket_Width.calls 5 5 t104 _ A3.out).mono ?_); clear A3; rintro e w' ⟨rfl, ⟨nd, rfl⟩⟩))
      go_ret
      exact ⟨by first | rfl | (simp; done) | (simp [*]; done), by repeat (first | exact Drawn0.refl _ | apply Drawn0.step)⟩
  · rw [if_neg c2] at H
    have c2b0 : (t103 == 2) = false := beq_eq_false_iff_ne.mpr c2
    have c2b1 : (t103 != 2) = true := bne_iff_ne.mpr c2
    obtain rfl := Option.some.inj H
    go_enter Try.func8, Try.ntmps8
    go_wp2_with (first | ((with_reducible refine gate_callee (f := 11) rfl ?_); refine goesL_ (some 1) rfl rfl Try.func11 (by kernel_rfl) rfl #[.int .i64 10, .int .i64 25] rfl (by (try simp only [List.map_toArray, List.map_cons, List.map_nil]); first | done | rfl | (simp only [List.length_drop, List.length_take]; rfl)) ?_; (with_reducible refine (bucket_Width.calls 10 25 t103 _ A1.out).mono ?_); rintro e w' ⟨rfl, ⟨nd, rfl⟩⟩; refine ⟨_, rfl, ?_⟩))
    go_ret
    exact ⟨by first | rfl | (simp; done) | (simp [*]; done), by repeat (first | exact Drawn0.refl _ | apply Drawn0.step)⟩

/-! ### ropeladderlaw06_Time: function 9 -/
def ropeladderlaw06_Time.f (a0 : Int) : Option (Int) := some (wrap64 (Int.tmod a0 1152921504606846977))
set_option maxHeartbeats 8000000 in
set_option maxRecDepth 100000 in
theorem ropeladderlaw06_Time.calls (a0 : Int) (r : Int) (w : World) (h : ropeladderlaw06_Time.f a0 = some r) :
    Calls Try.prog 9 #[.int .u64 a0] w fun e w' => e = .returned (.int .i64 r) ∧ Drawn0 w w' := by
  have H : (some (wrap64 (Int.tmod a0 1152921504606846977))) = some r := h
  clear h
  obtain rfl := Option.some.inj H
  go_enter Try.func9, Try.ntmps9
  go_wp2
  go_ret
  exact ⟨by first | rfl | (simp; done) | (simp [*]; done), by repeat (first | exact Drawn0.refl _ | apply Drawn0.step)⟩

/-! ### ropeladderlaw06_Span: function 10 -/
def ropeladderlaw06_Span.f (a0 : Int) : Option (Int) := some (wrap64 ((wrap64 (Int.tmod a0 144115188075855873)) + 1))
set_option maxHeartbeats 8000000 in
set_option maxRecDepth 100000 in
theorem ropeladderlaw06_Span.calls (a0 : Int) (r : Int) (w : World) (h : ropeladderlaw06_Span.f a0 = some r) :
    Calls Try.prog 10 #[.int .u64 a0] w fun e w' => e = .returned (.int .i64 r) ∧ Drawn0 w w' := by
  have H : (some (wrap64 ((wrap64 (Int.tmod a0 144115188075855873)) + 1))) = some r := h
  clear h
  obtain rfl := Option.some.inj H
  go_enter Try.func10, Try.ntmps10
  go_wp2
  go_ret
  exact ⟨by first | rfl | (simp; done) | (simp [*]; done), by repeat (first | exact Drawn0.refl _ | apply Drawn0.step)⟩

/-! ### ropeladderlaw06_BucketNarrow: function 5 -/
def ropeladderlaw06_BucketNarrow.f (a0 : Int) (a1 : Int) (a2 : Int) : Option (Bool) := (ropeladderlaw06_head.f).bind fun t110 => ((ropeladderlaw06_Span.f a0).bind fun t111 => ((bucket_Narrow.f t111).bind fun t112 => (if t112 < 1 then (some false) else ((ropeladderlaw06_Time.f a1).bind fun t113 => (if (IntKind.u64.wrap (t111)) = 0 then (none) else (if t110 = true then (if (wrap64 (8 * t112)) ≥ t111 then (if (wrap64 (8 * (wrap64 (t112 - 1)))) < t111 then (if t112 < t111 then ((bucket_Index.f (wrap64 (Int.tdiv t113 2)) t112 (wrap64 ((wrap64 (Int.tdiv t113 2)) + (wrap64 (Int.tmod a2 (IntKind.u64.wrap (t111))))))).bind fun t114 => (if t114 ≥ 0 then ((bucket_Index.f (wrap64 (Int.tdiv t113 2)) t112 (wrap64 ((wrap64 (Int.tdiv t113 2)) + (wrap64 (Int.tmod a2 (IntKind.u64.wrap (t111))))))).bind fun t115 => (some (decide (t115 < 8)))) else (some false))) else (if t111 = 1 then ((bucket_Index.f (wrap64 (Int.tdiv t113 2)) t112 (wrap64 ((wrap64 (Int.tdiv t113 2)) + (wrap64 (Int.tmod a2 (IntKind.u64.wrap (t111))))))).bind fun t116 => (if t116 ≥ 0 then ((bucket_Index.f (wrap64 (Int.tdiv t113 2)) t112 (wrap64 ((wrap64 (Int.tdiv t113 2)) + (wrap64 (Int.tmod a2 (IntKind.u64.wrap (t111))))))).bind fun t117 => (some (decide (t117 < 8)))) else (some false))) else (some false))) else (some false)) else (some false)) else (some false)))))))
set_option maxHeartbeats 8000000 in
set_option maxRecDepth 100000 in
theorem ropeladderlaw06_BucketNarrow.calls (a0 : Int) (a1 : Int) (a2 : Int) (r : Bool) (w : World) (h : ropeladderlaw06_BucketNarrow.f a0 a1 a2 = some r) :
    Calls Try.prog 5 #[.int .u64 a0, .int .u64 a1, .int .u64 a2] w fun e w' => e = .returned (.bool r) ∧ Drawn0 w w' := by
  have H : ((ropeladderlaw06_head.f).bind fun t110 => ((ropeladderlaw06_Span.f a0).bind fun t111 => ((bucket_Narrow.f t111).bind fun t112 => (if t112 < 1 then (some false) else ((ropeladderlaw06_Time.f a1).bind fun t113 => (if (IntKind.u64.wrap (t111)) = 0 then (none) else (if t110 = true then (if (wrap64 (8 * t112)) ≥ t111 then (if (wrap64 (8 * (wrap64 (t112 - 1)))) < t111 then (if t112 < t111 then ((bucket_Index.f (wrap64 (Int.tdiv t113 2)) t112 (wrap64 ((wrap64 (Int.tdiv t113 2)) + (wrap64 (Int.tmod a2 (IntKind.u64.wrap (t111))))))).bind fun t114 => (if t114 ≥ 0 then ((bucket_Index.f (wrap64 (Int.tdiv t113 2)) t112 (wrap64 ((wrap64 (Int.tdiv t113 2)) + (wrap64 (Int.tmod a2 (IntKind.u64.wrap (t111))))))).bind fun t115 => (some (decide (t115 < 8)))) else (some false))) else (if t111 = 1 then ((bucket_Index.f (wrap64 (Int.tdiv t113 2)) t112 (wrap64 ((wrap64 (Int.tdiv t113 2)) + (wrap64 (Int.tmod a2 (IntKind.u64.wrap (t111))))))).bind fun t116 => (if t116 ≥ 0 then ((bucket_Index.f (wrap64 (Int.tdiv t113 2)) t112 (wrap64 ((wrap64 (Int.tdiv t113 2)) + (wrap64 (Int.tmod a2 (IntKind.u64.wrap (t111))))))).bind fun t117 => (some (decide (t117 < 8)))) else (some false))) else (some false))) else (some false)) else (some false)) else (some false)))))))) = some r := h
  clear h
  replace H := Option.bind_eq_some_iff.mp H
  obtain ⟨t110, A40, H⟩ := H
  replace H : ((ropeladderlaw06_Span.f a0).bind fun t111 => ((bucket_Narrow.f t111).bind fun t112 => (if t112 < 1 then (some false) else ((ropeladderlaw06_Time.f a1).bind fun t113 => (if (IntKind.u64.wrap (t111)) = 0 then (none) else (if t110 = true then (if (wrap64 (8 * t112)) ≥ t111 then (if (wrap64 (8 * (wrap64 (t112 - 1)))) < t111 then (if t112 < t111 then ((bucket_Index.f (wrap64 (Int.tdiv t113 2)) t112 (wrap64 ((wrap64 (Int.tdiv t113 2)) + (wrap64 (Int.tmod a2 (IntKind.u64.wrap (t111))))))).bind fun t114 => (if t114 ≥ 0 then ((bucket_Index.f (wrap64 (Int.tdiv t113 2)) t112 (wrap64 ((wrap64 (Int.tdiv t113 2)) + (wrap64 (Int.tmod a2 (IntKind.u64.wrap (t111))))))).bind fun t115 => (some (decide (t115 < 8)))) else (some false))) else (if t111 = 1 then ((bucket_Index.f (wrap64 (Int.tdiv t113 2)) t112 (wrap64 ((wrap64 (Int.tdiv t113 2)) + (wrap64 (Int.tmod a2 (IntKind.u64.wrap (t111))))))).bind fun t116 => (if t116 ≥ 0 then ((bucket_Index.f (wrap64 (Int.tdiv t113 2)) t112 (wrap64 ((wrap64 (Int.tdiv t113 2)) + (wrap64 (Int.tmod a2 (IntKind.u64.wrap (t111))))))).bind fun t117 => (some (decide (t117 < 8)))) else (some false))) else (some false))) else (some false)) else (some false)) else (some false))))))) = some r := H
  have A4 := Aside0.mk A40
  clear A40
  replace H := Option.bind_eq_some_iff.mp H
  obtain ⟨t111, A50, H⟩ := H
  replace H : ((bucket_Narrow.f t111).bind fun t112 => (if t112 < 1 then (some false) else ((ropeladderlaw06_Time.f a1).bind fun t113 => (if (IntKind.u64.wrap (t111)) = 0 then (none) else (if t110 = true then (if (wrap64 (8 * t112)) ≥ t111 then (if (wrap64 (8 * (wrap64 (t112 - 1)))) < t111 then (if t112 < t111 then ((bucket_Index.f (wrap64 (Int.tdiv t113 2)) t112 (wrap64 ((wrap64 (Int.tdiv t113 2)) + (wrap64 (Int.tmod a2 (IntKind.u64.wrap (t111))))))).bind fun t114 => (if t114 ≥ 0 then ((bucket_Index.f (wrap64 (Int.tdiv t113 2)) t112 (wrap64 ((wrap64 (Int.tdiv t113 2)) + (wrap64 (Int.tmod a2 (IntKind.u64.wrap (t111))))))).bind fun t115 => (some (decide (t115 < 8)))) else (some false))) else (if t111 = 1 then ((bucket_Index.f (wrap64 (Int.tdiv t113 2)) t112 (wrap64 ((wrap64 (Int.tdiv t113 2)) + (wrap64 (Int.tmod a2 (IntKind.u64.wrap (t111))))))).bind fun t116 => (if t116 ≥ 0 then ((bucket_Index.f (wrap64 (Int.tdiv t113 2)) t112 (wrap64 ((wrap64 (Int.tdiv t113 2)) + (wrap64 (Int.tmod a2 (IntKind.u64.wrap (t111))))))).bind fun t117 => (some (decide (t117 < 8)))) else (some false))) else (some false))) else (some false)) else (some false)) else (some false)))))) = some r := H
  have A5 := Aside0.mk A50
  clear A50
  replace H := Option.bind_eq_some_iff.mp H
  obtain ⟨t112, A60, H⟩ := H
  replace H : (if t112 < 1 then (some false) else ((ropeladderlaw06_Time.f a1).bind fun t113 => (if (IntKind.u64.wrap (t111)) = 0 then (none) else (if t110 = true then (if (wrap64 (8 * t112)) ≥ t111 then (if (wrap64 (8 * (wrap64 (t112 - 1)))) < t111 then (if t112 < t111 then ((bucket_Index.f (wrap64 (Int.tdiv t113 2)) t112 (wrap64 ((wrap64 (Int.tdiv t113 2)) + (wrap64 (Int.tmod a2 (IntKind.u64.wrap (t111))))))).bind fun t114 => (if t114 ≥ 0 then ((bucket_Index.f (wrap64 (Int.tdiv t113 2)) t112 (wrap64 ((wrap64 (Int.tdiv t113 2)) + (wrap64 (Int.tmod a2 (IntKind.u64.wrap (t111))))))).bind fun t115 => (some (decide (t115 < 8)))) else (some false))) else (if t111 = 1 then ((bucket_Index.f (wrap64 (Int.tdiv t113 2)) t112 (wrap64 ((wrap64 (Int.tdiv t113 2)) + (wrap64 (Int.tmod a2 (IntKind.u64.wrap (t111))))))).bind fun t116 => (if t116 ≥ 0 then ((bucket_Index.f (wrap64 (Int.tdiv t113 2)) t112 (wrap64 ((wrap64 (Int.tdiv t113 2)) + (wrap64 (Int.tmod a2 (IntKind.u64.wrap (t111))))))).bind fun t117 => (some (decide (t117 < 8)))) else (some false))) else (some false))) else (some false)) else (some false)) else (some false))))) = some r := H
  have A6 := Aside0.mk A60
  clear A60
  by_cases c7 : t112 < 1
  · rw [if_pos c7] at H
    have c7b0 : decide (t112 < 1) = true := decide_eq_true c7
    clear c7
    obtain rfl := Option.some.inj H
    go_enter Try.func5, Try.ntmps5
    go_wp2_with (first | ((with_reducible refine gate_callee (f := 8) rfl ?_); refine goesL_ (some 12) rfl rfl Try.func8 (by kernel_rfl) rfl #[] rfl (by (try simp only [List.map_toArray, List.map_cons, List.map_nil]); first | done | rfl | (simp only [List.length_drop, List.length_take]; rfl)) ?_; (with_reducible refine (ropeladderlaw06_head.calls  t110 _ A4.out).mono ?_); rintro e w' ⟨rfl, ⟨nd, rfl⟩⟩; refine ⟨_, rfl, ?_⟩) | ((with_reducible refine gate_callee (f := 10) rfl ?_); refine goesL_ (some 14) rfl rfl Try.func10 (by kernel_rfl) rfl #[.int .u64 a0] rfl (by (try simp only [List.map_toArray, List.map_cons, List.map_nil]); first | done | rfl | (simp only [List.length_drop, List.length_take]; rfl)) ?_; (with_reducible refine (ropeladderlaw06_Span.calls a0 t111 _ A5.out).mono ?_); rintro e w' ⟨rfl, ⟨nd, rfl⟩⟩; refine ⟨_, rfl, ?_⟩) | ((with_reducible refine gate_callee (f := 13) rfl ?_); refine goesL_ (some 16) rfl rfl Try.func13 (by kernel_rfl) rfl #[.int .i64 t111] rfl (by (try simp only [List.map_toArray, List.map_cons, List.map_nil]); first | done | rfl | (simp only [List.length_drop, List.length_take]; rfl)) ?_; (with_reducible refine (bucket_Narrow.calls t111 t112 _ A6.out).mono ?_); rintro e w' ⟨rfl, ⟨nd, rfl⟩⟩; refine ⟨_, rfl, ?_⟩))
    go_ret
    exact ⟨by first | rfl | (simp; done) | (simp [*]; done), by repeat (first | exact Drawn0.refl _ | apply Drawn0.step)⟩
  · rw [if_neg c7] at H
    have c7b0 : decide (t112 < 1) = false := decide_eq_false c7
    clear c7
    replace H := Option.bind_eq_some_iff.mp H
    obtain ⟨t113, A80, H⟩ := H
    replace H : (if (IntKind.u64.wrap (t111)) = 0 then (none) else (if t110 = true then (if (wrap64 (8 * t112)) ≥ t111 then (if (wrap64 (8 * (wrap64 (t112 - 1)))) < t111 then (if t112 < t111 then ((bucket_Index.f (wrap64 (Int.tdiv t113 2)) t112 (wrap64 ((wrap64 (Int.tdiv t113 2)) + (wrap64 (Int.tmod a2 (IntKind.u64.wrap (t111))))))).bind fun t114 => (if t114 ≥ 0 then ((bucket_Index.f (wrap64 (Int.tdiv t113 2)) t112 (wrap64 ((wrap64 (Int.tdiv t113 2)) + (wrap64 (Int.tmod a2 (IntKind.u64.wrap (t111))))))).bind fun t115 => (some (decide (t115 < 8)))) else (some false))) else (if t111 = 1 then ((bucket_Index.f (wrap64 (Int.tdiv t113 2)) t112 (wrap64 ((wrap64 (Int.tdiv t113 2)) + (wrap64 (Int.tmod a2 (IntKind.u64.wrap (t111))))))).bind fun t116 => (if t116 ≥ 0 then ((bucket_Index.f (wrap64 (Int.tdiv t113 2)) t112 (wrap64 ((wrap64 (Int.tdiv t113 2)) + (wrap64 (Int.tmod a2 (IntKind.u64.wrap (t111))))))).bind fun t117 => (some (decide (t117 < 8)))) else (some false))) else (some false))) else (some false)) else (some false)) else (some false))) = some r := H
    have A8 := Aside0.mk A80
    clear A80
    by_cases c9 : (IntKind.u64.wrap (t111)) = 0
    · rw [if_pos c9] at H
      exact absurd H (by simp)
    · rw [if_neg c9] at H
      have c9b0 : ((IntKind.u64.wrap (t111)) == 0) = false := beq_eq_false_iff_ne.mpr c9
      have c9b1 : ((IntKind.u64.wrap (t111)) != 0) = true := bne_iff_ne.mpr c9
      by_cases c10 : t110 = true
      · subst c10
        have H1 : (if (wrap64 (8 * t112)) ≥ t111 then (if (wrap64 (8 * (wrap64 (t112 - 1)))) < t111 then (if t112 < t111 then ((bucket_Index.f (wrap64 (Int.tdiv t113 2)) t112 (wrap64 ((wrap64 (Int.tdiv t113 2)) + (wrap64 (Int.tmod a2 (IntKind.u64.wrap (t111))))))).bind fun t114 => (if t114 ≥ 0 then ((bucket_Index.f (wrap64 (Int.tdiv t113 2)) t112 (wrap64 ((wrap64 (Int.tdiv t113 2)) + (wrap64 (Int.tmod a2 (IntKind.u64.wrap (t111))))))).bind fun t115 => (some (decide (t115 < 8)))) else (some false))) else (if t111 = 1 then ((bucket_Index.f (wrap64 (Int.tdiv t113 2)) t112 (wrap64 ((wrap64 (Int.tdiv t113 2)) + (wrap64 (Int.tmod a2 (IntKind.u64.wrap (t111))))))).bind fun t116 => (if t116 ≥ 0 then ((bucket_Index.f (wrap64 (Int.tdiv t113 2)) t112 (wrap64 ((wrap64 (Int.tdiv t113 2)) + (wrap64 (Int.tmod a2 (IntKind.u64.wrap (t111))))))).bind fun t117 => (some (decide (t117 < 8)))) else (some false))) else (some false))) else (some false)) else (some false)) = some r := by rw [if_pos rfl] at H; exact H
        clear H
        have H := H1
        clear H1
        by_cases c11 : (wrap64 (8 * t112)) ≥ t111
        · rw [if_pos c11] at H
          have c11b0 : decide (t111 ≤ (wrap64 (8 * t112))) = true := decide_eq_true c11
          clear c11
          by_cases c12 : (wrap64 (8 * (wrap64 (t112 - 1)))) < t111
          · rw [if_pos c12] at H
            have c12b0 : decide ((wrap64 (8 * (wrap64 (t112 - 1)))) < t111) = true := decide_eq_true c12
            clear c12
            by_cases c13 : t112 < t111
            · rw [if_pos c13] at H
              have c13b0 : decide (t112 < t111) = true := decide_eq_true c13
              clear c13
              replace H := Option.bind_eq_some_iff.mp H
              obtain ⟨t114, A140, H⟩ := H
              replace H : (if t114 ≥ 0 then ((bucket_Index.f (wrap64 (Int.tdiv t113 2)) t112 (wrap64 ((wrap64 (Int.tdiv t113 2)) + (wrap64 (Int.tmod a2 (IntKind.u64.wrap (t111))))))).bind fun t115 => (some (decide (t115 < 8)))) else (some false)) = some r := H
              have A14 := Aside0.mk A140
              clear A140
              by_cases c15 : t114 ≥ 0
              · rw [if_pos c15] at H
                have c15b0 : decide (0 ≤ t114) = true := decide_eq_true c15
                clear c15
                replace H := Option.bind_eq_some_iff.mp H
                obtain ⟨t115, A160, H⟩ := H
                replace H : (some (decide (t115 < 8))) = some r := H
                have A16 := Aside0.mk A160
                clear A160
                obtain rfl := Option.some.inj H
                go_enter Try.func5, Try.ntmps5
                go_wp2_with (first | ((with_reducible refine gate_callee (f := 8) rfl ?_); refine goesL_ (some 12) rfl rfl Try.func8 (by kernel_rfl) rfl #[] rfl (by (try simp only [List.map_toArray, List.map_cons, List.map_nil]); first | done | rfl | (simp only [List.length_drop, List.length_take]; rfl)) ?_; (with_reducible refine (ropeladderlaw06_head.calls  true _ A4.out).mono ?_); rintro e w' ⟨rfl, ⟨nd, rfl⟩⟩; refine ⟨_, rfl, ?_⟩) | ((with_reducible refine gate_callee (f := 10) rfl ?_); refine goesL_ (some 14) rfl rfl Try.func10 (by kernel_rfl) rfl #[.int .u64 a0] rfl (by (try simp only [List.map_toArray, List.map_cons, List.map_nil]); first | done | rfl | (simp only [List.length_drop, List.length_take]; rfl)) ?_; (with_reducible refine (ropeladderlaw06_Span.calls a0 t111 _ A5.out).mono ?_); rintro e w' ⟨rfl, ⟨nd, rfl⟩⟩; refine ⟨_, rfl, ?_⟩) | ((with_reducible refine gate_callee (f := 13) rfl ?_); refine goesL_ (some 16) rfl rfl Try.func13 (by kernel_rfl) rfl #[.int .i64 t111] rfl (by (try simp only [List.map_toArray, List.map_cons, List.map_nil]); first | done | rfl | (simp only [List.length_drop, List.length_take]; rfl)) ?_; (with_reducible refine (bucket_Narrow.calls t111 t112 _ A6.out).mono ?_); rintro e w' ⟨rfl, ⟨nd, rfl⟩⟩; refine ⟨_, rfl, ?_⟩) | ((with_reducible refine gate_callee (f := 9) rfl ?_); refine goesL_ (some 20) rfl rfl Try.func9 (by kernel_rfl) rfl #[.int .u64 a1] rfl (by (try simp only [List.map_toArray, List.map_cons, List.map_nil]); first | done | rfl | (simp only [List.length_drop, List.length_take]; rfl)) ?_; (with_reducible refine (ropeladderlaw06_Time.calls a1 t113 _ A8.out).mono ?_); rintro e w' ⟨rfl, ⟨nd, rfl⟩⟩; refine ⟨_, rfl, ?_⟩) | (go_at_call 15; (with_reducible refine (bucket_Index.calls (wrap64 (Int.tdiv t113 2)) t112 (wrap64 ((wrap64 (Int.tdiv t113 2)) + (wrap64 (Int.tmod a2 (IntKind.u64.wrap (t111)))))) t114 _ A14.out).mono ?_); clear A14; rintro e w' ⟨rfl, ⟨nd, rfl⟩⟩) | (go_at_call 15; (with_reducible refine (bucket_Index.calls (wrap64 (Int.tdiv t113 2)) t112 (wrap64 ((wrap64 (Int.tdiv t113 2)) + (wrap64 (Int.tmod a2 (IntKind.u64.wrap (t111)))))) t115 _ A16.out).mono ?_); clear A16; rintro e w' ⟨rfl, ⟨nd, rfl⟩⟩))
                go_ret
                exact ⟨by first | rfl | (simp; done) | (simp [*]; done), by repeat (first | exact Drawn0.refl _ | apply Drawn0.step)⟩
              · rw [if_neg c15] at H
                have c15b0 : decide (0 ≤ t114) = false := decide_eq_false c15
                clear c15
                obtain rfl := Option.some.inj H
                go_enter Try.func5, Try.ntmps5
                go_wp2_with (first | ((with_reducible refine gate_callee (f := 8) rfl ?_); refine goesL_ (some 12) rfl rfl Try.func8 (by kernel_rfl) rfl #[] rfl (by (try simp only [List.map_toArray, List.map_cons, List.map_nil]); first | done | rfl | (simp only [List.length_drop, List.length_take]; rfl)) ?_; (with_reducible refine (ropeladderlaw06_head.calls  true _ A4.out).mono ?_); rintro e w' ⟨rfl, ⟨nd, rfl⟩⟩; refine ⟨_, rfl, ?_⟩) | ((with_reducible refine gate_callee (f := 10) rfl ?_); refine goesL_ (some 14) rfl rfl Try.func10 (by kernel_rfl) rfl #[.int .u64 a0] rfl (by (try simp only [List.map_toArray, List.map_cons, List.map_nil]); first | done | rfl | (simp only [List.length_drop, List.length_take]; rfl)) ?_; (with_reducible refine (ropeladderlaw06_Span.calls a0 t111 _ A5.out).mono ?_); rintro e w' ⟨rfl, ⟨nd, rfl⟩⟩; refine ⟨_, rfl, ?_⟩) | ((with_reducible refine gate_callee (f := 13) rfl ?_); refine goesL_ (some 16) rfl rfl Try.func13 (by kernel_rfl) rfl #[.int .i64 t111] rfl (by (try simp only [List.map_toArray, List.map_cons, List.map_nil]); first | done | rfl | (simp only [List.length_drop, List.length_take]; rfl)) ?_; (with_reducible refine (bucket_Narrow.calls t111 t112 _ A6.out).mono ?_); rintro e w' ⟨rfl, ⟨nd, rfl⟩⟩; refine ⟨_, rfl, ?_⟩) | ((with_reducible refine gate_callee (f := 9) rfl ?_); refine goesL_ (some 20) rfl rfl Try.func9 (by kernel_rfl) rfl #[.int .u64 a1] rfl (by (try simp only [List.map_toArray, List.map_cons, List.map_nil]); first | done | rfl | (simp only [List.length_drop, List.length_take]; rfl)) ?_; (with_reducible refine (ropeladderlaw06_Time.calls a1 t113 _ A8.out).mono ?_); rintro e w' ⟨rfl, ⟨nd, rfl⟩⟩; refine ⟨_, rfl, ?_⟩) | (go_at_call 15; (with_reducible refine (bucket_Index.calls (wrap64 (Int.tdiv t113 2)) t112 (wrap64 ((wrap64 (Int.tdiv t113 2)) + (wrap64 (Int.tmod a2 (IntKind.u64.wrap (t111)))))) t114 _ A14.out).mono ?_); rintro e w' ⟨rfl, ⟨nd, rfl⟩⟩))
                go_ret
                exact ⟨by first | rfl | (simp; done) | (simp [*]; done), by repeat (first | exact Drawn0.refl _ | apply Drawn0.step)⟩
            · rw [if_neg c13] at H
              have c13b0 : decide (t112 < t111) = false := decide_eq_false c13
              clear c13
              by_cases c17 : t111 = 1
              · rw [if_pos c17] at H
                have c17b0 : (t111 == 1) = true := beq_iff_eq.mpr c17
                have c17b1 : (t111 != 1) = false := bne_eq_false_iff_eq.mpr c17
                clear c17
                replace H := Option.bind_eq_some_iff.mp H
                obtain ⟨t116, A180, H⟩ := H
                replace H : (if t116 ≥ 0 then ((bucket_Index.f (wrap64 (Int.tdiv t113 2)) t112 (wrap64 ((wrap64 (Int.tdiv t113 2)) + (wrap64 (Int.tmod a2 (IntKind.u64.wrap (t111))))))).bind fun t117 => (some (decide (t117 < 8)))) else (some false)) = some r := H
                have A18 := Aside0.mk A180
                clear A180
                by_cases c19 : t116 ≥ 0
                · rw [if_pos c19] at H
                  have c19b0 : decide (0 ≤ t116) = true := decide_eq_true c19
                  clear c19
                  replace H := Option.bind_eq_some_iff.mp H
                  obtain ⟨t117, A200, H⟩ := H
                  replace H : (some (decide (t117 < 8))) = some r := H
                  have A20 := Aside0.mk A200
                  clear A200
                  obtain rfl := Option.some.inj H
                  go_enter Try.func5, Try.ntmps5
                  go_wp2_with (first | ((with_reducible refine gate_callee (f := 8) rfl ?_); refine goesL_ (some 12) rfl rfl Try.func8 (by kernel_rfl) rfl #[] rfl (by (try simp only [List.map_toArray, List.map_cons, List.map_nil]); first | done | rfl | (simp only [List.length_drop, List.length_take]; rfl)) ?_; (with_reducible refine (ropeladderlaw06_head.calls  true _ A4.out).mono ?_); rintro e w' ⟨rfl, ⟨nd, rfl⟩⟩; refine ⟨_, rfl, ?_⟩) | ((with_reducible refine gate_callee (f := 10) rfl ?_); refine goesL_ (some 14) rfl rfl Try.func10 (by kernel_rfl) rfl #[.int .u64 a0] rfl (by (try simp only [List.map_toArray, List.map_cons, List.map_nil]); first | done | rfl | (simp only [List.length_drop, List.length_take]; rfl)) ?_; (with_reducible refine (ropeladderlaw06_Span.calls a0 t111 _ A5.out).mono ?_); rintro e w' ⟨rfl, ⟨nd, rfl⟩⟩; refine ⟨_, rfl, ?_⟩) | ((with_reducible refine gate_callee (f := 13) rfl ?_); refine goesL_ (some 16) rfl rfl Try.func13 (by kernel_rfl) rfl #[.int .i64 t111] rfl (by (try simp only [List.map_toArray, List.map_cons, List.map_nil]); first | done | rfl | (simp only [List.length_drop, List.length_take]; rfl)) ?_; (with_reducible refine (bucket_Narrow.calls t111 t112 _ A6.out).mono ?_); rintro e w' ⟨rfl, ⟨nd, rfl⟩⟩; refine ⟨_, rfl, ?_⟩) | ((with_reducible refine gate_callee (f := 9) rfl ?_); refine goesL_ (some 20) rfl rfl Try.func9 (by kernel_rfl) rfl #[.int .u64 a1] rfl (by (try simp only [List.map_toArray, List.map_cons, List.map_nil]); first | done | rfl | (simp only [List.length_drop, List.length_take]; rfl)) ?_; (with_reducible refine (ropeladderlaw06_Time.calls a1 t113 _ A8.out).mono ?_); rintro e w' ⟨rfl, ⟨nd, rfl⟩⟩; refine ⟨_, rfl, ?_⟩) | (go_at_call 15; (with_reducible refine (bucket_Index.calls (wrap64 (Int.tdiv t113 2)) t112 (wrap64 ((wrap64 (Int.tdiv t113 2)) + (wrap64 (Int.tmod a2 (IntKind.u64.wrap (t111)))))) t116 _ A18.out).mono ?_); clear A18; rintro e w' ⟨rfl, ⟨nd, rfl⟩⟩) | (go_at_call 15; (with_reducible refine (bucket_Index.calls (wrap64 (Int.tdiv t113 2)) t112 (wrap64 ((wrap64 (Int.tdiv t113 2)) + (wrap64 (Int.tmod a2 (IntKind.u64.wrap (t111)))))) t117 _ A20.out).mono ?_); clear A20; rintro e w' ⟨rfl, ⟨nd, rfl⟩⟩))
                  go_ret
                  exact ⟨by first | rfl | (simp; done) | (simp [*]; done), by repeat (first | exact Drawn0.refl _ | apply Drawn0.step)⟩
                · rw [if_neg c19] at H
                  have c19b0 : decide (0 ≤ t116) = false := decide_eq_false c19
                  clear c19
                  obtain rfl := Option.some.inj H
                  go_enter Try.func5, Try.ntmps5
                  go_wp2_with (first | ((with_reducible refine gate_callee (f := 8) rfl ?_); refine goesL_ (some 12) rfl rfl Try.func8 (by kernel_rfl) rfl #[] rfl (by (try simp only [List.map_toArray, List.map_cons, List.map_nil]); first | done | rfl | (simp only [List.length_drop, List.length_take]; rfl)) ?_; (with_reducible refine (ropeladderlaw06_head.calls  true _ A4.out).mono ?_); rintro e w' ⟨rfl, ⟨nd, rfl⟩⟩; refine ⟨_, rfl, ?_⟩) | ((with_reducible refine gate_callee (f := 10) rfl ?_); refine goesL_ (some 14) rfl rfl Try.func10 (by kernel_rfl) rfl #[.int .u64 a0] rfl (by (try simp only [List.map_toArray, List.map_cons, List.map_nil]); first | done | rfl | (simp only [List.length_drop, List.length_take]; rfl)) ?_; (with_reducible refine (ropeladderlaw06_Span.calls a0 t111 _ A5.out).mono ?_); rintro e w' ⟨rfl, ⟨nd, rfl⟩⟩; refine ⟨_, rfl, ?_⟩) | ((with_reducible refine gate_callee (f := 13) rfl ?_); refine goesL_ (some 16) rfl rfl Try.func13 (by kernel_rfl) rfl #[.int .i64 t111] rfl (by (try simp only [List.map_toArray, List.map_cons, List.map_nil]); first | done | rfl | (simp only [List.length_drop, List.length_take]; rfl)) ?_; (with_reducible refine (bucket_Narrow.calls t111 t112 _ A6.out).mono ?_); rintro e w' ⟨rfl, ⟨nd, rfl⟩⟩; refine ⟨_, rfl, ?_⟩) | ((with_reducible refine gate_callee (f := 9) rfl ?_); refine goesL_ (some 20) rfl rfl Try.func9 (by kernel_rfl) rfl #[.int .u64 a1] rfl (by (try simp only [List.map_toArray, List.map_cons, List.map_nil]); first | done | rfl | (simp only [List.length_drop, List.length_take]; rfl)) ?_; (with_reducible refine (ropeladderlaw06_Time.calls a1 t113 _ A8.out).mono ?_); rintro e w' ⟨rfl, ⟨nd, rfl⟩⟩; refine ⟨_, rfl, ?_⟩) | (go_at_call 15; (with_reducible refine (bucket_Index.calls (wrap64 (Int.tdiv t113 2)) t112 (wrap64 ((wrap64 (Int.tdiv t113 2)) + (wrap64 (Int.tmod a2 (IntKind.u64.wrap (t111)))))) t116 _ A18.out).mono ?_); rintro e w' ⟨rfl, ⟨nd, rfl⟩⟩))
                  go_ret
                  exact ⟨by first | rfl | (simp; done) | (simp [*]; done), by repeat (first | exact Drawn0.refl _ | apply Drawn0.step)⟩
              · rw [if_neg c17] at H
                have c17b0 : (t111 == 1) = false := beq_eq_false_iff_ne.mpr c17
                have c17b1 : (t111 != 1) = true := bne_iff_ne.mpr c17
                obtain rfl := Option.some.inj H
                go_enter Try.func5, Try.ntmps5
                go_wp2_with (first | ((with_reducible refine gate_callee (f := 8) rfl ?_); refine goesL_ (some 12) rfl rfl Try.func8 (by kernel_rfl) rfl #[] rfl (by (try simp only [List.map_toArray, List.map_cons, List.map_nil]); first | done | rfl | (simp only [List.length_drop, List.length_take]; rfl)) ?_; (with_reducible refine (ropeladderlaw06_head.calls  true _ A4.out).mono ?_); rintro e w' ⟨rfl, ⟨nd, rfl⟩⟩; refine ⟨_, rfl, ?_⟩) | ((with_reducible refine gate_callee (f := 10) rfl ?_); refine goesL_ (some 14) rfl rfl Try.func10 (by kernel_rfl) rfl #[.int .u64 a0] rfl (by (try simp only [List.map_toArray, List.map_cons, List.map_nil]); first | done | rfl | (simp only [List.length_drop, List.length_take]; rfl)) ?_; (with_reducible refine (ropeladderlaw06_Span.calls a0 t111 _ A5.out).mono ?_); rintro e w' ⟨rfl, ⟨nd, rfl⟩⟩; refine ⟨_, rfl, ?_⟩) | ((with_reducible refine gate_callee (f := 13) rfl ?_); refine goesL_ (some 16) rfl rfl Try.func13 (by kernel_rfl) rfl #[.int .i64 t111] rfl (by (try simp only [List.map_toArray, List.map_cons, List.map_nil]); first | done | rfl | (simp only [List.length_drop, List.length_take]; rfl)) ?_; (with_reducible refine (bucket_Narrow.calls t111 t112 _ A6.out).mono ?_); rintro e w' ⟨rfl, ⟨nd, rfl⟩⟩; refine ⟨_, rfl, ?_⟩) | ((with_reducible refine gate_callee (f := 9) rfl ?_); refine goesL_ (some 20) rfl rfl Try.func9 (by kernel_rfl) rfl #[.int .u64 a1] rfl (by (try simp only [List.map_toArray, List.map_cons, List.map_nil]); first | done | rfl | (simp only [List.length_drop, List.length_take]; rfl)) ?_; (with_reducible refine (ropeladderlaw06_Time.calls a1 t113 _ A8.out).mono ?_); rintro e w' ⟨rfl, ⟨nd, rfl⟩⟩; refine ⟨_, rfl, ?_⟩))
                go_ret
                exact ⟨by first | rfl | (simp; done) | (simp [*]; done), by repeat (first | exact Drawn0.refl _ | apply Drawn0.step)⟩
          · rw [if_neg c12] at H
            have c12b0 : decide ((wrap64 (8 * (wrap64 (t112 - 1)))) < t111) = false := decide_eq_false c12
            clear c12
            obtain rfl := Option.some.inj H
            go_enter Try.func5, Try.ntmps5
            go_wp2_with (first | ((with_reducible refine gate_callee (f := 8) rfl ?_); refine goesL_ (some 12) rfl rfl Try.func8 (by kernel_rfl) rfl #[] rfl (by (try simp only [List.map_toArray, List.map_cons, List.map_nil]); first | done | rfl | (simp only [List.length_drop, List.length_take]; rfl)) ?_; (with_reducible refine (ropeladderlaw06_head.calls  true _ A4.out).mono ?_); rintro e w' ⟨rfl, ⟨nd, rfl⟩⟩; refine ⟨_, rfl, ?_⟩) | ((with_reducible refine gate_callee (f := 10) rfl ?_); refine goesL_ (some 14) rfl rfl Try.func10 (by kernel_rfl) rfl #[.int .u64 a0] rfl (by (try simp only [List.map_toArray, List.map_cons, List.map_nil]); first | done | rfl | (simp only [List.length_drop, List.length_take]; rfl)) ?_; (with_reducible refine (ropeladderlaw06_Span.calls a0 t111 _ A5.out).mono ?_); rintro e w' ⟨rfl, ⟨nd, rfl⟩⟩; refine ⟨_, rfl, ?_⟩) | ((with_reducible refine gate_callee (f := 13) rfl ?_); refine goesL_ (some 16) rfl rfl Try.func13 (by kernel_rfl) rfl #[.int .i64 t111] rfl (by (try simp only [List.map_toArray, List.map_cons, List.map_nil]); first | done | rfl | (simp only [List.length_drop, List.length_take]; rfl)) ?_; (with_reducible refine (bucket_Narrow.calls t111 t112 _ A6.out).mono ?_); rintro e w' ⟨rfl, ⟨nd, rfl⟩⟩; refine ⟨_, rfl, ?_⟩) | ((with_reducible refine gate_callee (f := 9) rfl ?_); refine goesL_ (some 20) rfl rfl Try.func9 (by kernel_rfl) rfl #[.int .u64 a1] rfl (by (try simp only [List.map_toArray, List.map_cons, List.map_nil]); first | done | rfl | (simp only [List.length_drop, List.length_take]; rfl)) ?_; (with_reducible refine (ropeladderlaw06_Time.calls a1 t113 _ A8.out).mono ?_); rintro e w' ⟨rfl, ⟨nd, rfl⟩⟩; refine ⟨_, rfl, ?_⟩))
            go_ret
            exact ⟨by first | rfl | (simp; done) | (simp [*]; done), by repeat (first | exact Drawn0.refl _ | apply Drawn0.step)⟩
        · rw [if_neg c11] at H
          have c11b0 : decide (t111 ≤ (wrap64 (8 * t112))) = false := decide_eq_false c11
          clear c11
          obtain rfl := Option.some.inj H
          go_enter Try.func5, Try.ntmps5
          go_wp2_with (first | ((with_reducible refine gate_callee (f := 8) rfl ?_); refine goesL_ (some 12) rfl rfl Try.func8 (by kernel_rfl) rfl #[] rfl (by (try simp only [List.map_toArray, List.map_cons, List.map_nil]); first | done | rfl | (simp only [List.length_drop, List.length_take]; rfl)) ?_; (with_reducible refine (ropeladderlaw06_head.calls  true _ A4.out).mono ?_); rintro e w' ⟨rfl, ⟨nd, rfl⟩⟩; refine ⟨_, rfl, ?_⟩) | ((with_reducible refine gate_callee (f := 10) rfl ?_); refine goesL_ (some 14) rfl rfl Try.func10 (by kernel_rfl) rfl #[.int .u64 a0] rfl (by (try simp only [List.map_toArray, List.map_cons, List.map_nil]); first | done | rfl | (simp only [List.length_drop, List.length_take]; rfl)) ?_; (with_reducible refine (ropeladderlaw06_Span.calls a0 t111 _ A5.out).mono ?_); rintro e w' ⟨rfl, ⟨nd, rfl⟩⟩; refine ⟨_, rfl, ?_⟩) | ((with_reducible refine gate_callee (f := 13) rfl ?_); refine goesL_ (some 16) rfl rfl Try.func13 (by kernel_rfl) rfl #[.int .i64 t111] rfl (by (try simp only [List.map_toArray, List.map_cons, List.map_nil]); first | done | rfl | (simp only [List.length_drop, List.length_take]; rfl)) ?_; (with_reducible refine (bucket_Narrow.calls t111 t112 _ A6.out).mono ?_); rintro e w' ⟨rfl, ⟨nd, rfl⟩⟩; refine ⟨_, rfl, ?_⟩) | ((with_reducible refine gate_callee (f := 9) rfl ?_); refine goesL_ (some 20) rfl rfl Try.func9 (by kernel_rfl) rfl #[.int .u64 a1] rfl (by (try simp only [List.map_toArray, List.map_cons, List.map_nil]); first | done | rfl | (simp only [List.length_drop, List.length_take]; rfl)) ?_; (with_reducible refine (ropeladderlaw06_Time.calls a1 t113 _ A8.out).mono ?_); rintro e w' ⟨rfl, ⟨nd, rfl⟩⟩; refine ⟨_, rfl, ?_⟩))
          go_ret
          exact ⟨by first | rfl | (simp; done) | (simp [*]; done), by repeat (first | exact Drawn0.refl _ | apply Drawn0.step)⟩
      · replace c10 := Bool.eq_false_iff.mpr c10
        subst c10
        have H1 : (some false) = some r := by rw [if_neg (show ¬ (false = true) by decide)] at H; exact H
        clear H
        have H := H1
        clear H1
        obtain rfl := Option.some.inj H
        go_enter Try.func5, Try.ntmps5
        go_wp2_with (first | ((with_reducible refine gate_callee (f := 8) rfl ?_); refine goesL_ (some 12) rfl rfl Try.func8 (by kernel_rfl) rfl #[] rfl (by (try simp only [List.map_toArray, List.map_cons, List.map_nil]); first | done | rfl | (simp only [List.length_drop, List.length_take]; rfl)) ?_; (with_reducible refine (ropeladderlaw06_head.calls  false _ A4.out).mono ?_); rintro e w' ⟨rfl, ⟨nd, rfl⟩⟩; refine ⟨_, rfl, ?_⟩) | ((with_reducible refine gate_callee (f := 10) rfl ?_); refine goesL_ (some 14) rfl rfl Try.func10 (by kernel_rfl) rfl #[.int .u64 a0] rfl (by (try simp only [List.map_toArray, List.map_cons, List.map_nil]); first | done | rfl | (simp only [List.length_drop, List.length_take]; rfl)) ?_; (with_reducible refine (ropeladderlaw06_Span.calls a0 t111 _ A5.out).mono ?_); rintro e w' ⟨rfl, ⟨nd, rfl⟩⟩; refine ⟨_, rfl, ?_⟩) | ((with_reducible refine gate_callee (f := 13) rfl ?_); refine goesL_ (some 16) rfl rfl Try.func13 (by kernel_rfl) rfl #[.int .i64 t111] rfl (by (try simp only [List.map_toArray, List.map_cons, List.map_nil]); first | done | rfl | (simp only [List.length_drop, List.length_take]; rfl)) ?_; (with_reducible refine (bucket_Narrow.calls t111 t112 _ A6.out).mono ?_); rintro e w' ⟨rfl, ⟨nd, rfl⟩⟩; refine ⟨_, rfl, ?_⟩) | ((with_reducible refine gate_callee (f := 9) rfl ?_); refine goesL_ (some 20) rfl rfl Try.func9 (by kernel_rfl) rfl #[.int .u64 a1] rfl (by (try simp only [List.map_toArray, List.map_cons, List.map_nil]); first | done | rfl | (simp only [List.length_drop, List.length_take]; rfl)) ?_; (with_reducible refine (ropeladderlaw06_Time.calls a1 t113 _ A8.out).mono ?_); rintro e w' ⟨rfl, ⟨nd, rfl⟩⟩; refine ⟨_, rfl, ?_⟩))
        go_ret
        exact ⟨by first | rfl | (simp; done) | (simp [*]; done), by repeat (first | exact Drawn0.refl _ | apply Drawn0.step)⟩

/-- THE ONE PURE STATEMENT of ropeladderlaw06_BucketNarrow: yours. -/
def ropeladderlaw06_BucketNarrow.Pure : Prop := ∀ (a0 : Int) (a1 : Int) (a2 : Int), (Lit.int .u64 a0).wf = true → (Lit.int .u64 a1).wf = true → (Lit.int .u64 a2).wf = true → ropeladderlaw06_BucketNarrow.f a0 a1 a2 = some true
theorem ropeladderlaw06_BucketNarrow.walk (P : ropeladderlaw06_BucketNarrow.Pure) (a0 : Int) (a1 : Int) (a2 : Int) (w : World) (w0 : (Lit.int .u64 a0).wf = true) (w1 : (Lit.int .u64 a1).wf = true) (w2 : (Lit.int .u64 a2).wf = true) :
    Calls Try.prog 5 #[.int .u64 a0, .int .u64 a1, .int .u64 a2] w fun e w' => e = .returned (.bool true) ∧ Below w.heap.size w w' := by
  have h := P a0 a1 a2 w0 w1 w2
  refine (ropeladderlaw06_BucketNarrow.calls a0 a1 a2 true w h).mono ?_
  rintro e w' ⟨rfl, hd⟩
  exact ⟨rfl, hd.below⟩

end Go.Proofs.Ytogiemlgjnhidaa.PN
