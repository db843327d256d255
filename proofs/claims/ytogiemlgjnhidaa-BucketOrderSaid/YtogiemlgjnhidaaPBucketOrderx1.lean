-- PRINTED BY print.sh 35421559b90ae4d0a3588c463048766b98c2df88dd9212a6774a882060cdf62d: not written by this session
import Derived.Test.YtogiemlgjnhidaaPBucketOrderx0
namespace Go.Proofs.Ytogiemlgjnhidaa.PBucketOrder
open Go.RowKit Go.Proofs.YtogiemlgjnhidaaW.PrintWords Go.Proofs.YtogiemlgjnhidaaW.PrintLast Go.Proofs.YtogiemlgjnhidaaW.PrintMore
attribute [local go_sem] max2_int min2_int max_two min_two max_three min_three max_four min_four   -- for this text's walks alone
set_option linter.unusedVariables false
set_option linter.unusedSimpArgs false

/-! ### bucket_ceilDiv_int: function 19 -/
def bucket_ceilDiv_int.f (a0 : Int) (a1 : Int) : Option (Int) := if a1 = 0 then (none) else (some (wrap64 (Int.tdiv (wrap64 ((wrap64 (a0 + a1)) - 1)) a1)))
set_option maxHeartbeats 8000000 in
set_option maxRecDepth 100000 in
theorem bucket_ceilDiv_int.calls (a0 : Int) (a1 : Int) (r : Int) (w : World) (h : bucket_ceilDiv_int.f a0 a1 = some r) :
    Calls Try.prog 19 #[.int .i64 a0, .int .i64 a1] w fun e w' => e = .returned (.int .i64 r) ∧ Drawn0 w w' := by
  have H : (if a1 = 0 then (none) else (some (wrap64 (Int.tdiv (wrap64 ((wrap64 (a0 + a1)) - 1)) a1)))) = some r := h
  clear h
  by_cases c3 : a1 = 0
  · rw [if_pos c3] at H
    exact absurd H (by simp)
  · rw [if_neg c3] at H
    have c3b0 : (a1 == 0) = false := beq_eq_false_iff_ne.mpr c3
    have c3b1 : (a1 != 0) = true := bne_iff_ne.mpr c3
    obtain rfl := Option.some.inj H
    go_enter Try.func19, Try.ntmps19
    go_wp2
    go_ret
    exact ⟨by first | rfl | (simp; done) | (simp [*]; done), by repeat (first | exact Drawn0.refl _ | apply Drawn0.step)⟩

/-! ### bucket_Width: function 11 -/
def bucket_Width.f (a0 : Int) (a1 : Int) : Option (Int) := (bucket_ceilDiv_int.f (wrap64 ((wrap64 (a1 - a0)) + 1)) 8).bind fun t101 => (some t101)
set_option maxHeartbeats 8000000 in
set_option maxRecDepth 100000 in
theorem bucket_Width.calls (a0 : Int) (a1 : Int) (r : Int) (w : World) (h : bucket_Width.f a0 a1 = some r) :
    Calls Try.prog 11 #[.int .i64 a0, .int .i64 a1] w fun e w' => e = .returned (.int .i64 r) ∧ Drawn0 w w' := by
  have H : ((bucket_ceilDiv_int.f (wrap64 ((wrap64 (a1 - a0)) + 1)) 8).bind fun t101 => (some t101)) = some r := h
  clear h
  replace H := Option.bind_eq_some_iff.mp H
  obtain ⟨t101, A30, H⟩ := H
  replace H : (some t101) = some r := H
  have A3 := Aside0.mk A30
  clear A30
  obtain rfl := Option.some.inj H
  go_enter Try.func11, Try.ntmps11
  go_wp2_with (first | ((with_reducible refine gate_callee (f := 19) rfl ?_); refine goesL_ (some 9) rfl rfl Try.func19 (by kernel_rfl) rfl #[.int .i64 (wrap64 ((wrap64 (a1 - a0)) + 1)), .int .i64 8] rfl (by (try simp only [List.map_toArray, List.map_cons, List.map_nil]); first | done | rfl | (simp only [List.length_drop, List.length_take]; rfl)) ?_; (with_reducible refine (bucket_ceilDiv_int.calls (wrap64 ((wrap64 (a1 - a0)) + 1)) 8 t101 _ A3.out).mono ?_); rintro e w' ⟨rfl, ⟨nd, rfl⟩⟩; refine ⟨_, rfl, ?_⟩))
  go_ret
  exact ⟨by first | rfl | (simp; done) | (simp [*]; done), by repeat (first | exact Drawn0.refl _ | apply Drawn0.step)⟩

/-! ### bucket_Narrow: function 13 -/
def bucket_Narrow.f (a0 : Int) : Option (Int) := (bucket_ceilDiv_int.f a0 8).bind fun t102 => (some t102)
set_option maxHeartbeats 8000000 in
set_option maxRecDepth 100000 in
theorem bucket_Narrow.calls (a0 : Int) (r : Int) (w : World) (h : bucket_Narrow.f a0 = some r) :
    Calls Try.prog 13 #[.int .i64 a0] w fun e w' => e = .returned (.int .i64 r) ∧ Drawn0 w w' := by
  have H : ((bucket_ceilDiv_int.f a0 8).bind fun t102 => (some t102)) = some r := h
  clear h
  replace H := Option.bind_eq_some_iff.mp H
  obtain ⟨t102, A20, H⟩ := H
  replace H : (some t102) = some r := H
  have A2 := Aside0.mk A20
  clear A20
  obtain rfl := Option.some.inj H
  go_enter Try.func13, Try.ntmps13
  go_wp2_with (first | ((with_reducible refine gate_callee (f := 19) rfl ?_); refine goesL_ (some 4) rfl rfl Try.func19 (by kernel_rfl) rfl #[.int .i64 a0, .int .i64 8] rfl (by (try simp only [List.map_toArray, List.map_cons, List.map_nil]); first | done | rfl | (simp only [List.length_drop, List.length_take]; rfl)) ?_; (with_reducible refine (bucket_ceilDiv_int.calls a0 8 t102 _ A2.out).mono ?_); rintro e w' ⟨rfl, ⟨nd, rfl⟩⟩; refine ⟨_, rfl, ?_⟩))
  go_ret
  exact ⟨by first | rfl | (simp; done) | (simp [*]; done), by repeat (first | exact Drawn0.refl _ | apply Drawn0.step)⟩

/-! ### bucket_Index: function 15 -/
def bucket_Index.f (a0 : Int) (a1 : Int) (a2 : Int) : Option (Int) := if a1 = 0 then (none) else (some (wrap64 (Int.tdiv (wrap64 (a2 - a0)) a1)))
set_option maxHeartbeats 8000000 in
set_option maxRecDepth 100000 in
theorem bucket_Index.calls (a0 : Int) (a1 : Int) (a2 : Int) (r : Int) (w : World) (h : bucket_Index.f a0 a1 a2 = some r) :
    Calls Try.prog 15 #[.int .i64 a0, .int .i64 a1, .int .i64 a2] w fun e w' => e = .returned (.int .i64 r) ∧ Drawn0 w w' := by
  have H : (if a1 = 0 then (none) else (some (wrap64 (Int.tdiv (wrap64 (a2 - a0)) a1)))) = some r := h
  clear h
  by_cases c4 : a1 = 0
  · rw [if_pos c4] at H
    exact absurd H (by simp)
  · rw [if_neg c4] at H
    have c4b0 : (a1 == 0) = false := beq_eq_false_iff_ne.mpr c4
    have c4b1 : (a1 != 0) = true := bne_iff_ne.mpr c4
    obtain rfl := Option.some.inj H
    go_enter Try.func15, Try.ntmps15
    go_wp2
    go_ret
    exact ⟨by first | rfl | (simp; done) | (simp [*]; done), by repeat (first | exact Drawn0.refl _ | apply Drawn0.step)⟩

/-! ### bucket_Start: function 17 -/
def bucket_Start.f (a0 : Int) (a1 : Int) (a2 : Int) : Option (Int) := some (wrap64 (a0 + (wrap64 (a2 * a1))))
set_option maxHeartbeats 8000000 in
set_option maxRecDepth 100000 in
theorem bucket_Start.calls (a0 : Int) (a1 : Int) (a2 : Int) (r : Int) (w : World) (h : bucket_Start.f a0 a1 a2 = some r) :
    Calls Try.prog 17 #[.int .i64 a0, .int .i64 a1, .int .i64 a2] w fun e w' => e = .returned (.int .i64 r) ∧ Drawn0 w w' := by
  have H : (some (wrap64 (a0 + (wrap64 (a2 * a1))))) = some r := h
  clear h
  obtain rfl := Option.some.inj H
  go_enter Try.func17, Try.ntmps17
  go_wp2
  go_ret
  exact ⟨by first | rfl | (simp; done) | (simp [*]; done), by repeat (first | exact Drawn0.refl _ | apply Drawn0.step)⟩

/-! ### ropeladderlaw06_head: function 8 -/
def ropeladderlaw06_head.f  : Option (Bool) := (bucket_Width.f 10 25).bind fun t103 => (if t103 = 2 then ((bucket_Width.f 5 5).bind fun t104 => (if t104 = 1 then ((bucket_Index.f 10 2 25).bind fun t105 => (if t105 = 7 then ((bucket_Index.f 10 2 10).bind fun t106 => (if t106 = 0 then ((bucket_Narrow.f 9).bind fun t107 => (if t107 = 2 then ((bucket_Narrow.f 8).bind fun t108 => (if t108 = 1 then ((bucket_Start.f 10 2 3).bind fun t109 => (some (t109 == 16))) else (some false))) else (some false))) else (some false))) else (some false))) else (some false))) else (some false))
set_option maxHeartbeats 8000000 in
set_option maxRecDepth 100000 in
theorem ropeladderlaw06_head.calls  (r : Bool) (w : World) (h : ropeladderlaw06_head.f  = some r) :
    Calls Try.prog 8 #[] w fun e w' => e = .returned (.bool r) ∧ Drawn0 w w' := by
  have H : ((bucket_Width.f 10 25).bind fun t103 => (if t103 = 2 then ((bucket_Width.f 5 5).bind fun t104 => (if t104 = 1 then ((bucket_Index.f 10 2 25).bind fun t105 => (if t105 = 7 then ((bucket_Index.f 10 2 10).bind fun t106 => (if t106 = 0 then ((bucket_Narrow.f 9).bind fun t107 => (if t107 = 2 then ((bucket_Narrow.f 8).bind fun t108 => (if t108 = 1 then ((bucket_Start.f 10 2 3).bind fun t109 => (some (t109 == 16))) else (some false))) else (some false))) else (some false))) else (some false))) else (some false))) else (some false))) = some r := h
  clear h
  replace H := Option.bind_eq_some_iff.mp H
  obtain ⟨t103, A10, H⟩ := H
  replace H : (if t103 = 2 then ((bucket_Width.f 5 5).bind fun t104 => (if t104 = 1 then ((bucket_Index.f 10 2 25).bind fun t105 => (if t105 = 7 then ((bucket_Index.f 10 2 10).bind fun t106 => (if t106 = 0 then ((bucket_Narrow.f 9).bind fun t107 => (if t107 = 2 then ((bucket_Narrow.f 8).bind fun t108 => (if t108 = 1 then ((bucket_Start.f 10 2 3).bind fun t109 => (some (t109 == 16))) else (some false))) else (some false))) else (some false))) else (some false))) else (some false))) else (some false)) = some r := H
  have A1 := Aside0.mk A10
  clear A10
  by_cases c2 : t103 = 2
  · rw [if_pos c2] at H
    have c2b0 : (t103 == 2) = true := beq_iff_eq.mpr c2
    have c2b1 : (t103 != 2) = false := bne_eq_false_iff_eq.mpr c2
    clear c2
    replace H := Option.bind_eq_some_iff.mp H
    obtain ⟨t104, A30, H⟩ := H
    replace H : (if t104 = 1 then ((bucket_Index.f 10 2 25).bind fun t105 => (if t105 = 7 then ((bucket_Index.f 10 2 10).bind fun t106 => (if t106 = 0 then ((bucket_Narrow.f 9).bind fun t107 => (if t107 = 2 then ((bucket_Narrow.f 8).bind fun t108 => (if t108 = 1 then ((bucket_Start.f 10 2 3).bind fun t109 => (some (t109 == 16))) else (some false))) else (some false))) else (some false))) else (some false))) else (some false)) = some r := H
    have A3 := Aside0.mk A30
    clear A30
    by_cases c4 : t104 = 1
    · rw [if_pos c4] at H
      have c4b0 : (t104 == 1) = true := beq_iff_eq.mpr c4
      have c4b1 : (t104 != 1) = false := bne_eq_false_iff_eq.mpr c4
      clear c4
      replace H := Option.bind_eq_some_iff.mp H
      obtain ⟨t105, A50, H⟩ := H
      replace H : (if t105 = 7 then ((bucket_Index.f 10 2 10).bind fun t106 => (if t106 = 0 then ((bucket_Narrow.f 9).bind fun t107 => (if t107 = 2 then ((bucket_Narrow.f 8).bind fun t108 => (if t108 = 1 then ((bucket_Start.f 10 2 3).bind fun t109 => (some (t109 == 16))) else (some false))) else (some false))) else (some false))) else (some false)) = some r := H
      have A5 := Aside0.mk A50
      clear A50
      by_cases c6 : t105 = 7
      · rw [if_pos c6] at H
        have c6b0 : (t105 == 7) = true := beq_iff_eq.mpr c6
        have c6b1 : (t105 != 7) = false := bne_eq_false_iff_eq.mpr c6
        clear c6
        replace H := Option.bind_eq_some_iff.mp H
        obtain ⟨t106, A70, H⟩ := H
        replace H : (if t106 = 0 then ((bucket_Narrow.f 9).bind fun t107 => (if t107 = 2 then ((bucket_Narrow.f 8).bind fun t108 => (if t108 = 1 then ((bucket_Start.f 10 2 3).bind fun t109 => (some (t109 == 16))) else (some false))) else (some false))) else (some false)) = some r := H
        have A7 := Aside0.mk A70
        clear A70
        by_cases c8 : t106 = 0
        · rw [if_pos c8] at H
          have c8b0 : (t106 == 0) = true := beq_iff_eq.mpr c8
          have c8b1 : (t106 != 0) = false := bne_eq_false_iff_eq.mpr c8
          clear c8
          replace H := Option.bind_eq_some_iff.mp H
          obtain ⟨t107, A90, H⟩ := H
          replace H : (if t107 = 2 then ((bucket_Narrow.f 8).bind fun t108 => (if t108 = 1 then ((bucket_Start.f 10 2 3).bind fun t109 => (some (t109 == 16))) else (some false))) else (some false)) = some r := H
          have A9 := Aside0.mk A90
          clear A90
          by_cases c10 : t107 = 2
          · rw [if_pos c10] at H
            have c10b0 : (t107 == 2) = true := beq_iff_eq.mpr c10
            have c10b1 : (t107 != 2) = false := bne_eq_false_iff_eq.mpr c10
            clear c10
            replace H := Option.bind_eq_some_iff.mp H
            obtain ⟨t108, A110, H⟩ := H
            replace H : (if t108 = 1 then ((bucket_Start.f 10 2 3).bind fun t109 => (some (t109 == 16))) else (some false)) = some r := H
            have A11 := Aside0.mk A110
            clear A110
            by_cases c12 : t108 = 1
            · rw [if_pos c12] at H
              have c12b0 : (t108 == 1) = true := beq_iff_eq.mpr c12
              have c12b1 : (t108 != 1) = false := bne_eq_false_iff_eq.mpr c12
              clear c12
              replace H := Option.bind_eq_some_iff.mp H
              obtain ⟨t109, A130, H⟩ := H
              replace H : (some (t109 == 16)) = some r := H
              have A13 := Aside0.mk A130
              clear A130
              obtain rfl := Option.some.inj H
              go_enter Try.func8, Try.ntmps8
              go_wp2_with (first | ((with_reducible refine gate_callee (f := 11) rfl ?_); refine goesL_ (some 1) rfl rfl Try.func11 (by kernel_rfl) rfl #[.int .i64 10, .int .i64 25] rfl (by (try simp only [List.map_toArray, List.map_cons, List.map_nil]); first | done | rfl | (simp only [List.length_drop, List.length_take]; rfl)) ?_; (with_reducible refine (bucket_Width.calls 10 25 t103 _ A1.out).mono ?_); rintro e w' ⟨rfl, ⟨nd, rfl⟩⟩; refine ⟨_, rfl, ?_⟩) | (go_at_call 11; (with_reducible refine (bucket_Width.calls 5 5 t104 _ A3.out).mono ?_); rintro e w' ⟨rfl, ⟨nd, rfl⟩⟩) | (go_at_call 15; (with_reducible refine (bucket_Index.calls 10 2 25 t105 _ A5.out).mono ?_); rintro e w' ⟨rfl, ⟨nd, rfl⟩⟩) | (go_at_call 15; (with_reducible refine (bucket_Index.calls 10 2 10 t106 _ A7.out).mono ?_); rintro e w' ⟨rfl, ⟨nd, rfl⟩⟩) | (go_at_call 13; (with_reducible refine (bucket_Narrow.calls 9 t107 _ A9.out).mono ?_); rintro e w' ⟨rfl, ⟨nd, rfl⟩⟩) | (go_at_call 13; (with_reducible refine (bucket_Narrow.calls 8 t108 _ A11.out).mono ?_); rintro e w' ⟨rfl, ⟨nd, rfl⟩⟩) | (go_at_call 17; (with_reducible refine (bucket_Start.calls 10 2 3 t109 _ A13.out).mono ?_); rintro e w' ⟨rfl, ⟨nd, rfl⟩⟩))
              go_ret
              exact ⟨by first | rfl | (simp; done) | (simp [*]; done), by repeat (first | exact Drawn0.refl _ | apply Drawn0.step)⟩
            · rw [if_neg c12] at H
              have c12b0 : (t108 == 1) = false := beq_eq_false_iff_ne.mpr c12
              have c12b1 : (t108 != 1) = true := bne_iff_ne.mpr c12
              obtain rfl := Option.some.inj H
              go_enter Try.func8, Try.ntmps8
              go_wp2_with (first | ((with_reducible refine gate_callee (f := 11) rfl ?_); refine goesL_ (some 1) rfl rfl Try.func11 (by kernel_rfl) rfl #[.int .i64 10, .int .i64 25] rfl (by (try simp only [List.map_toArray, List.map_cons, List.map_nil]); first | done | rfl | (simp only [List.length_drop, List.length_take]; rfl)) ?_; (with_reducible refine (bucket_Width.calls 10 25 t103 _ A1.out).mono ?_); rintro e w' ⟨rfl, ⟨nd, rfl⟩⟩; refine ⟨_, rfl, ?_⟩) | (go_at_call 11; (with_reducible refine (bucket_Width.calls 5 5 t104 _ A3.out).mono ?_); rintro e w' ⟨rfl, ⟨nd, rfl⟩⟩) | (go_at_call 15; (with_reducible refine (bucket_Index.calls 10 2 25 t105 _ A5.out).mono ?_); rintro e w' ⟨rfl, ⟨nd, rfl⟩⟩) | (go_at_call 15; (with_reducible refine (bucket_Index.calls 10 2 10 t106 _ A7.out).mono ?_); rintro e w' ⟨rfl, ⟨nd, rfl⟩⟩) | (go_at_call 13; (with_reducible refine (bucket_Narrow.calls 9 t107 _ A9.out).mono ?_); rintro e w' ⟨rfl, ⟨nd, rfl⟩⟩) | (go_at_call 13; (with_reducible refine (bucket_Narrow.calls 8 t108 _ A11.out).mono ?_); rintro e w' ⟨rfl, ⟨nd, rfl⟩⟩))
              go_ret
              exact ⟨by first | rfl | (simp; done) | (simp [*]; done), by repeat (first | exact Drawn0.refl _ | apply Drawn0.step)⟩
          · rw [if_neg c10] at H
            have c10b0 : (t107 == 2) = false := beq_eq_false_iff_ne.mpr c10
            have c10b1 : (t107 != 2) = true := bne_iff_ne.mpr c10
            obtain rfl := Option.some.inj H
            go_enter Try.func8, Try.ntmps8
            go_wp2_with (first | ((with_reducible refine gate_callee (f := 11) rfl ?_); refine goesL_ (some 1) rfl rfl Try.func11 (by kernel_rfl) rfl #[.int .i64 10, .int .i64 25] rfl (by (try simp only [List.map_toArray, List.map_cons, List.map_nil]); first | done | rfl | (simp only [List.length_drop, List.length_take]; rfl)) ?_; (with_reducible refine (bucket_Width.calls 10 25 t103 _ A1.out).mono ?_); rintro e w' ⟨rfl, ⟨nd, rfl⟩⟩; refine ⟨_, rfl, ?_⟩) | (go_at_call 11; (with_reducible refine (bucket_Width.calls 5 5 t104 _ A3.out).mono ?_); rintro e w' ⟨rfl, ⟨nd, rfl⟩⟩) | (go_at_call 15; (with_reducible refine (bucket_Index.calls 10 2 25 t105 _ A5.out).mono ?_); rintro e w' ⟨rfl, ⟨nd, rfl⟩⟩) | (go_at_call 15; (with_reducible refine (bucket_Index.calls 10 2 10 t106 _ A7.out).mono ?_); rintro e w' ⟨rfl, ⟨nd, rfl⟩⟩) | (go_at_call 13; (with_reducible refine (bucket_Narrow.calls 9 t107 _ A9.out).mono ?_); rintro e w' ⟨rfl, ⟨nd, rfl⟩⟩))
            go_ret
            exact ⟨by first | rfl | (simp; done) | (simp [*]; done), by repeat (first | exact Drawn0.refl _ | apply Drawn0.step)⟩
        · rw [if_neg c8] at H
          have c8b0 : (t106 == 0) = false := beq_eq_false_iff_ne.mpr c8
          have c8b1 : (t106 != 0) = true := bne_iff_ne.mpr c8
          obtain rfl := Option.some.inj H
          go_enter Try.func8, Try.ntmps8
          go_wp2_with (first | ((with_reducible refine gate_callee (f := 11) rfl ?_); refine goesL_ (some 1) rfl rfl Try.func11 (by kernel_rfl) rfl #[.int .i64 10, .int .i64 25] rfl (by (try simp only [List.map_toArray, List.map_cons, List.map_nil]); first | done | rfl | (simp only [List.length_drop, List.length_take]; rfl)) ?_; (with_reducible refine (bucket_Width.calls 10 25 t103 _ A1.out).mono ?_); rintro e w' ⟨rfl, ⟨nd, rfl⟩⟩; refine ⟨_, rfl, ?_⟩) | (go_at_call 11; (with_reducible refine (bucket_Width.calls 5 5 t104 _ A3.out).mono ?_); rintro e w' ⟨rfl, ⟨nd, rfl⟩⟩) | (go_at_call 15; (with_reducible refine (bucket_Index.calls 10 2 25 t105 _ A5.out).mono ?_); rintro e w' ⟨rfl, ⟨nd, rfl⟩⟩) | (go_at_call 15; (with_reducible refine (bucket_Index.calls 10 2 10 t106 _ A7.out).mono ?_); rintro e w' ⟨rfl, ⟨nd, rfl⟩⟩))
          go_ret
          exact ⟨by first | rfl | (simp; done) | (simp [*]; done), by repeat (first | exact Drawn0.refl _ | apply Drawn0.step)⟩
      · rw [if_neg c6] at H
        have c6b0 : (t105 == 7) = false := beq_eq_false_iff_ne.mpr c6
        have c6b1 : (t105 != 7) = true := bne_iff_ne.mpr c6
        obtain rfl := Option.some.inj H
        go_enter Try.func8, Try.ntmps8
        go_wp2_with (first | ((with_reducible refine gate_callee (f := 11) rfl ?_); refine goesL_ (some 1) rfl rfl Try.func11 (by kernel_rfl) rfl #[.int .i64 10, .int .i64 25] rfl (by (try simp only [List.map_toArray, List.map_cons, List.map_nil]); first | done | rfl | (simp only [List.length_drop, List.length_take]; rfl)) ?_; (with_reducible refine (bucket_Width.calls 10 25 t103 _ A1.out).mono ?_); rintro e w' ⟨rfl, ⟨nd, rfl⟩⟩; refine ⟨_, rfl, ?_⟩) | (go_at_call 11; (with_reducible refine (bucket_Width.calls 5 5 t104 _ A3.out).mono ?_); rintro e w' ⟨rfl, ⟨nd, rfl⟩⟩) | (go_at_call 15; (with_reducible refine (bucket_Index.calls 10 2 25 t105 _ A5.out).mono ?_); rintro e w' ⟨rfl, ⟨nd, rfl⟩⟩))
        go_ret
        exact ⟨by first | rfl | (simp; done) | (simp [*]; done), by repeat (first | exact Drawn0.refl _ | apply Drawn0.step)⟩
    · rw [if_neg c4] at H
      have c4b0 : (t104 == 1) = false := beq_eq_false_iff_ne.mpr c4
      have c4b1 : (t104 != 1) = true := bne_iff_ne.mpr c4
      obtain rfl := Option.some.inj H
      go_enter Try.func8, Try.ntmps8
      go_wp2_with (first | ((with_reducible refine gate_callee (f := 11) rfl ?_); refine goesL_ (some 1) rfl rfl Try.func11 (by kernel_rfl) rfl #[.int .i64 10, .int .i64 25] rfl (by (try simp only [List.map_toArray, List.map_cons, List.map_nil]); first | done | rfl | (simp only [List.length_drop, List.length_take]; rfl)) ?_; (with_reducible refine (bucket_Width.calls 10 25 t103 _ A1.out).mono ?_); rintro e w' ⟨rfl, ⟨nd, rfl⟩⟩; refine ⟨_, rfl, ?_⟩) | (go_at_call 11; (with_reducible refine (bucket_Width.calls 5 5 t104 _ A3.out).mono ?_); rintro e w' ⟨rfl, ⟨nd, rfl⟩⟩))
      go_ret
      exact ⟨by first | rfl | (simp; done) | (simp [*]; done), by repeat (first | exact Drawn0.refl _ | apply Drawn0.step)⟩
  · rw [if_neg c2] at H
    have c2b0 : (t103 == 2) = false := beq_eq_false_iff_ne.mpr c2
    have c2b1 : (t103 != 2) = true := bne_iff_ne.mpr c2
    obtain rfl := Option.some.inj H
    go_enter Try.func8, Try.ntmps8
    go_wp2_with (first | ((with_reducible refine gate_callee (f := 11) rfl ?_); refine goesL_ (some 1) rfl rfl Try.func11 (by kernel_rfl) rfl #[.int .i64 10, .int .i64 25] rfl (by (try simp only [List.map_toArray, List.map_cons, List.map_nil]); first | done | rfl | (simp only [List.length_drop, List.length_take]; rfl)) ?_; (with_reducible refine (bucket_Width.calls 10 25 t103 _ A1.out).mono ?_); rintro e w' ⟨rfl, ⟨nd, rfl⟩⟩; refine ⟨_, rfl, ?_⟩))
    go_ret
    exact ⟨by first | rfl | (simp; done) | (simp [*]; done), by repeat (first | exact Drawn0.refl _ | apply Drawn0.step)⟩

/-! ### ropeladderlaw06_Time: function 9 -/
def ropeladderlaw06_Time.f (a0 : Int) : Option (Int) := some (wrap64 (Int.tmod a0 1152921504606846977))
set_option maxHeartbeats 8000000 in
set_option maxRecDepth 100000 in
theorem ropeladderlaw06_Time.calls (a0 : Int) (r : Int) (w : World) (h : ropeladderlaw06_Time.f a0 = some r) :
    Calls Try.prog 9 #[.int .u64 a0] w fun e w' => e = .returned (.int .i64 r) ∧ Drawn0 w w' := by
  have H : (some (wrap64 (Int.tmod a0 1152921504606846977))) = some r := h
  clear h
  obtain rfl := Option.some.inj H
  go_enter Try.func9, Try.ntmps9
  go_wp2
  go_ret
  exact ⟨by first | rfl | (simp; done) | (simp [*]; done), by repeat (first | exact Drawn0.refl _ | apply Drawn0.step)⟩

/-! ### ropeladderlaw06_Span: function 10 -/
def ropeladderlaw06_Span.f (a0 : Int) : Option (Int) := some (wrap64 ((wrap64 (Int.tmod a0 144115188075855873)) + 1))
set_option maxHeartbeats 8000000 in
set_option maxRecDepth 100000 in
theorem ropeladderlaw06_Span.calls (a0 : Int) (r : Int) (w : World) (h : ropeladderlaw06_Span.f a0 = some r) :
    Calls Try.prog 10 #[.int .u64 a0] w fun e w' => e = .returned (.int .i64 r) ∧ Drawn0 w w' := by
  have H : (some (wrap64 ((wrap64 (Int.tmod a0 144115188075855873)) + 1))) = some r := h
  clear h
  obtain rfl := Option.some.inj H
  go_enter Try.func10, Try.ntmps10
  go_wp2
  go_ret
  exact ⟨by first | rfl | (simp; done) | (simp [*]; done), by repeat (first | exact Drawn0.refl _ | apply Drawn0.step)⟩

/-! ### ropeladderlaw06_BucketOrder: function 6 -/
def ropeladderlaw06_BucketOrder.j0 : Nat → Int → Bool → Int → Int → Int → Bool → Option (Bool)
  | 0, _, _, _, _, _, _ => none
  | k + 1, x3, x9, x10, x11, x12, x46 => if x46 = true then (some x9) else ((ropeladderlaw06_Span.f x3).bind fun t120 => ((bucket_Index.f x10 t120 x11).bind fun t121 => ((bucket_Index.f x10 t120 x12).bind fun t122 => (if x9 = true then (if t121 ≤ t122 then (if t121 = t122 then (if (wrap64 (x12 - x11)) < t120 then (if (wrap64 (t122 - t121)) ≤ 1 then (some true) else (some (decide ((wrap64 (x12 - x11)) > t120)))) else (some false)) else (if (wrap64 (t122 - t121)) ≤ 1 then (some true) else (some (decide ((wrap64 (x12 - x11)) > t120))))) else (some false)) else (some false)))))
def ropeladderlaw06_BucketOrder.f (k : Nat) (a0 : Int) (a1 : Int) (a2 : Int) (a3 : Int) : Option (Bool) := (ropeladderlaw06_head.f).bind fun t110 => ((ropeladderlaw06_Time.f a0).bind fun t111 => ((ropeladderlaw06_Time.f a1).bind fun t112 => ((ropeladderlaw06_Time.f a2).bind fun t113 => ((ropeladderlaw06_Time.f a0).bind fun t114 => ((ropeladderlaw06_Time.f a1).bind fun t115 => ((ropeladderlaw06_Time.f a2).bind fun t116 => ((ropeladderlaw06_Time.f a0).bind fun t117 => ((ropeladderlaw06_Time.f a1).bind fun t118 => ((ropeladderlaw06_Time.f a2).bind fun t119 => (if (mn (mx t114 t115) t116) < (mn (mn t111 t112) t113) then (ropeladderlaw06_BucketOrder.j0 k a3 t110 (mn (mn t111 t112) t113) (mn (mx t114 t115) t116) (mx (mx t117 t118) t119) true) else (ropeladderlaw06_BucketOrder.j0 k a3 t110 (mn (mn t111 t112) t113) (mn (mx t114 t115) t116) (mx (mx t117 t118) t119) (decide ((mx (mx t117 t118) t119) < (mn (mx t114 t115) t116))))))))))))))
theorem ropeladderlaw06_BucketOrder.mono_l : ∀ k, (∀ y0 y1 y2 y3 y4 y5, LeO (ropeladderlaw06_BucketOrder.j0 k y0 y1 y2 y3 y4 y5) (ropeladderlaw06_BucketOrder.j0 (k + 1) y0 y1 y2 y3 y4 y5))
  | 0 => fun _ _ _ _ _ _ r h => by simp [ropeladderlaw06_BucketOrder.j0] at h
  | k + 1 => by
    have ih0 := ropeladderlaw06_BucketOrder.mono_l k
    · intro y0 y1 y2 y3 y4 y5
      unfold ropeladderlaw06_BucketOrder.j0
      repeat' first
      | (with_reducible exact ih0 _ _ _ _ _ _)
      | (with_reducible exact LeO.refl _)
      | (with_reducible exact LeO.none _)
      | (with_reducible refine LeO.ite ?_ ?_)
      | (with_reducible refine LeO.bind ?_ (fun _ => ?_))
      | exact ih0 _ _ _ _ _ _
      | exact LeO.none _
      | refine LeO.ite ?_ ?_
      | refine LeO.bind ?_ (fun _ => ?_)
theorem ropeladderlaw06_BucketOrder.mono : ∀ a0 a1 a2 a3 k, LeO (ropeladderlaw06_BucketOrder.f k a0 a1 a2 a3) (ropeladderlaw06_BucketOrder.f (k + 1) a0 a1 a2 a3) := by
  intro a0 a1 a2 a3 k
  have ih0 := ropeladderlaw06_BucketOrder.mono_l k
  unfold ropeladderlaw06_BucketOrder.f
  repeat' first
      | (with_reducible exact ih0 _ _ _ _ _ _)
      | (with_reducible exact LeO.refl _)
      | (with_reducible exact LeO.none _)
      | (with_reducible refine LeO.ite ?_ ?_)
      | (with_reducible refine LeO.bind ?_ (fun _ => ?_))
      | exact ih0 _ _ _ _ _ _
      | exact LeO.none _
      | refine LeO.ite ?_ ?_
      | refine LeO.bind ?_ (fun _ => ?_)
set_option maxHeartbeats 8000000 in
set_option maxRecDepth 100000 in
theorem ropeladderlaw06_BucketOrder.calls (k : Nat) (a0 : Int) (a1 : Int) (a2 : Int) (a3 : Int) (r : Bool) (w : World) (h : ropeladderlaw06_BucketOrder.f k a0 a1 a2 a3 = some r) :
    Calls Try.prog 6 #[.int .u64 a0, .int .u64 a1, .int .u64 a2, .int .u64 a3] w fun e w' => e = .returned (.bool r) ∧ Below w.heap.size w w' := by
  have HB := Aside0.mk (Below.refl w.heap.size w)
  have H : ((ropeladderlaw06_head.f).bind fun t110 => ((ropeladderlaw06_Time.f a0).bind fun t111 => ((ropeladderlaw06_Time.f a1).bind fun t112 => ((ropeladderlaw06_Time.f a2).bind fun t113 => ((ropeladderlaw06_Time.f a0).bind fun t114 => ((ropeladderlaw06_Time.f a1).bind fun t115 => ((ropeladderlaw06_Time.f a2).bind fun t116 => ((ropeladderlaw06_Time.f a0).bind fun t117 => ((ropeladderlaw06_Time.f a1).bind fun t118 => ((ropeladderlaw06_Time.f a2).bind fun t119 => (if (mn (mx t114 t115) t116) < (mn (mn t111 t112) t113) then (ropeladderlaw06_BucketOrder.j0 k a3 t110 (mn (mn t111 t112) t113) (mn (mx t114 t115) t116) (mx (mx t117 t118) t119) true) else (ropeladderlaw06_BucketOrder.j0 k a3 t110 (mn (mn t111 t112) t113) (mn (mx t114 t115) t116) (mx (mx t117 t118) t119) (decide ((mx (mx t117 t118) t119) < (mn (mx t114 t115) t116))))))))))))))) = some r := h
  clear h
  replace H := Option.bind_eq_some_iff.mp H
  obtain ⟨t110, A50, H⟩ := H
  replace H : ((ropeladderlaw06_Time.f a0).bind fun t111 => ((ropeladderlaw06_Time.f a1).bind fun t112 => ((ropeladderlaw06_Time.f a2).bind fun t113 => ((ropeladderlaw06_Time.f a0).bind fun t114 => ((ropeladderlaw06_Time.f a1).bind fun t115 => ((ropeladderlaw06_Time.f a2).bind fun t116 => ((ropeladderlaw06_Time.f a0).bind fun t117 => ((ropeladderlaw06_Time.f a1).bind fun t118 => ((ropeladderlaw06_Time.f a2).bind fun t119 => (if (mn (mx t114 t115) t116) < (mn (mn t111 t112) t113) then (ropeladderlaw06_BucketOrder.j0 k a3 t110 (mn (mn t111 t112) t113) (mn (mx t114 t115) t116) (mx (mx t117 t118) t119) true) else (ropeladderlaw06_BucketOrder.j0 k a3 t110 (mn (mn t111 t112) t113) (mn (mx t114 t115) t116) (mx (mx t117 t118) t119) (decide ((mx (mx t117 t118) t119) < (mn (mx t114 t115) t116)))))))))))))) = some r := H
  have A5 := Aside0.mk A50
  clear A50
  replace H := Option.bind_eq_some_iff.mp H
  obtain ⟨t111, A60, H⟩ := H
  replace H : ((ropeladderlaw06_Time.f a1).bind fun t112 => ((ropeladderlaw06_Time.f a2).bind fun t113 => ((ropeladderlaw06_Time.f a0).bind fun t114 => ((ropeladderlaw06_Time.f a1).bind fun t115 => ((ropeladderlaw06_Time.f a2).bind fun t116 => ((ropeladderlaw06_Time.f a0).bind fun t117 => ((ropeladderlaw06_Time.f a1).bind fun t118 => ((ropeladderlaw06_Time.f a2).bind fun t119 => (if (mn (mx t114 t115) t116) < (mn (mn t111 t112) t113) then (ropeladderlaw06_BucketOrder.j0 k a3 t110 (mn (mn t111 t112) t113) (mn (mx t114 t115) t116) (mx (mx t117 t118) t119) true) else (ropeladderlaw06_BucketOrder.j0 k a3 t110 (mn (mn t111 t112) t113) (mn (mx t114 t115) t116) (mx (mx t117 t118) t119) (decide ((mx (mx t117 t118) t119) < (mn (mx t114 t115) t116))))))))))))) = some r := H
  have A6 := Aside0.mk A60
  clear A60
  replace H := Option.bind_eq_some_iff.mp H
  obtain ⟨t112, A70, H⟩ := H
  replace H : ((ropeladderlaw06_Time.f a2).bind fun t113 => ((ropeladderlaw06_Time.f a0).bind fun t114 => ((ropeladderlaw06_Time.f a1).bind fun t115 => ((ropeladderlaw06_Time.f a2).bind fun t116 => ((ropeladderlaw06_Time.f a0).bind fun t117 => ((ropeladderlaw06_Time.f a1).bind fun t118 => ((ropeladderlaw06_Time.f a2).bind fun t119 => (if (mn (mx t114 t115) t116) < (mn (mn t111 t112) t113) then (ropeladderlaw06_BucketOrder.j0 k a3 t110 (mn (mn t111 t112) t113) (mn (mx t114 t115) t116) (mx (mx t117 t118) t119) true) else (ropeladderlaw06_BucketOrder.j0 k a3 t110 (mn (mn t111 t112) t113) (mn (mx t114 t115) t116) (mx (mx t117 t118) t119) (decide ((mx (mx t117 t118) t119) < (mn (mx t114 t115) t116)))))))))))) = some r := H
  have A7 := Aside0.mk A70
  clear A70
  replace H := Option.bind_eq_some_iff.mp H
  obtain ⟨t113, A80, H⟩ := H
  replace H : ((ropeladderlaw06_Time.f a0).bind fun t114 => ((ropeladderlaw06_Time.f a1).bind fun t115 => ((ropeladderlaw06_Time.f a2).bind fun t116 => ((ropeladderlaw06_Time.f a0).bind fun t117 => ((ropeladderlaw06_Time.f a1).bind fun t118 => ((ropeladderlaw06_Time.f a2).bind fun t119 => (if (mn (mx t114 t115) t116) < (mn (mn t111 t112) t113) then (ropeladderlaw06_BucketOrder.j0 k a3 t110 (mn (mn t111 t112) t113) (mn (mx t114 t115) t116) (mx (mx t117 t118) t119) true) else (ropeladderlaw06_BucketOrder.j0 k a3 t110 (mn (mn t111 t112) t113) (mn (mx t114 t115) t116) (mx (mx t117 t118) t119) (decide ((mx (mx t117 t118) t119) < (mn (mx t114 t115) t116))))))))))) = some r := H
  have A8 := Aside0.mk A80
  clear A80
  obtain ⟨ji9, hji9⟩ : ∃ j_ : Int, (mn t111 t112) = j_ := ⟨_, rfl⟩
  replace H : ((ropeladderlaw06_Time.f a0).bind fun t114 => ((ropeladderlaw06_Time.f a1).bind fun t115 => ((ropeladderlaw06_Time.f a2).bind fun t116 => ((ropeladderlaw06_Time.f a0).bind fun t117 => ((ropeladderlaw06_Time.f a1).bind fun t118 => ((ropeladderlaw06_Time.f a2).bind fun t119 => (if (mn (mx t114 t115) t116) < (mn (ji9) t113) then (ropeladderlaw06_BucketOrder.j0 k a3 t110 (mn (ji9) t113) (mn (mx t114 t115) t116) (mx (mx t117 t118) t119) true) else (ropeladderlaw06_BucketOrder.j0 k a3 t110 (mn (ji9) t113) (mn (mx t114 t115) t116) (mx (mx t117 t118) t119) (decide ((mx (mx t117 t118) t119) < (mn (mx t114 t115) t116))))))))))) = some r := by first | (rw [hji9] at H; exact H) | (simp only [hji9] at H ⊢; exact H)
  (try rw [hji9] at A5)
  (try rw [hji9] at A6)
  (try rw [hji9] at A7)
  (try rw [hji9] at A8)
  have hji9_ : (if t112 < t111 then t112 else t111) = ji9 := hji9
  obtain ⟨ji10, hji10⟩ : ∃ j_ : Int, (mn (ji9) t113) = j_ := ⟨_, rfl⟩
  replace H : ((ropeladderlaw06_Time.f a0).bind fun t114 => ((ropeladderlaw06_Time.f a1).bind fun t115 => ((ropeladderlaw06_Time.f a2).bind fun t116 => ((ropeladderlaw06_Time.f a0).bind fun t117 => ((ropeladderlaw06_Time.f a1).bind fun t118 => ((ropeladderlaw06_Time.f a2).bind fun t119 => (if (mn (mx t114 t115) t116) < (ji10) then (ropeladderlaw06_BucketOrder.j0 k a3 t110 ji10 (mn (mx t114 t115) t116) (mx (mx t117 t118) t119) true) else (ropeladderlaw06_BucketOrder.j0 k a3 t110 ji10 (mn (mx t114 t115) t116) (mx (mx t117 t118) t119) (decide ((mx (mx t117 t118) t119) < (mn (mx t114 t115) t116))))))))))) = some r := by first | (rw [hji10] at H; exact H) | (simp only [hji10] at H ⊢; exact H)
  (try rw [hji10] at A5)
  (try rw [hji10] at A6)
  (try rw [hji10] at A7)
  (try rw [hji10] at A8)
  have hji10_ : (if t113 < (ji9) then t113 else (ji9)) = ji10 := hji10
  replace H := Option.bind_eq_some_iff.mp H
  obtain ⟨t114, A110, H⟩ := H
  replace H : ((ropeladderlaw06_Time.f a1).bind fun t115 => ((ropeladderlaw06_Time.f a2).bind fun t116 => ((ropeladderlaw06_Time.f a0).bind fun t117 => ((ropeladderlaw06_Time.f a1).bind fun t118 => ((ropeladderlaw06_Time.f a2).bind fun t119 => (if (mn (mx t114 t115) t116) < (ji10) then (ropeladderlaw06_BucketOrder.j0 k a3 t110 ji10 (mn (mx t114 t115) t116) (mx (mx t117 t118) t119) true) else (ropeladderlaw06_BucketOrder.j0 k a3 t110 ji10 (mn (mx t114 t115) t116) (mx (mx t117 t118) t119) (decide ((mx (mx t117 t118) t119) < (mn (mx t114 t115) t116)))))))))) = some r := H
  have A11 := Aside0.mk A110
  clear A110
  replace H := Option.bind_eq_some_iff.mp H
  obtain ⟨t115, A120, H⟩ := H
  replace H : ((ropeladderlaw06_Time.f a2).bind fun t116 => ((ropeladderlaw06_Time.f a0).bind fun t117 => ((ropeladderlaw06_Time.f a1).bind fun t118 => ((ropeladderlaw06_Time.f a2).bind fun t119 => (if (mn (mx t114 t115) t116) < (ji10) then (ropeladderlaw06_BucketOrder.j0 k a3 t110 ji10 (mn (mx t114 t115) t116) (mx (mx t117 t118) t119) true) else (ropeladderlaw06_BucketOrder.j0 k a3 t110 ji10 (mn (mx t114 t115) t116) (mx (mx t117 t118) t119) (decide ((mx (mx t117 t118) t119) < (mn (mx t114 t115) t116))))))))) = some r := H
  have A12 := Aside0.mk A120
  clear A120
  obtain ⟨ji13, hji13⟩ : ∃ j_ : Int, (mx t114 t115) = j_ := ⟨_, rfl⟩
  replace H : ((ropeladderlaw06_Time.f a2).bind fun t116 => ((ropeladderlaw06_Time.f a0).bind fun t117 => ((ropeladderlaw06_Time.f a1).bind fun t118 => ((ropeladderlaw06_Time.f a2).bind fun t119 => (if (mn (ji13) t116) < (ji10) then (ropeladderlaw06_BucketOrder.j0 k a3 t110 ji10 (mn (ji13) t116) (mx (mx t117 t118) t119) true) else (ropeladderlaw06_BucketOrder.j0 k a3 t110 ji10 (mn (ji13) t116) (mx (mx t117 t118) t119) (decide ((mx (mx t117 t118) t119) < (mn (ji13) t116))))))))) = some r := by first | (rw [hji13] at H; exact H) | (simp only [hji13] at H ⊢; exact H)
  (try rw [hji13] at A5)
  (try rw [hji13] at A6)
  (try rw [hji13] at A7)
  (try rw [hji13] at A8)
  (try rw [hji13] at A11)
  (try rw [hji13] at A12)
  have hji13_ : (if t114 < t115 then t115 else t114) = ji13 := hji13
  replace H := Option.bind_eq_some_iff.mp H
  obtain ⟨t116, A140, H⟩ := H
  replace H : ((ropeladderlaw06_Time.f a0).bind fun t117 => ((ropeladderlaw06_Time.f a1).bind fun t118 => ((ropeladderlaw06_Time.f a2).bind fun t119 => (if (mn (ji13) t116) < (ji10) then (ropeladderlaw06_BucketOrder.j0 k a3 t110 ji10 (mn (ji13) t116) (mx (mx t117 t118) t119) true) else (ropeladderlaw06_BucketOrder.j0 k a3 t110 ji10 (mn (ji13) t116) (mx (mx t117 t118) t119) (decide ((mx (mx t117 t118) t119) < (mn (ji13) t116)))))))) = some r := H
  have A14 := Aside0.mk A140
  clear A140
  obtain ⟨ji15, hji15⟩ : ∃ j_ : Int, (mn (ji13) t116) = j_ := ⟨_, rfl⟩
  replace H : ((ropeladderlaw06_Time.f a0).bind fun t117 => ((ropeladderlaw06_Time.f a1).bind fun t118 => ((ropeladderlaw06_Time.f a2).bind fun t119 => (if (ji15) < (ji10) then (ropeladderlaw06_BucketOrder.j0 k a3 t110 ji10 ji15 (mx (mx t117 t118) t119) true) else (ropeladderlaw06_BucketOrder.j0 k a3 t110 ji10 ji15 (mx (mx t117 t118) t119) (decide ((mx (mx t117 t118) t119) < (ji15)))))))) = some r := by first | (rw [hji15] at H; exact H) | (simp only [hji15] at H ⊢; exact H)
  (try rw [hji15] at A5)
  (try rw [hji15] at A6)
  (try rw [hji15] at A7)
  (try rw [hji15] at A8)
  (try rw [hji15] at A11)
  (try rw [hji15] at A12)
  (try rw [hji15] at A14)
  have hji15_ : (if t116 < (ji13) then t116 else (ji13)) = ji15 := hji15
  replace H := Option.bind_eq_some_iff.mp H
  obtain ⟨t117, A160, H⟩ := H
  replace H : ((ropeladderlaw06_Time.f a1).bind fun t118 => ((ropeladderlaw06_Time.f a2).bind fun t119 => (if (ji15) < (ji10) then (ropeladderlaw06_BucketOrder.j0 k a3 t110 ji10 ji15 (mx (mx t117 t118) t119) true) else (ropeladderlaw06_BucketOrder.j0 k a3 t110 ji10 ji15 (mx (mx t117 t118) t119) (decide ((mx (mx t117 t118) t119) < (ji15))))))) = some r := H
  have A16 := Aside0.mk A160
  clear A160
  replace H := Option.bind_eq_some_iff.mp H
  obtain ⟨t118, A170, H⟩ := H
  replace H : ((ropeladderlaw06_Time.f a2).bind fun t119 => (if (ji15) < (ji10) then (ropeladderlaw06_BucketOrder.j0 k a3 t110 ji10 ji15 (mx (mx t117 t118) t119) true) else (ropeladderlaw06_BucketOrder.j0 k a3 t110 ji10 ji15 (mx (mx t117 t118) t119) (decide ((mx (mx t117 t118) t119) < (ji15)))))) = some r := H
  have A17 := Aside0.mk A170
  clear A170
  replace H := Option.bind_eq_some_iff.mp H
  obtain ⟨t119, A180, H⟩ := H
  replace H : (if (ji15) < (ji10) then (ropeladderlaw06_BucketOrder.j0 k a3 t110 ji10 ji15 (mx (mx t117 t118) t119) true) else (ropeladderlaw06_BucketOrder.j0 k a3 t110 ji10 ji15 (mx (mx t117 t118) t119) (decide ((mx (mx t117 t118) t119) < (ji15))))) = some r := H
  have A18 := Aside0.mk A180
  clear A180
  obtain ⟨ji19, hji19⟩ : ∃ j_ : Int, (mx t117 t118) = j_ := ⟨_, rfl⟩
  replace H : (if (ji15) < (ji10) then (ropeladderlaw06_BucketOrder.j0 k a3 t110 ji10 ji15 (mx (ji19) t119) true) else (ropeladderlaw06_BucketOrder.j0 k a3 t110 ji10 ji15 (mx (ji19) t119) (decide ((mx (ji19) t119) < (ji15))))) = some r := by first | (rw [hji19] at H; exact H) | (simp only [hji19] at H ⊢; exact H)
  (try rw [hji19] at A5)
  (try rw [hji19] at A6)
  (try rw [hji19] at A7)
  (try rw [hji19] at A8)
  (try rw [hji19] at A11)
  (try rw [hji19] at A12)
  (try rw [hji19] at A14)
  (try rw [hji19] at A16)
  (try rw [hji19] at A17)
  (try rw [hji19] at A18)
  have hji19_ : (if t117 < t118 then t118 else t117) = ji19 := hji19
  obtain ⟨ji20, hji20⟩ : ∃ j_ : Int, (mx (ji19) t119) = j_ := ⟨_, rfl⟩
  replace H : (if (ji15) < (ji10) then (ropeladderlaw06_BucketOrder.j0 k a3 t110 ji10 ji15 ji20 true) else (ropeladderlaw06_BucketOrder.j0 k a3 t110 ji10 ji15 ji20 (decide ((ji20) < (ji15))))) = some r := by first | (rw [hji20] at H; exact H) | (simp only [hji20] at H ⊢; exact H)
  (try rw [hji20] at A5)
  (try rw [hji20] at A6)
  (try rw [hji20] at A7)
  (try rw [hji20] at A8)
  (try rw [hji20] at A11)
  (try rw [hji20] at A12)
  (try rw [hji20] at A14)
  (try rw [hji20] at A16)
  (try rw [hji20] at A17)
  (try rw [hji20] at A18)
  have hji20_ : (if (ji19) < t119 then t119 else (ji19)) = ji20 := hji20
  have HC21 := Aside0.mk H
  clear H
  go_enter Try.func6, Try.ntmps6
  go_upto_region 5 with (first | ((with_reducible refine gate_callee (f := 8) rfl ?_); refine goesL_ (some 16) rfl rfl Try.func8 (by kernel_rfl) rfl #[] rfl (by (try simp only [List.map_toArray, List.map_cons, List.map_nil]); first | done | rfl | (simp only [List.length_drop, List.length_take]; rfl)) ?_; (with_reducible refine (ropeladderlaw06_head.calls  t110 _ A5.out).mono ?_); rintro e w' ⟨rfl, ⟨nd, rfl⟩⟩; refine ⟨_, rfl, ?_⟩) | ((with_reducible refine gate_callee (f := 9) rfl ?_); refine goesL_ (some 18) rfl rfl Try.func9 (by kernel_rfl) rfl #[.int .u64 a0] rfl (by (try simp only [List.map_toArray, List.map_cons, List.map_nil]); first | done | rfl | (simp only [List.length_drop, List.length_take]; rfl)) ?_; (with_reducible refine (ropeladderlaw06_Time.calls a0 t111 _ A6.out).mono ?_); rintro e w' ⟨rfl, ⟨nd, rfl⟩⟩; refine ⟨_, rfl, ?_⟩) | ((with_reducible refine gate_callee (f := 9) rfl ?_); refine goesL_ (some 20) rfl rfl Try.func9 (by kernel_rfl) rfl #[.int .u64 a1] rfl (by (try simp only [List.map_toArray, List.map_cons, List.map_nil]); first | done | rfl | (simp only [List.length_drop, List.length_take]; rfl)) ?_; (with_reducible refine (ropeladderlaw06_Time.calls a1 t112 _ A7.out).mono ?_); rintro e w' ⟨rfl, ⟨nd, rfl⟩⟩; refine ⟨_, rfl, ?_⟩) | ((with_reducible refine gate_callee (f := 9) rfl ?_); refine goesL_ (some 22) rfl rfl Try.func9 (by kernel_rfl) rfl #[.int .u64 a2] rfl (by (try simp only [List.map_toArray, List.map_cons, List.map_nil]); first | done | rfl | (simp only [List.length_drop, List.length_take]; rfl)) ?_; (with_reducible refine (ropeladderlaw06_Time.calls a2 t113 _ A8.out).mono ?_); rintro e w' ⟨rfl, ⟨nd, rfl⟩⟩; refine ⟨_, rfl, ?_⟩) | ((with_reducible refine gate_callee (f := 9) rfl ?_); refine goesL_ (some 25) rfl rfl Try.func9 (by kernel_rfl) rfl #[.int .u64 a0] rfl (by (try simp only [List.map_toArray, List.map_cons, List.map_nil]); first | done | rfl | (simp only [List.length_drop, List.length_take]; rfl)) ?_; (with_reducible refine (ropeladderlaw06_Time.calls a0 t114 _ A11.out).mono ?_); rintro e w' ⟨rfl, ⟨nd, rfl⟩⟩; refine ⟨_, rfl, ?_⟩) | ((with_reducible refine gate_callee (f := 9) rfl ?_); refine goesL_ (some 27) rfl rfl Try.func9 (by kernel_rfl) rfl #[.int .u64 a1] rfl (by (try simp only [List.map_toArray, List.map_cons, List.map_nil]); first | done | rfl | (simp only [List.length_drop, List.length_take]; rfl)) ?_; (with_reducible refine (ropeladderlaw06_Time.calls a1 t115 _ A12.out).mono ?_); rintro e w' ⟨rfl, ⟨nd, rfl⟩⟩; refine ⟨_, rfl, ?_⟩) | ((with_reducible refine gate_callee (f := 9) rfl ?_); refine goesL_ (some 30) rfl rfl Try.func9 (by kernel_rfl) rfl #[.int .u64 a2] rfl (by (try simp only [List.map_toArray, List.map_cons, List.map_nil]); first | done | rfl | (simp only [List.length_drop, List.length_take]; rfl)) ?_; (with_reducible refine (ropeladderlaw06_Time.calls a2 t116 _ A14.out).mono ?_); rintro e w' ⟨rfl, ⟨nd, rfl⟩⟩; refine ⟨_, rfl, ?_⟩) | ((with_reducible refine gate_callee (f := 9) rfl ?_); refine goesL_ (some 33) rfl rfl Try.func9 (by kernel_rfl) rfl #[.int .u64 a0] rfl (by (try simp only [List.map_toArray, List.map_cons, List.map_nil]); first | done | rfl | (simp only [List.length_drop, List.length_take]; rfl)) ?_; (with_reducible refine (ropeladderlaw06_Time.calls a0 t117 _ A16.out).mono ?_); rintro e w' ⟨rfl, ⟨nd, rfl⟩⟩; refine ⟨_, rfl, ?_⟩) | ((with_reducible refine gate_callee (f := 9) rfl ?_); refine goesL_ (some 35) rfl rfl Try.func9 (by kernel_rfl) rfl #[.int .u64 a1] rfl (by (try simp only [List.map_toArray, List.map_cons, List.map_nil]); first | done | rfl | (simp only [List.length_drop, List.length_take]; rfl)) ?_; (with_reducible refine (ropeladderlaw06_Time.calls a1 t118 _ A17.out).mono ?_); rintro e w' ⟨rfl, ⟨nd, rfl⟩⟩; refine ⟨_, rfl, ?_⟩) | ((with_reducible refine gate_callee (f := 9) rfl ?_); refine goesL_ (some 37) rfl rfl Try.func9 (by kernel_rfl) rfl #[.int .u64 a2] rfl (by (try simp only [List.map_toArray, List.map_cons, List.map_nil]); first | done | rfl | (simp only [List.length_drop, List.length_take]; rfl)) ?_; (with_reducible refine (ropeladderlaw06_Time.calls a2 t119 _ A18.out).mono ?_); rintro e w' ⟨rfl, ⟨nd, rfl⟩⟩; refine ⟨_, rfl, ?_⟩))
  (try simp only [Act.put, List.setIfInBounds_toArray, List.set_cons_zero, List.set_cons_succ])
  go_cut [46] (fun v46 wc => ∃ (kq : Nat) (x46_20 : Bool), v46 = .bool x46_20 ∧ Aside0 (ropeladderlaw06_BucketOrder.j0 kq a3 t110 ji10 ji15 ji20 x46_20 = some r) ∧ Aside0 (kq ≤ k) ∧ Aside0 (Below w.heap.size w wc))
  case first =>
    have H := HC21.out
    clear HC21
    by_cases c22 : (ji15) < (ji10)
    · rw [if_pos c22] at H
      have c22b0 : decide ((ji15) < (ji10)) = true := decide_eq_true c22
      clear c22
      (first | rw [c22b0] | (simp only [i64_w, i32_w]; rw [c22b0]) | skip)
      have H' := Aside0.mk H
      clear H
      go_wp2
      go_meet
      case rel => exact ⟨_, (true), (by first | rfl | (simp; done) | (simp [*]; done)), H', ⟨by first | omega | exact Nat.le_refl _⟩, ⟨by repeat (first | (with_reducible first | exact HB.out | apply below_alloc | apply pw_below_drewN | apply below_drew1) | exact HB.out)⟩⟩
    · rw [if_neg c22] at H
      have c22b0 : decide ((ji15) < (ji10)) = false := decide_eq_false c22
      clear c22
      (first | rw [c22b0] | (simp only [i64_w, i32_w]; rw [c22b0]) | skip)
      have H' := Aside0.mk H
      clear H
      go_wp2
      go_meet
      case rel => exact ⟨_, (decide ((ji20) < (ji15))), (by first | rfl | (simp; done) | (simp only [← hji15, ← hji20] <;> (first | rfl | simp)) | (simp [*]; done)), H', ⟨by first | omega | exact Nat.le_refl _⟩, ⟨by repeat (first | (with_reducible first | exact HB.out | apply below_alloc | apply pw_below_drewN | apply below_drew1) | exact HB.out)⟩⟩
  case rest =>
    clear HC21
    try clear c2
    try clear p2
    try clear c6
    try clear c8
    try clear c9
    try clear c22
    try clear c22b0
    obtain ⟨kq, x46_20, rfl, HA, HJ20, HB⟩ := hcut
    cases kq with
    | zero => exact absurd HA.out (by simp [ropeladderlaw06_BucketOrder.j0])
    | succ kj20 =>
      have H := HA.out
      clear HA
      simp only [ropeladderlaw06_BucketOrder.j0] at H
      by_cases c23 : x46_20 = true
      · subst c23
        have H1 : (some t110) = some r := by rw [if_pos rfl] at H; exact H
        clear H
        have H := H1
        clear H1
        obtain rfl := Option.some.inj H
        go_wp2
        go_ret
        exact ⟨by first | rfl | (simp [errW_none, errW_some] <;> rfl) | (simp only [← hji9, ← hji10, ← hji13, ← hji15, ← hji19, ← hji20]; first | rfl | (simp [errW_none, errW_some] <;> rfl)) | (simp [*, errW_none, errW_some] <;> rfl), by repeat (first | (with_reducible first | exact HB.out | apply below_alloc | apply pw_below_drewN | apply below_drew1) | exact HB.out)⟩
      · replace c23 := Bool.eq_false_iff.mpr c23
        subst c23
        have H1 : ((ropeladderlaw06_Span.f a3).bind fun t120 => ((bucket_Index.f ji10 t120 ji15).bind fun t121 => ((bucket_Index.f ji10 t120 ji20).bind fun t122 => (if t110 = true then (if t121 ≤ t122 then (if t121 = t122 then (if (wrap64 (ji20 - ji15)) < t120 then (if (wrap64 (t122 - t121)) ≤ 1 then (some true) else (some (decide ((wrap64 (ji20 - ji15)) > t120)))) else (some false)) else (if (wrap64 (t122 - t121)) ≤ 1 then (some true) else (some (decide ((wrap64 (ji20 - ji15)) > t120))))) else (some false)) else (some false))))) = some r := by rw [if_neg (show ¬ (false = true) by decide)] at H; exact H
        clear H
        have H := H1
        clear H1
        replace H := Option.bind_eq_some_iff.mp H
        obtain ⟨t120, A240, H⟩ := H
        replace H : ((bucket_Index.f ji10 t120 ji15).bind fun t121 => ((bucket_Index.f ji10 t120 ji20).bind fun t122 => (if t110 = true then (if t121 ≤ t122 then (if t121 = t122 then (if (wrap64 (ji20 - ji15)) < t120 then (if (wrap64 (t122 - t121)) ≤ 1 then (some true) else (some (decide ((wrap64 (ji20 - ji15)) > t120)))) else (some false)) else (if (wrap64 (t122 - t121)) ≤ 1 then (some true) else (some (decide ((wrap64 (ji20 - ji15)) > t120))))) else (some false)) else (some false)))) = some r := H
        have A24 := Aside0.mk A240
        clear A240
        replace H := Option.bind_eq_some_iff.mp H
        obtain ⟨t121, A250, H⟩ := H
        replace H : ((bucket_Index.f ji10 t120 ji20).bind fun t122 => (if t110 = true then (if t121 ≤ t122 then (if t121 = t122 then (if (wrap64 (ji20 - ji15)) < t120 then (if (wrap64 (t122 - t121)) ≤ 1 then (some true) else (some (decide ((wrap64 (ji20 - ji15)) > t120)))) else (some false)) else (if (wrap64 (t122 - t121)) ≤ 1 then (some true) else (some (decide ((wrap64 (ji20 - ji15)) > t120))))) else (some false)) else (some false))) = some r := H
        have A25 := Aside0.mk A250
        clear A250
        replace H := Option.bind_eq_some_iff.mp H
        obtain ⟨t122, A260, H⟩ := H
        replace H : (if t110 = true then (if t121 ≤ t122 then (if t121 = t122 then (if (wrap64 (ji20 - ji15)) < t120 then (if (wrap64 (t122 - t121)) ≤ 1 then (some true) else (some (decide ((wrap64 (ji20 - ji15)) > t120)))) else (some false)) else (if (wrap64 (t122 - t121)) ≤ 1 then (some true) else (some (decide ((wrap64 (ji20 - ji15)) > t120))))) else (some false)) else (some false)) = some r := H
        have A26 := Aside0.mk A260
        clear A260
        by_cases c27 : t110 = true
        · subst c27
          have H1 : (if t121 ≤ t122 then (if t121 = t122 then (if (wrap64 (ji20 - ji15)) < t120 then (if (wrap64 (t122 - t121)) ≤ 1 then (some true) else (some (decide ((wrap64 (ji20 - ji15)) > t120)))) else (some false)) else (if (wrap64 (t122 - t121)) ≤ 1 then (some true) else (some (decide ((wrap64 (ji20 - ji15)) > t120))))) else (some false)) = some r := by rw [if_pos rfl] at H; exact H
          clear H
          have H := H1
          clear H1
          by_cases c28 : t121 ≤ t122
          · rw [if_pos c28] at H
            have c28b0 : decide (t121 ≤ t122) = true := decide_eq_true c28
            clear c28
            by_cases c29 : t121 = t122
            · rw [if_pos c29] at H
              have c29b0 : (t121 == t122) = true := beq_iff_eq.mpr c29
              have c29b1 : (t121 != t122) = false := bne_eq_false_iff_eq.mpr c29
              clear c29
              by_cases c30 : (wrap64 (ji20 - ji15)) < t120
              · rw [if_pos c30] at H
                have c30b0 : decide ((wrap64 (ji20 - ji15)) < t120) = true := decide_eq_true c30
                clear c30
                by_cases c31 : (wrap64 (t122 - t121)) ≤ 1
                · rw [if_pos c31] at H
                  have c31b0 : decide ((wrap64 (t122 - t121)) ≤ 1) = true := decide_eq_true c31
                  clear c31
                  obtain rfl := Option.some.inj H
                  go_wp2_with (first | ((with_reducible refine gate_callee (f := 10) rfl ?_); refine goesL_ (some 49) rfl rfl Try.func10 (by kernel_rfl) rfl #[.int .u64 a3] rfl (by (try simp only [List.map_toArray, List.map_cons, List.map_nil]); first | done | rfl | (simp only [List.length_drop, List.length_take]; rfl)) ?_; (with_reducible refine (ropeladderlaw06_Span.calls a3 t120 _ A24.out).mono ?_); rintro e w' ⟨rfl, ⟨nd, rfl⟩⟩; refine ⟨_, rfl, ?_⟩) | ((with_reducible refine gate_callee (f := 15) rfl ?_); refine goesL_ (some 53) rfl rfl Try.func15 (by kernel_rfl) rfl #[.int .i64 ji10, .int .i64 t120, .int .i64 ji15] rfl (by (try simp only [List.map_toArray, List.map_cons, List.map_nil]); first | done | (simp only [hji10, hji15]; rfl) | rfl | (simp only [List.length_drop, List.length_take]; rfl)) ?_; (with_reducible refine (bucket_Index.calls ji10 t120 ji15 t121 _ A25.out).mono ?_); rintro e w' ⟨rfl, ⟨nd, rfl⟩⟩; refine ⟨_, rfl, ?_⟩) | ((with_reducible refine gate_callee (f := 15) rfl ?_); refine goesL_ (some 57) rfl rfl Try.func15 (by kernel_rfl) rfl #[.int .i64 ji10, .int .i64 t120, .int .i64 ji20] rfl (by (try simp only [List.map_toArray, List.map_cons, List.map_nil]); first | done | (simp only [hji10, hji20]; rfl) | rfl | (simp only [List.length_drop, List.length_take]; rfl)) ?_; (with_reducible refine (bucket_Index.calls ji10 t120 ji20 t122 _ A26.out).mono ?_); rintro e w' ⟨rfl, ⟨nd, rfl⟩⟩; refine ⟨_, rfl, ?_⟩))
                  go_ret
                  exact ⟨by first | rfl | (simp [errW_none, errW_some] <;> rfl) | (simp only [← hji9, ← hji10, ← hji13, ← hji15, ← hji19, ← hji20]; first | rfl | (simp [errW_none, errW_some] <;> rfl)) | (simp [*, errW_none, errW_some] <;> rfl), by repeat (first | (with_reducible first | exact HB.out | apply below_alloc | apply pw_below_drewN | apply below_drew1) | exact HB.out)⟩
                · rw [if_neg c31] at H
                  have c31b0 : decide ((wrap64 (t122 - t121)) ≤ 1) = false := decide_eq_false c31
                  clear c31
                  obtain rfl := Option.some.inj H
                  go_wp2_with (first | ((with_reducible refine gate_callee (f := 10) rfl ?_); refine goesL_ (some 49) rfl rfl Try.func10 (by kernel_rfl) rfl #[.int .u64 a3] rfl (by (try simp only [List.map_toArray, List.map_cons, List.map_nil]); first | done | rfl | (simp only [List.length_drop, List.length_take]; rfl)) ?_; (with_reducible refine (ropeladderlaw06_Span.calls a3 t120 _ A24.out).mono ?_); rintro e w' ⟨rfl, ⟨nd, rfl⟩⟩; refine ⟨_, rfl, ?_⟩) | ((with_reducible refine gate_callee (f := 15) rfl ?_); refine goesL_ (some 53) rfl rfl Try.func15 (by kernel_rfl) rfl #[.int .i64 ji10, .int .i64 t120, .int .i64 ji15] rfl (by (try simp only [List.map_toArray, List.map_cons, List.map_nil]); first | done | (simp only [hji10, hji15]; rfl) | rfl | (simp only [List.length_drop, List.length_take]; rfl)) ?_; (with_reducible refine (bucket_Index.calls ji10 t120 ji15 t121 _ A25.out).mono ?_); rintro e w' ⟨rfl, ⟨nd, rfl⟩⟩; refine ⟨_, rfl, ?_⟩) | ((with_reducible refine gate_callee (f := 15) rfl ?_); refine goesL_ (some 57) rfl rfl Try.func15 (by kernel_rfl) rfl #[.int .i64 ji10, .int .i64 t120, .int .i64 ji20] rfl (by (try simp only [List.map_toArray, List.map_cons, List.map_nil]); first | done | (simp only [hji10, hji20]; rfl) | rfl | (simp only [List.length_drop, List.length_take]; rfl)) ?_; (with_reducible refine (bucket_Index.calls ji10 t120 ji20 t122 _ A26.out).mono ?_); rintro e w' ⟨rfl, ⟨nd, rfl⟩⟩; refine ⟨_, rfl, ?_⟩))
                  go_ret
                  exact ⟨by first | rfl | (simp [errW_none, errW_some] <;> rfl) | (simp only [← hji9, ← hji10, ← hji13, ← hji15, ← hji19, ← hji20]; first | rfl | (simp [errW_none, errW_some] <;> rfl)) | (simp [*, errW_none, errW_some] <;> rfl), by repeat (first | (with_reducible first | exact HB.out | apply below_alloc | apply pw_below_drewN | apply below_drew1) | exact HB.out)⟩
              · rw [if_neg c30] at H
                have c30b0 : decide ((wrap64 (ji20 - ji15)) < t120) = false := decide_eq_false c30
                clear c30
                obtain rfl := Option.some.inj H
                go_wp2_with (first | ((with_reducible refine gate_callee (f := 10) rfl ?_); refine goesL_ (some 49) rfl rfl Try.func10 (by kernel_rfl) rfl #[.int .u64 a3] rfl (by (try simp only [List.map_toArray, List.map_cons, List.map_nil]); first | done | rfl | (simp only [List.length_drop, List.length_take]; rfl)) ?_; (with_reducible refine (ropeladderlaw06_Span.calls a3 t120 _ A24.out).mono ?_); rintro e w' ⟨rfl, ⟨nd, rfl⟩⟩; refine ⟨_, rfl, ?_⟩) | ((with_reducible refine gate_callee (f := 15) rfl ?_); refine goesL_ (some 53) rfl rfl Try.func15 (by kernel_rfl) rfl #[.int .i64 ji10, .int .i64 t120, .int .i64 ji15] rfl (by (try simp only [List.map_toArray, List.map_cons, List.map_nil]); first | done | (simp only [hji10, hji15]; rfl) | rfl | (simp only [List.length_drop, List.length_take]; rfl)) ?_; (with_reducible refine (bucket_Index.calls ji10 t120 ji15 t121 _ A25.out).mono ?_); rintro e w' ⟨rfl, ⟨nd, rfl⟩⟩; refine ⟨_, rfl, ?_⟩) | ((with_reducible refine gate_callee (f := 15) rfl ?_); refine goesL_ (some 57) rfl rfl Try.func15 (by kernel_rfl) rfl #[.int .i64 ji10, .int .i64 t120, .int .i64 ji20] rfl (by (try simp only [List.map_toArray, List.map_cons, List.map_nil]); first | done | (simp only [hji10, hji20]; rfl) | rfl | (simp only [List.length_drop, List.length_take]; rfl)) ?_; (with_reducible refine (bucket_Index.calls ji10 t120 ji20 t122 _ A26.out).mono ?_); rintro e w' ⟨rfl, ⟨nd, rfl⟩⟩; refine ⟨_, rfl, ?_⟩))
                go_ret
                exact ⟨by first | rfl | (simp [errW_none, errW_some] <;> rfl) | (simp only [← hji9, ← hji10, ← hji13, ← hji15, ← hji19, ← hji20]; first | rfl | (simp [errW_none, errW_some] <;> rfl)) | (simp [*, errW_none, errW_some] <;> rfl), by repeat (first | (with_reducible first | exact HB.out | apply below_alloc | apply pw_below_drewN | apply below_drew1) | exact HB.out)⟩
            · rw [if_neg c29] at H
              have c29b0 : (t121 == t122) = false := beq_eq_false_iff_ne.mpr c29
              have c29b1 : (t121 != t122) = true := bne_iff_ne.mpr c29
              by_cases c32 : (wrap64 (t122 - t121)) ≤ 1
              · rw [if_pos c32] at H
                have c32b0 : decide ((wrap64 (t122 - t121)) ≤ 1) = true := decide_eq_true c32
                clear c32
                obtain rfl := Option.some.inj H
                go_wp2_with (first | ((with_reducible refine gate_callee (f := 10) rfl ?_); refine goesL_ (some 49) rfl rfl Try.func10 (by kernel_rfl) rfl #[.int .u64 a3] rfl (by (try simp only [List.map_toArray, List.map_cons, List.map_nil]); first | done | rfl | (simp only [List.length_drop, List.length_take]; rfl)) ?_; (with_reducible refine (ropeladderlaw06_Span.calls a3 t120 _ A24.out).mono ?_); rintro e w' ⟨rfl, ⟨nd, rfl⟩⟩; refine ⟨_, rfl, ?_⟩) | ((with_reducible refine gate_callee (f := 15) rfl ?_); refine goesL_ (some 53) rfl rfl Try.func15 (by kernel_rfl) rfl #[.int .i64 ji10, .int .i64 t120, .int .i64 ji15] rfl (by (try simp only [List.map_toArray, List.map_cons, List.map_nil]); first | done | (simp only [hji10, hji15]; rfl) | rfl | (simp only [List.length_drop, List.length_take]; rfl)) ?_; (with_reducible refine (bucket_Index.calls ji10 t120 ji15 t121 _ A25.out).mono ?_); rintro e w' ⟨rfl, ⟨nd, rfl⟩⟩; refine ⟨_, rfl, ?_⟩) | ((with_reducible refine gate_callee (f := 15) rfl ?_); refine goesL_ (some 57) rfl rfl Try.func15 (by kernel_rfl) rfl #[.int .i64 ji10, .int .i64 t120, .int .i64 ji20] rfl (by (try simp only [List.map_toArray, List.map_cons, List.map_nil]); first | done | (simp only [hji10, hji20]; rfl) | rfl | (simp only [List.length_drop, List.length_take]; rfl)) ?_; (with_reducible refine (bucket_Index.calls ji10 t120 ji20 t122 _ A26.out).mono ?_); rintro e w' ⟨rfl, ⟨nd, rfl⟩⟩; refine ⟨_, rfl, ?_⟩))
                go_ret
                exact ⟨by first | rfl | (simp [errW_none, errW_some] <;> rfl) | (simp only [← hji9, ← hji10, ← hji13, ← hji15, ← hji19, ← hji20]; first | rfl | (simp [errW_none, errW_some] <;> rfl)) | (simp [*, errW_none, errW_some] <;> rfl), by repeat (first | (with_reducible first | exact HB.out | apply below_alloc | apply pw_below_drewN | apply below_drew1) | exact HB.out)⟩
              · rw [if_neg c32] at H
                have c32b0 : decide ((wrap64 (t122 - t121)) ≤ 1) = false := decide_eq_false c32
                clear c32
                obtain rfl := Option.some.inj H
                go_wp2_with (first | ((with_reducible refine gate_callee (f := 10) rfl ?_); refine goesL_ (some 49) rfl rfl Try.func10 (by kernel_rfl) rfl #[.int .u64 a3] rfl (by (try simp only [List.map_toArray, List.map_cons, List.map_nil]); first | done | rfl | (simp only [List.length_drop, List.length_take]; rfl)) ?_; (with_reducible refine (ropeladderlaw06_Span.calls a3 t120 _ A24.out).mono ?_); rintro e w' ⟨rfl, ⟨nd, rfl⟩⟩; refine ⟨_, rfl, ?_⟩) | ((with_reducible refine gate_callee (f := 15) rfl ?_); refine goesL_ (some 53) rfl rfl Try.func15 (by kernel_rfl) rfl #[.int .i64 ji10, .int .i64 t120, .int .i64 ji15] rfl (by (try simp only [List.map_toArray, List.map_cons, List.map_nil]); first | done | (simp only [hji10, hji15]; rfl) | rfl | (simp only [List.length_drop, List.length_take]; rfl)) ?_; (with_reducible refine (bucket_Index.calls ji10 t120 ji15 t121 _ A25.out).mono ?_); rintro e w' ⟨rfl, ⟨nd, rfl⟩⟩; refine ⟨_, rfl, ?_⟩) | ((with_reducible refine gate_callee (f := 15) rfl ?_); refine goesL_ (some 57) rfl rfl Try.func15 (by kernel_rfl) rfl #[.int .i64 ji10, .int .i64 t120, .int .i64 ji20] rfl (by (try simp only [List.map_toArray, List.map_cons, List.map_nil]); first | done | (simp only [hji10, hji20]; rfl) | rfl | (simp only [List.length_drop, List.length_take]; rfl)) ?_; (with_reducible refine (bucket_Index.calls ji10 t120 ji20 t122 _ A26.out).mono ?_); rintro e w' ⟨rfl, ⟨nd, rfl⟩⟩; refine ⟨_, rfl, ?_⟩))
                go_ret
                exact ⟨by first | rfl | (simp [errW_none, errW_some] <;> rfl) | (simp only [← hji9, ← hji10, ← hji13, ← hji15, ← hji19, ← hji20]; first | rfl | (simp [errW_none, errW_some] <;> rfl)) | (simp [*, errW_none, errW_some] <;> rfl), by repeat (first | (with_reducible first | exact HB.out | apply below_alloc | apply pw_below_drewN | apply below_drew1) | exact HB.out)⟩
          · rw [if_neg c28] at H
            have c28b0 : decide (t121 ≤ t122) = false := decide_eq_false c28
            clear c28
            obtain rfl := Option.some.inj H
            go_wp2_with (first | ((with_reducible refine gate_callee (f := 10) rfl ?_); refine goesL_ (some 49) rfl rfl Try.func10 (by kernel_rfl) rfl #[.int .u64 a3] rfl (by (try simp only [List.map_toArray, List.map_cons, List.map_nil]); first | done | rfl | (simp only [List.length_drop, List.length_take]; rfl)) ?_; (with_reducible refine (ropeladderlaw06_Span.calls a3 t120 _ A24.out).mono ?_); rintro e w' ⟨rfl, ⟨nd, rfl⟩⟩; refine ⟨_, rfl, ?_⟩) | ((with_reducible refine gate_callee (f := 15) rfl ?_); refine goesL_ (some 53) rfl rfl Try.func15 (by kernel_rfl) rfl #[.int .i64 ji10, .int .i64 t120, .int .i64 ji15] rfl (by (try simp only [List.map_toArray, List.map_cons, List.map_nil]); first | done | (simp only [hji10, hji15]; rfl) | rfl | (simp only [List.length_drop, List.length_take]; rfl)) ?_; (with_reducible refine (bucket_Index.calls ji10 t120 ji15 t121 _ A25.out).mono ?_); rintro e w' ⟨rfl, ⟨nd, rfl⟩⟩; refine ⟨_, rfl, ?_⟩) | ((with_reducible refine gate_callee (f := 15) rfl ?_); refine goesL_ (some 57) rfl rfl Try.func15 (by kernel_rfl) rfl #[.int .i64 ji10, .int .i64 t120, .int .i64 ji20] rfl (by (try simp only [List.map_toArray, List.map_cons, List.map_nil]); first | done | (simp only [hji10, hji20]; rfl) | rfl | (simp only [List.length_drop, List.length_take]; rfl)) ?_; (with_reducible refine (bucket_Index.calls ji10 t120 ji20 t122 _ A26.out).mono ?_); rintro e w' ⟨rfl, ⟨nd, rfl⟩⟩; refine ⟨_, rfl, ?_⟩))
            go_ret
            exact ⟨by first | rfl | (simp [errW_none, errW_some] <;> rfl) | (simp only [← hji9, ← hji10, ← hji13, ← hji15, ← hji19, ← hji20]; first | rfl | (simp [errW_none, errW_some] <;> rfl)) | (simp [*, errW_none, errW_some] <;> rfl), by repeat (first | (with_reducible first | exact HB.out | apply below_alloc | apply pw_below_drewN | apply below_drew1) | exact HB.out)⟩
        · replace c27 := Bool.eq_false_iff.mpr c27
          subst c27
          have H1 : (some false) = some r := by rw [if_neg (show ¬ (false = true) by decide)] at H; exact H
          clear H
          have H := H1
          clear H1
          obtain rfl := Option.some.inj H
          go_wp2_with (first | ((with_reducible refine gate_callee (f := 10) rfl ?_); refine goesL_ (some 49) rfl rfl Try.func10 (by kernel_rfl) rfl #[.int .u64 a3] rfl (by (try simp only [List.map_toArray, List.map_cons, List.map_nil]); first | done | rfl | (simp only [List.length_drop, List.length_take]; rfl)) ?_; (with_reducible refine (ropeladderlaw06_Span.calls a3 t120 _ A24.out).mono ?_); rintro e w' ⟨rfl, ⟨nd, rfl⟩⟩; refine ⟨_, rfl, ?_⟩) | ((with_reducible refine gate_callee (f := 15) rfl ?_); refine goesL_ (some 53) rfl rfl Try.func15 (by kernel_rfl) rfl #[.int .i64 ji10, .int .i64 t120, .int .i64 ji15] rfl (by (try simp only [List.map_toArray, List.map_cons, List.map_nil]); first | done | (simp only [hji10, hji15]; rfl) | rfl | (simp only [List.length_drop, List.length_take]; rfl)) ?_; (with_reducible refine (bucket_Index.calls ji10 t120 ji15 t121 _ A25.out).mono ?_); rintro e w' ⟨rfl, ⟨nd, rfl⟩⟩; refine ⟨_, rfl, ?_⟩) | ((with_reducible refine gate_callee (f := 15) rfl ?_); refine goesL_ (some 57) rfl rfl Try.func15 (by kernel_rfl) rfl #[.int .i64 ji10, .int .i64 t120, .int .i64 ji20] rfl (by (try simp only [List.map_toArray, List.map_cons, List.map_nil]); first | done | (simp only [hji10, hji20]; rfl) | rfl | (simp only [List.length_drop, List.length_take]; rfl)) ?_; (with_reducible refine (bucket_Index.calls ji10 t120 ji20 t122 _ A26.out).mono ?_); rintro e w' ⟨rfl, ⟨nd, rfl⟩⟩; refine ⟨_, rfl, ?_⟩))
          go_ret
          exact ⟨by first | rfl | (simp [errW_none, errW_some] <;> rfl) | (simp only [← hji9, ← hji10, ← hji13, ← hji15, ← hji19, ← hji20]; first | rfl | (simp [errW_none, errW_some] <;> rfl)) | (simp [*, errW_none, errW_some] <;> rfl), by repeat (first | (with_reducible first | exact HB.out | apply below_alloc | apply pw_below_drewN | apply below_drew1) | exact HB.out)⟩

/-- THE ONE PURE STATEMENT of ropeladderlaw06_BucketOrder: yours. -/
def ropeladderlaw06_BucketOrder.Pure : Prop := ∀ (a0 : Int) (a1 : Int) (a2 : Int) (a3 : Int), (Lit.int .u64 a0).wf = true → (Lit.int .u64 a1).wf = true → (Lit.int .u64 a2).wf = true → (Lit.int .u64 a3).wf = true → ∃ k, ropeladderlaw06_BucketOrder.f k a0 a1 a2 a3 = some true
theorem ropeladderlaw06_BucketOrder.walk (P : ropeladderlaw06_BucketOrder.Pure) (a0 : Int) (a1 : Int) (a2 : Int) (a3 : Int) (w : World) (w0 : (Lit.int .u64 a0).wf = true) (w1 : (Lit.int .u64 a1).wf = true) (w2 : (Lit.int .u64 a2).wf = true) (w3 : (Lit.int .u64 a3).wf = true) :
    Calls Try.prog 6 #[.int .u64 a0, .int .u64 a1, .int .u64 a2, .int .u64 a3] w fun e w' => e = .returned (.bool true) ∧ Below w.heap.size w w' := by
  obtain ⟨k, h⟩ := P a0 a1 a2 a3 w0 w1 w2 w3
  refine (ropeladderlaw06_BucketOrder.calls k a0 a1 a2 a3 true w h).mono ?_
  rintro e w' ⟨rfl, hd⟩
  exact ⟨rfl, hd⟩

end Go.Proofs.Ytogiemlgjnhidaa.PBucketOrder
