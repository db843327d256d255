-- PRINTED BY print.sh 35421559b90ae4d0a3588c463048766b98c2df88dd9212a6774a882060cdf62d: not written by this session
import Derived.Test.YtogiemlgjnhidaaPBucketMatchesReferencex0
namespace Go.Proofs.Ytogiemlgjnhidaa.PBucketMatchesReference
open Go.RowKit Go.Proofs.YtogiemlgjnhidaaW.PrintWords Go.Proofs.YtogiemlgjnhidaaW.PrintLast Go.Proofs.YtogiemlgjnhidaaW.PrintMore
attribute [local go_sem] max2_int min2_int max_two min_two max_three min_three max_four min_four   -- for this text's walks alone
set_option linter.unusedVariables false
set_option linter.unusedSimpArgs false

/-! ### bucket_ceilDiv_int: function 19 -/
def bucket_ceilDiv_int.f (a0 : Int) (a1 : Int) : Option (Int) := if a1 = 0 then (none) else (some (wrap64 (Int.tdiv (wrap64 ((wrap64 (a0 + a1)) - 1)) a1)))
set_option maxHeartbeats 8000000 in
set_option maxRecDepth 100000 in
theorem bucket_ceilDiv_int.calls (a0 : Int) (a1 : Int) (r : Int) (w : World) (h : bucket_ceilDiv_int.f a0 a1 = some r) :
    Calls Try.prog 19 #[.int .i64 a0, .int .i64 a1] w fun e w' => e = .returned (.int .i64 r) ∧ Drawn0 w w' := by
  have H : (if a1 = 0 then (none) else (some (wrap64 (Int.tdiv (wrap64 ((wrap64 (a0 + a1)) - 1)) a1)))) = some r := h
  clear h
  by_cases c3 : a1 = 0
  · rw [if_pos c3] at H
    exact absurd H (by simp)
  · rw [if_neg c3] at H
    have c3b0 : (a1 == 0) = false := beq_eq_false_iff_ne.mpr c3
    have c3b1 : (a1 != 0) = true := bne_iff_ne.mpr c3
    obtain rfl := Option.some.inj H
    go_enter Try.func19, Try.ntmps19
    go_wp2
    go_ret
    exact ⟨by first | rfl | (simp; done) | (simp [*]; done), by repeat (first | exact Drawn0.refl _ | apply Drawn0.step)⟩

/-! ### bucket_Width: function 11 -/
def bucket_Width.f (a0 : Int) (a1 : Int) : Option (Int) := (bucket_ceilDiv_int.f (wrap64 ((wrap64 (a1 - a0)) + 1)) 8).bind fun t101 => (some t101)
set_option maxHeartbeats 8000000 in
set_option maxRecDepth 100000 in
theorem bucket_Width.calls (a0 : Int) (a1 : Int) (r : Int) (w : World) (h : bucket_Width.f a0 a1 = some r) :
    Calls Try.prog 11 #[.int .i64 a0, .int .i64 a1] w fun e w' => e = .returned (.int .i64 r) ∧ Drawn0 w w' := by
  have H : ((bucket_ceilDiv_int.f (wrap64 ((wrap64 (a1 - a0)) + 1)) 8).bind fun t101 => (some t101)) = some r := h
  clear h
  replace H := Option.bind_eq_some_iff.mp H
  obtain ⟨t101, A30, H⟩ := H
  replace H : (some t101) = some r := H
  have A3 := Aside0.mk A30
  clear A30
  obtain rfl := Option.some.inj H
  go_enter Try.func11, Try.ntmps11
  go_wp2_with (first | ((with_reducible refine gate_callee (f := 19) rfl ?_); refine goesL_ (some 9) rfl rfl Try.func19 (by kernel_rfl) rfl #[.int .i64 (wrap64 ((wrap64 (a1 - a0)) + 1)), .int .i64 8] rfl (by (try simp only [List.map_toArray, List.map_cons, List.map_nil]); first | done | rfl | (simp only [List.length_drop, List.length_take]; rfl)) ?_; (with_reducible refine (bucket_ceilDiv_int.calls (wrap64 ((wrap64 (a1 - a0)) + 1)) 8 t101 _ A3.out).mono ?_); rintro e w' ⟨rfl, ⟨nd, rfl⟩⟩; refine ⟨_, rfl, ?_⟩))
  go_ret
  exact ⟨by first | rfl | (simp; done) | (simp [*]; done), by repeat (first | exact Drawn0.refl _ | apply Drawn0.step)⟩

/-! ### bucket_Narrow: function 13 -/
def bucket_Narrow.f (a0 : Int) : Option (Int) := (bucket_ceilDiv_int.f a0 8).bind fun t102 => (some t102)
set_option maxHeartbeats 8000000 in
set_option maxRecDepth 100000 in
theorem bucket_Narrow.calls (a0 : Int) (r : Int) (w : World) (h : bucket_Narrow.f a0 = some r) :
    Calls Try.prog 13 #[.int .i64 a0] w fun e w' => e = .returned (.int .i64 r) ∧ Drawn0 w w' := by
  have H : ((bucket_ceilDiv_int.f a0 8).bind fun t102 => (some t102)) = some r := h
  clear h
  replace H := Option.bind_eq_some_iff.mp H
  obtain ⟨t102, A20, H⟩ := H
  replace H : (some t102) = some r := H
  have A2 := Aside0.mk A20
  clear A20
  obtain rfl := Option.some.inj H
  go_enter Try.func13, Try.ntmps13
  go_wp2_with (first | ((with_reducible refine gate_callee (f := 19) rfl ?_); refine goesL_ (some 4) rfl rfl Try.func19 (by kernel_rfl) rfl #[.int .i64 a0, .int .i64 8] rfl (by (try simp only [List.map_toArray, List.map_cons, List.map_nil]); first | done | rfl | (simp only [List.length_drop, List.length_take]; rfl)) ?_; (with_reducible refine (bucket_ceilDiv_int.calls a0 8 t102 _ A2.out).mono ?_); rintro e w' ⟨rfl, ⟨nd, rfl⟩⟩; refine ⟨_, rfl, ?_⟩))
  go_ret
  exact ⟨by first | rfl | (simp; done) | (simp [*]; done), by repeat (first | exact Drawn0.refl _ | apply Drawn0.step)⟩

/-! ### bucket_Index: function 15 -/
def bucket_Index.f (a0 : Int) (a1 : Int) (a2 : Int) : Option (Int) := if a1 = 0 then (none) else (some (wrap64 (Int.tdiv (wrap64 (a2 - a0)) a1)))
set_option maxHeartbeats 8000000 in
set_option maxRecDepth 100000 in
theorem bucket_Index.calls (a0 : Int) (a1 : Int) (a2 : Int) (r : Int) (w : World) (h : bucket_Index.f a0 a1 a2 = some r) :
    Calls Try.prog 15 #[.int .i64 a0, .int .i64 a1, .int .i64 a2] w fun e w' => e = .returned (.int .i64 r) ∧ Drawn0 w w' := by
  have H : (if a1 = 0 then (none) else (some (wrap64 (Int.tdiv (wrap64 (a2 - a0)) a1)))) = some r := h
  clear h
  by_cases c4 : a1 = 0
  · rw [if_pos c4] at H
    exact absurd H (by simp)
  · rw [if_neg c4] at H
    have c4b0 : (a1 == 0) = false := beq_eq_false_iff_ne.mpr c4
    have c4b1 : (a1 != 0) = true := bne_iff_ne.mpr c4
    obtain rfl := Option.some.inj H
    go_enter Try.func15, Try.ntmps15
    go_wp2
    go_ret
    exact ⟨by first | rfl | (simp; done) | (simp [*]; done), by repeat (first | exact Drawn0.refl _ | apply Drawn0.step)⟩

/-! ### bucket_Start: function 17 -/
def bucket_Start.f (a0 : Int) (a1 : Int) (a2 : Int) : Option (Int) := some (wrap64 (a0 + (wrap64 (a2 * a1))))
set_option maxHeartbeats 8000000 in
set_option maxRecDepth 100000 in
theorem bucket_Start.calls (a0 : Int) (a1 : Int) (a2 : Int) (r : Int) (w : World) (h : bucket_Start.f a0 a1 a2 = some r) :
    Calls Try.prog 17 #[.int .i64 a0, .int .i64 a1, .int .i64 a2] w fun e w' => e = .returned (.int .i64 r) ∧ Drawn0 w w' := by
  have H : (some (wrap64 (a0 + (wrap64 (a2 * a1))))) = some r := h
  clear h
  obtain rfl := Option.some.inj H
  go_enter Try.func17, Try.ntmps17
  go_wp2
  go_ret
  exact ⟨by first | rfl | (simp; done) | (simp [*]; done), by repeat (first | exact Drawn0.refl _ | apply Drawn0.step)⟩

/-! ### ropeladderlaw06_head: function 8 -/
def ropeladderlaw06_head.f  : Option (Bool) := (bucket_Width.f 10 25).bind fun t103 => (if t103 = 2 then ((bucket_Width.f 5 5).bind fun t104 => (if t104 = 1 then ((bucket_Index.f 10 2 25).bind fun t105 => (if t105 = 7 then ((bucket_Index.f 10 2 10).bind fun t106 => (if t106 = 0 then ((bucket_Narrow.f 9).bind fun t107 => (if t107 = 2 then ((bucket_Narrow.f 8).bind fun t108 => (if t108 = 1 then ((bucket_Start.f 10 2 3).bind fun t109 => (some (t109 == 16))) else (some false))) else (some false))) else (some false))) else (some false))) else (some false))) else (some false))
set_option maxHeartbeats 8000000 in
set_option maxRecDepth 100000 in
theorem ropeladderlaw06_head.calls  (r : Bool) (w : World) (h : ropeladderlaw06_head.f  = some r) :
    Calls Try.prog 8 #[] w fun e w' => e = .returned (.bool r) ∧ Drawn0 w w' := by
  have H : ((bucket_Width.f 10 25).bind fun t103 => (if t103 = 2 then ((bucket_Width.f 5 5).bind fun t104 => (if t104 = 1 then ((bucket_Index.f 10 2 25).bind fun t105 => (if t105 = 7 then ((bucket_Index.f 10 2 10).bind fun t106 => (if t106 = 0 then ((bucket_Narrow.f 9).bind fun t107 => (if t107 = 2 then ((bucket_Narrow.f 8).bind fun t108 => (if t108 = 1 then ((bucket_Start.f 10 2 3).bind fun t109 => (some (t109 == 16))) else (some false))) else (some false))) else (some false))) else (some false))) else (some false))) else (some false))) = some r := h
  clear h
  replace H := Option.bind_eq_some_iff.mp H
  obtain ⟨t103, A10, H⟩ := H
  replace H : (if t103 = 2 then ((bucket_Width.f 5 5).bind fun t104 => (if t104 = 1 then ((bucket_Index.f 10 2 25).bind fun t105 => (if t105 = 7 then ((bucket_Index.f 10 2 10).bind fun t106 => (if t106 = 0 then ((bucket_Narrow.f 9).bind fun t107 => (if t107 = 2 then ((bucket_Narrow.f 8).bind fun t108 => (if t108 = 1 then ((bucket_Start.f 10 2 3).bind fun t109 => (some (t109 == 16))) else (some false))) else (some false))) else (some false))) else (some false))) else (some false))) else (some false)) = some r := H
  have A1 := Aside0.mk A10
  clear A10
  by_cases c2 : t103 = 2
  · rw [if_pos c2] at H
    have c2b0 : (t103 == 2) = true := beq_iff_eq.mpr c2
    have c2b1 : (t103 != 2) = false := bne_eq_false_iff_eq.mpr c2
    clear c2
    replace H := Option.bind_eq_some_iff.mp H
    obtain ⟨t104, A30, H⟩ := H
    replace H : (if t104 = 1 then ((bucket_Index.f 10 2 25).bind fun t105 => (if t105 = 7 then ((bucket_Index.f 10 2 10).bind fun t106 => (if t106 = 0 then ((bucket_Narrow.f 9).bind fun t107 => (if t107 = 2 then ((bucket_Narrow.f 8).bind fun t108 => (if t108 = 1 then ((bucket_Start.f 10 2 3).bind fun t109 => (some (t109 == 16))) else (some false))) else (some false))) else (some false))) else (some false))) else (some false)) = some r := H
    have A3 := Aside0.mk A30
    clear A30
    by_cases c4 : t104 = 1
    · rw [if_pos c4] at H
      have c4b0 : (t104 == 1) = true := beq_iff_eq.mpr c4
      have c4b1 : (t104 != 1) = false := bne_eq_false_iff_eq.mpr c4
      clear c4
      replace H := Option.bind_eq_some_iff.mp H
      obtain ⟨t105, A50, H⟩ := H
      replace H : (if t105 = 7 then ((bucket_Index.f 10 2 10).bind fun t106 => (if t106 = 0 then ((bucket_Narrow.f 9).bind fun t107 => (if t107 = 2 then ((bucket_Narrow.f 8).bind fun t108 => (if t108 = 1 then ((bucket_Start.f 10 2 3).bind fun t109 => (some (t109 == 16))) else (some false))) else (some false))) else (some false))) else (some false)) = some r := H
      have A5 := Aside0.mk A50
      clear A50
      by_cases c6 : t105 = 7
      · rw [if_pos c6] at H
        have c6b0 : (t105 == 7) = true := beq_iff_eq.mpr c6
        have c6b1 : (t105 != 7) = false := bne_eq_false_iff_eq.mpr c6
        clear c6
        replace H := Option.bind_eq_some_iff.mp H
        obtain ⟨t106, A70, H⟩ := H
        replace H : (if t106 = 0 then ((bucket_Narrow.f 9).bind fun t107 => (if t107 = 2 then ((bucket_Narrow.f 8).bind fun t108 => (if t108 = 1 then ((bucket_Start.f 10 2 3).bind fun t109 => (some (t109 == 16))) else (some false))) else (some false))) else (some false)) = some r := H
        have A7 := Aside0.mk A70
        clear A70
        by_cases c8 : t106 = 0
        · rw [if_pos c8] at H
          have c8b0 : (t106 == 0) = true := beq_iff_eq.mpr c8
          have c8b1 : (t106 != 0) = false := bne_eq_false_iff_eq.mpr c8
          clear c8
          replace H := Option.bind_eq_some_iff.mp H
          obtain ⟨t107, A90, H⟩ := H
          replace H : (if t107 = 2 then ((bucket_Narrow.f 8).bind fun t108 => (if t108 = 1 then ((bucket_Start.f 10 2 3).bind fun t109 => (some (t109 == 16))) else (some false))) else (some false)) = some r := H
          have A9 := Aside0.mk A90
          clear A90
          by_cases c10 : t107 = 2
          · rw [if_pos c10] at H
            have c10b0 : (t107 == 2) = true := beq_iff_eq.mpr c10
            have c10b1 : (t107 != 2) = false := bne_eq_false_iff_eq.mpr c10
            clear c10
            replace H := Option.bind_eq_some_iff.mp H
            obtain ⟨t108, A110, H⟩ := H
            replace H : (if t108 = 1 then ((bucket_Start.f 10 2 3).bind fun t109 => (some (t109 == 16))) else (some false)) = some r := H
            have A11 := Aside0.mk A110
            clear A110
            by_cases c12 : t108 = 1
            · rw [if_pos c12] at H
              have c12b0 : (t108 == 1) = true := beq_iff_eq.mpr c12
              have c12b1 : (t108 != 1) = false := bne_eq_false_iff_eq.mpr c12
              clear c12
              replace H := Option.bind_eq_some_iff.mp H
              obtain ⟨t109, A130, H⟩ := H
              replace H : (some (t109 == 16)) = some r := H
              have A13 := Aside0.mk A130
              clear A130
              obtain rfl := Option.some.inj H
              go_enter Try.func8, Try.ntmps8
              go_wp2_with (first | ((with_reducible refine gate_callee (f := 11) rfl ?_); refine goesL_ (some 1) rfl rfl Try.func11 (by kernel_rfl) rfl #[.int .i64 10, .int .i64 25] rfl (by (try simp only [List.map_toArray, List.map_cons, List.map_nil]); first | done | rfl | (simp only [List.length_drop, List.length_take]; rfl)) ?_; (with_reducible refine (bucket_Width.calls 10 25 t103 _ A1.out).mono ?_); rintro e w' ⟨rfl, ⟨nd, rfl⟩⟩; refine ⟨_, rfl, ?_⟩) | (go_at_call 11; (with_reducible refine (bucket_Width.calls 5 5 t104 _ A3.out).mono ?_); rintro e w' ⟨rfl, ⟨nd, rfl⟩⟩) | (go_at_call 15; (with_reducible refine (bucket_Index.calls 10 2 25 t105 _ A5.out).mono ?_); rintro e w' ⟨rfl, ⟨nd, rfl⟩⟩) | (go_at_call 15; (with_reducible refine (bucket_Index.calls 10 2 10 t106 _ A7.out).mono ?_); rintro e w' ⟨rfl, ⟨nd, rfl⟩⟩) | (go_at_call 13; (with_reducible refine (bucket_Narrow.calls 9 t107 _ A9.out).mono ?_); rintro e w' ⟨rfl, ⟨nd, rfl⟩⟩) | (go_at_call 13; (with_reducible refine (bucket_Narrow.calls 8 t108 _ A11.out).mono ?_); rintro e w' ⟨rfl, ⟨nd, rfl⟩⟩) | (go_at_call 17; (with_reducible refine (bucket_Start.calls 10 2 3 t109 _ A13.out).mono ?_); rintro e w' ⟨rfl, ⟨nd, rfl⟩⟩))
              go_ret
              exact ⟨by first | rfl | (simp; done) | (simp [*]; done), by repeat (first | exact Drawn0.refl _ | apply Drawn0.step)⟩
            · rw [if_neg c12] at H
              have c12b0 : (t108 == 1) = false := beq_eq_false_iff_ne.mpr c12
              have c12b1 : (t108 != 1) = true := bne_iff_ne.mpr c12
              obtain rfl := Option.some.inj H
              go_enter Try.func8, Try.ntmps8
              go_wp2_with (first | ((with_reducible refine gate_callee (f := 11) rfl ?_); refine goesL_ (some 1) rfl rfl Try.func11 (by kernel_rfl) rfl #[.int .i64 10, .int .i64 25] rfl (by (try simp only [List.map_toArray, List.map_cons, List.map_nil]); first | done | rfl | (simp only [List.length_drop, List.length_take]; rfl)) ?_; (with_reducible refine (bucket_Width.calls 10 25 t103 _ A1.out).mono ?_); rintro e w' ⟨rfl, ⟨nd, rfl⟩⟩; refine ⟨_, rfl, ?_⟩) | (go_at_call 11; (with_reducible refine (bucket_Width.calls 5 5 t104 _ A3.out).mono ?_); rintro e w' ⟨rfl, ⟨nd, rfl⟩⟩) | (go_at_call 15; (with_reducible refine (bucket_Index.calls 10 2 25 t105 _ A5.out).mono ?_); rintro e w' ⟨rfl, ⟨nd, rfl⟩⟩) | (go_at_call 15; (with_reducible refine (bucket_Index.calls 10 2 10 t106 _ A7.out).mono ?_); rintro e w' ⟨rfl, ⟨nd, rfl⟩⟩) | (go_at_call 13; (with_reducible refine (bucket_Narrow.calls 9 t107 _ A9.out).mono ?_); rintro e w' ⟨rfl, ⟨nd, rfl⟩⟩) | (go_at_call 13; (with_reducible refine (bucket_Narrow.calls 8 t108 _ A11.out).mono ?_); rintro e w' ⟨rfl, ⟨nd, rfl⟩⟩))
              go_ret
              exact ⟨by first | rfl | (simp; done) | (simp [*]; done), by repeat (first | exact Drawn0.refl _ | apply Drawn0.step)⟩
          · rw [if_neg c10] at H
            have c10b0 : (t107 == 2) = false := beq_eq_false_iff_ne.mpr c10
            have c10b1 : (t107 != 2) = true := bne_iff_ne.mpr c10
            obtain rfl := Option.some.inj H
            go_enter Try.func8, Try.ntmps8
            go_wp2_with (first | ((with_reducible refine gate_callee (f := 11) rfl ?_); refine goesL_ (some 1) rfl rfl Try.func11 (by kernel_rfl) rfl #[.int .i64 10, .int .i64 25] rfl (by (try simp only [List.map_toArray, List.map_cons, List.map_nil]); first | done | rfl | (simp only [List.length_drop, List.length_take]; rfl)) ?_; (with_reducible refine (bucket_Width.calls 10 25 t103 _ A1.out).mono ?_); rintro e w' ⟨rfl, ⟨nd, rfl⟩⟩; refine ⟨_, rfl, ?_⟩) | (go_at_call 11; (with_reducible refine (bucket_Width.calls 5 5 t104 _ A3.out).mono ?_); rintro e w' ⟨rfl, ⟨nd, rfl⟩⟩) | (go_at_call 15; (with_reducible refine (bucket_Index.calls 10 2 25 t105 _ A5.out).mono ?_); rintro e w' ⟨rfl, ⟨nd, rfl⟩⟩) | (go_at_call 15; (with_reducible refine (bucket_Index.calls 10 2 10 t106 _ A7.out).mono ?_); rintro e w' ⟨rfl, ⟨nd, rfl⟩⟩) | (go_at_call 13; (with_reducible refine (bucket_Narrow.calls 9 t107 _ A9.out).mono ?_); rintro e w' ⟨rfl, ⟨nd, rfl⟩⟩))
            go_ret
            exact ⟨by first | rfl | (simp; done) | (simp [*]; done), by repeat (first | exact Drawn0.refl _ | apply Drawn0.step)⟩
        · rw [if_neg c8] at H
          have c8b0 : (t106 == 0) = false := beq_eq_false_iff_ne.mpr c8
          have c8b1 : (t106 != 0) = true := bne_iff_ne.mpr c8
          obtain rfl := Option.some.inj H
          go_enter Try.func8, Try.ntmps8
          go_wp2_with (first | ((with_reducible refine gate_callee (f := 11) rfl ?_); refine goesL_ (some 1) rfl rfl Try.func11 (by kernel_rfl) rfl #[.int .i64 10, .int .i64 25] rfl (by (try simp only [List.map_toArray, List.map_cons, List.map_nil]); first | done | rfl | (simp only [List.length_drop, List.length_take]; rfl)) ?_; (with_reducible refine (bucket_Width.calls 10 25 t103 _ A1.out).mono ?_); rintro e w' ⟨rfl, ⟨nd, rfl⟩⟩; refine ⟨_, rfl, ?_⟩) | (go_at_call 11; (with_reducible refine (bucket_Width.calls 5 5 t104 _ A3.out).mono ?_); rintro e w' ⟨rfl, ⟨nd, rfl⟩⟩) | (go_at_call 15; (with_reducible refine (bucket_Index.calls 10 2 25 t105 _ A5.out).mono ?_); rintro e w' ⟨rfl, ⟨nd, rfl⟩⟩) | (go_at_call 15; (with_reducible refine (bucket_Index.calls 10 2 10 t106 _ A7.out).mono ?_); rintro e w' ⟨rfl, ⟨nd, rfl⟩⟩))
          go_ret
          exact ⟨by first | rfl | (simp; done) | (simp [*]; done), by repeat (first | exact Drawn0.refl _ | apply Drawn0.step)⟩
      · rw [if_neg c6] at H
        have c6b0 : (t105 == 7) = false := beq_eq_false_iff_ne.mpr c6
        have c6b1 : (t105 != 7) = true := bne_iff_ne.mpr c6
        obtain rfl := Option.some.inj H
        go_enter Try.func8, Try.ntmps8
        go_wp2_with (first | ((with_reducible refine gate_callee (f := 11) rfl ?_); refine goesL_ (some 1) rfl rfl Try.func11 (by kernel_rfl) rfl #[.int .i64 10, .int .i64 25] rfl (by (try simp only [List.map_toArray, List.map_cons, List.map_nil]); first | done | rfl | (simp only [List.length_drop, List.length_take]; rfl)) ?_; (with_reducible refine (bucket_Width.calls 10 25 t103 _ A1.out).mono ?_); rintro e w' ⟨rfl, ⟨nd, rfl⟩⟩; refine ⟨_, rfl, ?_⟩) | (go_at_call 11; (with_reducible refine (bucket_Width.calls 5 5 t104 _ A3.out).mono ?_); rintro e w' ⟨rfl, ⟨nd, rfl⟩⟩) | (go_at_call 15; (with_reducible refine (bucket_Index.calls 10 2 25 t105 _ A5.out).mono ?_); rintro e w' ⟨rfl, ⟨nd, rfl⟩⟩))
        go_ret
        exact ⟨by first | rfl | (simp; done) | (simp [*]; done), by repeat (first | exact Drawn0.refl _ | apply Drawn0.step)⟩
    · rw [if_neg c4] at H
      have c4b0 : (t104 == 1) = false := beq_eq_false_iff_ne.mpr c4
      have c4b1 : (t104 != 1) = true := bne_iff_ne.mpr c4
      obtain rfl := Option.some.inj H
      go_enter Try.func8, Try.ntmps8
      go_wp2_with (first | ((with_reducible refine gate_callee (f := 11) rfl ?_); refine goesL_ (some 1) rfl rfl Try.func11 (by kernel_rfl) rfl #[.int .i64 10, .int .i64 25] rfl (by (try simp only [List.map_toArray, List.map_cons, List.map_nil]); first | done | rfl | (simp only [List.length_drop, List.length_take]; rfl)) ?_; (with_reducible refine (bucket_Width.calls 10 25 t103 _ A1.out).mono ?_); rintro e w' ⟨rfl, ⟨nd, rfl⟩⟩; refine ⟨_, rfl, ?_⟩) | (go_at_call 11; (with_reducible refine (bucket_Width.calls 5 5 t104 _ A3.out).mono ?_); rintro e w' ⟨rfl, ⟨nd, rfl⟩⟩))
      go_ret
      exact ⟨by first | rfl | (simp; done) | (simp [*]; done), by repeat (first | exact Drawn0.refl _ | apply Drawn0.step)⟩
  · rw [if_neg c2] at H
    have c2b0 : (t103 == 2) = false := beq_eq_false_iff_ne.mpr c2
    have c2b1 : (t103 != 2) = true := bne_iff_ne.mpr c2
    obtain rfl := Option.some.inj H
    go_enter Try.func8, Try.ntmps8
    go_wp2_with (first | ((with_reducible refine gate_callee (f := 11) rfl ?_); refine goesL_ (some 1) rfl rfl Try.func11 (by kernel_rfl) rfl #[.int .i64 10, .int .i64 25] rfl (by (try simp only [List.map_toArray, List.map_cons, List.map_nil]); first | done | rfl | (simp only [List.length_drop, List.length_take]; rfl)) ?_; (with_reducible refine (bucket_Width.calls 10 25 t103 _ A1.out).mono ?_); rintro e w' ⟨rfl, ⟨nd, rfl⟩⟩; refine ⟨_, rfl, ?_⟩))
    go_ret
    exact ⟨by first | rfl | (simp; done) | (simp [*]; done), by repeat (first | exact Drawn0.refl _ | apply Drawn0.step)⟩

/-! ### ropeladderlaw06_Time: function 9 -/
def ropeladderlaw06_Time.f (a0 : Int) : Option (Int) := some (wrap64 (Int.tmod a0 1152921504606846977))
set_option maxHeartbeats 8000000 in
set_option maxRecDepth 100000 in
theorem ropeladderlaw06_Time.calls (a0 : Int) (r : Int) (w : World) (h : ropeladderlaw06_Time.f a0 = some r) :
    Calls Try.prog 9 #[.int .u64 a0] w fun e w' => e = .returned (.int .i64 r) ∧ Drawn0 w w' := by
  have H : (some (wrap64 (Int.tmod a0 1152921504606846977))) = some r := h
  clear h
  obtain rfl := Option.some.inj H
  go_enter Try.func9, Try.ntmps9
  go_wp2
  go_ret
  exact ⟨by first | rfl | (simp; done) | (simp [*]; done), by repeat (first | exact Drawn0.refl _ | apply Drawn0.step)⟩

/-! ### ropeladderlaw06_Span: function 10 -/
def ropeladderlaw06_Span.f (a0 : Int) : Option (Int) := some (wrap64 ((wrap64 (Int.tmod a0 144115188075855873)) + 1))
set_option maxHeartbeats 8000000 in
set_option maxRecDepth 100000 in
theorem ropeladderlaw06_Span.calls (a0 : Int) (r : Int) (w : World) (h : ropeladderlaw06_Span.f a0 = some r) :
    Calls Try.prog 10 #[.int .u64 a0] w fun e w' => e = .returned (.int .i64 r) ∧ Drawn0 w w' := by
  have H : (some (wrap64 ((wrap64 (Int.tmod a0 144115188075855873)) + 1))) = some r := h
  clear h
  obtain rfl := Option.some.inj H
  go_enter Try.func10, Try.ntmps10
  go_wp2
  go_ret
  exact ⟨by first | rfl | (simp; done) | (simp [*]; done), by repeat (first | exact Drawn0.refl _ | apply Drawn0.step)⟩

/-! ### ropeladderref06_Width: function 12 -/
def ropeladderref06_Width.f (a0 : Int) (a1 : Int) : Option (Int) := some (wrap64 ((wrap64 (Int.tdiv (wrap64 (a1 - a0)) 8)) + 1))
set_option maxHeartbeats 8000000 in
set_option maxRecDepth 100000 in
theorem ropeladderref06_Width.calls (a0 : Int) (a1 : Int) (r : Int) (w : World) (h : ropeladderref06_Width.f a0 a1 = some r) :
    Calls Try.prog 12 #[.int .i64 a0, .int .i64 a1] w fun e w' => e = .returned (.int .i64 r) ∧ Drawn0 w w' := by
  have H : (some (wrap64 ((wrap64 (Int.tdiv (wrap64 (a1 - a0)) 8)) + 1))) = some r := h
  clear h
  obtain rfl := Option.some.inj H
  go_enter Try.func12, Try.ntmps12
  go_wp2
  go_ret
  exact ⟨by first | rfl | (simp; done) | (simp [*]; done), by repeat (first | exact Drawn0.refl _ | apply Drawn0.step)⟩

/-! ### ropeladderref06_Narrow: function 14 -/
def ropeladderref06_Narrow.f (a0 : Int) : Option (Int) := some (wrap64 (Int.tdiv (wrap64 (a0 + 7)) 8))
set_option maxHeartbeats 8000000 in
set_option maxRecDepth 100000 in
theorem ropeladderref06_Narrow.calls (a0 : Int) (r : Int) (w : World) (h : ropeladderref06_Narrow.f a0 = some r) :
    Calls Try.prog 14 #[.int .i64 a0] w fun e w' => e = .returned (.int .i64 r) ∧ Drawn0 w w' := by
  have H : (some (wrap64 (Int.tdiv (wrap64 (a0 + 7)) 8))) = some r := h
  clear h
  obtain rfl := Option.some.inj H
  go_enter Try.func14, Try.ntmps14
  go_wp2
  go_ret
  exact ⟨by first | rfl | (simp; done) | (simp [*]; done), by repeat (first | exact Drawn0.refl _ | apply Drawn0.step)⟩

/-! ### ropeladderref06_Index: function 16 -/
def ropeladderref06_Index.f (a0 : Int) (a1 : Int) (a2 : Int) : Option (Int) := if a1 = 0 then (none) else (some (wrap64 (Int.tdiv (wrap64 (a2 - a0)) a1)))
set_option maxHeartbeats 8000000 in
set_option maxRecDepth 100000 in
theorem ropeladderref06_Index.calls (a0 : Int) (a1 : Int) (a2 : Int) (r : Int) (w : World) (h : ropeladderref06_Index.f a0 a1 a2 = some r) :
    Calls Try.prog 16 #[.int .i64 a0, .int .i64 a1, .int .i64 a2] w fun e w' => e = .returned (.int .i64 r) ∧ Drawn0 w w' := by
  have H : (if a1 = 0 then (none) else (some (wrap64 (Int.tdiv (wrap64 (a2 - a0)) a1)))) = some r := h
  clear h
  by_cases c4 : a1 = 0
  · rw [if_pos c4] at H
    exact absurd H (by simp)
  · rw [if_neg c4] at H
    have c4b0 : (a1 == 0) = false := beq_eq_false_iff_ne.mpr c4
    have c4b1 : (a1 != 0) = true := bne_iff_ne.mpr c4
    obtain rfl := Option.some.inj H
    go_enter Try.func16, Try.ntmps16
    go_wp2
    go_ret
    exact ⟨by first | rfl | (simp; done) | (simp [*]; done), by repeat (first | exact Drawn0.refl _ | apply Drawn0.step)⟩

/-! ### ropeladderref06_Start: function 18 -/
def ropeladderref06_Start.f (a0 : Int) (a1 : Int) (a2 : Int) : Option (Int) := some (wrap64 (a0 + (wrap64 (a2 * a1))))
set_option maxHeartbeats 8000000 in
set_option maxRecDepth 100000 in
theorem ropeladderref06_Start.calls (a0 : Int) (a1 : Int) (a2 : Int) (r : Int) (w : World) (h : ropeladderref06_Start.f a0 a1 a2 = some r) :
    Calls Try.prog 18 #[.int .i64 a0, .int .i64 a1, .int .i64 a2] w fun e w' => e = .returned (.int .i64 r) ∧ Drawn0 w w' := by
  have H : (some (wrap64 (a0 + (wrap64 (a2 * a1))))) = some r := h
  clear h
  obtain rfl := Option.some.inj H
  go_enter Try.func18, Try.ntmps18
  go_wp2
  go_ret
  exact ⟨by first | rfl | (simp; done) | (simp [*]; done), by repeat (first | exact Drawn0.refl _ | apply Drawn0.step)⟩

/-! ### ropeladderlaw06_BucketMatchesReference: function 3 -/
def ropeladderlaw06_BucketMatchesReference.f (a0 : Int) (a1 : Int) (a2 : Int) (a3 : Int) : Option (Bool) := (ropeladderlaw06_head.f).bind fun t110 => ((ropeladderlaw06_Time.f a0).bind fun t111 => ((ropeladderlaw06_Time.f a1).bind fun t112 => ((ropeladderlaw06_Time.f a0).bind fun t113 => ((ropeladderlaw06_Time.f a1).bind fun t114 => ((ropeladderlaw06_Span.f a2).bind fun t115 => (if t110 = true then ((bucket_Width.f (mn t111 t112) (mx t113 t114)).bind fun t116 => ((ropeladderref06_Width.f (mn t111 t112) (mx t113 t114)).bind fun t117 => (if t116 = t117 then ((bucket_Narrow.f t115).bind fun t118 => ((ropeladderref06_Narrow.f t115).bind fun t119 => (if t118 = t119 then ((bucket_Index.f (mn t111 t112) t115 (mx t113 t114)).bind fun t120 => ((ropeladderref06_Index.f (mn t111 t112) t115 (mx t113 t114)).bind fun t121 => (if t120 = t121 then ((bucket_Start.f (mn t111 t112) (wrap64 ((wrap64 (Int.tdiv t115 8)) + 1)) (Int.tmod (wrap64 (a3)) 9)).bind fun t122 => ((ropeladderref06_Start.f (mn t111 t112) (wrap64 ((wrap64 (Int.tdiv t115 8)) + 1)) (Int.tmod (wrap64 (a3)) 9)).bind fun t123 => (some (t122 == t123)))) else (some false)))) else (some false)))) else (some false)))) else (some false)))))))
set_option maxHeartbeats 8000000 in
set_option maxRecDepth 100000 in
theorem ropeladderlaw06_BucketMatchesReference.calls (a0 : Int) (a1 : Int) (a2 : Int) (a3 : Int) (r : Bool) (w : World) (h : ropeladderlaw06_BucketMatchesReference.f a0 a1 a2 a3 = some r) :
    Calls Try.prog 3 #[.int .u64 a0, .int .u64 a1, .int .u64 a2, .int .u8 a3] w fun e w' => e = .returned (.bool r) ∧ Below w.heap.size w w' := by
  have HB := Aside0.mk (Below.refl w.heap.size w)
  have H : ((ropeladderlaw06_head.f).bind fun t110 => ((ropeladderlaw06_Time.f a0).bind fun t111 => ((ropeladderlaw06_Time.f a1).bind fun t112 => ((ropeladderlaw06_Time.f a0).bind fun t113 => ((ropeladderlaw06_Time.f a1).bind fun t114 => ((ropeladderlaw06_Span.f a2).bind fun t115 => (if t110 = true then ((bucket_Width.f (mn t111 t112) (mx t113 t114)).bind fun t116 => ((ropeladderref06_Width.f (mn t111 t112) (mx t113 t114)).bind fun t117 => (if t116 = t117 then ((bucket_Narrow.f t115).bind fun t118 => ((ropeladderref06_Narrow.f t115).bind fun t119 => (if t118 = t119 then ((bucket_Index.f (mn t111 t112) t115 (mx t113 t114)).bind fun t120 => ((ropeladderref06_Index.f (mn t111 t112) t115 (mx t113 t114)).bind fun t121 => (if t120 = t121 then ((bucket_Start.f (mn t111 t112) (wrap64 ((wrap64 (Int.tdiv t115 8)) + 1)) (Int.tmod (wrap64 (a3)) 9)).bind fun t122 => ((ropeladderref06_Start.f (mn t111 t112) (wrap64 ((wrap64 (Int.tdiv t115 8)) + 1)) (Int.tmod (wrap64 (a3)) 9)).bind fun t123 => (some (t122 == t123)))) else (some false)))) else (some false)))) else (some false)))) else (some false)))))))) = some r := h
  clear h
  replace H := Option.bind_eq_some_iff.mp H
  obtain ⟨t110, A50, H⟩ := H
  replace H : ((ropeladderlaw06_Time.f a0).bind fun t111 => ((ropeladderlaw06_Time.f a1).bind fun t112 => ((ropeladderlaw06_Time.f a0).bind fun t113 => ((ropeladderlaw06_Time.f a1).bind fun t114 => ((ropeladderlaw06_Span.f a2).bind fun t115 => (if t110 = true then ((bucket_Width.f (mn t111 t112) (mx t113 t114)).bind fun t116 => ((ropeladderref06_Width.f (mn t111 t112) (mx t113 t114)).bind fun t117 => (if t116 = t117 then ((bucket_Narrow.f t115).bind fun t118 => ((ropeladderref06_Narrow.f t115).bind fun t119 => (if t118 = t119 then ((bucket_Index.f (mn t111 t112) t115 (mx t113 t114)).bind fun t120 => ((ropeladderref06_Index.f (mn t111 t112) t115 (mx t113 t114)).bind fun t121 => (if t120 = t121 then ((bucket_Start.f (mn t111 t112) (wrap64 ((wrap64 (Int.tdiv t115 8)) + 1)) (Int.tmod (wrap64 (a3)) 9)).bind fun t122 => ((ropeladderref06_Start.f (mn t111 t112) (wrap64 ((wrap64 (Int.tdiv t115 8)) + 1)) (Int.tmod (wrap64 (a3)) 9)).bind fun t123 => (some (t122 == t123)))) else (some false)))) else (some false)))) else (some false)))) else (some false))))))) = some r := H
  have A5 := Aside0.mk A50
  clear A50
  replace H := Option.bind_eq_some_iff.mp H
  obtain ⟨t111, A60, H⟩ := H
  replace H : ((ropeladderlaw06_Time.f a1).bind fun t112 => ((ropeladderlaw06_Time.f a0).bind fun t113 => ((ropeladderlaw06_Time.f a1).bind fun t114 => ((ropeladderlaw06_Span.f a2).bind fun t115 => (if t110 = true then ((bucket_Width.f (mn t111 t112) (mx t113 t114)).bind fun t116 => ((ropeladderref06_Width.f (mn t111 t112) (mx t113 t114)).bind fun t117 => (if t116 = t117 then ((bucket_Narrow.f t115).bind fun t118 => ((ropeladderref06_Narrow.f t115).bind fun t119 => (if t118 = t119 then ((bucket_Index.f (mn t111 t112) t115 (mx t113 t114)).bind fun t120 => ((ropeladderref06_Index.f (mn t111 t112) t115 (mx t113 t114)).bind fun t121 => (if t120 = t121 then ((bucket_Start.f (mn t111 t112) (wrap64 ((wrap64 (Int.tdiv t115 8)) + 1)) (Int.tmod (wrap64 (a3)) 9)).bind fun t122 => ((ropeladderref06_Start.f (mn t111 t112) (wrap64 ((wrap64 (Int.tdiv t115 8)) + 1)) (Int.tmod (wrap64 (a3)) 9)).bind fun t123 => (some (t122 == t123)))) else (some false)))) else (some false)))) else (some false)))) else (some false)))))) = some r := H
  have A6 := Aside0.mk A60
  clear A60
  replace H := Option.bind_eq_some_iff.mp H
  obtain ⟨t112, A70, H⟩ := H
  replace H : ((ropeladderlaw06_Time.f a0).bind fun t113 => ((ropeladderlaw06_Time.f a1).bind fun t114 => ((ropeladderlaw06_Span.f a2).bind fun t115 => (if t110 = true then ((bucket_Width.f (mn t111 t112) (mx t113 t114)).bind fun t116 => ((ropeladderref06_Width.f (mn t111 t112) (mx t113 t114)).bind fun t117 => (if t116 = t117 then ((bucket_Narrow.f t115).bind fun t118 => ((ropeladderref06_Narrow.f t115).bind fun t119 => (if t118 = t119 then ((bucket_Index.f (mn t111 t112) t115 (mx t113 t114)).bind fun t120 => ((ropeladderref06_Index.f (mn t111 t112) t115 (mx t113 t114)).bind fun t121 => (if t120 = t121 then ((bucket_Start.f (mn t111 t112) (wrap64 ((wrap64 (Int.tdiv t115 8)) + 1)) (Int.tmod (wrap64 (a3)) 9)).bind fun t122 => ((ropeladderref06_Start.f (mn t111 t112) (wrap64 ((wrap64 (Int.tdiv t115 8)) + 1)) (Int.tmod (wrap64 (a3)) 9)).bind fun t123 => (some (t122 == t123)))) else (some false)))) else (some false)))) else (some false)))) else (some false))))) = some r := H
  have A7 := Aside0.mk A70
  clear A70
  obtain ⟨ji8, hji8⟩ : ∃ j_ : Int, (mn t111 t112) = j_ := ⟨_, rfl⟩
  replace H : ((ropeladderlaw06_Time.f a0).bind fun t113 => ((ropeladderlaw06_Time.f a1).bind fun t114 => ((ropeladderlaw06_Span.f a2).bind fun t115 => (if t110 = true then ((bucket_Width.f (ji8) (mx t113 t114)).bind fun t116 => ((ropeladderref06_Width.f (ji8) (mx t113 t114)).bind fun t117 => (if t116 = t117 then ((bucket_Narrow.f t115).bind fun t118 => ((ropeladderref06_Narrow.f t115).bind fun t119 => (if t118 = t119 then ((bucket_Index.f (ji8) t115 (mx t113 t114)).bind fun t120 => ((ropeladderref06_Index.f (ji8) t115 (mx t113 t114)).bind fun t121 => (if t120 = t121 then ((bucket_Start.f (ji8) (wrap64 ((wrap64 (Int.tdiv t115 8)) + 1)) (Int.tmod (wrap64 (a3)) 9)).bind fun t122 => ((ropeladderref06_Start.f (ji8) (wrap64 ((wrap64 (Int.tdiv t115 8)) + 1)) (Int.tmod (wrap64 (a3)) 9)).bind fun t123 => (some (t122 == t123)))) else (some false)))) else (some false)))) else (some false)))) else (some false))))) = some r := by first | (rw [hji8] at H; exact H) | (simp only [hji8] at H ⊢; exact H)
  (try rw [hji8] at A5)
  (try rw [hji8] at A6)
  (try rw [hji8] at A7)
  have hji8_ : (if t112 < t111 then t112 else t111) = ji8 := hji8
  replace H := Option.bind_eq_some_iff.mp H
  obtain ⟨t113, A90, H⟩ := H
  replace H : ((ropeladderlaw06_Time.f a1).bind fun t114 => ((ropeladderlaw06_Span.f a2).bind fun t115 => (if t110 = true then ((bucket_Width.f (ji8) (mx t113 t114)).bind fun t116 => ((ropeladderref06_Width.f (ji8) (mx t113 t114)).bind fun t117 => (if t116 = t117 then ((bucket_Narrow.f t115).bind fun t118 => ((ropeladderref06_Narrow.f t115).bind fun t119 => (if t118 = t119 then ((bucket_Index.f (ji8) t115 (mx t113 t114)).bind fun t120 => ((ropeladderref06_Index.f (ji8) t115 (mx t113 t114)).bind fun t121 => (if t120 = t121 then ((bucket_Start.f (ji8) (wrap64 ((wrap64 (Int.tdiv t115 8)) + 1)) (Int.tmod (wrap64 (a3)) 9)).bind fun t122 => ((ropeladderref06_Start.f (ji8) (wrap64 ((wrap64 (Int.tdiv t115 8)) + 1)) (Int.tmod (wrap64 (a3)) 9)).bind fun t123 => (some (t122 == t123)))) else (some false)))) else (some false)))) else (some false)))) else (some false)))) = some r := H
  have A9 := Aside0.mk A90
  clear A90
  replace H := Option.bind_eq_some_iff.mp H
  obtain ⟨t114, A100, H⟩ := H
  replace H : ((ropeladderlaw06_Span.f a2).bind fun t115 => (if t110 = true then ((bucket_Width.f (ji8) (mx t113 t114)).bind fun t116 => ((ropeladderref06_Width.f (ji8) (mx t113 t114)).bind fun t117 => (if t116 = t117 then ((bucket_Narrow.f t115).bind fun t118 => ((ropeladderref06_Narrow.f t115).bind fun t119 => (if t118 = t119 then ((bucket_Index.f (ji8) t115 (mx t113 t114)).bind fun t120 => ((ropeladderref06_Index.f (ji8) t115 (mx t113 t114)).bind fun t121 => (if t120 = t121 then ((bucket_Start.f (ji8) (wrap64 ((wrap64 (Int.tdiv t115 8)) + 1)) (Int.tmod (wrap64 (a3)) 9)).bind fun t122 => ((ropeladderref06_Start.f (ji8) (wrap64 ((wrap64 (Int.tdiv t115 8)) + 1)) (Int.tmod (wrap64 (a3)) 9)).bind fun t123 => (some (t122 == t123)))) else (some false)))) else (some false)))) else (some false)))) else (some false))) = some r := H
  have A10 := Aside0.mk A100
  clear A100
  obtain ⟨ji11, hji11⟩ : ∃ j_ : Int, (mx t113 t114) = j_ := ⟨_, rfl⟩
  replace H : ((ropeladderlaw06_Span.f a2).bind fun t115 => (if t110 = true then ((bucket_Width.f (ji8) (ji11)).bind fun t116 => ((ropeladderref06_Width.f (ji8) (ji11)).bind fun t117 => (if t116 = t117 then ((bucket_Narrow.f t115).bind fun t118 => ((ropeladderref06_Narrow.f t115).bind fun t119 => (if t118 = t119 then ((bucket_Index.f (ji8) t115 (ji11)).bind fun t120 => ((ropeladderref06_Index.f (ji8) t115 (ji11)).bind fun t121 => (if t120 = t121 then ((bucket_Start.f (ji8) (wrap64 ((wrap64 (Int.tdiv t115 8)) + 1)) (Int.tmod (wrap64 (a3)) 9)).bind fun t122 => ((ropeladderref06_Start.f (ji8) (wrap64 ((wrap64 (Int.tdiv t115 8)) + 1)) (Int.tmod (wrap64 (a3)) 9)).bind fun t123 => (some (t122 == t123)))) else (some false)))) else (some false)))) else (some false)))) else (some false))) = some r := by first | (rw [hji11] at H; exact H) | (simp only [hji11] at H ⊢; exact H)
  (try rw [hji11] at A5)
  (try rw [hji11] at A6)
  (try rw [hji11] at A7)
  (try rw [hji11] at A9)
  (try rw [hji11] at A10)
  have hji11_ : (if t113 < t114 then t114 else t113) = ji11 := hji11
  replace H := Option.bind_eq_some_iff.mp H
  obtain ⟨t115, A120, H⟩ := H
  replace H : (if t110 = true then ((bucket_Width.f (ji8) (ji11)).bind fun t116 => ((ropeladderref06_Width.f (ji8) (ji11)).bind fun t117 => (if t116 = t117 then ((bucket_Narrow.f t115).bind fun t118 => ((ropeladderref06_Narrow.f t115).bind fun t119 => (if t118 = t119 then ((bucket_Index.f (ji8) t115 (ji11)).bind fun t120 => ((ropeladderref06_Index.f (ji8) t115 (ji11)).bind fun t121 => (if t120 = t121 then ((bucket_Start.f (ji8) (wrap64 ((wrap64 (Int.tdiv t115 8)) + 1)) (Int.tmod (wrap64 (a3)) 9)).bind fun t122 => ((ropeladderref06_Start.f (ji8) (wrap64 ((wrap64 (Int.tdiv t115 8)) + 1)) (Int.tmod (wrap64 (a3)) 9)).bind fun t123 => (some (t122 == t123)))) else (some false)))) else (some false)))) else (some false)))) else (some false)) = some r := H
  have A12 := Aside0.mk A120
  clear A120
  by_cases c13 : t110 = true
  · subst c13
    have H1 : ((bucket_Width.f (ji8) (ji11)).bind fun t116 => ((ropeladderref06_Width.f (ji8) (ji11)).bind fun t117 => (if t116 = t117 then ((bucket_Narrow.f t115).bind fun t118 => ((ropeladderref06_Narrow.f t115).bind fun t119 => (if t118 = t119 then ((bucket_Index.f (ji8) t115 (ji11)).bind fun t120 => ((ropeladderref06_Index.f (ji8) t115 (ji11)).bind fun t121 => (if t120 = t121 then ((bucket_Start.f (ji8) (wrap64 ((wrap64 (Int.tdiv t115 8)) + 1)) (Int.tmod (wrap64 (a3)) 9)).bind fun t122 => ((ropeladderref06_Start.f (ji8) (wrap64 ((wrap64 (Int.tdiv t115 8)) + 1)) (Int.tmod (wrap64 (a3)) 9)).bind fun t123 => (some (t122 == t123)))) else (some false)))) else (some false)))) else (some false)))) = some r := by rw [if_pos rfl] at H; exact H
    clear H
    have H := H1
    clear H1
    replace H := Option.bind_eq_some_iff.mp H
    obtain ⟨t116, A140, H⟩ := H
    replace H : ((ropeladderref06_Width.f (ji8) (ji11)).bind fun t117 => (if t116 = t117 then ((bucket_Narrow.f t115).bind fun t118 => ((ropeladderref06_Narrow.f t115).bind fun t119 => (if t118 = t119 then ((bucket_Index.f (ji8) t115 (ji11)).bind fun t120 => ((ropeladderref06_Index.f (ji8) t115 (ji11)).bind fun t121 => (if t120 = t121 then ((bucket_Start.f (ji8) (wrap64 ((wrap64 (Int.tdiv t115 8)) + 1)) (Int.tmod (wrap64 (a3)) 9)).bind fun t122 => ((ropeladderref06_Start.f (ji8) (wrap64 ((wrap64 (Int.tdiv t115 8)) + 1)) (Int.tmod (wrap64 (a3)) 9)).bind fun t123 => (some (t122 == t123)))) else (some false)))) else (some false)))) else (some false))) = some r := H
    have A14 := Aside0.mk A140
    clear A140
    replace H := Option.bind_eq_some_iff.mp H
    obtain ⟨t117, A150, H⟩ := H
    replace H : (if t116 = t117 then ((bucket_Narrow.f t115).bind fun t118 => ((ropeladderref06_Narrow.f t115).bind fun t119 => (if t118 = t119 then ((bucket_Index.f (ji8) t115 (ji11)).bind fun t120 => ((ropeladderref06_Index.f (ji8) t115 (ji11)).bind fun t121 => (if t120 = t121 then ((bucket_Start.f (ji8) (wrap64 ((wrap64 (Int.tdiv t115 8)) + 1)) (Int.tmod (wrap64 (a3)) 9)).bind fun t122 => ((ropeladderref06_Start.f (ji8) (wrap64 ((wrap64 (Int.tdiv t115 8)) + 1)) (Int.tmod (wrap64 (a3)) 9)).bind fun t123 => (some (t122 == t123)))) else (some false)))) else (some false)))) else (some false)) = some r := H
    have A15 := Aside0.mk A150
    clear A150
    by_cases c16 : t116 = t117
    · rw [if_pos c16] at H
      have c16b0 : (t116 == t117) = true := beq_iff_eq.mpr c16
      have c16b1 : (t116 != t117) = false := bne_eq_false_iff_eq.mpr c16
      clear c16
      replace H := Option.bind_eq_some_iff.mp H
      obtain ⟨t118, A170, H⟩ := H
      replace H : ((ropeladderref06_Narrow.f t115).bind fun t119 => (if t118 = t119 then ((bucket_Index.f (ji8) t115 (ji11)).bind fun t120 => ((ropeladderref06_Index.f (ji8) t115 (ji11)).bind fun t121 => (if t120 = t121 then ((bucket_Start.f (ji8) (wrap64 ((wrap64 (Int.tdiv t115 8)) + 1)) (Int.tmod (wrap64 (a3)) 9)).bind fun t122 => ((ropeladderref06_Start.f (ji8) (wrap64 ((wrap64 (Int.tdiv t115 8)) + 1)) (Int.tmod (wrap64 (a3)) 9)).bind fun t123 => (some (t122 == t123)))) else (some false)))) else (some false))) = some r := H
      have A17 := Aside0.mk A170
      clear A170
      replace H := Option.bind_eq_some_iff.mp H
      obtain ⟨t119, A180, H⟩ := H
      replace H : (if t118 = t119 then ((bucket_Index.f (ji8) t115 (ji11)).bind fun t120 => ((ropeladderref06_Index.f (ji8) t115 (ji11)).bind fun t121 => (if t120 = t121 then ((bucket_Start.f (ji8) (wrap64 ((wrap64 (Int.tdiv t115 8)) + 1)) (Int.tmod (wrap64 (a3)) 9)).bind fun t122 => ((ropeladderref06_Start.f (ji8) (wrap64 ((wrap64 (Int.tdiv t115 8)) + 1)) (Int.tmod (wrap64 (a3)) 9)).bind fun t123 => (some (t122 == t123)))) else (some false)))) else (some false)) = some r := H
      have A18 := Aside0.mk A180
      clear A180
      by_cases c19 : t118 = t119
      · rw [if_pos c19] at H
        have c19b0 : (t118 == t119) = true := beq_iff_eq.mpr c19
        have c19b1 : (t118 != t119) = false := bne_eq_false_iff_eq.mpr c19
        clear c19
        replace H := Option.bind_eq_some_iff.mp H
        obtain ⟨t120, A200, H⟩ := H
        replace H : ((ropeladderref06_Index.f (ji8) t115 (ji11)).bind fun t121 => (if t120 = t121 then ((bucket_Start.f (ji8) (wrap64 ((wrap64 (Int.tdiv t115 8)) + 1)) (Int.tmod (wrap64 (a3)) 9)).bind fun t122 => ((ropeladderref06_Start.f (ji8) (wrap64 ((wrap64 (Int.tdiv t115 8)) + 1)) (Int.tmod (wrap64 (a3)) 9)).bind fun t123 => (some (t122 == t123)))) else (some false))) = some r := H
        have A20 := Aside0.mk A200
        clear A200
        replace H := Option.bind_eq_some_iff.mp H
        obtain ⟨t121, A210, H⟩ := H
        replace H : (if t120 = t121 then ((bucket_Start.f (ji8) (wrap64 ((wrap64 (Int.tdiv t115 8)) + 1)) (Int.tmod (wrap64 (a3)) 9)).bind fun t122 => ((ropeladderref06_Start.f (ji8) (wrap64 ((wrap64 (Int.tdiv t115 8)) + 1)) (Int.tmod (wrap64 (a3)) 9)).bind fun t123 => (some (t122 == t123)))) else (some false)) = some r := H
        have A21 := Aside0.mk A210
        clear A210
        by_cases c22 : t120 = t121
        · rw [if_pos c22] at H
          have c22b0 : (t120 == t121) = true := beq_iff_eq.mpr c22
          have c22b1 : (t120 != t121) = false := bne_eq_false_iff_eq.mpr c22
          clear c22
          replace H := Option.bind_eq_some_iff.mp H
          obtain ⟨t122, A230, H⟩ := H
          replace H : ((ropeladderref06_Start.f (ji8) (wrap64 ((wrap64 (Int.tdiv t115 8)) + 1)) (Int.tmod (wrap64 (a3)) 9)).bind fun t123 => (some (t122 == t123))) = some r := H
          have A23 := Aside0.mk A230
          clear A230
          replace H := Option.bind_eq_some_iff.mp H
          obtain ⟨t123, A240, H⟩ := H
          replace H : (some (t122 == t123)) = some r := H
          have A24 := Aside0.mk A240
          clear A240
          obtain rfl := Option.some.inj H
          go_enter Try.func3, Try.ntmps3
          go_wp2_with (first | ((with_reducible refine gate_callee (f := 8) rfl ?_); refine goesL_ (some 13) rfl rfl Try.func8 (by kernel_rfl) rfl #[] rfl (by (try simp only [List.map_toArray, List.map_cons, List.map_nil]); first | done | rfl | (simp only [List.length_drop, List.length_take]; rfl)) ?_; (with_reducible refine (ropeladderlaw06_head.calls  true _ A5.out).mono ?_); rintro e w' ⟨rfl, ⟨nd, rfl⟩⟩; refine ⟨_, rfl, ?_⟩) | ((with_reducible refine gate_callee (f := 9) rfl ?_); refine goesL_ (some 15) rfl rfl Try.func9 (by kernel_rfl) rfl #[.int .u64 a0] rfl (by (try simp only [List.map_toArray, List.map_cons, List.map_nil]); first | done | rfl | (simp only [List.length_drop, List.length_take]; rfl)) ?_; (with_reducible refine (ropeladderlaw06_Time.calls a0 t111 _ A6.out).mono ?_); rintro e w' ⟨rfl, ⟨nd, rfl⟩⟩; refine ⟨_, rfl, ?_⟩) | ((with_reducible refine gate_callee (f := 9) rfl ?_); refine goesL_ (some 17) rfl rfl Try.func9 (by kernel_rfl) rfl #[.int .u64 a1] rfl (by (try simp only [List.map_toArray, List.map_cons, List.map_nil]); first | done | rfl | (simp only [List.length_drop, List.length_take]; rfl)) ?_; (with_reducible refine (ropeladderlaw06_Time.calls a1 t112 _ A7.out).mono ?_); rintro e w' ⟨rfl, ⟨nd, rfl⟩⟩; refine ⟨_, rfl, ?_⟩) | ((with_reducible refine gate_callee (f := 9) rfl ?_); refine goesL_ (some 20) rfl rfl Try.func9 (by kernel_rfl) rfl #[.int .u64 a0] rfl (by (try simp only [List.map_toArray, List.map_cons, List.map_nil]); first | done | rfl | (simp only [List.length_drop, List.length_take]; rfl)) ?_; (with_reducible refine (ropeladderlaw06_Time.calls a0 t113 _ A9.out).mono ?_); rintro e w' ⟨rfl, ⟨nd, rfl⟩⟩; refine ⟨_, rfl, ?_⟩) | ((with_reducible refine gate_callee (f := 9) rfl ?_); refine goesL_ (some 22) rfl rfl Try.func9 (by kernel_rfl) rfl #[.int .u64 a1] rfl (by (try simp only [List.map_toArray, List.map_cons, List.map_nil]); first | done | rfl | (simp only [List.length_drop, List.length_take]; rfl)) ?_; (with_reducible refine (ropeladderlaw06_Time.calls a1 t114 _ A10.out).mono ?_); rintro e w' ⟨rfl, ⟨nd, rfl⟩⟩; refine ⟨_, rfl, ?_⟩) | ((with_reducible refine gate_callee (f := 10) rfl ?_); refine goesL_ (some 25) rfl rfl Try.func10 (by kernel_rfl) rfl #[.int .u64 a2] rfl (by (try simp only [List.map_toArray, List.map_cons, List.map_nil]); first | done | rfl | (simp only [List.length_drop, List.length_take]; rfl)) ?_; (with_reducible refine (ropeladderlaw06_Span.calls a2 t115 _ A12.out).mono ?_); rintro e w' ⟨rfl, ⟨nd, rfl⟩⟩; refine ⟨_, rfl, ?_⟩) | (go_at_call 11; (with_reducible refine (bucket_Width.calls ji8 ji11 t116 _ A14.out).mono ?_); rintro e w' ⟨rfl, ⟨nd, rfl⟩⟩) | (go_at_call 12; (with_reducible refine (ropeladderref06_Width.calls ji8 ji11 t117 _ A15.out).mono ?_); rintro e w' ⟨rfl, ⟨nd, rfl⟩⟩) | (go_at_call 13; (with_reducible refine (bucket_Narrow.calls t115 t118 _ A17.out).mono ?_); rintro e w' ⟨rfl, ⟨nd, rfl⟩⟩) | (go_at_call 14; (with_reducible refine (ropeladderref06_Narrow.calls t115 t119 _ A18.out).mono ?_); rintro e w' ⟨rfl, ⟨nd, rfl⟩⟩) | (go_at_call 15; (with_reducible refine (bucket_Index.calls ji8 t115 ji11 t120 _ A20.out).mono ?_); rintro e w' ⟨rfl, ⟨nd, rfl⟩⟩) | (go_at_call 16; (with_reducible refine (ropeladderref06_Index.calls ji8 t115 ji11 t121 _ A21.out).mono ?_); rintro e w' ⟨rfl, ⟨nd, rfl⟩⟩) | (go_at_call 17; (with_reducible refine (bucket_Start.calls ji8 (wrap64 ((wrap64 (Int.tdiv t115 8)) + 1)) (Int.tmod (wrap64 (a3)) 9) t122 _ A23.out).mono ?_); rintro e w' ⟨rfl, ⟨nd, rfl⟩⟩) | (go_at_call 18; (with_reducible refine (ropeladderref06_Start.calls ji8 (wrap64 ((wrap64 (Int.tdiv t115 8)) + 1)) (Int.tmod (wrap64 (a3)) 9) t123 _ A24.out).mono ?_); rintro e w' ⟨rfl, ⟨nd, rfl⟩⟩))
          go_ret
          exact ⟨by first | rfl | (simp [errW_none, errW_some] <;> rfl) | (simp only [← hji8, ← hji11]; first | rfl | (simp [errW_none, errW_some] <;> rfl)) | (simp [*, errW_none, errW_some] <;> rfl), by repeat (first | (with_reducible first | exact HB.out | apply below_alloc | apply pw_below_drewN | apply below_drew1) | exact HB.out)⟩
        · rw [if_neg c22] at H
          have c22b0 : (t120 == t121) = false := beq_eq_false_iff_ne.mpr c22
          have c22b1 : (t120 != t121) = true := bne_iff_ne.mpr c22
          obtain rfl := Option.some.inj H
          go_enter Try.func3, Try.ntmps3
          go_wp2_with (first | ((with_reducible refine gate_callee (f := 8) rfl ?_); refine goesL_ (some 13) rfl rfl Try.func8 (by kernel_rfl) rfl #[] rfl (by (try simp only [List.map_toArray, List.map_cons, List.map_nil]); first | done | rfl | (simp only [List.length_drop, List.length_take]; rfl)) ?_; (with_reducible refine (ropeladderlaw06_head.calls  true _ A5.out).mono ?_); rintro e w' ⟨rfl, ⟨nd, rfl⟩⟩; refine ⟨_, rfl, ?_⟩) | ((with_reducible refine gate_callee (f := 9) rfl ?_); refine goesL_ (some 15) rfl rfl Try.func9 (by kernel_rfl) rfl #[.int .u64 a0] rfl (by (try simp only [List.map_toArray, List.map_cons, List.map_nil]); first | done | rfl | (simp only [List.length_drop, List.length_take]; rfl)) ?_; (with_reducible refine (ropeladderlaw06_Time.calls a0 t111 _ A6.out).mono ?_); rintro e w' ⟨rfl, ⟨nd, rfl⟩⟩; refine ⟨_, rfl, ?_⟩) | ((with_reducible refine gate_callee (f := 9) rfl ?_); refine goesL_ (some 17) rfl rfl Try.func9 (by kernel_rfl) rfl #[.int .u64 a1] rfl (by (try simp only [List.map_toArray, List.map_cons, List.map_nil]); first | done | rfl | (simp only [List.length_drop, List.length_take]; rfl)) ?_; (with_reducible refine (ropeladderlaw06_Time.calls a1 t112 _ A7.out).mono ?_); rintro e w' ⟨rfl, ⟨nd, rfl⟩⟩; refine ⟨_, rfl, ?_⟩) | ((with_reducible refine gate_callee (f := 9) rfl ?_); refine goesL_ (some 20) rfl rfl Try.func9 (by kernel_rfl) rfl #[.int .u64 a0] rfl (by (try simp only [List.map_toArray, List.map_cons, List.map_nil]); first | done | rfl | (simp only [List.length_drop, List.length_take]; rfl)) ?_; (with_reducible refine (ropeladderlaw06_Time.calls a0 t113 _ A9.out).mono ?_); rintro e w' ⟨rfl, ⟨nd, rfl⟩⟩; refine ⟨_, rfl, ?_⟩) | ((with_reducible refine gate_callee (f := 9) rfl ?_); refine goesL_ (some 22) rfl rfl Try.func9 (by kernel_rfl) rfl #[.int .u64 a1] rfl (by (try simp only [List.map_toArray, List.map_cons, List.map_nil]); first | done | rfl | (simp only [List.length_drop, List.length_take]; rfl)) ?_; (with_reducible refine (ropeladderlaw06_Time.calls a1 t114 _ A10.out).mono ?_); rintro e w' ⟨rfl, ⟨nd, rfl⟩⟩; refine ⟨_, rfl, ?_⟩) | ((with_reducible refine gate_callee (f := 10) rfl ?_); refine goesL_ (some 25) rfl rfl Try.func10 (by kernel_rfl) rfl #[.int .u64 a2] rfl (by (try simp only [List.map_toArray, List.map_cons, List.map_nil]); first | done | rfl | (simp only [List.length_drop, List.length_take]; rfl)) ?_; (with_reducible refine (ropeladderlaw06_Span.calls a2 t115 _ A12.out).mono ?_); rintro e w' ⟨rfl, ⟨nd, rfl⟩⟩; refine ⟨_, rfl, ?_⟩) | (go_at_call 11; (with_reducible refine (bucket_Width.calls ji8 ji11 t116 _ A14.out).mono ?_); rintro e w' ⟨rfl, ⟨nd, rfl⟩⟩) | (go_at_call 12; (with_reducible refine (ropeladderref06_Width.calls ji8 ji11 t117 _ A15.out).mono ?_); rintro e w' ⟨rfl, ⟨nd, rfl⟩⟩) | (go_at_call 13; (with_reducible refine (bucket_Narrow.calls t115 t118 _ A17.out).mono ?_); rintro e w' ⟨rfl, ⟨nd, rfl⟩⟩) | (go_at_call 14; (with_reducible refine (ropeladderref06_Narrow.calls t115 t119 _ A18.out).mono ?_); rintro e w' ⟨rfl, ⟨nd, rfl⟩⟩) | (go_at_call 15; (with_reducible refine (bucket_Index.calls ji8 t115 ji11 t120 _ A20.out).mono ?_); rintro e w' ⟨rfl, ⟨nd, rfl⟩⟩) | (go_at_call 16; (with_reducible refine (ropeladderref06_Index.calls ji8 t115 ji11 t121 _ A21.out).mono ?_); rintro e w' ⟨rfl, ⟨nd, rfl⟩⟩))
          go_ret
          exact ⟨by first | rfl | (simp [errW_none, errW_some] <;> rfl) | (simp only [← hji8, ← hji11]; first | rfl | (simp [errW_none, errW_some] <;> rfl)) | (simp [*, errW_none, errW_some] <;> rfl), by repeat (first | (with_reducible first | exact HB.out | apply below_alloc | apply pw_below_drewN | apply below_drew1) | exact HB.out)⟩
      · rw [if_neg c19] at H
        have c19b0 : (t118 == t119) = false := beq_eq_false_iff_ne.mpr c19
        have c19b1 : (t118 != t119) = true := bne_iff_ne.mpr c19
        obtain rfl := Option.some.inj H
        go_enter Try.func3, Try.ntmps3
        go_wp2_with (first | ((with_reducible refine gate_callee (f := 8) rfl ?_); refine goesL_ (some 13) rfl rfl Try.func8 (by kernel_rfl) rfl #[] rfl (by (try simp only [List.map_toArray, List.map_cons, List.map_nil]); first | done | rfl | (simp only [List.length_drop, List.length_take]; rfl)) ?_; (with_reducible refine (ropeladderlaw06_head.calls  true _ A5.out).mono ?_); rintro e w' ⟨rfl, ⟨nd, rfl⟩⟩; refine ⟨_, rfl, ?_⟩) | ((with_reducible refine gate_callee (f := 9) rfl ?_); refine goesL_ (some 15) rfl rfl Try.func9 (by kernel_rfl) rfl #[.int .u64 a0] rfl (by (try simp only [List.map_toArray, List.map_cons, List.map_nil]); first | done | rfl | (simp only [List.length_drop, List.length_take]; rfl)) ?_; (with_reducible refine (ropeladderlaw06_Time.calls a0 t111 _ A6.out).mono ?_); rintro e w' ⟨rfl, ⟨nd, rfl⟩⟩; refine ⟨_, rfl, ?_⟩) | ((with_reducible refine gate_callee (f := 9) rfl ?_); refine goesL_ (some 17) rfl rfl Try.func9 (by kernel_rfl) rfl #[.int .u64 a1] rfl (by (try simp only [List.map_toArray, List.map_cons, List.map_nil]); first | done | rfl | (simp only [List.length_drop, List.length_take]; rfl)) ?_; (with_reducible refine (ropeladderlaw06_Time.calls a1 t112 _ A7.out).mono ?_); rintro e w' ⟨rfl, ⟨nd, rfl⟩⟩; refine ⟨_, rfl, ?_⟩) | ((with_reducible refine gate_callee (f := 9) rfl ?_); refine goesL_ (some 20) rfl rfl Try.func9 (by kernel_rfl) rfl #[.int .u64 a0] rfl (by (try simp only [List.map_toArray, List.map_cons, List.map_nil]); first | done | rfl | (simp only [List.length_drop, List.length_take]; rfl)) ?_; (with_reducible refine (ropeladderlaw06_Time.calls a0 t113 _ A9.out).mono ?_); rintro e w' ⟨rfl, ⟨nd, rfl⟩⟩; refine ⟨_, rfl, ?_⟩) | ((with_reducible refine gate_callee (f := 9) rfl ?_); refine goesL_ (some 22) rfl rfl Try.func9 (by kernel_rfl) rfl #[.int .u64 a1] rfl (by (try simp only [List.map_toArray, List.map_cons, List.map_nil]); first | done | rfl | (simp only [List.length_drop, List.length_take]; rfl)) ?_; (with_reducible refine (ropeladderlaw06_Time.calls a1 t114 _ A10.out).mono ?_); rintro e w' ⟨rfl, ⟨nd, rfl⟩⟩; refine ⟨_, rfl, ?_⟩) | ((with_reducible refine gate_callee (f := 10) rfl ?_); refine goesL_ (some 25) rfl rfl Try.func10 (by kernel_rfl) rfl #[.int .u64 a2] rfl (by (try simp only [List.map_toArray, List.map_cons, List.map_nil]); first | done | rfl | (simp only [List.length_drop, List.length_take]; rfl)) ?_; (with_reducible refine (ropeladderlaw06_Span.calls a2 t115 _ A12.out).mono ?_); rintro e w' ⟨rfl, ⟨nd, rfl⟩⟩; refine ⟨_, rfl, ?_⟩) | (go_at_call 11; (with_reducible refine (bucket_Width.calls ji8 ji11 t116 _ A14.out).mono ?_); rintro e w' ⟨rfl, ⟨nd, rfl⟩⟩) | (go_at_call 12; (with_reducible refine (ropeladderref06_Width.calls ji8 ji11 t117 _ A15.out).mono ?_); rintro e w' ⟨rfl, ⟨nd, rfl⟩⟩) | (go_at_call 13; (with_reducible refine (bucket_Narrow.calls t115 t118 _ A17.out).mono ?_); rintro e w' ⟨rfl, ⟨nd, rfl⟩⟩) | (go_at_call 14; (with_reducible refine (ropeladderref06_Narrow.calls t115 t119 _ A18.out).mono ?_); rintro e w' ⟨rfl, ⟨nd, rfl⟩⟩))
        go_ret
        exact ⟨by first | rfl | (simp [errW_none, errW_some] <;> rfl) | (simp only [← hji8, ← hji11]; first | rfl | (simp [errW_none, errW_some] <;> rfl)) | (simp [*, errW_none, errW_some] <;> rfl), by repeat (first | (with_reducible first | exact HB.out | apply below_alloc | apply pw_below_drewN | apply below_drew1) | exact HB.out)⟩
    · rw [if_neg c16] at H
      have c16b0 : (t116 == t117) = false := beq_eq_false_iff_ne.mpr c16
      have c16b1 : (t116 != t117) = true := bne_iff_ne.mpr c16
      obtain rfl := Option.some.inj H
      go_enter Try.func3, Try.ntmps3
      go_wp2_with (first | ((with_reducible refine gate_callee (f := 8) rfl ?_); refine goesL_ (some 13) rfl rfl Try.func8 (by kernel_rfl) rfl #[] rfl (by (try simp only [List.map_toArray, List.map_cons, List.map_nil]); first | done | rfl | (simp only [List.length_drop, List.length_take]; rfl)) ?_; (with_reducible refine (ropeladderlaw06_head.calls  true _ A5.out).mono ?_); rintro e w' ⟨rfl, ⟨nd, rfl⟩⟩; refine ⟨_, rfl, ?_⟩) | ((with_reducible refine gate_callee (f := 9) rfl ?_); refine goesL_ (some 15) rfl rfl Try.func9 (by kernel_rfl) rfl #[.int .u64 a0] rfl (by (try simp only [List.map_toArray, List.map_cons, List.map_nil]); first | done | rfl | (simp only [List.length_drop, List.length_take]; rfl)) ?_; (with_reducible refine (ropeladderlaw06_Time.calls a0 t111 _ A6.out).mono ?_); rintro e w' ⟨rfl, ⟨nd, rfl⟩⟩; refine ⟨_, rfl, ?_⟩) | ((with_reducible refine gate_callee (f := 9) rfl ?_); refine goesL_ (some 17) rfl rfl Try.func9 (by kernel_rfl) rfl #[.int .u64 a1] rfl (by (try simp only [List.map_toArray, List.map_cons, List.map_nil]); first | done | rfl | (simp only [List.length_drop, List.length_take]; rfl)) ?_; (with_reducible refine (ropeladderlaw06_Time.calls a1 t112 _ A7.out).mono ?_); rintro e w' ⟨rfl, ⟨nd, rfl⟩⟩; refine ⟨_, rfl, ?_⟩) | ((with_reducible refine gate_callee (f := 9) rfl ?_); refine goesL_ (some 20) rfl rfl Try.func9 (by kernel_rfl) rfl #[.int .u64 a0] rfl (by (try simp only [List.map_toArray, List.map_cons, List.map_nil]); first | done | rfl | (simp only [List.length_drop, List.length_take]; rfl)) ?_; (with_reducible refine (ropeladderlaw06_Time.calls a0 t113 _ A9.out).mono ?_); rintro e w' ⟨rfl, ⟨nd, rfl⟩⟩; refine ⟨_, rfl, ?_⟩) | ((with_reducible refine gate_callee (f := 9) rfl ?_); refine goesL_ (some 22) rfl rfl Try.func9 (by kernel_rfl) rfl #[.int .u64 a1] rfl (by (try simp only [List.map_toArray, List.map_cons, List.map_nil]); first | done | rfl | (simp only [List.length_drop, List.length_take]; rfl)) ?_; (with_reducible refine (ropeladderlaw06_Time.calls a1 t114 _ A10.out).mono ?_); rintro e w' ⟨rfl, ⟨nd, rfl⟩⟩; refine ⟨_, rfl, ?_⟩) | ((with_reducible refine gate_callee (f := 10) rfl ?_); refine goesL_ (some 25) rfl rfl Try.func10 (by kernel_rfl) rfl #[.int .u64 a2] rfl (by (try simp only [List.map_toArray, List.map_cons, List.map_nil]); first | done | rfl | (simp only [List.length_drop, List.length_take]; rfl)) ?_; (with_reducible refine (ropeladderlaw06_Span.calls a2 t115 _ A12.out).mono ?_); rintro e w' ⟨rfl, ⟨nd, rfl⟩⟩; refine ⟨_, rfl, ?_⟩) | (go_at_call 11; (with_reducible refine (bucket_Width.calls ji8 ji11 t116 _ A14.out).mono ?_); rintro e w' ⟨rfl, ⟨nd, rfl⟩⟩) | (go_at_call 12; (with_reducible refine (ropeladderref06_Width.calls ji8 ji11 t117 _ A15.out).mono ?_); rintro e w' ⟨rfl, ⟨nd, rfl⟩⟩))
      go_ret
      exact ⟨by first | rfl | (simp [errW_none, errW_some] <;> rfl) | (simp only [← hji8, ← hji11]; first | rfl | (simp [errW_none, errW_some] <;> rfl)) | (simp [*, errW_none, errW_some] <;> rfl), by repeat (first | (with_reducible first | exact HB.out | apply below_alloc | apply pw_below_drewN | apply below_drew1) | exact HB.out)⟩
  · replace c13 := Bool.eq_false_iff.mpr c13
    subst c13
    have H1 : (some false) = some r := by rw [if_neg (show ¬ (false = true) by decide)] at H; exact H
    clear H
    have H := H1
    clear H1
    obtain rfl := Option.some.inj H
    go_enter Try.func3, Try.ntmps3
    go_wp2_with (first | ((with_reducible refine gate_callee (f := 8) rfl ?_); refine goesL_ (some 13) rfl rfl Try.func8 (by kernel_rfl) rfl #[] rfl (by (try simp only [List.map_toArray, List.map_cons, List.map_nil]); first | done | rfl | (simp only [List.length_drop, List.length_take]; rfl)) ?_; (with_reducible refine (ropeladderlaw06_head.calls  false _ A5.out).mono ?_); rintro e w' ⟨rfl, ⟨nd, rfl⟩⟩; refine ⟨_, rfl, ?_⟩) | ((with_reducible refine gate_callee (f := 9) rfl ?_); refine goesL_ (some 15) rfl rfl Try.func9 (by kernel_rfl) rfl #[.int .u64 a0] rfl (by (try simp only [List.map_toArray, List.map_cons, List.map_nil]); first | done | rfl | (simp only [List.length_drop, List.length_take]; rfl)) ?_; (with_reducible refine (ropeladderlaw06_Time.calls a0 t111 _ A6.out).mono ?_); rintro e w' ⟨rfl, ⟨nd, rfl⟩⟩; refine ⟨_, rfl, ?_⟩) | ((with_reducible refine gate_callee (f := 9) rfl ?_); refine goesL_ (some 17) rfl rfl Try.func9 (by kernel_rfl) rfl #[.int .u64 a1] rfl (by (try simp only [List.map_toArray, List.map_cons, List.map_nil]); first | done | rfl | (simp only [List.length_drop, List.length_take]; rfl)) ?_; (with_reducible refine (ropeladderlaw06_Time.calls a1 t112 _ A7.out).mono ?_); rintro e w' ⟨rfl, ⟨nd, rfl⟩⟩; refine ⟨_, rfl, ?_⟩) | ((with_reducible refine gate_callee (f := 9) rfl ?_); refine goesL_ (some 20) rfl rfl Try.func9 (by kernel_rfl) rfl #[.int .u64 a0] rfl (by (try simp only [List.map_toArray, List.map_cons, List.map_nil]); first | done | rfl | (simp only [List.length_drop, List.length_take]; rfl)) ?_; (with_reducible refine (ropeladderlaw06_Time.calls a0 t113 _ A9.out).mono ?_); rintro e w' ⟨rfl, ⟨nd, rfl⟩⟩; refine ⟨_, rfl, ?_⟩) | ((with_reducible refine gate_callee (f := 9) rfl ?_); refine goesL_ (some 22) rfl rfl Try.func9 (by kernel_rfl) rfl #[.int .u64 a1] rfl (by (try simp only [List.map_toArray, List.map_cons, List.map_nil]); first | done | rfl | (simp only [List.length_drop, List.length_take]; rfl)) ?_; (with_reducible refine (ropeladderlaw06_Time.calls a1 t114 _ A10.out).mono ?_); rintro e w' ⟨rfl, ⟨nd, rfl⟩⟩; refine ⟨_, rfl, ?_⟩) | ((with_reducible refine gate_callee (f := 10) rfl ?_); refine goesL_ (some 25) rfl rfl Try.func10 (by kernel_rfl) rfl #[.int .u64 a2] rfl (by (try simp only [List.map_toArray, List.map_cons, List.map_nil]); first | done | rfl | (simp only [List.length_drop, List.length_take]; rfl)) ?_; (with_reducible refine (ropeladderlaw06_Span.calls a2 t115 _ A12.out).mono ?_); rintro e w' ⟨rfl, ⟨nd, rfl⟩⟩; refine ⟨_, rfl, ?_⟩))
    go_ret
    exact ⟨by first | rfl | (simp [errW_none, errW_some] <;> rfl) | (simp only [← hji8, ← hji11]; first | rfl | (simp [errW_none, errW_some] <;> rfl)) | (simp [*, errW_none, errW_some] <;> rfl), by repeat (first | (with_reducible first | exact HB.out | apply below_alloc | apply pw_below_drewN | apply below_drew1) | exact HB.out)⟩

/-- THE ONE PURE STATEMENT of ropeladderlaw06_BucketMatchesReference: yours. -/
def ropeladderlaw06_BucketMatchesReference.Pure : Prop := ∀ (a0 : Int) (a1 : Int) (a2 : Int) (a3 : Int), (Lit.int .u64 a0).wf = true → (Lit.int .u64 a1).wf = true → (Lit.int .u64 a2).wf = true → (Lit.int .u8 a3).wf = true → ropeladderlaw06_BucketMatchesReference.f a0 a1 a2 a3 = some true
theorem ropeladderlaw06_BucketMatchesReference.walk (P : ropeladderlaw06_BucketMatchesReference.Pure) (a0 : Int) (a1 : Int) (a2 : Int) (a3 : Int) (w : World) (w0 : (Lit.int .u64 a0).wf = true) (w1 : (Lit.int .u64 a1).wf = true) (w2 : (Lit.int .u64 a2).wf = true) (w3 : (Lit.int .u8 a3).wf = true) :
    Calls Try.prog 3 #[.int .u64 a0, .int .u64 a1, .int .u64 a2, .int .u8 a3] w fun e w' => e = .returned (.bool true) ∧ Below w.heap.size w w' := by
  have h := P a0 a1 a2 a3 w0 w1 w2 w3
  refine (ropeladderlaw06_BucketMatchesReference.calls a0 a1 a2 a3 true w h).mono ?_
  rintro e w' ⟨rfl, hd⟩
  exact ⟨rfl, hd⟩

end Go.Proofs.Ytogiemlgjnhidaa.PBucketMatchesReference
