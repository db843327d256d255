/- ropeladderlaw24.head computes true, whatever the world; no condition. -/
import Derived.Test.YtjheocofbfmopaaWkL
namespace Go.Proofs.Ytjheocofbfmopaa.Hand
open Go.RowKit Go.Proofs.YtjheocofbfmopaaW.PrintWords Go.Proofs.YtjheocofbfmopaaW.PrintLast Go.Proofs.YtjheocofbfmopaaW.PrintMore
set_option linter.unusedVariables false
set_option linter.unusedSimpArgs false
attribute [local go_sem] max2_int min2_int max_two min_two max_three min_three max_four min_four

theorem C_none (w : World) : Kd.C (Kd.int .i64) w none ([] : List Int).length [] := ⟨rfl, by simp, fun h => absurd h (by simp)⟩
def OutL (W w' : World) (m : Nat) (pairs : List (Int × Int)) (u : Value) (e : Ending) : Prop := ∃ A k, e = .returned (.tuple #[.slice A m k, u]) ∧ Kd.C kP w' A m pairs ∧ Below W.heap.size W w'
theorem Out.lit {W w' : World} {pairs : List (Int × Int)} {u : Value} {e : Ending} (h : Out W w' pairs u e) {m : Nat} (hm : pairs.length = m) : OutL W w' m pairs u e := by
  obtain ⟨v, he, hR, hb⟩ := h
  obtain ⟨A, c, rfl, _, hC⟩ := Kd.R_reads hR
  rw [hm] at he hC
  exact ⟨A, c, he, hC, hb⟩
theorem fin22 (W : World) : Calls Try.prog 9 #[.int .i64 2, .int .i64 2, .slice none 0 0] W fun e w' => OutL W w' 2 [(0, 0), (1, 1)] (.int .i64 10) e := by
  have h := finish_calls 2 2 [] none 0 W (by decide) (by decide) (by decide) (by decide) (by decide) (by simp) (C_none W) 10 (by decide) (by decide) (by decide)
  rw [show ((ph0 2 2).steps (pickAt [] 2) 10).pairs = [(0, 0), (1, 1)] by decide] at h
  exact h.mono fun _ _ h => h.lit rfl
theorem fin03 (W : World) : Calls Try.prog 9 #[.int .i64 0, .int .i64 3, .slice none 0 0] W fun e w' => OutL W w' 0 [] (.int .i64 9) e := by
  have h := finish_calls 0 3 [] none 0 W (by decide) (by decide) (by decide) (by decide) (by decide) (by simp) (C_none W) 9 (by decide) (by decide) (by decide)
  rw [show ((ph0 0 3).steps (pickAt [] 3) 9).pairs = [] by decide] at h
  exact h.mono fun _ _ h => h.lit rfl
theorem fin10 (W : World) : Calls Try.prog 9 #[.int .i64 1, .int .i64 0, .slice none 0 0] W fun e w' => e = .returned (.tuple #[.slice none 0 0, .int .i64 0]) ∧ w' = W := finish_no 1 0 none 0 0 W (by decide) (by decide) (by decide)
theorem run5 (W : World) : Calls Try.prog 11 #[.int .i64 1, .int .i64 1, .slice (some ⟨W.heap.size, 0, none⟩) 5 5] (W.alloc (.cells #[.int .i64 0, .int .i64 0, .int .i64 0, .int .i64 0, .int .i64 0] 3)) fun e w' => OutL W w' 1 [(0, 0)] (.bool true) e := by
  have h := run_calls 1 1 [0, 0, 0, 0, 0] (some ⟨W.heap.size, 0, none⟩) 5 _ (by decide) (by decide) (by decide) (by decide) (by decide) (by decide) (lit_ints W [0, 0, 0, 0, 0] (by decide))
  rw [show ((ph0 1 1).run [0, 0, 0, 0, 0]).pairs = [(0, 0)] by decide, show decide (((ph0 1 1).run [0, 0, 0, 0, 0]).left = 0) = true by decide] at h
  refine h.mono fun e w' h => ?_
  obtain ⟨A, c, h1, h2, h3⟩ := h.lit (m := 1) rfl
  exact ⟨A, c, h1, h2, (below_alloc (Below.refl W.heap.size W) _).trans (h3.mono (by simp))⟩
theorem run4 (W : World) : Calls Try.prog 11 #[.int .i64 1, .int .i64 1, .slice (some ⟨W.heap.size, 0, none⟩) 4 4] (W.alloc (.cells #[.int .i64 0, .int .i64 0, .int .i64 0, .int .i64 0] 3)) fun e w' => OutL W w' 1 [(0, 0)] (.bool false) e := by
  have h := run_calls 1 1 [0, 0, 0, 0] (some ⟨W.heap.size, 0, none⟩) 4 _ (by decide) (by decide) (by decide) (by decide) (by decide) (by decide) (lit_ints W [0, 0, 0, 0] (by decide))
  rw [show ((ph0 1 1).run [0, 0, 0, 0]).pairs = [(0, 0)] by decide, show decide (((ph0 1 1).run [0, 0, 0, 0]).left = 0) = false by decide] at h
  refine h.mono fun e w' h => ?_
  obtain ⟨A, c, h1, h2, h3⟩ := h.lit (m := 1) rfl
  exact ⟨A, c, h1, h2, (below_alloc (Below.refl W.heap.size W) _).trans (h3.mono (by simp))⟩
theorem bound33 (W : World) : Calls Try.prog 13 #[.int .i64 2, .int .i64 2, .int .i64 3] W fun e w' => e = .returned (.int .i64 33) ∧ w' = W := bound_calls 2 2 3 W (by decide) (by decide) (by decide) (by decide) (by decide) (by decide)
theorem lit_pairs (w : World) (cs : Array Value) (l : List (Int × Int)) (m : Nat) (hm : l.length = m) (hm1 : m ≤ 1000) (hc : ∀ (j : Nat) p, l[j]? = some p → cs[j * 2]? = some (.int .i64 p.1) ∧ cs[j * 2 + 1]? = some (.int .i64 p.2)) : Kd.C kP (w.alloc (.cells cs TPair)) (some ⟨w.heap.size, 0, none⟩) m l := by
  subst hm
  refine ⟨rfl, by omega, fun _ => ⟨_, rfl, fun j p hj => ⟨[.int .i64 p.1, .int .i64 p.2], rfl, kP_mk _ _, fun i u hu => ?_⟩⟩⟩
  have e : (w.alloc (.cells cs TPair)).heap[w.heap.size]? = some (.cells cs TPair (0, 0)) := push_get rfl
  have e2 : ∀ q, (⟨w.heap.size, 0, none⟩ : Addr).add q = ⟨w.heap.size, q, none⟩ := fun q => by
    by_cases h0 : q = 0
    · subst h0; rfl
    · rw [add_flat _ h0]
      simp
  rw [e2]
  simp only [World.cell?, e]
  obtain ⟨h1, h2⟩ := hc j p hj
  show cs[j * 2 + i]? = some u
  have hi : i = 0 ∨ i = 1 := by
    have : i < 2 := (List.getElem?_eq_some_iff.1 hu).1
    omega
  rcases hi with rfl | rfl
  · simp at hu
    subst hu
    exact h1
  · simp at hu
    subst hu
    exact h2
theorem same_lit2 (w0 W : World) (A0 : Option Addr) (c0 : Nat) (hC : Kd.C kP w0 A0 2 [(0, 0), (1, 1)]) (hb : Below w0.heap.size w0 W) :
    Calls Try.prog 12 #[.slice A0 2 c0, .slice (some ⟨W.heap.size, 0, none⟩) 2 2] (W.alloc (.cells #[.int .i64 0, .int .i64 0, .int .i64 1, .int .i64 1] TPair)) fun e w' => e = .returned (.bool true) ∧ Below W.heap.size W w' := by
  refine (same_calls A0 (some ⟨W.heap.size, 0, none⟩) c0 2 [(0, 0), (1, 1)] _ (by decide) (Kd.C_below (Kd.C_below hC hb) (below_alloc (Below.refl _ _) _)) (lit_pairs W _ [(0, 0), (1, 1)] 2 rfl (by decide) (fun j p hj => ?_))).mono ?_
  · match j, hj with
    | 0, hj => simp at hj; subst hj; exact ⟨rfl, rfl⟩
    | 1, hj => simp at hj; subst hj; exact ⟨rfl, rfl⟩
    | j + 2, hj => simp at hj
  · rintro e w' ⟨he, n, rfl⟩
    exact ⟨he, pw_below_drewN (below_alloc (Below.refl _ _) _) _⟩
theorem same_lit1 (w0 W : World) (A0 : Option Addr) (c0 : Nat) (hC : Kd.C kP w0 A0 1 [(0, 0)]) (hb : Below w0.heap.size w0 W) :
    Calls Try.prog 12 #[.slice A0 1 c0, .slice (some ⟨W.heap.size, 0, none⟩) 1 1] (W.alloc (.cells #[.int .i64 0, .int .i64 0] TPair)) fun e w' => e = .returned (.bool true) ∧ Below W.heap.size W w' := by
  refine (same_calls A0 (some ⟨W.heap.size, 0, none⟩) c0 1 [(0, 0)] _ (by decide) (Kd.C_below (Kd.C_below hC hb) (below_alloc (Below.refl _ _) _)) (lit_pairs W _ [(0, 0)] 1 rfl (by decide) (fun j p hj => ?_))).mono ?_
  · match j, hj with
    | 0, hj => simp at hj; subst hj; exact ⟨rfl, rfl⟩
    | j + 1, hj => simp at hj
  · rintro e w' ⟨he, n, rfl⟩
    exact ⟨he, pw_below_drewN (below_alloc (Below.refl _ _) _) _⟩
theorem Below.then {A B C : World} (h : Below A.heap.size A B) (k : Below B.heap.size B C) : Below A.heap.size A C := h.trans (k.mono h.size)
set_option maxHeartbeats 4000000 in
set_option maxRecDepth 100000 in
theorem head_calls (W : World) : Calls Try.prog 7 #[] W fun e w' => e = .returned (.bool true) ∧ Below W.heap.size W w' := by
  go_enter Try.func7, Try.ntmps7
  go_wp2_with (first | (go_at_call 9; (with_reducible refine (fin22 _).mono ?_); rintro e w1 ⟨A1, k1, rfl, hC1, hb1⟩; have HC1 := Aside0.mk hC1; have HB1 := Aside0.mk hb1; clear hC1 hb1) | (go_at_call 11; (with_reducible refine (run5 _).mono ?_); rintro e w2 ⟨A2, k2, rfl, hC2, hb2⟩; have HC2 := Aside0.mk hC2; have HB2 := Aside0.mk hb2; clear hC2 hb2) | (go_at_call 11; (with_reducible refine (run4 _).mono ?_); rintro e w3 ⟨A3, k3, rfl, _, hb3⟩; have HB3 := Aside0.mk hb3; clear hb3) | (go_at_call 9; (with_reducible refine (fin03 _).mono ?_); rintro e w4 ⟨A4, k4, rfl, _, hb4⟩; have HB4 := Aside0.mk hb4; clear hb4) | (go_at_call 9; (with_reducible refine (fin10 _).mono ?_); rintro e w4 ⟨rfl, rfl⟩) | (go_at_call 12; (with_reducible refine (same_lit2 w1 w4 A1 k1 HC1.out (Below.then HB2.out (Below.then HB3.out HB4.out))).mono ?_); rintro e w6 ⟨rfl, hb6⟩; have HB6 := Aside0.mk hb6; clear hb6) | (go_at_call 12; (with_reducible refine (same_lit1 w2 w6 A2 k2 HC2.out (Below.then HB3.out (Below.then HB4.out HB6.out))).mono ?_); rintro e w7 ⟨rfl, hb7⟩; have HB7 := Aside0.mk hb7; clear hb7) | (go_at_call 13; (with_reducible refine (bound33 _).mono ?_); rintro e wx ⟨rfl, rfl⟩))
  go_ret
  exact ⟨rfl, Below.then HB1.out (Below.then HB2.out (Below.then HB3.out (Below.then HB4.out (Below.then HB6.out HB7.out))))⟩
end Go.Proofs.Ytjheocofbfmopaa.Hand
