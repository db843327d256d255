/- A round-robin schedule is fair for every window of at least the number of threads, and Repair with a window of twice that number leaves it. No condition. -/
import Derived.Test.YtngofgblhblfkaaPSx5
import Derived.Test.YtngofgblhblfkaaPlainA
namespace Go.Proofs.Ytngofgblhblfkaa.Pure
open Go.RowKit Go.Proofs.Ytngofgblhblfkaa.PS Go.Proofs.Ytngofgblhblfkaa.Hand Go.Proofs.YtngofgblhblfkaaW.PrintWords Go.Proofs.YtngofgblhblfkaaW.PrintLast

theorem SchedRobin : ropeladderlaw02_SchedRobin.Pure := by
  intro a0 a1 a2 a3 w0 w1 w2 w3
  obtain ⟨n, hn, n1, n8⟩ := threads_is w1
  have r0 := u8_range w0
  have r2 := u8_range w2
  have r3 := u8_range w3
  obtain ⟨c, rfl⟩ : ∃ c : Nat, a2 = c := ⟨a2.toNat, by omega⟩
  obtain ⟨m, rfl⟩ : ∃ m : Nat, a3 = m := ⟨a3.toNat, by omega⟩
  have f0 : 0 ≤ a0 % (n : Int) := Int.emod_nonneg _ (by omega)
  have f1 : a0 % (n : Int) < n := Int.emod_lt_of_pos _ (by omega)
  have hrange : ∀ p ∈ robin (a0 % (n : Int)) n c, 0 ≤ p ∧ p < (n : Int) := by
    intro p hp
    obtain ⟨i, _, rfl⟩ := List.mem_map.1 hp
    exact ⟨Int.emod_nonneg _ (by omega), Int.emod_lt_of_pos _ (by omega)⟩
  have hF : sched_Fair.f (robin (a0 % (n : Int)) n c) (n : Int) ((n : Int) + m) = some true := by
    unfold sched_Fair.f
    rw [if_pos ⟨by omega, by omega, by rw [robin_length]; omega, by omega, by omega⟩, show ((n : Int) + m).toNat = n + m by omega, Int.toNat_natCast, robin_fair _ _ _ _ n1 (by omega)]
  have hR : sched_Repair.f (robin (a0 % (n : Int)) n c) (n : Int) (2 * (n : Int)) = some (robin (a0 % (n : Int)) n c) := by
    unfold sched_Repair.f
    rw [if_pos ⟨by omega, by omega, by rw [robin_length]; omega, by omega, by omega, hrange⟩, show 2 * (n : Int) - n = n by omega, Int.toNat_natCast, robin_rep _ _ _ n1]
  refine Ev.rounds (g := fun k => ropeladderlaw02_SchedRobin.f k a0 a1 (c : Int) (m : Int)) ?_
  unfold ropeladderlaw02_SchedRobin.f
  refine Ev.bind head_ev ?_
  simp only [hn, Option.bind_some]
  rw [w64 (n := a0) (by omega) (by omega), tmod_ r0.1, w64 (n := (c : Int)) (by omega) (by omega), w64 (n := (m : Int)) (by omega) (by omega), w64 (n := (n : Int) + m) (by omega) (by omega), w64 (n := 2 * (n : Int)) (by omega) (by omega)]
  simp only [if_neg (show ¬ (n : Int) = 0 by omega)]
  refine Ev.bind (robin_ev _ _ _ ⟨f0, f1⟩ n1 (by omega) (by omega)) ?_
  simp only [robin_length, if_true, hF, hR, Option.bind_some]
  refine Ev.bind (same_ev _ _ (by rw [robin_length]; omega)) ?_
  simp only [decide_true]
  exact Ev.now _
end Go.Proofs.Ytngofgblhblfkaa.Pure
