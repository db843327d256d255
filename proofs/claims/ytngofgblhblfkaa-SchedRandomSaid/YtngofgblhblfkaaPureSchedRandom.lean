/- Random returns valid threads, a shorter schedule is a prefix of a longer one, and the generator's recurrence modulo 2^32 holds. No condition. -/
import Derived.Test.YtngofgblhblfkaaPSx6
import Derived.Test.YtngofgblhblfkaaPlainA
namespace Go.Proofs.Ytngofgblhblfkaa.Pure
open Go.RowKit Go.Proofs.Ytngofgblhblfkaa.PS Go.Proofs.Ytngofgblhblfkaa.Hand Go.Proofs.YtngofgblhblfkaaW.PrintWords Go.Proofs.YtngofgblhblfkaaW.PrintLast

theorem rnd_take (s t : Int) {m c : Nat} (h : m ≤ c) : (rndList s t c).take m = rndList s t m := by
  unfold rndList
  rw [← List.map_take, List.take_range, Nat.min_eq_left h]
theorem rnd_loop (s : Int) (n c m : Nat) (n1 : 1 ≤ n) (n8 : n ≤ 8) (hc : c ≤ 1000) (hm : m ≤ c) : ∀ d i, c - i = d → i ≤ c → Ev (fun k => ropeladderlaw02_SchedRandom.l0 k true (n : Int) (rndList s n c) (rndList s n m) (lcgN s i) (i : Int)) true := by
  intro d
  induction d with
  | zero =>
    intro i hd hi
    refine Ev.step (f := fun k => (ropeladderref02_Same.f k (rndList s n m) (rndList s n m)).bind fun t => some t) (fun k => ?_) ?_
    · simp only [ropeladderlaw02_SchedRandom.l0]
      rw [if_neg (by rw [rndList_length]; omega), if_pos trivial, if_pos (by omega), if_pos (by rw [rndList_length, rndList_length]; omega)]
      rw [rndList_length, Int.toNat_natCast, rnd_take s n hm]
    · refine Ev.bind (same_ev _ _ (by rw [rndList_length]; omega)) ?_
      simp only [decide_true]
      exact Ev.now _
  | succ d ih =>
    intro i hd hi
    have h1 : i < (rndList s n c).length := by rw [rndList_length]; omega
    have hv : (rndList s n c)[i] = (lcg (lcgN s i) / 65536) % (n : Int) := by simp [rndList, rndAt, lcgN]
    have r0 : 0 ≤ (lcg (lcgN s i) / 65536) % (n : Int) := Int.emod_nonneg _ (by omega)
    have r1 : (lcg (lcgN s i) / 65536) % (n : Int) < n := Int.emod_lt_of_pos _ (by omega)
    refine Ev.step (f := fun k => ropeladderlaw02_SchedRandom.l0 k true (n : Int) (rndList s n c) (rndList s n m) (lcgN s (i + 1)) ((i + 1 : Nat) : Int)) (fun k => ?_) (ih (i + 1) (by omega) (by omega))
    simp only [ropeladderlaw02_SchedRandom.l0]
    rw [if_pos (by rw [rndList_length] at h1 ⊢; omega), if_pos (by omega), rd_get h1, hv, if_neg (by omega), if_neg (by omega), if_neg (by omega), if_pos (by rfl), w64 (by omega) (by omega)]
    rfl

theorem SchedRandom : ropeladderlaw02_SchedRandom.Pure := by
  intro a0 a1 a2 a3 w0 w1 w2 w3
  obtain ⟨n, hn, n1, n8⟩ := threads_is w1
  have r0 := u32_range w0
  have r2 := u8_range w2
  have r3 := u8_range w3
  obtain ⟨c, rfl⟩ : ∃ c : Nat, a2 = c := ⟨a2.toNat, by omega⟩
  obtain ⟨b, rfl⟩ : ∃ m : Nat, a3 = m := ⟨a3.toNat, by omega⟩
  obtain ⟨m, hm, hmc⟩ : ∃ m : Nat, mn (b : Int) (c : Int) = m ∧ m ≤ c := ⟨min b c, by unfold mn; omega, by omega⟩
  have hf : ∀ x : Nat, x ≤ 255 → sched_Random.f a0 (n : Int) (x : Int) = some (rndList a0 n x) := by
    intro x hx
    unfold sched_Random.f
    rw [if_pos ⟨by omega, by omega, by omega, by omega, by omega, by omega⟩, Int.toNat_natCast]
  refine Ev.rounds (g := fun k => ropeladderlaw02_SchedRandom.f k a0 a1 (c : Int) (b : Int)) ?_
  unfold ropeladderlaw02_SchedRandom.f
  refine Ev.bind head_ev ?_
  simp only [hn, Option.bind_some]
  rw [w64 (n := (c : Int)) (by omega) (by omega), w64 (n := (b : Int)) (by omega) (by omega), hm, hf c (by omega), hf m (by omega)]
  simp only [Option.bind_some, rndList_length, if_true]
  refine Ev.step (f := fun k => ropeladderlaw02_SchedRandom.l0 k true (n : Int) (rndList a0 n c) (rndList a0 n m) (lcgN a0 0) ((0 : Nat) : Int)) (fun k => ?_) (rnd_loop a0 n c m n1 n8 (by omega) hmc c 0 (by omega) (by omega))
  simp only [ropeladderlaw02_SchedRandom.j0]
  rw [if_neg (by simp; omega)]
  rfl
end Go.Proofs.Ytngofgblhblfkaa.Pure
