/- For a window of at least the number of threads the result of Repair has the same length, holds only valid threads, and is fair, by the program and by the reference. No condition. -/
import Derived.Test.YtngofgblhblfkaaPSx4
import Derived.Test.YtngofgblhblfkaaPlainC
namespace Go.Proofs.Ytngofgblhblfkaa.Pure
open Go.RowKit Go.Proofs.Ytngofgblhblfkaa.PS Go.Proofs.Ytngofgblhblfkaa.Hand Go.Proofs.YtngofgblhblfkaaW.PrintWords Go.Proofs.YtngofgblhblfkaaW.PrintLast

theorem SchedRepairs : ropeladderlaw02_SchedRepairs.Pure := by
  intro a0 l a2 w0 _ _ hw w2
  obtain ⟨n, hn, n1, n8⟩ := threads_is w0
  have r2 := u8_range w2
  refine Ev.rounds (g := fun k => ropeladderlaw02_SchedRepairs.f k a0 l a2) ?_
  unfold ropeladderlaw02_SchedRepairs.f
  refine Ev.bind head_ev ?_
  by_cases hl : (l.length : Int) > 500
  · simp only [if_pos hl]
    exact Ev.now _
  · simp only [if_neg hl, hn, Option.bind_some]
    refine Ev.bind (picks_ev l n n1 (by omega) hw) ?_
    rw [w64 (n := a2) (by omega) (by omega), tmod_ r2.1, w64 (n := (n : Int) + a2 % 30) (by omega) (by omega)]
    obtain ⟨w, hww⟩ : ∃ w : Nat, (n : Int) + a2 % 30 = w := ⟨((n : Int) + a2 % 30).toNat, by omega⟩
    have hnw : n ≤ w := by omega
    have hw40 : w ≤ 40 := by omega
    rw [hww]
    clear hww
    have hpl := picks_length l n
    have hpr := picks_range l n n1
    generalize picks l n = p at *
    have hR : sched_Repair.f p (n : Int) (w : Int) = some (repGo ((w : Int) - n) (List.replicate n 0) p) := by
      unfold sched_Repair.f
      rw [if_pos ⟨by omega, by omega, by omega, by omega, by omega, hpr⟩, Int.toNat_natCast]
    have hfa := rep_fair n w n1 hnw p hpr
    have hql := repGo_length ((w : Int) - n) p (List.replicate n 0)
    have hqr := rep_range ((w : Int) - n) n n1 p hpr
    simp only [hR, Option.bind_some]
    generalize repGo ((w : Int) - n) (List.replicate n 0) p = q at *
    simp only [if_pos (show (q.length : Int) = (p.length : Int) by omega)]
    have hF : sched_Fair.f q (n : Int) (w : Int) = some true := by
      unfold sched_Fair.f
      rw [if_pos ⟨by omega, by omega, by omega, by omega, by omega⟩, Int.toNat_natCast, Int.toNat_natCast, hfa]
    have hRF := ref_fair_ev q n w (by omega) (by omega) (by omega) (by omega)
    rw [hfa] at hRF
    have loop : ∀ d i, q.length - i = d → i ≤ q.length → Ev (fun k => ropeladderlaw02_SchedRepairs.l0 k true (n : Int) (w : Int) q (i : Int)) true := by
      intro d
      induction d with
      | zero =>
        intro i hd hi
        refine Ev.step (f := fun k => (ropeladderref02_Fair.f k q (n : Int) (w : Int)).bind fun t => some t) (fun k => ?_) (Ev.bind hRF (Ev.now _))
        simp only [ropeladderlaw02_SchedRepairs.l0]
        rw [if_neg (by omega), if_pos trivial, hF]
        simp
      | succ d ih =>
        intro i hd hi
        have h1 : i < q.length := by omega
        have hv := hqr i (by omega)
        have hg : q.getD i 0 = q[i] := by simp [List.getD_eq_getElem?_getD, h1]
        rw [hg] at hv
        refine Ev.step (f := fun k => ropeladderlaw02_SchedRepairs.l0 k true (n : Int) (w : Int) q ((i + 1 : Nat) : Int)) (fun k => ?_) (ih (i + 1) (by omega) (by omega))
        simp only [ropeladderlaw02_SchedRepairs.l0]
        rw [if_pos (by omega), if_pos (by omega), rd_get h1, if_neg (by omega), if_neg (by omega), w64 (by omega) (by omega)]
        rfl
    exact loop q.length 0 (by omega) (by omega)
end Go.Proofs.Ytngofgblhblfkaa.Pure
