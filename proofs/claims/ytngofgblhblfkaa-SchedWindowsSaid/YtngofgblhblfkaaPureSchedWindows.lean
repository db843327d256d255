/- Fair returns true if and only if every slice of window consecutive picks contains every thread. No condition. -/
import Derived.Test.YtngofgblhblfkaaPSx4
import Derived.Test.YtngofgblhblfkaaPlainA
namespace Go.Proofs.Ytngofgblhblfkaa.Pure
open Go.RowKit Go.Proofs.Ytngofgblhblfkaa.PS Go.Proofs.Ytngofgblhblfkaa.Hand Go.Proofs.YtngofgblhblfkaaW.PrintWords Go.Proofs.YtngofgblhblfkaaW.PrintLast

theorem win_succ (p : List Int) (m i : Nat) (h : i + m < p.length) (t : Int) : (winAt p (m + 1) i).contains t = ((winAt p m i).contains t || p[i + m] == t) := by
  have e : winAt p (m + 1) i = winAt p m i ++ [p[i + m]] := by
    unfold winAt
    rw [List.take_succ_eq_append_getElem (by simp; omega)]
    simp
  rw [e, Bool.eq_iff_iff]
  simp only [List.contains_iff_mem, List.mem_append, List.mem_singleton, Bool.or_eq_true, beq_iff_eq]
  exact or_congr Iff.rfl ⟨fun h => h.symm, fun h => h.symm⟩
theorem sw_l2 (p : List Int) (n w : Nat) (hp : p.length ≤ 1000) (all : Bool) (i t : Nat) (hi : i + w ≤ p.length) (ht : t ≤ 100) (hw : w ≤ 100) (r : Bool)
    (next : Ev (fun k => ropeladderlaw02_SchedWindows.l1 k true (n : Int) p (w : Int) (all && (winAt p w i).contains (t : Int)) (i : Int) ((t + 1 : Nat) : Int)) r) :
    ∀ d m, w - m = d → m ≤ w → Ev (fun k => ropeladderlaw02_SchedWindows.l2 k true (n : Int) p (w : Int) all (i : Int) (t : Int) ((winAt p m i).contains (t : Int)) ((i + m : Nat) : Int)) r := by
  intro d
  induction d with
  | zero =>
    intro m hd hm
    obtain rfl : m = w := by omega
    refine Ev.step (fun k => ?_) next
    simp only [ropeladderlaw02_SchedWindows.l2]
    rw [w64 (n := (i : Int) + m) (by omega) (by omega), if_neg (by omega), w64 (n := (t : Int) + 1) (by omega) (by omega)]
    cases all <;> rfl
  | succ d ih =>
    intro m hd hm
    have h1 : i + m < p.length := by omega
    refine Ev.step (fun k => ?_) (ih (m + 1) (by omega) (by omega))
    simp only [ropeladderlaw02_SchedWindows.l2]
    rw [w64 (n := (i : Int) + w) (by omega) (by omega), if_pos (by omega), w64 (n := ((i + m : Nat) : Int) + 1) (by omega) (by omega), win_succ p m i h1]
    cases hc : (winAt p m i).contains (t : Int) with
    | true =>
      rw [if_pos rfl, Bool.true_or]
      rfl
    | false =>
      rw [if_neg (by simp), if_pos (by omega), if_pos (by omega), rd_get h1, Bool.false_or]
      rfl
theorem sw_l1 (p : List Int) (n w : Nat) (hp : p.length ≤ 1000) (hn : n ≤ 64) (i : Nat) (hi : i + w ≤ p.length) (hw : w ≤ 100) (r : Bool) (all : Bool)
    (next : Ev (fun k => ropeladderlaw02_SchedWindows.l0 k true (n : Int) p (w : Int) (all && fairAt p n w i) ((i + 1 : Nat) : Int)) r) :
    ∀ d t, n - t = d → t ≤ n → Ev (fun k => ropeladderlaw02_SchedWindows.l1 k true (n : Int) p (w : Int) (all && ((List.range t).all fun s => (winAt p w i).contains (s : Int))) (i : Int) (t : Int)) r := by
  intro d
  induction d with
  | zero =>
    intro t hd ht
    obtain rfl : t = n := by omega
    refine Ev.step (fun k => ?_) next
    simp only [ropeladderlaw02_SchedWindows.l1]
    rw [if_neg (by omega), w64 (by omega) (by omega)]
    rfl
  | succ d ih =>
    intro t hd ht
    refine Ev.step (fun k => ?_) (sw_l2 p n w hp (all && ((List.range t).all fun s => (winAt p w i).contains (s : Int))) i t hi (by omega) hw r ?_ w 0 (by omega) (by omega))
    · simp only [ropeladderlaw02_SchedWindows.l1]
      rw [if_pos (by omega)]
      simp [winAt]
    · have := ih (t + 1) (by omega) (by omega)
      rw [List.range_succ, List.all_append, ← Bool.and_assoc] at this
      simpa using this
theorem sw_l0 (p : List Int) (n w : Nat) (hp : p.length ≤ 1000) (hn : n ≤ 64) (hw1 : 1 ≤ w) (hw : w ≤ 100) :
    ∀ d i, p.length + 1 - w - i = d → i ≤ p.length + 1 - w → Ev (fun k => ropeladderlaw02_SchedWindows.l0 k true (n : Int) p (w : Int) ((List.range i).all (fairAt p n w)) (i : Int)) true := by
  intro d
  induction d with
  | zero =>
    intro i hd hi
    obtain rfl : i = p.length + 1 - w := by omega
    have hF : sched_Fair.f p (n : Int) (w : Int) = some (fair p n w) := by
      unfold sched_Fair.f
      rw [if_pos ⟨by omega, by omega, by omega, by omega, by omega⟩, Int.toNat_natCast, Int.toNat_natCast]
    refine Ev.step (f := fun _ => some true) (fun k => ?_) (Ev.now _)
    simp only [ropeladderlaw02_SchedWindows.l0]
    rw [w64 (by omega) (by omega), if_neg (by omega), if_pos trivial, hF]
    simp [fair]
  | succ d ih =>
    intro i hd hi
    refine Ev.step (fun k => ?_) (sw_l1 p n w hp hn i (by omega) hw true ((List.range i).all (fairAt p n w)) ?_ n 0 (by omega) (by omega))
    · simp only [ropeladderlaw02_SchedWindows.l0]
      rw [w64 (by omega) (by omega), if_pos (by omega)]
      simp
    · have := ih (i + 1) (by omega) (by omega)
      rw [List.range_succ, List.all_append] at this
      simpa using this

theorem SchedWindows : ropeladderlaw02_SchedWindows.Pure := by
  intro a0 l a2 w0 _ _ hw w2
  obtain ⟨n, hn, n1, n8⟩ := threads_is w0
  have r2 := u8_range w2
  refine Ev.rounds (g := fun k => ropeladderlaw02_SchedWindows.f k a0 l a2) ?_
  unfold ropeladderlaw02_SchedWindows.f
  refine Ev.bind head_ev ?_
  by_cases hl : (l.length : Int) > 100
  · simp only [if_pos hl]
    exact Ev.now _
  · simp only [if_neg hl, hn, Option.bind_some]
    refine Ev.bind (picks_ev l n n1 (by omega) hw) ?_
    rw [w64 (n := a2) (by omega) (by omega), tmod_ r2.1, w64 (n := a2 % 30 + 1) (by omega) (by omega)]
    obtain ⟨w, hww⟩ : ∃ w : Nat, a2 % 30 + 1 = w := ⟨(a2 % 30 + 1).toNat, by omega⟩
    rw [hww]
    have hpl := picks_length l n
    generalize picks l n = p at *
    have := sw_l0 p n w (by omega) (by omega) (by omega) (by omega) (p.length + 1 - w) 0 (by omega) (by omega)
    simpa using this
end Go.Proofs.Ytngofgblhblfkaa.Pure
