/- Repair changes a pick only if some thread has waited at least window - threads picks, and then picks a thread that has waited longest. No condition. -/
import Derived.Test.YtngofgblhblfkaaPSx5
import Derived.Test.YtngofgblhblfkaaPlainA
namespace Go.Proofs.Ytngofgblhblfkaa.Pure
open Go.RowKit Go.Proofs.Ytngofgblhblfkaa.PS Go.Proofs.Ytngofgblhblfkaa.Hand Go.Proofs.YtngofgblhblfkaaW.PrintWords Go.Proofs.YtngofgblhblfkaaW.PrintLast Go.Proofs.YtngofgblhblfkaaW.PrintMore

/-- The longest wait of the first t threads; the wait of the picked one, once it has come. -/
def longest (q : List Int) (i t : Nat) : Int := (agesAt q t i).foldl mx 0
def ownOf (q : List Int) (i t : Nat) : Int := if q.getD i 0 < (t : Int) then (ageOf q (q.getD i 0) i : Int) else 0
theorem longest_succ (q : List Int) (i t : Nat) : longest q i (t + 1) = mx (longest q i t) (ageOf q (t : Int) i : Int) := by
  unfold longest agesAt
  rw [List.range_succ, List.map_append, List.foldl_append]
  rfl
theorem longest_lmax (q : List Int) (i n : Nat) (hn : 1 ≤ n) : longest q i n = lmax (agesAt q n i) := by
  unfold longest
  have hl := agesAt_length q n i
  have h0 : ∀ x ∈ agesAt q n i, 0 ≤ x := by
    intro x hx
    obtain ⟨t, _, rfl⟩ := List.mem_map.1 hx
    omega
  cases hA : agesAt q n i with
  | nil => rw [hA] at hl; simp at hl; omega
  | cons x xs =>
    have := h0 x (by rw [hA]; simp)
    simp only [List.foldl_cons, lmax]
    congr 1
    unfold mx
    omega
theorem longest_range (q : List Int) (i : Nat) : ∀ t, 0 ≤ longest q i t ∧ longest q i t ≤ i
  | 0 => by simp [longest, agesAt]
  | t + 1 => by
    have := longest_range q i t
    have := ageOf_le q (t : Int) i
    rw [longest_succ]
    unfold mx
    omega

section
variable (p q : List Int) (n w i : Nat) (r : Bool)
theorem sk_l2 (hq : q.length ≤ 1000) (hi : i < q.length) (_hqi : 0 ≤ q.getD i 0) (t : Nat) (ht : t ≤ 64)
    (next : Ev (fun k => ropeladderlaw02_SchedKeeps.l1 k true (n : Int) (w : Int) p q (i : Int) (longest q i (t + 1)) (ownOf q i (t + 1)) ((t + 1 : Nat) : Int)) r) :
    ∀ j a, j ≤ i → a + ageOf q (t : Int) j = ageOf q (t : Int) i → a + j = i →
      Ev (fun k => ropeladderlaw02_SchedKeeps.l2 k true (n : Int) (w : Int) p q (i : Int) (longest q i t) (ownOf q i t) (t : Int) (a : Int) ((j : Int) - 1)) r := by
  have hg : q.getD i 0 = q[i] := by simp [List.getD_eq_getElem?_getD, hi]
  have fin : ∀ k, (if (t : Int) = rd q (i : Int) then ropeladderlaw02_SchedKeeps.l1 k true (n : Int) (w : Int) p q (i : Int) (mx (longest q i t) (ageOf q (t : Int) i : Int)) (ageOf q (t : Int) i : Int) (wrap64 ((t : Int) + 1)) else ropeladderlaw02_SchedKeeps.l1 k true (n : Int) (w : Int) p q (i : Int) (mx (longest q i t) (ageOf q (t : Int) i : Int)) (ownOf q i t) (wrap64 ((t : Int) + 1)))
      = ropeladderlaw02_SchedKeeps.l1 k true (n : Int) (w : Int) p q (i : Int) (longest q i (t + 1)) (ownOf q i (t + 1)) ((t + 1 : Nat) : Int) := by
    intro k
    rw [w64 (by omega) (by omega), ← longest_succ, rd_get hi, ← hg]
    by_cases e : (t : Int) = q.getD i 0
    · rw [if_pos e]
      have : ownOf q i (t + 1) = (ageOf q (t : Int) i : Int) := by
        unfold ownOf
        rw [if_pos (by omega), ← e]
      rw [this]
      rfl
    · rw [if_neg e]
      have : ownOf q i (t + 1) = ownOf q i t := by
        unfold ownOf
        by_cases c : q.getD i 0 < (t : Int)
        · rw [if_pos c, if_pos (by omega)]
        · rw [if_neg c, if_neg (by omega)]
      rw [this]
      rfl
  intro j
  induction j with
  | zero =>
    intro a _ ha hai
    have ea : ageOf q (t : Int) i = a := by simp [ageOf] at ha; omega
    refine Ev.step (fun k => ?_) next
    simp only [ropeladderlaw02_SchedKeeps.l2]
    rw [if_neg (by omega), if_pos (by omega), if_pos (by omega), ← fin k, ea]
  | succ j ih =>
    intro a hj ha hai
    have hjl : j < q.length := by omega
    have hgj : q.getD j 0 = q[j] := by simp [List.getD_eq_getElem?_getD, hjl]
    have hs : ageOf q (t : Int) (j + 1) = if q[j] = (t : Int) then 0 else ageOf q (t : Int) j + 1 := by rw [← hgj]; rfl
    have ej : ((j + 1 : Nat) : Int) - 1 = (j : Int) := by omega
    by_cases e : q[j] = (t : Int)
    · rw [if_pos e] at hs
      have ea : ageOf q (t : Int) i = a := by omega
      refine Ev.step (fun k => ?_) next
      simp only [ropeladderlaw02_SchedKeeps.l2]
      rw [ej, if_pos (by omega), if_pos (by omega), if_pos (by omega), rd_get hjl, if_pos e, if_pos (by omega), if_pos (by omega), ← fin k, ea]
    · rw [if_neg e] at hs
      refine Ev.step (fun k => ?_) (ih (a + 1) (by omega) (by omega) (by omega))
      simp only [ropeladderlaw02_SchedKeeps.l2]
      rw [ej, if_pos (by omega), if_pos (by omega), if_pos (by omega), rd_get hjl, if_neg e, w64 (n := (a : Int) + 1) (by omega) (by omega), w64 (n := (j : Int) - 1) (by omega) (by omega)]
      rfl
theorem sk_l1 (hq : q.length ≤ 1000) (hi : i < q.length) (hp : p.length = q.length) (hn : 1 ≤ n) (hn8 : n ≤ 64) (hnw : n ≤ w) (hw : w ≤ 1000) (hqi : 0 ≤ q.getD i 0 ∧ q.getD i 0 < n)
    (rule : q.getD i 0 = pickOf ((w : Int) - n) (agesAt q n i) p[i])
    (next : Ev (fun k => ropeladderlaw02_SchedKeeps.l0 k true (n : Int) (w : Int) p q ((i + 1 : Nat) : Int)) r) :
    ∀ d t, n - t = d → t ≤ n → Ev (fun k => ropeladderlaw02_SchedKeeps.l1 k true (n : Int) (w : Int) p q (i : Int) (longest q i t) (ownOf q i t) (t : Int)) r := by
  have hg : q.getD i 0 = q[i] := by simp [List.getD_eq_getElem?_getD, hi]
  intro d
  induction d with
  | zero =>
    intro t hd ht
    obtain rfl : t = n := by omega
    refine Ev.step (fun k => ?_) next
    simp only [ropeladderlaw02_SchedKeeps.l1]
    have hlr := longest_range q i t
    have ho : ownOf q i t = (ageOf q (q.getD i 0) i : Int) := by unfold ownOf; rw [if_pos hqi.2]
    rw [if_neg (by omega), w64 (n := (w : Int) - t) (by omega) (by omega), w64 (n := (i : Int) + 1) (by omega) (by omega)]
    have hll := longest_lmax q i t hn
    by_cases c : longest q i t < (w : Int) - t
    · have hr : q[i] = p[i] := by
        rw [← hg, rule]
        unfold pickOf
        rw [if_neg (by omega)]
      rw [if_pos c, if_pos (by omega), if_pos (by omega), if_pos (by omega), rd_get hi, rd_get (by omega), if_pos hr, if_neg (by omega)]
      rfl
    · have hx : q.getD i 0 = ((agesAt q t i).idxOf (lmax (agesAt q t i)) : Int) := by
        rw [rule]
        unfold pickOf
        rw [if_pos (by omega)]
      have hne : agesAt q t i ≠ [] := by intro he; have := agesAt_length q t i; rw [he] at this; simp at this; omega
      have hlt := List.idxOf_lt_length_iff.2 (lmax_mem _ hne)
      have hv := List.getElem_idxOf hlt
      have hlt2 : (agesAt q t i).idxOf (lmax (agesAt q t i)) < t := by rw [agesAt_length] at hlt; exact hlt
      rw [agesAt_get q t i _ hlt2, ← hx] at hv
      rw [if_neg c, if_pos (by omega), if_pos (by rw [ho, hll, hv])]
      rfl
  | succ d ih =>
    intro t hd ht
    refine Ev.step (fun k => ?_) (sk_l2 p q n w i r hq hi hqi.1 t (by omega) (ih (t + 1) (by omega) (by omega)) i 0 (Nat.le_refl _) (by omega) (by omega))
    simp only [ropeladderlaw02_SchedKeeps.l1]
    rw [if_pos (by omega), w64 (n := (i : Int) - 1) (by omega) (by omega)]
    rfl
end

theorem SchedKeeps : ropeladderlaw02_SchedKeeps.Pure := by
  intro a0 l a2 w0 _ _ hw w2
  obtain ⟨n, hn, n1, n8⟩ := threads_is w0
  have r2 := u8_range w2
  refine Ev.rounds (g := fun k => ropeladderlaw02_SchedKeeps.f k a0 l a2) ?_
  unfold ropeladderlaw02_SchedKeeps.f
  refine Ev.bind head_ev ?_
  by_cases hl : (l.length : Int) > 300
  · simp only [if_pos hl]
    exact Ev.now _
  · simp only [if_neg hl, hn, Option.bind_some]
    refine Ev.bind (picks_ev l n n1 (by omega) hw) ?_
    rw [w64 (n := a2) (by omega) (by omega), tmod_ r2.1, w64 (n := (n : Int) + a2 % 30) (by omega) (by omega)]
    obtain ⟨w, hww⟩ : ∃ w : Nat, (n : Int) + a2 % 30 = w := ⟨((n : Int) + a2 % 30).toNat, by omega⟩
    have hnw : n ≤ w := by omega
    have hw40 : w ≤ 40 := by omega
    rw [hww]
    clear hww
    have hpl := picks_length l n
    have hpr := picks_range l n n1
    generalize picks l n = p at *
    have hR : sched_Repair.f p (n : Int) (w : Int) = some (repGo ((w : Int) - n) (List.replicate n 0) p) := by
      unfold sched_Repair.f
      rw [if_pos ⟨by omega, by omega, by omega, by omega, by omega, hpr⟩, Int.toNat_natCast]
    have hql := repGo_length ((w : Int) - n) p (List.replicate n 0)
    have hqr := rep_range ((w : Int) - n) n n1 p hpr
    have hru := rep_rule ((w : Int) - n) n n1 p hpr
    simp only [hR, Option.bind_some]
    generalize repGo ((w : Int) - n) (List.replicate n 0) p = q at *
    simp only [if_pos (show (q.length : Int) = (p.length : Int) by omega)]
    have loop : ∀ d i, q.length - i = d → i ≤ q.length → Ev (fun k => ropeladderlaw02_SchedKeeps.l0 k true (n : Int) (w : Int) p q (i : Int)) true := by
      intro d
      induction d with
      | zero =>
        intro i hd hi
        refine Ev.step (f := fun _ => some true) (fun k => ?_) (Ev.now _)
        simp only [ropeladderlaw02_SchedKeeps.l0]
        rw [if_neg (by omega)]
      | succ d ih =>
        intro i hd hi
        have h1 : i < q.length := by omega
        refine Ev.step (fun k => ?_) (sk_l1 p q n w i true (by omega) h1 (by omega) n1 (by omega) hnw (by omega) (hqr i (by omega)) (hru i (by omega)) (ih (i + 1) (by omega) (by omega)) n 0 (by omega) (by omega))
        simp only [ropeladderlaw02_SchedKeeps.l0]
        rw [if_pos (by omega)]
        have e1 : longest q i 0 = 0 := by simp [longest, agesAt]
        have hq0 := (hqr i (by omega)).1
        have e2 : ownOf q i 0 = 0 := by unfold ownOf; rw [if_neg (by omega)]
        rw [e1, e2]
        rfl
    exact loop q.length 0 (by omega) (by omega)
end Go.Proofs.Ytngofgblhblfkaa.Pure
