/- What sched.Repair computes, as a plain function on lists; no Go in sight, no condition. -/
import Derived.Test.YtjheocofbfmopaaHand0
import Derived.Test.YtjheocofbfmopaaPIx1
namespace Go.Proofs.Ytjheocofbfmopaa.Sch
open Go.RowKit Go.Proofs.YtjheocofbfmopaaW.PrintWords Go.Proofs.YtjheocofbfmopaaW.PrintLast Go.Proofs.YtjheocofbfmopaaW.PrintMore

theorem mx_eq (a b : Int) : mx a b = max a b := by unfold mx; omega
theorem foldl_mx_ge (l : List Int) : ∀ a, a ≤ l.foldl mx a ∧ ∀ x ∈ l, x ≤ l.foldl mx a := by
  induction l with
  | nil => intro a; simp
  | cons y ys ih =>
    intro a
    have h := ih (mx a y)
    have h1 : a ≤ mx a y := by unfold mx; omega
    have h2 : y ≤ mx a y := by unfold mx; omega
    refine ⟨by simp only [List.foldl_cons]; omega, fun x hx => ?_⟩
    simp only [List.foldl_cons]
    rcases List.mem_cons.1 hx with rfl | hx
    · omega
    · exact h.2 x hx
theorem foldl_mx_mem (l : List Int) : ∀ a, l.foldl mx a = a ∨ l.foldl mx a ∈ l := by
  induction l with
  | nil => intro a; simp
  | cons y ys ih =>
    intro a
    simp only [List.foldl_cons]
    rcases ih (mx a y) with h | h
    · rw [h]
      unfold mx
      split
      · right; simp
      · left; rfl
    · right; exact List.mem_cons_of_mem _ h
theorem lmax_mem (l : List Int) (h : l ≠ []) : lmax l ∈ l := by
  cases l with
  | nil => exact absurd rfl h
  | cons x xs =>
    show xs.foldl mx x ∈ x :: xs
    rcases foldl_mx_mem xs x with h | h
    · rw [h]; simp
    · exact List.mem_cons_of_mem _ h
theorem lmax_ge (l : List Int) : ∀ x ∈ l, x ≤ lmax l := by
  cases l with
  | nil => simp
  | cons y ys =>
    intro x hx
    have h := foldl_mx_ge ys y
    rcases List.mem_cons.1 hx with rfl | hx
    · exact h.1
    · exact h.2 x hx

/-- The pick of one step: d is window - threads, ages the waiting times, p the wish. -/
def pickOf (d : Int) (ages : List Int) (p : Int) : Int := if lmax ages ≥ d then (ages.idxOf (lmax ages) : Int) else p
/-- The waiting times behind a step. -/
def aged (ages : List Int) (q : Int) : List Int := (ages.map (· + 1)).set q.toNat 0
/-- The repaired picks, from some waiting times on. -/
def repGo (d : Int) : List Int → List Int → List Int
  | _, [] => []
  | ages, p :: rest => pickOf d ages p :: repGo d (aged ages (pickOf d ages p)) rest
theorem repGo_length (d : Int) (l : List Int) : ∀ ages, (repGo d ages l).length = l.length := by
  induction l with
  | nil => intro ages; rfl
  | cons p rest ih => intro ages; simp [repGo, ih]
theorem aged_length (ages : List Int) (q : Int) : (aged ages q).length = ages.length := by simp [aged]
theorem pickOf_range {d : Int} {ages : List Int} {p : Int} (h : ages ≠ []) (hp : 0 ≤ p ∧ p < ages.length) : 0 ≤ pickOf d ages p ∧ pickOf d ages p < ages.length := by
  unfold pickOf
  split
  · have := List.idxOf_lt_length_iff.2 (lmax_mem ages h)
    omega
  · exact hp
theorem aged_bound {ages : List Int} {q : Int} {k : Nat} (h : ∀ x ∈ ages, 0 ≤ x ∧ x ≤ (k : Int)) : ∀ x ∈ aged ages q, 0 ≤ x ∧ x ≤ ((k + 1 : Nat) : Int) := by
  intro x hx
  unfold aged at hx
  rcases List.mem_or_eq_of_mem_set hx with hx | rfl
  · obtain ⟨y, hy, rfl⟩ := List.mem_map.1 hx
    have := h y hy
    omega
  · omega

theorem index_from (l : List Int) (m : Int) (hb : l.length ≤ 100000) : ∀ (d k i : Nat), l.length - i = d → d < k → i ≤ l.length → (∀ j (h : j < l.length), j < i → l[j] ≠ m) → (∃ j, ∃ h : j < l.length, l[j] = m) →
    PI.slices_Index_int_int.l0 k l m (l.length : Int) (i : Int) = some (l.idxOf m : Int) := by
  intro d
  induction d with
  | zero =>
    intro k i hd hk hi hn ⟨j, hj, hm⟩
    exact absurd hm (hn j hj (by omega))
  | succ d ih =>
    intro k i hd hk hi hn he
    obtain ⟨k, rfl⟩ : ∃ m, k = m + 1 := ⟨k - 1, by omega⟩
    have hlt : i < l.length := by omega
    simp only [PI.slices_Index_int_int.l0]
    rw [if_pos (by omega), if_pos (by omega), if_pos (by omega)]
    have hr : rd l (i : Int) = l[i] := by simp [rd, List.getD_eq_getElem?_getD, hlt]
    rw [hr]
    by_cases e : m = l[i]
    · rw [if_pos e]
      congr 1
      have : l.idxOf m = i := by
        subst e
        unfold List.idxOf
        rw [List.findIdx_eq hlt]
        exact ⟨by simp, fun j hj => by simpa using hn j (by omega) hj⟩
      rw [this]
    · rw [if_neg e]
      have hw : wrap64 ((i : Int) + 1) = ((i + 1 : Nat) : Int) := by unfold wrap64; omega
      rw [hw]
      refine ih k (i + 1) (by omega) (by omega) (by omega) (fun j h hj => ?_) he
      by_cases h2 : j = i
      · subst h2; exact fun h3 => e h3.symm
      · exact hn j h (by omega)
theorem index_some (l : List Int) (m : Int) (hb : l.length ≤ 100000) (h : m ∈ l) : PI.slices_Index_int_int.f (l.length + 1) l m = some (l.idxOf m : Int) := by
  obtain ⟨j, hj, hm⟩ := List.mem_iff_getElem.1 h
  exact index_from l m hb l.length (l.length + 1) 0 (by omega) (by omega) (by omega) (fun j _ h => absurd h (by omega)) ⟨j, hj, hm⟩
end Go.Proofs.Ytjheocofbfmopaa.Sch
