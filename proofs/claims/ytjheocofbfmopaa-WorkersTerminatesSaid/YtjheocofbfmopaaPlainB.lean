/- Plain laws of repaired, round-robin and random picks: lists and numbers alone, no program; the conditions stand in each. -/
import Derived.Test.YtjheocofbfmopaaHand
namespace Go.Proofs.Ytjheocofbfmopaa.Sch
open Go.RowKit Go.Proofs.YtjheocofbfmopaaW.PrintWords Go.Proofs.YtjheocofbfmopaaW.PrintLast Go.Proofs.YtjheocofbfmopaaW.PrintMore

/-- For how many picks ahead of place i thread t has not been picked. -/
def ageOf (q : List Int) (t : Int) : Nat → Nat
  | 0 => 0
  | i + 1 => if q.getD i 0 = t then 0 else ageOf q t i + 1
theorem ageOf_le (q : List Int) (t : Int) : ∀ i, ageOf q t i ≤ i
  | 0 => Nat.le_refl _
  | i + 1 => by
    have := ageOf_le q t i
    unfold ageOf
    split <;> omega
theorem ageOf_append (q r : List Int) (t : Int) : ∀ i, i ≤ q.length → ageOf (q ++ r) t i = ageOf q t i
  | 0, _ => rfl
  | i + 1, h => by
    unfold ageOf
    rw [ageOf_append q r t i (by omega)]
    simp only [List.getD_eq_getElem?_getD]
    rw [List.getElem?_append_left (by omega)]
def agesAt (q : List Int) (n i : Nat) : List Int := (List.range n).map fun t : Nat => ((ageOf q (t : Int) i : Nat) : Int)
theorem agesAt_length (q : List Int) (n i : Nat) : (agesAt q n i).length = n := by simp [agesAt]
theorem agesAt_zero (q : List Int) (n : Nat) : agesAt q n 0 = List.replicate n 0 := by
  apply List.ext_getElem
  · simp [agesAt]
  · intro i h1 h2
    simp [agesAt, ageOf]
theorem agesAt_succ (q : List Int) (n i : Nat) (hq : 0 ≤ q.getD i 0 ∧ q.getD i 0 < n) : agesAt q n (i + 1) = aged (agesAt q n i) (q.getD i 0) := by
  apply List.ext_getElem
  · simp [agesAt, aged]
  · intro t h1 h2
    have ht : t < n := by simpa [agesAt] using h1
    unfold aged at h2 ⊢
    rw [List.getElem_set]
    simp only [agesAt, List.getElem_map, List.getElem_range]
    rw [show ageOf q (t : Int) (i + 1) = if q.getD i 0 = (t : Int) then 0 else ageOf q (t : Int) i + 1 from rfl]
    by_cases e : q.getD i 0 = (t : Int)
    · rw [if_pos e, if_pos (by omega)]
      rfl
    · rw [if_neg e, if_neg (by omega)]
      omega
theorem agesAt_get (q : List Int) (n i t : Nat) (h : t < n) : (agesAt q n i)[t]'(by rw [agesAt_length]; exact h) = (ageOf q (t : Int) i : Int) := by simp [agesAt]

/-- Each repaired pick is the rule's, at the waiting times in the result itself. -/
theorem repGo_rule (d : Int) (n : Nat) (hn : 1 ≤ n) (rest : List Int) : ∀ (done : List Int) (ages : List Int), ages = agesAt done n done.length → (∀ p ∈ rest, 0 ≤ p ∧ p < n) →
    ∀ j, (h : j < rest.length) → (done ++ repGo d ages rest).getD (done.length + j) 0 = pickOf d (agesAt (done ++ repGo d ages rest) n (done.length + j)) rest[j] := by
  induction rest with
  | nil => intro done ages _ _ j h; exact absurd h (by simp)
  | cons p rest ih =>
    intro done ages ha hp j h
    have hne : ages ≠ [] := by
      intro he
      have := congrArg List.length ha
      rw [he, agesAt_length] at this
      simp at this
      omega
    have hal : ages.length = n := by rw [ha, agesAt_length]
    have hq := pickOf_range (d := d) (p := p) hne (by rw [hal]; exact hp p (by simp))
    rw [hal] at hq
    have e0 : repGo d ages (p :: rest) = pickOf d ages p :: repGo d (aged ages (pickOf d ages p)) rest := rfl
    rw [e0]
    generalize hg : pickOf d ages p = g at *
    have e1 : done ++ g :: repGo d (aged ages g) rest = (done ++ [g]) ++ repGo d (aged ages g) rest := by simp
    have hgd : (done ++ [g]).getD done.length 0 = g := by simp [List.getD_eq_getElem?_getD]
    have hag : aged ages g = agesAt (done ++ [g]) n (done ++ [g]).length := by
      rw [List.length_append, List.length_singleton, agesAt_succ _ _ _ (by rw [hgd]; exact hq), hgd, ha]
      congr 1
      unfold agesAt
      apply List.map_congr_left
      intro t _
      rw [ageOf_append _ _ _ _ (Nat.le_refl _)]
    rw [e1]
    cases j with
    | zero =>
      rw [Nat.add_zero]
      have e2 : ((done ++ [g]) ++ repGo d (aged ages g) rest).getD done.length 0 = g := by
        simp [List.getD_eq_getElem?_getD]
      rw [e2]
      simp only [List.getElem_cons_zero]
      rw [← hg, ha]
      congr 1
      unfold agesAt
      apply List.map_congr_left
      intro t _
      rw [List.append_assoc, ageOf_append _ _ _ _ (Nat.le_refl _)]
    | succ j =>
      have h2 := ih (done ++ [g]) (aged ages g) hag (fun x hx => hp x (List.mem_cons_of_mem _ hx)) j (by simpa using h)
      simp only [List.length_append, List.length_singleton] at h2
      rw [show done.length + (j + 1) = done.length + 1 + j by omega]
      simpa using h2
theorem rep_rule (d : Int) (n : Nat) (hn : 1 ≤ n) (l : List Int) (hl : ∀ p ∈ l, 0 ≤ p ∧ p < n) (j : Nat) (h : j < l.length) :
    (repGo d (List.replicate n 0) l).getD j 0 = pickOf d (agesAt (repGo d (List.replicate n 0) l) n j) l[j] := by
  have := repGo_rule d n hn l [] (List.replicate n 0) (agesAt_zero [] n).symm hl j h
  simpa using this
theorem rep_range (d : Int) (n : Nat) (hn : 1 ≤ n) (l : List Int) (hl : ∀ p ∈ l, 0 ≤ p ∧ p < n) (j : Nat) (h : j < l.length) :
    0 ≤ (repGo d (List.replicate n 0) l).getD j 0 ∧ (repGo d (List.replicate n 0) l).getD j 0 < n := by
  rw [rep_rule d n hn l hl j h]
  have := pickOf_range (d := d) (ages := agesAt (repGo d (List.replicate n 0) l) n j) (p := l[j]) (by intro he; have := agesAt_length (repGo d (List.replicate n 0) l) n j; rw [he] at this; simp at this; omega) (by rw [agesAt_length]; exact hl _ (List.getElem_mem _))
  rwa [agesAt_length] at this

/-- Of the waiting times no more than n - m reach d + m. -/
def Tame (d : Int) (ages : List Int) : Prop := ∀ m : Nat, 1 ≤ m → m ≤ ages.length → ages.countP (fun a => decide (d + m ≤ a)) ≤ ages.length - m
theorem tame_zero (d : Int) (n : Nat) (hd : 0 ≤ d) : Tame d (List.replicate n 0) := by
  intro m h1 _
  rw [List.countP_replicate, if_neg (by simp; omega)]
  exact Nat.zero_le _
theorem countP_map_succ (l : List Int) (c : Int) : (l.map (· + 1)).countP (fun a => decide (c ≤ a)) = l.countP (fun a => decide (c - 1 ≤ a)) := by
  rw [List.countP_map]
  apply List.countP_congr
  intro x _
  simp
  omega
theorem tame_step {d : Int} {ages : List Int} {p : Int} (hne : ages ≠ []) (hp : 0 ≤ p ∧ p < ages.length) (hd : 0 ≤ d) (h : Tame d ages) : Tame d (aged ages (pickOf d ages p)) := by
  intro m h1 h2
  rw [aged_length] at h2 ⊢
  have hq := pickOf_range (d := d) hne hp
  generalize hg : pickOf d ages p = q at *
  obtain ⟨i, rfl⟩ : ∃ i : Nat, q = i := ⟨q.toNat, by omega⟩
  have hil : i < ages.length := by omega
  unfold aged
  rw [Int.toNat_natCast, List.countP_set (by simpa using hil), countP_map_succ, if_neg (c := decide (d + (m : Int) ≤ 0) = true) (by simp; omega)]
  simp only [List.getElem_map, Nat.add_zero]
  by_cases hm : d ≤ lmax ages
  · have hi : ages[i] = lmax ages := by
      unfold pickOf at hg
      rw [if_pos hm] at hg
      have hx : ages.idxOf (lmax ages) = i := by omega
      subst hx
      exact List.getElem_idxOf _
    by_cases hc : d + (m : Int) ≤ ages[i] + 1
    · rw [if_pos (decide_eq_true hc)]
      by_cases hm1 : m = 1
      · subst hm1
        have := List.countP_le_length (p := fun a => decide (d + ((1 : Nat) : Int) - 1 ≤ a)) (l := ages)
        omega
      · have := h (m - 1) (by omega) (by omega)
        have e : d + (m : Int) - 1 = d + ((m - 1 : Nat) : Int) := by omega
        rw [e]
        omega
    · have hz : ages.countP (fun a => decide (d + (m : Int) - 1 ≤ a)) = 0 := by
        rw [List.countP_eq_zero]
        intro x hx
        have := lmax_ge ages x hx
        simp
        omega
      rw [hz]
      omega
  · have hz : ages.countP (fun a => decide (d + (m : Int) - 1 ≤ a)) = 0 := by
      rw [List.countP_eq_zero]
      intro x hx
      have := lmax_ge ages x hx
      simp
      omega
    rw [hz]
    omega
theorem tame_bound {d : Int} {ages : List Int} (h : Tame d ages) : ∀ x ∈ ages, x < d + ages.length := by
  intro x hx
  have hl : 1 ≤ ages.length := List.length_pos_of_mem hx
  have := h ages.length hl (Nat.le_refl _)
  rw [Nat.sub_self] at this
  have h0 : ages.countP (fun a => decide (d + (ages.length : Int) ≤ a)) = 0 := by omega
  rw [List.countP_eq_zero] at h0
  have := h0 x hx
  simp at this
  omega
theorem rep_tame (d : Int) (hd : 0 ≤ d) (n : Nat) (hn : 1 ≤ n) (l : List Int) (hl : ∀ p ∈ l, 0 ≤ p ∧ p < n) : ∀ i, i ≤ l.length → Tame d (agesAt (repGo d (List.replicate n 0) l) n i)
  | 0, _ => by rw [agesAt_zero]; exact tame_zero d n hd
  | i + 1, h => by
    have ih := rep_tame d hd n hn l hl i (by omega)
    have hr := rep_range d n hn l hl i (by omega)
    rw [agesAt_succ _ _ _ hr, rep_rule d n hn l hl i (by omega)]
    exact tame_step (by intro he; have := agesAt_length (repGo d (List.replicate n 0) l) n i; rw [he] at this; simp at this; omega) (by rw [agesAt_length]; exact hl _ (List.getElem_mem _)) hd ih
/-- Not picked in a window: then the waiting time behind it is at least the window. -/
theorem ageOf_window (q : List Int) (t : Int) (i : Nat) : ∀ w, (∀ j, j < w → q.getD (i + j) 0 ≠ t) → w ≤ ageOf q t (i + w)
  | 0, _ => Nat.zero_le _
  | w + 1, h => by
    have ih := ageOf_window q t i w (fun j hj => h j (by omega))
    show w + 1 ≤ ageOf q t (i + w + 1)
    unfold ageOf
    rw [if_neg (h w (by omega))]
    omega
theorem fair_of_ages {q : List Int} {n w : Nat} (hw : 1 ≤ w) (h : ∀ i, i ≤ q.length → ∀ t, t < n → ageOf q (t : Int) i < w) : fair q n w = true := by
  unfold fair fairAt
  rw [List.all_eq_true]
  intro i hi
  rw [List.all_eq_true]
  intro t ht
  have hi := List.mem_range.1 hi
  have ht := List.mem_range.1 ht
  rw [List.contains_iff_mem]
  refine Classical.byContradiction fun hno => ?_
  have h1 := h (i + w) (by omega) t ht
  have h2 := ageOf_window q (t : Int) i w (fun j hj he => hno (by
    rw [List.mem_iff_getElem]
    refine ⟨j, by simp [winAt]; omega, ?_⟩
    simp only [winAt, List.getElem_take, List.getElem_drop]
    rw [← he]
    simp [List.getD_eq_getElem?_getD, show i + j < q.length by omega]))
  omega
theorem rep_fair (n w : Nat) (hn : 1 ≤ n) (hw : n ≤ w) (l : List Int) (hl : ∀ p ∈ l, 0 ≤ p ∧ p < n) : fair (repGo ((w : Int) - n) (List.replicate n 0) l) n w = true := by
  refine fair_of_ages (by omega) (fun i hi t ht => ?_)
  rw [repGo_length] at hi
  have h := tame_bound (rep_tame ((w : Int) - n) (by omega) n hn l hl i hi) (ageOf (repGo ((w : Int) - n) (List.replicate n 0) l) (t : Int) i : Int) (by
    unfold agesAt
    exact List.mem_map.2 ⟨t, List.mem_range.2 ht, rfl⟩)
  rw [agesAt_length] at h
  omega

/-- Round-robin picks. -/
def robin (f : Int) (n c : Nat) : List Int := (List.range c).map fun i : Nat => (f + i) % n
theorem robin_length (f : Int) (n c : Nat) : (robin f n c).length = c := by simp [robin]
theorem robin_get (f : Int) (n c : Nat) {i : Nat} (h : i < c) : (robin f n c).getD i 0 = (f + i) % n := by simp [robin, List.getD_eq_getElem?_getD, h]
theorem robin_age (f : Int) (n c : Nat) (hn : 1 ≤ n) : ∀ i, i ≤ c → ∀ t, t < n → ageOf (robin f n c) (t : Int) i < n := by
  intro i hi t ht
  refine Classical.byContradiction fun hno => ?_
  have hge : n ≤ ageOf (robin f n c) (t : Int) i := by omega
  have hle := ageOf_le (robin f n c) (t : Int) i
  -- the last n picks all miss t
  have key : ∀ w, w ≤ ageOf (robin f n c) (t : Int) i → ∀ j, j < w → (robin f n c).getD (i - 1 - j) 0 ≠ t := by
    clear hge hno
    induction i with
    | zero => intro w hw j hj; simp [ageOf] at hw; omega
    | succ i ih =>
      intro w hw j hj
      unfold ageOf at hw
      split at hw
      · omega
      · rename_i hne
        cases j with
        | zero => simpa using hne
        | succ j =>
          have := ih (by omega) (ageOf_le _ _ _) (w - 1) (by omega) j (by omega)
          rwa [show i + 1 - 1 - (j + 1) = i - 1 - j by omega]
  have e0 : 0 ≤ ((f + (i - 1 : Nat)) - t) % n := Int.emod_nonneg _ (by omega)
  have e1 : ((f + (i - 1 : Nat)) - t) % n < n := Int.emod_lt_of_pos _ (by omega)
  obtain ⟨j, hj⟩ : ∃ j : Nat, ((f + (i - 1 : Nat)) - t) % n = j := ⟨_, (Int.toNat_of_nonneg e0).symm⟩
  refine key n hge j (by omega) ?_
  rw [robin_get f n c (by omega)]
  have e2 := Int.emod_add_mul_ediv ((f + (i - 1 : Nat)) - t) n
  rw [hj] at e2
  have e3 : f + ((i - 1 - j : Nat) : Int) = t + n * (((f + (i - 1 : Nat)) - t) / n) := by omega
  rw [e3, Int.add_mul_emod_self_left]
  exact Int.emod_eq_of_lt (by omega) (by omega)
theorem robin_fair (f : Int) (n c w : Nat) (hn : 1 ≤ n) (hw : n ≤ w) : fair (robin f n c) n w = true := by
  refine fair_of_ages (by omega) (fun i hi t ht => ?_)
  rw [robin_length] at hi
  have := robin_age f n c hn i hi t ht
  omega
theorem lmax_le {l : List Int} {b : Int} (hb : 0 ≤ b) (h : ∀ x ∈ l, x ≤ b) : lmax l ≤ b := by
  cases l with
  | nil => exact hb
  | cons x xs => exact h _ (lmax_mem (x :: xs) (by simp))
/-- A schedule whose waiting times stay below d is left as it is. -/
theorem rep_same (d : Int) (n : Nat) (hn : 1 ≤ n) (l : List Int) (hl : ∀ p ∈ l, 0 ≤ p ∧ p < n) (hd : ∀ i, i ≤ l.length → ∀ t, t < n → (ageOf l (t : Int) i : Int) < d) (h0 : 0 < d) : repGo d (List.replicate n 0) l = l := by
  have hlen := repGo_length d l (List.replicate n 0)
  have hpre : ∀ i, i ≤ l.length → (repGo d (List.replicate n 0) l).take i = l.take i := by
    intro i
    induction i with
    | zero => intro _; simp
    | succ i ih =>
      intro hi
      have ih := ih (by omega)
      rw [List.take_succ_eq_append_getElem (by omega), List.take_succ_eq_append_getElem (by omega), ih]
      have hr := rep_rule d n hn l hl i (by omega)
      have hg : (repGo d (List.replicate n 0) l).getD i 0 = (repGo d (List.replicate n 0) l)[i]'(by omega) := by simp [List.getD_eq_getElem?_getD, show i < (repGo d (List.replicate n 0) l).length by omega]
      rw [hg] at hr
      rw [hr]
      have ha : agesAt (repGo d (List.replicate n 0) l) n i = agesAt l n i := by
        unfold agesAt
        apply List.map_congr_left
        intro t _
        have e1 := ageOf_append ((repGo d (List.replicate n 0) l).take i) ((repGo d (List.replicate n 0) l).drop i) (t : Int) i (by rw [List.length_take]; omega)
        have e2 := ageOf_append (l.take i) (l.drop i) (t : Int) i (by rw [List.length_take]; omega)
        rw [List.take_append_drop] at e1 e2
        rw [e1, e2, ih]
      have hm : lmax (agesAt l n i) ≤ d - 1 := lmax_le (by omega) (fun x hx => by
        obtain ⟨t, ht, rfl⟩ := List.mem_map.1 hx
        have := hd i (by omega) t (List.mem_range.1 ht)
        omega)
      rw [ha]
      unfold pickOf
      rw [if_neg (by omega)]
  have := hpre l.length (Nat.le_refl _)
  rw [List.take_of_length_le (by omega), List.take_of_length_le (Nat.le_refl _)] at this
  exact this
theorem robin_rep (f : Int) (n c : Nat) (hn : 1 ≤ n) : repGo n (List.replicate n 0) (robin f n c) = robin f n c := by
  refine rep_same n n hn _ (fun p hp => ?_) (fun i hi t ht => ?_) (by omega)
  · obtain ⟨i, _, rfl⟩ := List.mem_map.1 hp
    exact ⟨Int.emod_nonneg _ (by omega), Int.emod_lt_of_pos _ (by omega)⟩
  · rw [robin_length] at hi
    have := robin_age f n c hn i hi t ht
    omega
end Go.Proofs.Ytjheocofbfmopaa.Sch
