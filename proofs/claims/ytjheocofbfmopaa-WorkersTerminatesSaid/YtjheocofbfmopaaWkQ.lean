/- The phase of the worker pool, plain laws: what picks keep of the pairs, that the finish ends; no condition but what each states. -/
import Derived.Test.YtjheocofbfmopaaWkD
namespace Go.Proofs.Ytjheocofbfmopaa.Hand
set_option linter.unusedVariables false

/-- A pick appends to the pairs, or leaves them. -/
theorem pick_pairs (x : Ph) (k : Nat) : ∃ t, (x.pick k).pairs = x.pairs ++ t := by
  unfold Ph.pick
  (repeat' split) <;> first | exact ⟨_, rfl⟩ | exact ⟨[], by simp⟩
theorem run_pairs (l : List Int) : ∀ x : Ph, ∃ t, (x.run l).pairs = x.pairs ++ t := by
  induction l with
  | nil => exact fun x => ⟨[], by simp [Ph.run]⟩
  | cons p l ih =>
    intro x
    obtain ⟨t, ht⟩ := pick_pairs x p.toNat
    obtain ⟨t2, ht2⟩ := ih (x.pick p.toNat)
    exact ⟨t ++ t2, by simp only [Ph.run, List.foldl_cons] at ht2 ⊢; rw [ht2, ht, List.append_assoc]⟩
theorem run_append (x : Ph) (l1 l2 : List Int) : x.run (l1 ++ l2) = (x.run l1).run l2 := by simp [Ph.run]
/-- Nobody is left: every worker is done. -/
theorem all_done {x : Ph} {w : Nat} (h : x.Inv w) (hz : x.left = 0) (k : Nat) (hk : k < x.st.length) : x.st[k] = .done := by
  have e : x.st.countP Stp.isDone = x.st.length := by have := h.left; have := h.len; omega
  have := List.countP_eq_length.1 e x.st[k] (List.getElem_mem hk)
  cases e2 : x.st[k] <;> rw [e2] at this <;> first | rfl | simp [Stp.isDone] at this
theorem pick_over {x : Ph} {w : Nat} (h : x.Inv w) (hz : x.left = 0) (k : Nat) (hk : k < w) : x.pick k = { x with picks := x.picks + 1 } := by
  have hk' : k < x.st.length := by rw [h.len]; exact hk
  unfold Ph.pick
  rw [getD_of hk', all_done h hz k hk']
theorem run_over {w : Nat} (l : List Int) (hl : ∀ p ∈ l, 0 ≤ p ∧ p < w) : ∀ {x : Ph}, x.Inv w → x.left = 0 → (x.run l).pairs = x.pairs ∧ (x.run l).left = 0 := by
  induction l with
  | nil => exact fun h hz => ⟨rfl, hz⟩
  | cons p l ih =>
    intro x h hz
    have hp := hl p (by simp)
    have e := pick_over h hz p.toNat (by omega)
    have := ih (fun q hq => hl q (by simp [hq])) (pick_inv h p.toNat (by omega)) (by rw [e]; exact hz)
    simp only [Ph.run, List.foldl_cons] at this ⊢
    rw [e] at this ⊢
    exact this
theorem ended_all {x : Ph} {w : Nat} (h : x.Inv w) (hw : 1 ≤ w) (hz : x.left = 0) : (x.pairs.length : Int) = x.n := by
  have hd : 0 < x.st.countP Stp.isDone := by have := h.left; omega
  have hl : x.n < x.c := h.late (by
    refine Nat.lt_of_lt_of_le hd (List.countP_mono_left (fun s _ hs => ?_))
    cases s <;> simp_all [Stp.isDone, Stp.late])
  have h0 : x.st.countP Stp.isWork = 0 := by
    rw [List.countP_eq_zero]
    intro s hs
    obtain ⟨k, hk, rfl⟩ := List.getElem_of_mem hs
    rw [all_done h hz k hk]
    simp [Stp.isWork]
  have := h.held
  rw [h0] at this
  omega
/-- A worker that is never picked keeps its first step. -/
theorem run_idle (l : List Int) (k : Nat) (hl : ∀ p ∈ l, 0 ≤ p ∧ p ≠ k) : ∀ {x : Ph}, x.st.getD k .done = .claim → (x.run l).st.getD k .done = .claim := by
  induction l with
  | nil => exact fun h => h
  | cons p l ih =>
    intro x h
    have hp := hl p (by simp)
    have hne : p.toNat ≠ k := by omega
    refine ih (fun q hq => hl q (by simp [hq])) ?_
    have key : ∀ u, (x.st.set p.toNat u).getD k .done = .claim := fun u => by
      rw [List.getD_eq_getElem?_getD, List.getElem?_set_ne hne, ← List.getD_eq_getElem?_getD]; exact h
    show (x.pick p.toNat).st.getD k .done = .claim
    unfold Ph.pick
    (repeat' split) <;> first | exact key _ | exact h

/-- The steps' weights: what is left to do. -/
def Stp.wt : Stp → Nat | .claim => 3 | .work _ => 4 | .arrive => 2 | .wait => 1 | .done => 0
def Ph.M (x : Ph) : Nat := 2 * (x.n - x.c).toNat + (x.st.map Stp.wt).sum
theorem sum_set (l : List Stp) (k : Nat) (h : k < l.length) (u : Stp) : ((l.set k u).map Stp.wt).sum + l[k].wt = (l.map Stp.wt).sum + u.wt := by
  induction l generalizing k with
  | nil => simp at h
  | cons y ys ih =>
    cases k with
    | zero => simp; omega
    | succ k =>
      have := ih k (by simpa using h)
      simp only [List.set_cons_succ, List.map_cons, List.sum_cons, List.getElem_cons_succ]
      omega
/-- A pick lowers the measure, or is idle: it changes nothing. -/
theorem pick_M {x : Ph} {w : Nat} (h : x.Inv w) (k : Nat) (hk : k < w) : (x.pick k).M + 1 ≤ x.M ∨ x.pick k = { x with picks := x.picks + 1 } := by
  have hk' : k < x.st.length := by rw [h.len]; exact hk
  have q := fun u => sum_set x.st k hk' u
  unfold Ph.pick
  rw [getD_of hk']
  cases e : x.st[k] with
  | claim =>
    left
    simp only
    split
    · have q1 := q (.work x.c)
      rw [e] at q1
      simp only [Stp.wt] at q1
      simp only [Ph.M]
      omega
    · have q1 := q .arrive
      rw [e] at q1
      simp only [Stp.wt] at q1
      simp only [Ph.M]
      omega
  | work t =>
    left
    have q1 := q .claim
    rw [e] at q1
    simp only [Stp.wt] at q1
    simp only [Ph.M]
    omega
  | arrive =>
    left
    have q1 := q .wait
    rw [e] at q1
    simp only [Stp.wt] at q1
    simp only [Ph.M]
    omega
  | wait =>
    simp only
    split
    · left
      have q1 := q .done
      rw [e] at q1
      simp only [Stp.wt] at q1
      simp only [Ph.M]
      omega
    · exact .inr rfl
  | done => exact .inr rfl
theorem pick_M_le {x : Ph} {w : Nat} (h : x.Inv w) (k : Nat) (hk : k < w) : (x.pick k).M ≤ x.M := by
  rcases pick_M h k hk with e | e
  · omega
  · rw [e]; exact Nat.le_refl _
/-- Where every worker's pick is idle, nobody is left. -/
theorem idle_all {x : Ph} {w : Nat} (h : x.Inv w) (hi : ∀ k, k < w → x.pick k = { x with picks := x.picks + 1 }) : x.left = 0 := by
  have key : ∀ k (hk : k < x.st.length), (x.st[k] = .wait ∧ x.a ≠ x.st.length) ∨ x.st[k] = .done := by
    intro k hk
    have e := hi k (by rw [← h.len]; exact hk)
    have e2 : (x.pick k).M = x.M := by rw [e]; rfl
    have q := fun u => sum_set x.st k hk u
    unfold Ph.pick at e2
    rw [getD_of hk] at e2
    cases es : x.st[k] with
    | claim =>
      rw [es] at e2
      simp only at e2
      split at e2
      · have q1 := q (.work x.c)
        rw [es] at q1
        simp only [Stp.wt] at q1
        simp only [Ph.M] at e2
        omega
      · have q1 := q .arrive
        rw [es] at q1
        simp only [Stp.wt] at q1
        simp only [Ph.M] at e2
        omega
    | work t =>
      have q1 := q .claim
      rw [es] at q1 e2
      simp only [Stp.wt] at q1
      simp only [Ph.M] at e2
      omega
    | arrive =>
      have q1 := q .wait
      rw [es] at q1 e2
      simp only [Stp.wt] at q1
      simp only [Ph.M] at e2
      omega
    | wait =>
      left
      refine ⟨rfl, fun ha => ?_⟩
      rw [es] at e2
      simp only [if_pos ha] at e2
      have q1 := q .done
      rw [es] at q1
      simp only [Stp.wt] at q1
      simp only [Ph.M] at e2
      omega
    | done => exact .inr rfl
  have hp : x.st.countP Stp.past = x.st.length := by
    rw [List.countP_eq_length]
    intro s hs
    obtain ⟨k, hk, rfl⟩ := List.getElem_of_mem hs
    rcases key k hk with ⟨e, _⟩ | e <;> rw [e] <;> rfl
  have ha : x.a = x.st.length := by rw [h.a, hp]
  have hd : x.st.countP Stp.isDone = x.st.length := by
    rw [List.countP_eq_length]
    intro s hs
    obtain ⟨k, hk, rfl⟩ := List.getElem_of_mem hs
    rcases key k hk with ⟨_, e⟩ | e
    · exact absurd ha e
    · rw [e]; rfl
  have h1 := h.left
  have h2 := h.len
  omega
section
variable {x : Ph} {w : Nat} {f : Nat → Nat}
theorem steps_add (x : Ph) (f : Nat → Nat) (s : Nat) : ∀ m, x.steps f (s + m) = (x.steps f s).steps (fun j => f (s + j)) m
  | 0 => rfl
  | m + 1 => by
    show (x.steps f (s + m)).pick (f (s + m)) = _
    rw [steps_add x f s m]
    rfl
theorem steps_M_le (h : x.Inv w) (hf : ∀ k, f k < w) : ∀ m, (x.steps f m).M ≤ x.M
  | 0 => Nat.le_refl _
  | m + 1 => Nat.le_trans (pick_M_le (steps_inv h hf m).1 _ (hf m)) (steps_M_le h hf m)
/-- Over a window that picks every worker the measure falls, or nobody is left. -/
theorem window_M (h : x.Inv w) (hf : ∀ k, f k < w) (m : Nat) (hall : ∀ t, t < w → ∃ j, j < m ∧ f j = t) : (x.steps f m).M + 1 ≤ x.M ∨ x.left = 0 := by
  have key : ∀ m, (x.steps f m).M + 1 ≤ x.M ∨ (x.steps f m = { x with picks := x.picks + m } ∧ ∀ j, j < m → x.pick (f j) = { x with picks := x.picks + 1 }) := by
    intro m
    induction m with
    | zero => exact .inr ⟨by simp [Ph.steps], fun j hj => absurd hj (by omega)⟩
    | succ m ih =>
      rcases ih with e | ⟨e, hid⟩
      · exact .inl (by have := pick_M_le (steps_inv h hf m).1 _ (hf m); show ((x.steps f m).pick (f m)).M + 1 ≤ _; omega)
      · have hi := (steps_inv h hf m).1
        have hM : (x.steps f m).M = x.M := by rw [e]; rfl
        rcases pick_M hi (f m) (hf m) with e2 | e2
        · exact .inl (by show ((x.steps f m).pick (f m)).M + 1 ≤ _; omega)
        · rcases pick_M h (f m) (hf m) with e3 | e3
          · left
            show ((x.steps f m).pick (f m)).M + 1 ≤ _
            have e4 : ((x.steps f m).pick (f m)).M = (x.pick (f m)).M := by
              rw [e]
              unfold Ph.pick
              simp only
              (repeat' split) <;> rfl
            omega
          · right
            refine ⟨?_, fun j hj => ?_⟩
            · show (x.steps f m).pick (f m) = _
              rw [e2, e]
              simp
              omega
            · rcases Nat.lt_succ_iff_lt_or_eq.1 hj with hj | rfl
              · exact hid j hj
              · exact e3
  rcases key m with e | ⟨_, e⟩
  · exact .inl e
  · refine .inr (idle_all h (fun k hk => ?_))
    obtain ⟨j, hj, rfl⟩ := hall k hk
    exact e j hj
theorem steps_over (h : x.Inv w) (hf : ∀ k, f k < w) (hz : x.left = 0) : ∀ m, (x.steps f m).left = 0
  | 0 => hz
  | m + 1 => by
    have := pick_over (steps_inv h hf m).1 (steps_over h hf hz m) (f m) (hf m)
    show ((x.steps f m).pick (f m)).left = 0
    rw [this]
    exact steps_over h hf hz m
/-- After as many windows as the measure, nobody is left. -/
theorem windows_end (h : x.Inv w) (hf : ∀ k, f k < w) (m : Nat) (hall : ∀ s t, t < w → ∃ j, j < m ∧ f (s * m + j) = t) : ∀ r, (x.steps f (r * m)).M + r ≤ x.M ∨ (x.steps f (r * m)).left = 0
  | 0 => .inl (by simp [Ph.steps])
  | r + 1 => by
    have e : (r + 1) * m = r * m + m := Nat.succ_mul r m
    have hi := (steps_inv h hf (r * m)).1
    rcases windows_end h hf m hall r with e1 | e1
    · rcases window_M hi (f := fun j => f (r * m + j)) (fun k => hf _) m (fun t ht => hall r t ht) with e2 | e2
      · left
        rw [e, steps_add]
        omega
      · right
        rw [e, steps_add]
        exact steps_over hi (fun k => hf _) e2 m
    · right
      rw [e, steps_add]
      exact steps_over hi (fun k => hf _) e1 m
theorem windows_over (h : x.Inv w) (hf : ∀ k, f k < w) (m : Nat) (hall : ∀ s t, t < w → ∃ j, j < m ∧ f (s * m + j) = t) : (x.steps f ((x.M + 1) * m)).left = 0 := by
  rcases windows_end h hf m hall (x.M + 1) with e | e
  · omega
  · exact e
end
theorem M_start (n : Int) (w : Nat) (hn : 0 ≤ n) : ((ph0 n w).M : Int) = 2 * n + 3 * w := by
  have : ((List.replicate w Stp.claim).map Stp.wt).sum = 3 * w := by
    rw [List.map_replicate, List.sum_replicate_nat]
    simp [Stp.wt, Nat.mul_comm]
  simp only [Ph.M, ph0]
  rw [this]
  omega
/-- The least number of picks behind which nobody is left. -/
theorem least {P : Nat → Prop} (hd : ∀ n, P n ∨ ¬ P n) : ∀ n, P n → ∃ m, m ≤ n ∧ P m ∧ ∀ j, j < m → ¬ P j := by
  intro n
  induction n using Nat.strongRecOn with
  | ind n ih =>
    intro h
    by_cases h2 : ∃ j, j < n ∧ P j
    · obtain ⟨j, hj, hp⟩ := h2
      obtain ⟨m, h3, h4, h5⟩ := ih j hj hp
      exact ⟨m, by omega, h4, h5⟩
    · exact ⟨n, Nat.le_refl _, h, fun j hj hp => h2 ⟨j, hj, hp⟩⟩
theorem left_nonneg {x : Ph} {w : Nat} (h : x.Inv w) : 0 ≤ x.left := by
  have h1 := h.left
  have h2 := List.countP_le_length (p := Stp.isDone) (l := x.st)
  have h3 := h.len
  omega
/-- Finish's number of picks. -/
theorem finish_ends (n : Int) (w : Nat) (l : List Int) (hn : 0 ≤ n) (hw : 1 ≤ w) (hr : ∀ p ∈ l, 0 ≤ p ∧ p < w) : ∃ N : Nat, (N : Int) ≤ l.length + (2 * n + 3 * w + 1) * w ∧ ((ph0 n w).steps (pickAt l w) N).left = 0 ∧ ∀ j, j < N → 0 < ((ph0 n w).steps (pickAt l w) j).left := by
  have hf := pickAt_lt hw hr
  have h0 := inv0 n w hn
  have hi := (steps_inv h0 hf l.length).1
  have hall : ∀ s t, t < w → ∃ j, j < w ∧ pickAt l w (l.length + (s * w + j)) = t := fun s t ht => ⟨t, ht, by
    unfold pickAt
    rw [if_neg (by omega), Nat.add_sub_cancel_left, Nat.add_comm, Nat.mul_comm, Nat.add_mul_mod_self_left, Nat.mod_eq_of_lt ht]⟩
  have hend := windows_over hi (f := fun j => pickAt l w (l.length + j)) (fun k => hf _) w hall
  rw [← steps_add] at hend
  have hM := steps_M_le h0 hf l.length
  have hM0 := M_start n w hn
  obtain ⟨m, h1, h2, h3⟩ := least (P := fun N => ((ph0 n w).steps (pickAt l w) N).left = 0) (fun _ => Decidable.em _) _ hend
  refine ⟨m, ?_, h2, fun j hj => ?_⟩
  · have e1 : (m : Int) ≤ ((l.length + (((ph0 n w).steps (pickAt l w) l.length).M + 1) * w : Nat) : Int) := by exact_mod_cast h1
    rw [Int.natCast_add, Int.natCast_mul, Int.natCast_add] at e1
    have e2 : ((((ph0 n w).steps (pickAt l w) l.length).M : Int) + (1 : Nat)) * (w : Int) ≤ (2 * n + 3 * w + 1) * w := Int.mul_le_mul_of_nonneg_right (by omega) (by omega)
    omega
  · have := left_nonneg (steps_inv h0 hf j).1
    have := h3 j hj
    omega
/-- Up to the schedule's end Finish runs it. -/
theorem steps_run (x : Ph) (l : List Int) (w : Nat) : ∀ k, k ≤ l.length → x.steps (pickAt l w) k = x.run (l.take k)
  | 0, _ => by simp [Ph.steps, Ph.run]
  | k + 1, h => by
    rw [run_succ _ _ _ (by omega), ← steps_run x l w k (by omega)]
    show (x.steps (pickAt l w) k).pick (pickAt l w k) = _
    rw [show pickAt l w k = l[k].toNat by unfold pickAt; rw [if_pos (by omega)]; simp [List.getD_eq_getElem?_getD, List.getElem?_eq_getElem (show k < l.length by omega)]]
theorem steps_pairs (x : Ph) (f : Nat → Nat) : ∀ m, ∃ t, (x.steps f m).pairs = x.pairs ++ t
  | 0 => ⟨[], by simp [Ph.steps]⟩
  | m + 1 => by
    obtain ⟨t, ht⟩ := steps_pairs x f m
    obtain ⟨t2, ht2⟩ := pick_pairs (x.steps f m) (f m)
    exact ⟨t ++ t2, by show ((x.steps f m).pick (f m)).pairs = _; rw [ht2, ht, List.append_assoc]⟩

/-- What every phase keeps of the tasks: each at most once, by a worker, each worker's in increasing order. -/
structure Ph.Once (x : Ph) (w : Nat) : Prop where
  rng : ∀ p ∈ x.pairs, 0 ≤ p.1 ∧ p.1 < x.c ∧ p.1 < x.n ∧ 0 ≤ p.2 ∧ p.2 < w
  held : ∀ k t, x.st.getD k .done = .work t → 0 ≤ t ∧ t < x.c ∧ t < x.n
  held2 : ∀ k k' t, x.st.getD k .done = .work t → x.st.getD k' .done = .work t → k = k'
  apart : ∀ k t, x.st.getD k .done = .work t → ∀ p ∈ x.pairs, p.1 ≠ t ∧ (p.2 = (k : Int) → p.1 < t)
  incr : x.pairs.Pairwise (fun p q => p.1 ≠ q.1 ∧ (p.2 = q.2 → p.1 < q.1))
theorem once0 (n : Int) (w : Nat) : (ph0 n w).Once w := by
  have e : ∀ k t, (ph0 n w).st.getD k .done ≠ .work t := fun k t => by
    simp only [ph0, List.getD_eq_getElem?_getD, List.getElem?_replicate]
    split <;> simp
  exact ⟨by simp [ph0], fun k t h => absurd h (e k t), fun k _ t h => absurd h (e k t), fun k t h => absurd h (e k t), by simp [ph0]⟩
theorem getD_set {l : List Stp} {k : Nat} (hk : k < l.length) (u : Stp) (j : Nat) : (l.set k u).getD j .done = if k = j then u else l.getD j .done := by
  simp only [List.getD_eq_getElem?_getD, List.getElem?_set]
  by_cases e : k = j
  · rw [if_pos e, if_pos e]
    subst e
    rw [if_pos hk]
    rfl
  · rw [if_neg e, if_neg e]
theorem pick_once {x : Ph} {w : Nat} (h : x.Inv w) (ho : x.Once w) (k : Nat) (hk : k < w) : (x.pick k).Once w := by
  have hk' : k < x.st.length := by rw [h.len]; exact hk
  obtain ⟨h1, h2, h3, h4, h5⟩ := ho
  have hc := h.c0
  have hnw : ∀ (u : Stp) (j : Nat) (t : Int), (∀ t, u ≠ .work t) → (x.st.set k u).getD j .done = .work t → k ≠ j ∧ x.st.getD j .done = .work t := fun u j t hu e => by
    rw [getD_set hk'] at e
    by_cases ek : k = j
    · rw [if_pos ek] at e
      exact absurd e (hu t)
    · rw [if_neg ek] at e
      exact ⟨ek, e⟩
  unfold Ph.pick
  rw [getD_of hk']
  cases e : x.st[k] with
  | claim =>
    simp only
    split
    · rename_i hcn
      have hw : ∀ j t, (x.st.set k (.work x.c)).getD j .done = .work t → (k = j ∧ t = x.c) ∨ (k ≠ j ∧ x.st.getD j .done = .work t) := fun j t e => by
        rw [getD_set hk'] at e
        by_cases ek : k = j
        · rw [if_pos ek] at e
          injection e with e
          exact .inl ⟨ek, e.symm⟩
        · rw [if_neg ek] at e
          exact .inr ⟨ek, e⟩
      refine ⟨fun p hp => ?_, fun j t ht => ?_, fun j j' t ht ht' => ?_, fun j t ht p hp => ?_, h5⟩
      · have := h1 p hp
        simp only
        omega
      · rcases hw j t ht with ⟨_, rfl⟩ | ⟨_, e2⟩
        · simp only
          omega
        · have := h2 j t e2
          simp only
          omega
      · rcases hw j t ht with ⟨e1, e2⟩ | ⟨e1, e2⟩
        · rcases hw j' t ht' with ⟨e3, e4⟩ | ⟨e3, e4⟩
          · omega
          · have := h2 j' t e4
            omega
        · rcases hw j' t ht' with ⟨e3, e4⟩ | ⟨e3, e4⟩
          · have := h2 j t e2
            omega
          · exact h3 j j' t e2 e4
      · rcases hw j t ht with ⟨e1, e2⟩ | ⟨e1, e2⟩
        · have := h1 p hp
          omega
        · exact h4 j t e2 p hp
    · refine ⟨fun p hp => ?_, fun j t ht => ?_, fun j j' t ht ht' => ?_, fun j t ht p hp => ?_, h5⟩
      · have := h1 p hp
        simp only
        omega
      · have := h2 j t (hnw _ j t (fun _ e => by cases e) ht).2
        simp only
        omega
      · exact h3 j j' t (hnw _ j t (fun _ e => by cases e) ht).2 (hnw _ j' t (fun _ e => by cases e) ht').2
      · exact h4 j t (hnw _ j t (fun _ e => by cases e) ht).2 p hp
  | work t0 =>
    simp only
    have hx : x.st.getD k .done = .work t0 := by rw [getD_of hk', e]
    have g2 := h2 k t0 hx
    refine ⟨fun p hp => ?_, fun j t ht => ?_, fun j j' t ht ht' => ?_, fun j t ht p hp => ?_, ?_⟩
    · rcases List.mem_append.1 hp with hp | hp
      · exact h1 p hp
      · obtain rfl := List.mem_singleton.1 hp
        simp only
        omega
    · exact h2 j t (hnw _ j t (fun _ e => by cases e) ht).2
    · exact h3 j j' t (hnw _ j t (fun _ e => by cases e) ht).2 (hnw _ j' t (fun _ e => by cases e) ht').2
    · obtain ⟨q1, q2⟩ := hnw _ j t (fun _ e => by cases e) ht
      rcases List.mem_append.1 hp with hp | hp
      · exact h4 j t q2 p hp
      · obtain rfl := List.mem_singleton.1 hp
        refine ⟨fun e => ?_, fun e => ?_⟩
        · simp only at e
          subst e
          exact q1 (h3 k j t0 hx q2)
        · simp only at e
          omega
    · rw [List.pairwise_append]
      refine ⟨h5, by simp, fun p hp q hq => ?_⟩
      obtain rfl := List.mem_singleton.1 hq
      exact ⟨(h4 k t0 hx p hp).1, (h4 k t0 hx p hp).2⟩
  | arrive =>
    simp only
    exact ⟨h1, fun j t ht => h2 j t (hnw _ j t (fun _ e => by cases e) ht).2, fun j j' t ht ht' => h3 j j' t (hnw _ j t (fun _ e => by cases e) ht).2 (hnw _ j' t (fun _ e => by cases e) ht').2, fun j t ht p hp => h4 j t (hnw _ j t (fun _ e => by cases e) ht).2 p hp, h5⟩
  | wait =>
    simp only
    split
    · exact ⟨h1, fun j t ht => h2 j t (hnw _ j t (fun _ e => by cases e) ht).2, fun j j' t ht ht' => h3 j j' t (hnw _ j t (fun _ e => by cases e) ht).2 (hnw _ j' t (fun _ e => by cases e) ht').2, fun j t ht p hp => h4 j t (hnw _ j t (fun _ e => by cases e) ht).2 p hp, h5⟩
    · exact ⟨h1, h2, h3, h4, h5⟩
  | done => exact ⟨h1, h2, h3, h4, h5⟩
theorem steps_once {x : Ph} {w : Nat} (h : x.Inv w) (ho : x.Once w) {f : Nat → Nat} (hf : ∀ k, f k < w) : ∀ m, (x.steps f m).Once w
  | 0 => ho
  | m + 1 => pick_once (steps_inv h hf m).1 (steps_once h ho hf m) _ (hf m)
end Go.Proofs.Ytjheocofbfmopaa.Hand
