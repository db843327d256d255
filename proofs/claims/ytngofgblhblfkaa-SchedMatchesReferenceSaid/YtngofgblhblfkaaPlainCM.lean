/- In SchedMatchesReference: the Fair of the reference, by gaps, tells the same as the windows do; at most 100000 picks. -/
import Derived.Test.YtngofgblhblfkaaPMx2
import Derived.Test.YtngofgblhblfkaaPlainAM
namespace Go.Proofs.Ytngofgblhblfkaa.PureM
open Go.RowKit Go.Proofs.Ytngofgblhblfkaa.PM Go.Proofs.Ytngofgblhblfkaa.Hand Go.Proofs.YtngofgblhblfkaaW.PrintWords Go.Proofs.YtngofgblhblfkaaW.PrintLast

/-- Every window holds thread t. -/
def holds (q : List Int) (w t : Nat) : Bool := (List.range (q.length + 1 - w)).all fun i => (winAt q w i).contains (t : Int)
theorem fair_holds (q : List Int) (n w : Nat) : fair q n w = (List.range n).all (holds q w) := by
  rw [Bool.eq_iff_iff]
  unfold fair fairAt holds
  simp only [List.all_eq_true]
  exact ⟨fun h t ht i hi => h i hi t ht, fun h i hi t ht => h t ht i hi⟩
/-- The last place ahead of i where t stands, or -1: i - last - 1 picks have missed t since. -/
theorem last_age (q : List Int) (t : Int) (i : Nat) : (ageOf q t i : Int) ≤ i := by have := ageOf_le q t i; omega
/-- A window without t. -/
theorem holds_false {q : List Int} {w t i : Nat} (_hw : 1 ≤ w) (hi : i < q.length) (h : w ≤ ageOf q (t : Int) (i + 1)) : holds q w t = false := by
  unfold holds
  rw [List.all_eq_false]
  have hle := ageOf_le q (t : Int) (i + 1)
  have key : ∀ m j, m ≤ ageOf q (t : Int) j → ∀ x, x < m → q.getD (j - 1 - x) 0 ≠ t := by
    intro m j
    induction j generalizing m with
    | zero => intro hm x hx; simp [ageOf] at hm; omega
    | succ j ih =>
      intro hm x hx
      rw [show ageOf q (t : Int) (j + 1) = if q.getD j 0 = (t : Int) then 0 else ageOf q (t : Int) j + 1 from rfl] at hm
      split at hm
      · omega
      · rename_i hne
        cases x with
        | zero => simpa using hne
        | succ x =>
          have := ih (m - 1) (by omega) x (by omega)
          rwa [show j + 1 - 1 - (x + 1) = j - 1 - x by omega]
  refine ⟨i + 1 - w, List.mem_range.2 (by omega), ?_⟩
  rw [List.contains_iff_mem, List.mem_iff_getElem]
  rintro ⟨j, hj, he⟩
  have hj2 : j < w := by simp [winAt] at hj; omega
  simp only [winAt, List.getElem_take, List.getElem_drop] at he
  refine key w (i + 1) h (w - 1 - j) (by omega) ?_
  rw [show i + 1 - 1 - (w - 1 - j) = i + 1 - w + j by omega, ← he]
  simp [List.getD_eq_getElem?_getD, show i + 1 - w + j < q.length by omega]
theorem holds_true {q : List Int} {w t : Nat} (hw : 1 ≤ w) (h : ∀ i, i < q.length → ageOf q (t : Int) (i + 1) < w) : holds q w t = true := by
  unfold holds
  rw [List.all_eq_true]
  intro i hi
  have hi := List.mem_range.1 hi
  rw [List.contains_iff_mem]
  refine Classical.byContradiction fun hno => ?_
  have h1 := h (i + w - 1) (by omega)
  have h2 := ageOf_window q (t : Int) i w (fun j hj he => hno (by
    rw [List.mem_iff_getElem]
    refine ⟨j, by simp [winAt]; omega, ?_⟩
    simp only [winAt, List.getElem_take, List.getElem_drop]
    rw [← he]
    simp [List.getD_eq_getElem?_getD, show i + j < q.length by omega]))
  rw [show i + w - 1 + 1 = i + w by omega] at h1
  omega
/-- One thread's row: the gaps up to place i are below w; then the rest decides. -/
theorem ref_row (q : List Int) (n w t : Nat) (hq : q.length ≤ 100000) (hw : 1 ≤ w) (hw2 : w ≤ 100000) (r : Bool) (next : Ev (fun k => ropeladderref02_Fair.l0 k q (n : Int) (w : Int) (((t + 1 : Nat)) : Int)) r) (ht : t ≤ 100000) :
    ∀ d i, q.length - i = d → i ≤ q.length → (∀ j, j < i → ageOf q (t : Int) (j + 1) < w) →
      Ev (fun k => ropeladderref02_Fair.l1 k q (n : Int) (w : Int) (t : Int) ((i : Int) - 1 - ageOf q (t : Int) i) (i : Int)) (holds q w t && r) := by
  intro d
  induction d with
  | zero =>
    intro i hd hi hj
    rw [holds_true hw (fun j h => hj j (by omega)), Bool.true_and]
    refine Ev.step (f := fun k => ropeladderref02_Fair.l0 k q (n : Int) (w : Int) ((t + 1 : Nat) : Int)) (fun k => ?_) next
    simp only [ropeladderref02_Fair.l1]
    rw [if_neg (by omega), w64 (by omega) (by omega)]
    rfl
  | succ d ih =>
    intro i hd hi hj
    have h1 : i < q.length := by omega
    have hg : q.getD i 0 = q[i] := by simp [List.getD_eq_getElem?_getD, h1]
    have hs : ageOf q (t : Int) (i + 1) = if q[i] = (t : Int) then 0 else ageOf q (t : Int) i + 1 := by rw [← hg]; rfl
    have hle := ageOf_le q (t : Int) i
    by_cases e : q[i] = (t : Int)
    · rw [if_pos e] at hs
      refine Ev.step (f := fun k => ropeladderref02_Fair.l1 k q (n : Int) (w : Int) (t : Int) (((i + 1 : Nat) : Int) - 1 - ageOf q (t : Int) (i + 1)) ((i + 1 : Nat) : Int)) (fun k => ?_) (ih (i + 1) (by omega) (by omega) (fun j hj2 => ?_))
      · simp only [ropeladderref02_Fair.l1]
        rw [if_pos (by omega), if_pos (by omega), rd_get h1, if_pos e, if_neg (by omega), w64 (by omega) (by omega), hs]
        congr 1
        omega
      · rcases Nat.lt_or_ge j i with h | h
        · exact hj j h
        · obtain rfl : j = i := by omega
          omega
    · rw [if_neg e] at hs
      by_cases c : w ≤ ageOf q (t : Int) i + 1
      · rw [holds_false (i := i) hw h1 (by omega), Bool.false_and]
        refine Ev.step (f := fun _ => some false) (fun k => ?_) (Ev.now _)
        simp only [ropeladderref02_Fair.l1]
        rw [if_pos (by omega), if_pos (by omega), rd_get h1, if_neg e, w64 (by omega) (by omega), if_pos (by omega)]
      · refine Ev.step (f := fun k => ropeladderref02_Fair.l1 k q (n : Int) (w : Int) (t : Int) (((i + 1 : Nat) : Int) - 1 - ageOf q (t : Int) (i + 1)) ((i + 1 : Nat) : Int)) (fun k => ?_) (ih (i + 1) (by omega) (by omega) (fun j hj2 => ?_))
        · simp only [ropeladderref02_Fair.l1]
          rw [if_pos (by omega), if_pos (by omega), rd_get h1, if_neg e, w64 (n := (i : Int) - _) (by omega) (by omega), if_neg (by omega), w64 (by omega) (by omega), hs]
          congr 1
          omega
        · rcases Nat.lt_or_ge j i with h | h
          · exact hj j h
          · obtain rfl : j = i := by omega
            omega
theorem ref_fair_ev (q : List Int) (n w : Nat) (hq : q.length ≤ 100000) (hn : n ≤ 64) (hw : 1 ≤ w) (hw2 : w ≤ 100000) : Ev (fun k => ropeladderref02_Fair.f k q (n : Int) (w : Int)) (fair q n w) := by
  have gen : ∀ d t, n - t = d → t ≤ n → Ev (fun k => ropeladderref02_Fair.l0 k q (n : Int) (w : Int) (t : Int)) (((List.range n).drop t).all (holds q w)) := by
    intro d
    induction d with
    | zero =>
      intro t hd ht
      rw [List.drop_eq_nil_of_le (by simp; omega)]
      refine Ev.step (f := fun _ => some true) (fun k => ?_) (Ev.now _)
      simp only [ropeladderref02_Fair.l0]
      rw [if_neg (by omega)]
    | succ d ih =>
      intro t hd ht
      have h1 : t < (List.range n).length := by simp; omega
      rw [List.drop_eq_getElem_cons h1, List.all_cons]
      simp only [List.getElem_range]
      have hr := ref_row q n w t hq hw hw2 _ (ih (t + 1) (by omega) (by omega)) (by omega) q.length 0 (by omega) (by omega) (fun j hj => absurd hj (by omega))
      refine Ev.step (fun k => ?_) hr
      simp only [ropeladderref02_Fair.l0]
      rw [if_pos (by omega)]
      rfl
  have h0 := gen n 0 (by omega) (by omega)
  rw [List.drop_zero] at h0
  rw [fair_holds]
  exact h0
end Go.Proofs.Ytngofgblhblfkaa.PureM
