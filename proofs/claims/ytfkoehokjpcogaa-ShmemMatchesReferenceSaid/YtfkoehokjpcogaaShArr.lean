/- Arrays of four integers beside a memory; what an operation does to the mutexes' holders and to the words; no condition but what each states. -/
import Derived.Test.YtfkoehokjpcogaaShRun
namespace Go.Proofs.Ytfkoehokjpcogaa.Hand
open Go.RowKit Go.Proofs.YtfkoehokjpcogaaW.PrintWords Go.Proofs.YtfkoehokjpcogaaW.PrintLast Go.Proofs.YtfkoehokjpcogaaW.PrintMore
set_option linter.unusedVariables false

/-- An array of four integers, as cells. -/
def arr4 (f : Nat → Int) : Array Value := #[.int .i64 (f 0), .int .i64 (f 1), .int .i64 (f 2), .int .i64 (f 3)]
theorem arr4_get (f : Nat → Int) {i : Nat} (h : i < 4) : (arr4 f)[i]? = some (.int .i64 (f i)) := by
  obtain rfl | rfl | rfl | rfl : i = 0 ∨ i = 1 ∨ i = 2 ∨ i = 3 := by omega
  all_goals rfl
theorem arr4_set (f : Nat → Int) {i : Nat} (h : i < 4) (u : Int) : (arr4 f).setIfInBounds i (.int .i64 u) = arr4 (fun j => if j = i then u else f j) := by
  obtain rfl | rfl | rfl | rfl : i = 0 ∨ i = 1 ∨ i = 2 ∨ i = 3 := by omega
  all_goals rfl
theorem arr4_congr {f g : Nat → Int} (h : ∀ j, j < 4 → f j = g j) : arr4 f = arr4 g := by
  unfold arr4
  rw [h 0 (by omega), h 1 (by omega), h 2 (by omega), h 3 (by omega)]
abbrev T4 : Nat := 45
structure Arr (w : World) (g gw gm b : Nat) (f : Nat → Int) : Prop where
  far : Far w g gw gm b
  blk : w.heap[b]? = some (.cells (arr4 f) T4 (0, 0))
section
variable {W W' : World} {base g gw gm b : Nat} {s s' : St} {f : Nat → Int}
theorem Arr.cell (h : Arr W g gw gm b f) {i : Nat} (hi : i < 4) : W.cell? ⟨b, i, none⟩ = some (.int .i64 (f i)) := by
  have e := h.blk
  simp only [World.cell?]
  rw [e]
  simpa using arr4_get f hi
theorem Arr.free (h : Arr W g gw gm b f) (i : Nat) : W.frozen? ⟨b, i, none⟩ = false := by
  have e := h.blk
  simp [World.frozen?, e]
theorem Arr.congr (h : Arr W g gw gm b f) {f' : Nat → Int} (e : ∀ j, j < 4 → f j = f' j) : Arr W g gw gm b f' := ⟨h.far, by rw [← arr4_congr e]; exact h.blk⟩
theorem Arr.move (h : Arr W g gw gm b f) (m : MF W W' g gw gm) : Arr W' g gw gm b f := ⟨(m.far h.far).1, (m.far h.far).2.trans h.blk⟩
theorem Arr.put (h : Arr W g gw gm b f) {i : Nat} (hi : i < 4) (u : Int) : Arr (W.setCell ⟨b, i, none⟩ (.int .i64 u)) g gw gm b (fun j => if j = i then u else f j) := by
  refine ⟨⟨by simpa [World.setCell] using h.far.lt, h.far.hg, h.far.hw, h.far.hm, ?_⟩, by rw [blk_set h.blk, arr4_set f hi]⟩
  obtain ⟨v, hv, hn⟩ := h.far.hl
  refine ⟨v, ?_, hn⟩
  rw [World.cell?_setCell_other _ _ _ _ (fun e => h.far.hg (by cases e; rfl))]
  exact hv
/-- Another array stays. -/
theorem Arr.aside (h : Arr W g gw gm b f) {b2 : Nat} {f2 : Nat → Int} (h2 : Arr W g gw gm b2 f2) (hne : b ≠ b2) (i : Nat) (u : Value) : Arr (W.setCell ⟨b2, i, none⟩ u) g gw gm b f := by
  refine ⟨⟨by simpa [World.setCell] using h.far.lt, h.far.hg, h.far.hw, h.far.hm, ?_⟩, (Below.heap_setCell W ⟨b2, i, none⟩ u b (by simpa using hne)).trans h.blk⟩
  obtain ⟨v, hv, hn⟩ := h.far.hl
  refine ⟨v, ?_, hn⟩
  rw [World.cell?_setCell_other _ _ _ _ (fun e => h2.far.hg (by cases e; rfl))]
  exact hv
/-- The memory stays where an array is written. -/
theorem Is.beside (h : Is W base g gw gm s) (a : Arr W g gw gm b f) (i : Nat) (u : Value) : Is (W.setCell ⟨b, i, none⟩ u) base g gw gm s := by
  obtain ⟨vl, cw, cm, h⟩ := h
  exact ⟨vl, cw, cm, h.far a.blk a.far.hg a.far.hw a.far.hm (by decide) u⟩
theorem Arr.new (h : Is W base g gw gm s) {w1 : World} (hb : Below W.heap.size W w1) (f : Nat → Int) : Arr (w1.alloc (.cells (arr4 f) T4)) g gw gm w1.heap.size f :=
  ⟨h.far (below_alloc hb _) hb.size (by simp), push_get rfl⟩
/-- A round's operation: Op, its block, do. -/
theorem Arr.round (a : Arr W g gw gm b f) (h : Is W base g gw gm s) {w3 w4 : World} {o : Obj} (hb : Below W.heap.size W w3) (hl : Left (w3.alloc o) w4 base g gw gm s') : Arr w4 g gw gm b f :=
  a.move ((MF.below h.lt (below_alloc hb o)).trans hl.mf)
end
/-- Held mutexes have holders 0, 1, .. -/
def St.Th (s : St) : Prop := ∀ i, (rdM s.ms i).held = true → 0 ≤ (rdM s.ms i).th
theorem rdM_set_of {l : List Mut} {i j : Int} (h0 : 0 ≤ i) (h1 : i < l.length) (hj : 0 ≤ j) (m : Mut) : rdM (l.set i.toNat m) j = if j = i then m else rdM l j := by
  by_cases e : j = i
  · subst e
    rw [if_pos rfl, rdM_set h0 h1]
  · rw [if_neg e]
    have : i.toNat ≠ j.toNat := by omega
    simp [rdM, List.getD_eq_getElem?_getD, List.getElem?_set_ne this]
theorem rdM_set_th {l : List Mut} {i : Nat} {m : Mut} (hl : ∀ i, (rdM l i).held = true → 0 ≤ (rdM l i).th) (hm : m.held = true → 0 ≤ m.th) : ∀ j, (rdM (l.set i m) j).held = true → 0 ≤ (rdM (l.set i m) j).th := by
  intro j
  have : rdM (l.set i m) j = m ∨ rdM (l.set i m) j = rdM l j := by
    simp only [rdM, List.getD_eq_getElem?_getD, List.getElem?_set]
    split
    · split
      · left; rfl
      · right; rename_i e h; rw [← e, List.getElem?_eq_none (by omega)]
    · right; rfl
  rcases this with e | e <;> rw [e]
  · exact hm
  · exact hl j
theorem th_44 : (sz 4 4).Th := fun i h => by rw [sz_rdM] at h; cases h
theorem holder_of {s : St} {i : Int} (h : inL s.ms i) : s.holder i = if (rdM s.ms i).held = true then (rdM s.ms i).th else -1 := by
  unfold St.holder
  by_cases e : (rdM s.ms i).held = true
  · rw [if_pos ⟨h, e⟩, if_pos e]
  · rw [if_neg (fun k => e k.2), if_neg e]
/-- What one operation does to the mutexes. -/
structure Mx (s s' : St) (kd th ix : Int) (ok : Bool) : Prop where
  held : s'.Th
  lock : (0 ≤ ix ∧ ix < 4) → kd = 5 → (s.holder ix == -1) = ok ∧ ∀ j : Int, 0 ≤ j ∧ j < 4 → s'.holder j = if j = ix ∧ ok = true then th else s.holder j
  unlock : (0 ≤ ix ∧ ix < 4) → kd = 6 → (s.holder ix == th) = ok ∧ ∀ j : Int, 0 ≤ j ∧ j < 4 → s'.holder j = if j = ix ∧ ok = true then -1 else s.holder j
  touch : (0 ≤ ix ∧ ix < 4) → kd = 7 → (s.holder ix == th) = ok ∧ s'.ms = s.ms
  other : kd < 5 → s'.ms = s.ms
  out : ¬ (0 ≤ ix ∧ ix < 4) → s'.ms = s.ms ∧ ok = false
theorem holder_ms {s s' : St} (h : s'.ms = s.ms) (j : Int) : s'.holder j = s.holder j := by unfold St.holder; rw [h]
theorem run1_mx {s s' : St} {k : Nat} (h : s.In k) (ht : s.Th) {kd th ix a b n : Int} {ok : Bool} (h1 : 1 ≤ kd) (h7 : kd ≤ 7) (h0 : 0 ≤ th) (e : s.run1 ⟨kd, th, ix, a, b⟩ = (s', n, ok)) : Mx s s' kd th ix ok := by
  obtain ⟨hw, hm, _, _, _⟩ := h
  have iw : inL s.ws ix ↔ 0 ≤ ix ∧ ix < 4 := by rw [inL, hw]; exact Iff.rfl
  have im : ∀ j, inL s.ms j ↔ 0 ≤ j ∧ j < 4 := fun j => by rw [inL, hm]; exact Iff.rfl
  obtain rfl | rfl | rfl | rfl | rfl | rfl | rfl : kd = 1 ∨ kd = 2 ∨ kd = 3 ∨ kd = 4 ∨ kd = 5 ∨ kd = 6 ∨ kd = 7 := by omega
  all_goals simp [St.run1] at e
  all_goals obtain ⟨rfl, rfl, rfl⟩ := e
  · have e : (s.load th ix).1.ms = s.ms := by unfold St.load; split <;> rfl
    exact ⟨fun i => by rw [e]; exact ht i, fun _ q => by omega, fun _ q => by omega, fun _ q => by omega, fun _ => e, fun _ => ⟨e, rfl⟩⟩
  · have e : (s.add th ix a).1.ms = s.ms := by unfold St.add; split <;> rfl
    exact ⟨fun i => by rw [e]; exact ht i, fun _ q => by omega, fun _ q => by omega, fun _ q => by omega, fun _ => e, fun _ => ⟨e, rfl⟩⟩
  · have e : (s.cas th ix a b).1.ms = s.ms := by
      unfold St.cas
      split
      · split <;> rfl
      · rfl
    exact ⟨fun i => by rw [e]; exact ht i, fun _ q => by omega, fun _ q => by omega, fun _ q => by omega, fun _ => e, fun q => ⟨e, by unfold St.cas; rw [if_neg (fun z => q (iw.1 z))]⟩⟩
  · have e : (s.store th ix a).ms = s.ms := by unfold St.store; split <;> rfl
    exact ⟨fun i => by rw [e]; exact ht i, fun _ q => by omega, fun _ q => by omega, fun _ q => by omega, fun _ => e, fun _ => ⟨e, rfl⟩⟩
  · by_cases hi : 0 ≤ ix ∧ ix < 4
    · have ji := (im ix).2 hi
      unfold St.tryLock
      rw [if_pos ji]
      by_cases hh : (rdM s.ms ix).held = true
      · rw [if_pos hh]
        have hne : ¬ s.holder ix = -1 := by rw [holder_of ji, if_pos hh]; have := ht ix hh; omega
        exact ⟨ht, fun _ _ => ⟨by simpa using hne, fun j hj => by rw [if_neg (fun q => by cases q.2)]; exact holder_ms rfl j⟩, fun _ q => by omega, fun _ q => by omega, fun q => by omega, fun q => absurd hi q⟩
      · rw [if_neg hh]
        have he : s.holder ix = -1 := by rw [holder_of ji, if_neg hh]
        refine ⟨rdM_set_th ht (fun _ => h0), fun _ _ => ⟨by simpa using he, fun j hj => ?_⟩, fun _ q => by omega, fun _ q => by omega, fun q => by omega, fun q => absurd hi q⟩
        rw [holder_of (by rw [inL, List.length_set]; exact (im j).2 hj), holder_of ((im j).2 hj)]
        simp only
        rw [rdM_set_of ji.1 ji.2 hj.1]
        by_cases ej : j = ix
        · simp [ej]
        · simp [ej]
    · unfold St.tryLock
      rw [if_neg (fun q => hi ((im ix).1 q))]
      exact ⟨ht, fun q => absurd q hi, fun q => absurd q hi, fun q => absurd q hi, fun _ => rfl, fun _ => ⟨rfl, rfl⟩⟩
  · by_cases hi : 0 ≤ ix ∧ ix < 4
    · have ji := (im ix).2 hi
      unfold St.unlock
      rw [if_pos ji]
      by_cases hh : (rdM s.ms ix).held = true ∧ (rdM s.ms ix).th = th
      · rw [if_pos hh]
        have he : s.holder ix = th := by rw [holder_of ji, if_pos hh.1]; exact hh.2
        refine ⟨rdM_set_th ht (fun q => by cases q), fun _ q => by omega, fun _ _ => ⟨by simpa using he, fun j hj => ?_⟩, fun _ q => by omega, fun q => by omega, fun q => absurd hi q⟩
        rw [holder_of (by rw [inL, List.length_set]; exact (im j).2 hj), holder_of ((im j).2 hj)]
        simp only
        rw [rdM_set_of ji.1 ji.2 hj.1]
        by_cases ej : j = ix
        · simp [ej]
        · simp [ej]
      · rw [if_neg hh]
        have hne : ¬ s.holder ix = th := by
          rw [holder_of ji]
          split
          · rename_i q; exact fun z => hh ⟨q, z⟩
          · omega
        exact ⟨ht, fun _ q => by omega, fun _ _ => ⟨by simpa using hne, fun j hj => by rw [if_neg (fun q => by cases q.2)]; exact holder_ms rfl j⟩, fun _ q => by omega, fun q => by omega, fun q => absurd hi q⟩
    · unfold St.unlock
      rw [if_neg (fun q => hi ((im ix).1 q))]
      exact ⟨ht, fun q => absurd q hi, fun q => absurd q hi, fun q => absurd q hi, fun _ => rfl, fun _ => ⟨rfl, rfl⟩⟩
  · unfold St.touch
    by_cases hi : 0 ≤ ix ∧ ix < 4
    · have ji := (im ix).2 hi
      by_cases hh : (rdM s.ms ix).held = true ∧ (rdM s.ms ix).th = th
      · rw [if_pos ⟨ji, hh⟩]
        have he : s.holder ix = th := by rw [holder_of ji, if_pos hh.1]; exact hh.2
        exact ⟨ht, fun _ q => by omega, fun _ q => by omega, fun _ _ => ⟨by simpa using he, rfl⟩, fun q => by omega, fun q => absurd hi q⟩
      · rw [if_neg (fun q => hh q.2)]
        have hne : ¬ s.holder ix = th := by
          rw [holder_of ji]
          split
          · rename_i q; exact fun z => hh ⟨q, z⟩
          · omega
        exact ⟨ht, fun _ q => by omega, fun _ q => by omega, fun _ _ => ⟨by simpa using hne, rfl⟩, fun q => by omega, fun q => absurd hi q⟩
    · rw [if_neg (fun q => hi ((im ix).1 q.1))]
      exact ⟨ht, fun q => absurd q hi, fun q => absurd q hi, fun q => absurd q hi, fun _ => rfl, fun _ => ⟨rfl, rfl⟩⟩
theorem runs_th (l : List Raw) (hl : ∀ i, (h : i < l.length) → l[i].ok) : ∀ k, k ≤ l.length → ((sz 4 4).runs (l.take k)).Th
  | 0, _ => by simpa [St.runs] using th_44
  | k + 1, h => by
    rw [runs_succ _ _ _ h]
    have hr := opOf_range (hl k h) rfl
    exact (run1_mx (runs_in l k (by omega)) (runs_th l hl k (by omega)) hr.1 hr.2.1 hr.2.2.1 rfl).held
theorem put_holder {s s' : St} {f : Nat → Int} {ix v : Int} (hf : ∀ j : Nat, j < 4 → f j = s.holder j) (h0 : 0 ≤ ix) (hs : ∀ j : Int, 0 ≤ j ∧ j < 4 → s'.holder j = if j = ix ∧ True then v else s.holder j) : ∀ j : Nat, j < 4 → (if j = ix.toNat then v else f j) = s'.holder j := by
  intro j hj
  rw [hs j (by omega)]
  by_cases e : j = ix.toNat
  · rw [if_pos e, if_pos ⟨by omega, trivial⟩]
  · rw [if_neg e, if_neg (fun q => e (by omega)), hf j hj]
theorem same_holder {s s' : St} {f : Nat → Int} (hf : ∀ j : Nat, j < 4 → f j = s.holder j) (h : ∀ j : Int, 0 ≤ j ∧ j < 4 → s'.holder j = s.holder j) : ∀ j : Nat, j < 4 → f j = s'.holder j := fun j hj => by rw [hf j hj, h j (by omega)]
theorem free_44 (j : Nat) : (sz 4 4).holder j = -1 := sz_holder 4 4 j
end Go.Proofs.Ytfkoehokjpcogaa.Hand
