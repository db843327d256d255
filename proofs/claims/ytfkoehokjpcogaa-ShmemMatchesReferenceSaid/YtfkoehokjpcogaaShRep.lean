/- Replaying a memory's log: words, held bits, holders; no condition but what each states. -/
import Derived.Test.YtfkoehokjpcogaaShArr
namespace Go.Proofs.Ytfkoehokjpcogaa.Hand
open Go.RowKit Go.Proofs.YtfkoehokjpcogaaW.PrintWords Go.Proofs.YtfkoehokjpcogaaW.PrintLast Go.Proofs.YtfkoehokjpcogaaW.PrintMore
set_option linter.unusedVariables false

/-- What a replay carries: words, held bits, holders. -/
structure RV where
  w : Nat → Int
  h : Nat → Int
  o : Nat → Int
def put (f : Nat → Int) (i : Int) (u : Int) : Nat → Int := fun j => if j = i.toNat then u else f j
def RV.step (v : RV) (x : Acc) : RV :=
  if x.kd < 5 then ⟨put v.w x.ix x.new, v.h, v.o⟩
  else ⟨v.w, put v.h x.ix x.new, if x.new = 0 then put v.o x.ix (-1) else if x.ok = true then put v.o x.ix x.th else v.o⟩
structure RV.ok (v : RV) (x : Acc) : Prop where
  i0 : 0 ≤ x.ix
  i4 : x.ix < 4
  words : x.kd < 5 → x.old = v.w x.ix.toNat ∧ (x.ok = true ∨ x.new = x.old)
  mus : ¬ x.kd < 5 → x.old = v.h x.ix.toNat ∧ ((x.new != x.old) = x.ok)
structure RV.same (v u : RV) : Prop where
  w : ∀ j, j < 4 → v.w j = u.w j
  h : ∀ j, j < 4 → v.h j = u.h j
  o : ∀ j, j < 4 → v.o j = u.o j
theorem RV.same.refl (v : RV) : v.same v := ⟨fun _ _ => rfl, fun _ _ => rfl, fun _ _ => rfl⟩
theorem RV.same.symm {v u : RV} (h : v.same u) : u.same v := ⟨fun j hj => (h.w j hj).symm, fun j hj => (h.h j hj).symm, fun j hj => (h.o j hj).symm⟩
theorem RV.same.trans {v u t : RV} (h : v.same u) (k : u.same t) : v.same t := ⟨fun j hj => (h.w j hj).trans (k.w j hj), fun j hj => (h.h j hj).trans (k.h j hj), fun j hj => (h.o j hj).trans (k.o j hj)⟩
theorem put_same {f g : Nat → Int} (h : ∀ j, j < 4 → f j = g j) (i u : Int) : ∀ j, j < 4 → put f i u j = put g i u j := fun j hj => by
  unfold put
  split
  · rfl
  · exact h j hj
theorem RV.same.step {v u : RV} (h : v.same u) (x : Acc) : (v.step x).same (u.step x) := by
  unfold RV.step
  split
  · exact ⟨put_same h.w _ _, h.h, h.o⟩
  · refine ⟨h.w, put_same h.h _ _, ?_⟩
    dsimp only
    split
    · exact put_same h.o _ _
    · split
      · exact put_same h.o _ _
      · exact h.o
theorem RV.same.ok {v u : RV} (h : v.same u) {x : Acc} (k : v.ok x) : u.ok x := by
  have i0 := k.i0
  have i4 := k.i4
  exact ⟨i0, i4, fun q => by rw [← h.w _ (by omega)]; exact k.words q, fun q => by rw [← h.h _ (by omega)]; exact k.mus q⟩
/-- A memory's state, told so. -/
def St.view (s : St) : RV := ⟨fun j => rd s.ws j, fun j => bit (rdM s.ms j).held, fun j => s.holder j⟩
def RV.zero : RV := ⟨fun _ => 0, fun _ => 0, fun _ => -1⟩
def replay (l : List Acc) : RV := l.foldl RV.step RV.zero
theorem replay_succ (l : List Acc) (k : Nat) (h : k < l.length) : replay (l.take (k + 1)) = (replay (l.take k)).step l[k] := by
  unfold replay
  rw [List.take_succ_eq_append_getElem h, List.foldl_append]
  rfl
structure Good (s : St) : Prop where
  each : ∀ k, (h : k < s.log.length) → (replay (s.log.take k)).ok s.log[k]
  last : (replay s.log).same s.view
theorem rd_put {l : List Int} {i : Int} (h0 : 0 ≤ i) (h4 : i.toNat < l.length) (u : Int) (j : Nat) : rd (l.set i.toNat u) (j : Int) = put (fun j => rd l (j : Int)) i u j := by
  unfold put
  simp only [rd, Int.toNat_natCast, List.getD_eq_getElem?_getD, List.getElem?_set]
  by_cases e : j = i.toNat
  · subst e; simp [h4]
  · rw [if_neg (fun q => e q.symm), if_neg e]
theorem set_rd {l : List Int} {i : Int} (h0 : 0 ≤ i) (h4 : i.toNat < l.length) : l.set i.toNat (rd l i) = l := by
  apply List.ext_getElem?
  intro j
  rw [List.getElem?_set]
  split
  · rename_i e
    subst e
    simp [rd, List.getD_eq_getElem?_getD, List.getElem?_eq_getElem h4]
  · rfl
/-- One operation: the log is as it was and so is the view, or there is one entry more, and it fits. -/
theorem run1_log {s s' : St} {k : Nat} (h : s.In k) (ht : s.Th) {kd th ix a b n : Int} {ok : Bool} (h1 : 1 ≤ kd) (h7 : kd ≤ 7) (h0 : 0 ≤ th) (e : s.run1 ⟨kd, th, ix, a, b⟩ = (s', n, ok)) :
    (s'.log = s.log ∧ s'.view.same s.view) ∨ ∃ x, s'.log = s.log ++ [x] ∧ s.view.ok x ∧ s'.view.same (s.view.step x) := by
  have hx := run1_mx h ht h1 h7 h0 e
  obtain ⟨hw, hm, _, _, _⟩ := h
  have iw : inL s.ws ix ↔ 0 ≤ ix ∧ ix < 4 := by rw [inL, hw]; exact Iff.rfl
  have im : ∀ j, inL s.ms j ↔ 0 ≤ j ∧ j < 4 := fun j => by rw [inL, hm]; exact Iff.rfl
  by_cases hi : 0 ≤ ix ∧ ix < 4
  · have jw := iw.2 hi
    have jm := (im ix).2 hi
    obtain ⟨i0, i4⟩ := hi
    have iwl : ix.toNat < s.ws.length := by omega
    -- a word's entry
    have word : ∀ (kd u : Int) (ok : Bool), kd < 5 → (ok = true ∨ u = rd s.ws ix) → ∃ x, (s.upd th kd ix u ok).log = s.log ++ [x] ∧ s.view.ok x ∧ (s.upd th kd ix u ok).view.same (s.view.step x) := by
      intro kd u ok hk hu
      refine ⟨_, rfl, ⟨i0, i4, fun _ => ⟨?_, hu⟩, fun q => absurd hk q⟩, ?_⟩
      · show rd s.ws ix = rd s.ws (ix.toNat : Int)
        rw [Int.toNat_of_nonneg i0]
      · unfold RV.step
        rw [if_pos hk]
        exact ⟨fun j _ => rd_put i0 iwl u j, fun _ _ => rfl, fun j _ => holder_ms rfl j⟩
    obtain rfl | rfl | rfl | rfl | rfl | rfl | rfl : kd = 1 ∨ kd = 2 ∨ kd = 3 ∨ kd = 4 ∨ kd = 5 ∨ kd = 6 ∨ kd = 7 := by omega
    all_goals simp [St.run1] at e
    all_goals obtain ⟨rfl, rfl, rfl⟩ := e
    · unfold St.load; rw [if_pos jw]; exact .inr (word 1 _ true (by omega) (.inl rfl))
    · unfold St.add; rw [if_pos jw]; exact .inr (word 2 _ true (by omega) (.inl rfl))
    · unfold St.cas; rw [if_pos jw]
      split
      · exact .inr (word 3 _ true (by omega) (.inl rfl))
      · exact .inr (word 3 _ false (by omega) (.inr rfl))
    · unfold St.store; rw [if_pos jw]; exact .inr (word 4 _ true (by omega) (.inl rfl))
    · have hl := (hx.lock ⟨i0, i4⟩ rfl).2
      revert hl
      unfold St.tryLock; rw [if_pos jm]
      by_cases hh : (rdM s.ms ix).held = true
      · rw [if_pos hh]
        intro hl
        have hb : bit (rdM s.ms (ix.toNat : Int)).held = 1 := by rw [Int.toNat_of_nonneg i0, hh]; rfl
        refine .inr ⟨_, rfl, ⟨i0, i4, fun q => absurd q (by simp), fun _ => ⟨hb.symm, rfl⟩⟩, ?_⟩
        refine ⟨fun _ _ => rfl, fun j hj => ?_, fun j hj => holder_ms rfl j⟩
        show bit (rdM s.ms j).held = put (fun j : Nat => bit (rdM s.ms j).held) ix 1 j
        unfold put
        split
        · rename_i e; rw [e, hb]
        · rfl
      · rw [if_neg hh]
        intro hl
        have hb : bit (rdM s.ms (ix.toNat : Int)).held = 0 := by rw [Int.toNat_of_nonneg i0]; cases e : (rdM s.ms ix).held; · rfl
                                                                 · exact absurd e hh
        refine .inr ⟨_, rfl, ⟨i0, i4, fun q => absurd q (by simp), fun _ => ⟨hb.symm, rfl⟩⟩, ?_⟩
        refine ⟨fun _ _ => rfl, fun j hj => ?_, fun j hj => ?_⟩
        · show bit (rdM (s.ms.set ix.toNat ⟨true, th⟩) j).held = put (fun j : Nat => bit (rdM s.ms j).held) ix 1 j
          rw [rdM_set_of jm.1 jm.2 (by omega)]
          unfold put
          by_cases e : j = ix.toNat
          · rw [if_pos (by omega), if_pos e]; rfl
          · rw [if_neg (by omega), if_neg e]
        · have := hl j (by omega)
          refine this.trans ?_
          show _ = put (fun j : Nat => s.holder j) ix th j
          unfold put
          by_cases e : j = ix.toNat
          · rw [if_pos ⟨by omega, rfl⟩, if_pos e]
          · rw [if_neg (fun q => e (by omega)), if_neg e]
    · have hl := (hx.unlock ⟨i0, i4⟩ rfl).2
      revert hl
      unfold St.unlock; rw [if_pos jm]
      by_cases hh : (rdM s.ms ix).held = true ∧ (rdM s.ms ix).th = th
      · rw [if_pos hh]
        intro hl
        have hb : bit (rdM s.ms (ix.toNat : Int)).held = 1 := by rw [Int.toNat_of_nonneg i0, hh.1]; rfl
        refine .inr ⟨_, rfl, ⟨i0, i4, fun q => absurd q (by simp), fun _ => ⟨hb.symm, rfl⟩⟩, ?_⟩
        refine ⟨fun _ _ => rfl, fun j hj => ?_, fun j hj => ?_⟩
        · show bit (rdM (s.ms.set ix.toNat ⟨false, 0⟩) j).held = put (fun j : Nat => bit (rdM s.ms j).held) ix 0 j
          rw [rdM_set_of jm.1 jm.2 (by omega)]
          unfold put
          by_cases e : j = ix.toNat
          · rw [if_pos (by omega), if_pos e]; rfl
          · rw [if_neg (by omega), if_neg e]
        · have := hl j (by omega)
          refine this.trans ?_
          show _ = put (fun j : Nat => s.holder j) ix (-1) j
          unfold put
          by_cases e : j = ix.toNat
          · rw [if_pos ⟨by omega, rfl⟩, if_pos e]
          · rw [if_neg (fun q => e (by omega)), if_neg e]
      · rw [if_neg hh]
        intro hl
        have hb : bit (rdM s.ms (ix.toNat : Int)).held = bit (rdM s.ms ix).held := by rw [Int.toNat_of_nonneg i0]
        refine .inr ⟨_, rfl, ⟨i0, i4, fun q => absurd q (by simp), fun _ => ⟨hb.symm, by simp⟩⟩, ?_⟩
        refine ⟨fun _ _ => rfl, fun j hj => ?_, fun j hj => ?_⟩
        · show bit (rdM s.ms j).held = put (fun j : Nat => bit (rdM s.ms j).held) ix (bit (rdM s.ms ix).held) j
          unfold put
          split
          · rename_i e; rw [e, hb]
          · rfl
        · refine (holder_ms rfl j).trans ?_
          show s.holder j = (if bit (rdM s.ms ix).held = 0 then put (fun j : Nat => s.holder j) ix (-1) else if false = true then _ else _) j
          by_cases hz : bit (rdM s.ms ix).held = 0
          · rw [if_pos hz]
            unfold put
            split
            · rename_i e
              have ej : (j : Int) = ix := by omega
              rw [ej, holder_of jm, if_neg (fun q => by rw [q] at hz; cases hz)]
            · rfl
          · rw [if_neg hz, if_neg (by simp)]
            rfl
    · left
      have e : (s.touch th ix).1.ms = s.ms := (hx.touch ⟨i0, i4⟩ rfl).2
      refine ⟨by unfold St.touch; split <;> rfl, fun j hj => ?_, fun j hj => ?_, fun j hj => holder_ms e j⟩
      · show rd (s.touch th ix).1.ws j = rd s.ws j
        unfold St.touch; split <;> rfl
      · show bit (rdM (s.touch th ix).1.ms j).held = bit (rdM s.ms j).held
        rw [e]
  · have jw : ¬ inL s.ws ix := fun q => hi (iw.1 q)
    have jm : ¬ inL s.ms ix := fun q => hi ((im ix).1 q)
    left
    have em := (hx.out hi).1
    have el : s'.log = s.log ∧ s'.ws = s.ws := by
      obtain rfl | rfl | rfl | rfl | rfl | rfl | rfl : kd = 1 ∨ kd = 2 ∨ kd = 3 ∨ kd = 4 ∨ kd = 5 ∨ kd = 6 ∨ kd = 7 := by omega
      all_goals simp [St.run1] at e
      all_goals obtain ⟨rfl, rfl, rfl⟩ := e
      · unfold St.load; rw [if_neg jw]; exact ⟨rfl, rfl⟩
      · unfold St.add; rw [if_neg jw]; exact ⟨rfl, rfl⟩
      · unfold St.cas; rw [if_neg jw]; exact ⟨rfl, rfl⟩
      · unfold St.store; rw [if_neg jw]; exact ⟨rfl, rfl⟩
      · unfold St.tryLock; rw [if_neg jm]; exact ⟨rfl, rfl⟩
      · unfold St.unlock; rw [if_neg jm]; exact ⟨rfl, rfl⟩
      · unfold St.touch; rw [if_neg (fun q => jm q.1)]; exact ⟨rfl, rfl⟩
    refine ⟨el.1, fun j hj => ?_, fun j hj => ?_, fun j hj => holder_ms em j⟩
    · show rd s'.ws j = rd s.ws j
      rw [el.2]
    · show bit (rdM s'.ms j).held = bit (rdM s.ms j).held
      rw [em]
theorem good_44 : Good (sz 4 4) := by
  refine ⟨fun k h => absurd h (by simp [sz]), ⟨fun j _ => ?_, fun j _ => ?_, fun j _ => (free_44 j).symm⟩⟩
  · have := sz_word 4 4 (j : Int)
    show 0 = rd (sz 4 4).ws j
    simp only [sz, rd, List.getD_eq_getElem?_getD, List.getElem?_replicate]
    split <;> rfl
  · show 0 = bit (rdM (sz 4 4).ms j).held
    rw [sz_rdM]
    rfl
theorem runs_good (l : List Raw) (hl : ∀ i, (h : i < l.length) → l[i].ok) : ∀ k, k ≤ l.length → Good ((sz 4 4).runs (l.take k))
  | 0, _ => by simpa [St.runs] using good_44
  | k + 1, h => by
    have ih := runs_good l hl k (by omega)
    rw [runs_succ _ _ _ h]
    obtain ⟨s, hs⟩ : ∃ s, (sz 4 4).runs (l.take k) = s := ⟨_, rfl⟩
    have hin := runs_in l k (by omega)
    have hth := runs_th l hl k (by omega)
    rw [hs] at ih hin hth ⊢
    obtain ⟨o, ho⟩ : ∃ o, opOf l[k] = o := ⟨_, rfl⟩
    have hr := opOf_range (hl k h) ho
    rw [ho]
    obtain ⟨⟨s', n, ok⟩, e⟩ : ∃ z, s.run1 o = z := ⟨_, rfl⟩
    rw [e]
    rcases run1_log hin hth hr.1 hr.2.1 hr.2.2.1 e with ⟨h1, h2⟩ | ⟨x, h1, h2, h3⟩
    · refine ⟨fun i hi => ?_, ?_⟩
      · simp only [h1] at hi ⊢
        exact ih.each i hi
      · simp only [h1]
        exact ih.last.trans h2.symm
    · refine ⟨fun i hi => ?_, ?_⟩
      · simp only [h1] at hi ⊢
        rcases Nat.lt_or_ge i s.log.length with hlt | hge
        · rw [List.getElem_append_left hlt, List.take_append_of_le_length (by omega)]
          exact ih.each i hlt
        · have ei : i = s.log.length := by simp at hi; omega
          subst ei
          rw [List.getElem_append_right (by omega), List.take_append_of_le_length (by omega), List.take_length]
          simp only [Nat.sub_self, List.getElem_cons_zero]
          exact RV.same.ok ih.last.symm h2
      · simp only [h1]
        unfold replay
        rw [List.foldl_append]
        exact (ih.last.step x).trans h3.symm
end Go.Proofs.Ytfkoehokjpcogaa.Hand
