/- A worker pool as it lies in the world: its block, its steps, its pairs, its memory; what stores and the memory's operations do to it; no condition but what each states. -/
import Derived.Test.YtjheocofbfmopaaMemFar
namespace Go.Proofs.Ytjheocofbfmopaa.Hand
open Go.RowKit Go.Proofs.YtjheocofbfmopaaW.PrintWords Go.Proofs.YtjheocofbfmopaaW.PrintLast Go.Proofs.YtjheocofbfmopaaW.PrintMore
set_option linter.unusedVariables false
set_option linter.unusedSimpArgs false

abbrev TPool : Nat := 52
abbrev TStep : Nat := 66
abbrev TPair : Nat := 32
abbrev TPtr : Nat := 47
def kP : Kd (Int × Int) := Kd.pair (Kd.int .i64) (Kd.int .i64)
theorem kP_open {w : World} {x : Int × Int} {cs : List Value} (h : kP.K w x cs) : cs = [.int .i64 x.1, .int .i64 x.2] := by
  obtain ⟨_, _, rfl, rfl, rfl⟩ := h
  rfl
theorem kP_mkM (w : World) (base : Nat) (ok : Nat → Prop) (x : Int × Int) : kP.M w base ok x [.int .i64 x.1, .int .i64 x.2] := ⟨[.int .i64 x.1], [.int .i64 x.2], rfl, rfl, rfl⟩
theorem kP_mk (w : World) (x : Int × Int) : kP.K w x [.int .i64 x.1, .int .i64 x.2] := ⟨[.int .i64 x.1], [.int .i64 x.2], rfl, rfl, rfl⟩
theorem infoPair : (Try.prog.info? TPair).map (fun i => (i.zero, i.size, i.bytes)) = some (some (.agg #[.int .i64 0, .int .i64 0]), 2, 16) := by kernel_rfl

/-- A worker's next step. -/
inductive Stp where
  | claim
  | work (t : Int)
  | arrive
  | wait
  | done
/-- A phase: the tasks, the two words, the steps, the pairs, the workers left, the picks. -/
structure Ph where
  n : Int
  c : Int
  a : Int
  st : List Stp
  pairs : List (Int × Int)
  left : Int
  picks : Int

/-- The row's own blocks are as they were: so is the row. -/
theorem R_stay {α : Type} {d : Kd α} {e : Nat} {v : Value} {xs : List α} {ok : Nat → Prop} {W W' : World} {base : Nat} (h : d.R e W base ok v xs) (hE : d.E = []) (hb : ∀ k, v.ownBlock = some k → W'.heap[k]? = W.heap[k]?) : d.R e W' base ok v xs :=
  Kd.R_reok hE (Kd.R_move (Kd.R_tight hE h) (fun k hk => hb k hk.symm)) h.1

section
variable {W W' : World} {base g gw gm : Nat} {s : St}
theorem Far.keep {k : Nat} (h : Far W g gw gm k) (hs : W.heap.size ≤ W'.heap.size) (e : W'.heap[g]? = W.heap[g]?) : Far W' g gw gm k := by
  obtain ⟨v, h1, h2⟩ := h.hl
  refine ⟨Nat.lt_of_lt_of_le h.lt hs, h.hg, h.hw, h.hm, v, ?_, h2⟩
  rw [← h1]
  simp only [World.cell?, e]
/-- The memory's own blocks are as they were: so is the memory. -/
theorem Is.stay (h : Is W base g gw gm s) (hs : ∀ k, ¬ Far W g gw gm k → k < W.heap.size → W'.heap[k]? = W.heap[k]?) : Is W' base g gw gm s ∧ W'.heap[g]? = W.heap[g]? := by
  obtain ⟨vl, cw, cm, hB⟩ := h
  have eg := hs g (fun f => f.hg rfl) hB.lt
  refine ⟨⟨vl, cw, cm, eg.trans hB.blk, R_stay hB.lo rfl (fun k hk => hs k (fun f => ?_) (Kd.R_lt hB.lo k hk)), R_stay hB.words rfl (fun k hk => ?_), R_stay hB.mus rfl (fun k hk => ?_), hB.hg⟩, eg⟩
  · obtain ⟨v, h1, h2⟩ := f.hl
    rw [hB.cell.1] at h1
    injection h1 with h1
    subst h1
    exact h2 hk
  · simp [Value.ownBlock] at hk
    subst hk
    exact hs gw (fun f => f.hw rfl) hB.wlt.2
  · simp [Value.ownBlock] at hk
    subst hk
    exact hs gm (fun f => f.hm rfl) hB.mlt.2
end

/-- A box that a closure holds. -/
structure Bx (W : World) (g gw gm k t : Nat) (v : Value) : Prop where
  blk : W.heap[k]? = some (.cells #[v] t (0, 0))
  far : Far W g gw gm k
def StepIs (W : World) (g gw gm gp : Nat) : Stp → Value → Prop
  | .claim, v => v = .func (.func 27) #[.pointer (some ⟨gp, 0, none⟩)] #[]
  | .work t, v => ∃ b1 b2, v = .func (.func 36) #[] #[.pointer (some ⟨b1, 0, none⟩), .pointer (some ⟨b2, 0, none⟩)] ∧ Bx W g gw gm b1 TPtr (.pointer (some ⟨gp, 0, none⟩)) ∧ Bx W g gw gm b2 3 (.int .i64 t)
  | .arrive, v => v = .func (.func 33) #[.pointer (some ⟨gp, 0, none⟩)] #[]
  | .wait, v => v = .func (.func 37) #[.pointer (some ⟨gp, 0, none⟩)] #[]
  | .done, v => v = .nilFunc
theorem StepIs.move {W W' : World} {g gw gm gp : Nat} {st : Stp} {v : Value} (h : StepIs W g gw gm gp st v) (hm : ∀ k t u, t = TPtr ∨ t = 3 → Bx W g gw gm k t u → Bx W' g gw gm k t u) : StepIs W' g gw gm gp st v := by
  cases st with
  | work t =>
    obtain ⟨b1, b2, e, h1, h2⟩ := h
    exact ⟨b1, b2, e, hm _ _ _ (.inl rfl) h1, hm _ _ _ (.inr rfl) h2⟩
  | claim => exact h
  | arrive => exact h
  | wait => exact h
  | done => exact h

/-- Block gp is a pool in the phase x, its memory in block g, its steps in block gn, its pairs in vp's row; L is at least the log's length. -/
structure Pool (W : World) (base g gw gm gp gn : Nat) (vp : Value) (L : Nat) (x : Ph) : Prop where
  is : ∃ log, log.length ≤ L ∧ Is W base g gw gm ⟨log, 0, [x.c, x.a], []⟩
  blk : W.heap[gp]? = some (.cells #[.pointer (some ⟨g, 0, none⟩), .int .i64 x.n, .slice (some ⟨gn, 0, none⟩) x.st.length x.st.length, vp, .int .i64 x.left, .int .i64 x.picks] TPool (0, 0))
  prs : Kd.R kP TPair W base (fun _ => True) vp x.pairs
  nxt : ∃ cs : Array Value, W.heap[gn]? = some (.cells cs TStep (0, 0)) ∧ cs.size = x.st.length ∧ ∀ i (h : i < x.st.length), ∃ v, cs[i]? = some v ∧ StepIs W g gw gm gp x.st[i] v
  f1 : Far W g gw gm gp
  f2 : Far W g gw gm gn
  f3 : ∀ k, vp.ownBlock = some k → Far W g gw gm k
  b1 : base ≤ gp
  b2 : base ≤ gn
section
variable {W W' : World} {base g gw gm gp gn L : Nat} {vp : Value} {x : Ph}
theorem Pool.lt (h : Pool W base g gw gm gp gn vp L x) : gp < W.heap.size := h.f1.lt
theorem Pool.bs (h : Pool W base g gw gm gp gn vp L x) : base ≤ W.heap.size := Nat.le_trans h.b1 (Nat.le_of_lt h.lt)
theorem ne_type {k t t' : Nat} {cs cs' : Array Value} (h : W.heap[k]? = some (.cells cs t (0, 0))) {j : Nat} (h' : W.heap[j]? = some (.cells cs' t' (0, 0))) (ht : t ≠ t') : k ≠ j := by
  rintro rfl
  rw [h] at h'
  injection h' with h'
  injection h' with _ e
  exact ht e
theorem Pool.gne (h : Pool W base g gw gm gp gn vp L x) : gp ≠ gn := by
  obtain ⟨cs, h1, _⟩ := h.nxt
  exact ne_type h.blk h1 (by decide)
theorem Pool.pne (h : Pool W base g gw gm gp gn vp L x) : (some gp ≠ vp.ownBlock) ∧ (some gn ≠ vp.ownBlock) := by
  obtain ⟨cs, h1, _⟩ := h.nxt
  refine ⟨fun e => ?_, fun e => ?_⟩
  · obtain ⟨cs2, h2⟩ := Kd.R_typed h.prs _ e.symm
    exact ne_type h.blk h2 (by decide) rfl
  · obtain ⟨cs2, h2⟩ := Kd.R_typed h.prs _ e.symm
    exact ne_type h1 h2 (by decide) rfl
theorem Pool.cells (h : Pool W base g gw gm gp gn vp L x) : W.cell? ⟨gp, 0, none⟩ = some (.pointer (some ⟨g, 0, none⟩)) ∧ W.cell? ⟨gp, 1, none⟩ = some (.int .i64 x.n) ∧ W.cell? ⟨gp, 2, none⟩ = some (.slice (some ⟨gn, 0, none⟩) x.st.length x.st.length) ∧ W.cell? ⟨gp, 3, none⟩ = some vp ∧ W.cell? ⟨gp, 4, none⟩ = some (.int .i64 x.left) ∧ W.cell? ⟨gp, 5, none⟩ = some (.int .i64 x.picks) := by
  have e := h.blk
  refine ⟨?_, ?_, ?_, ?_, ?_, ?_⟩ <;> simp [World.cell?, e]
theorem Pool.free (h : Pool W base g gw gm gp gn vp L x) (j : Nat) : W.frozen? ⟨gp, j, none⟩ = false := by
  have e := h.blk
  simp [World.frozen?, e]
theorem Pool.far (h : Pool W base g gw gm gp gn vp L x) {k : Nat} (hb : Below W.heap.size W W') (h1 : W.heap.size ≤ k) (h2 : k < W'.heap.size) : Far W' g gw gm k := by
  obtain ⟨log, _, hi⟩ := h.is
  exact hi.far hb h1 h2
/-- An operation on the memory. -/
theorem Pool.mem (h : Pool W base g gw gm gp gn vp L x) {log' : List Acc} {c' a' : Int} {L' : Nat} (l : Left W W' base g gw gm ⟨log', 0, [c', a'], []⟩) (hl : log'.length ≤ L') : Pool W' base g gw gm gp gn vp L' { x with c := c', a := a' } := by
  obtain ⟨b1, e1⟩ := l.mf.far h.f1
  obtain ⟨b2, e2⟩ := l.mf.far h.f2
  obtain ⟨cs, h1, h2, h3⟩ := h.nxt
  refine ⟨⟨log', hl, l.is⟩, e1.trans h.blk, R_stay h.prs rfl (fun k hk => (l.mf.far (h.f3 k hk)).2), ⟨cs, e2.trans h1, h2, fun i hi => ?_⟩, b1, b2, fun k hk => (l.mf.far (h.f3 k hk)).1, h.b1, h.b2⟩
  obtain ⟨v, h4, h5⟩ := h3 i hi
  exact ⟨v, h4, h5.move (fun k t u _ hb => ⟨(l.mf.far hb.far).2.trans hb.blk, (l.mf.far hb.far).1⟩)⟩
theorem Pool.below (h : Pool W base g gw gm gp gn vp L x) (hb : Below W.heap.size W W') : Pool W' base g gw gm gp gn vp L x := by
  obtain ⟨log, hl, hi⟩ := h.is
  exact h.mem (hi.left hb) hl
/-- Blocks that are the pool's own, and new ones, change: the memory and the boxes stay. -/
structure Chg (W W' : World) (gp gn : Nat) (vp : Value) : Prop where
  size : W.heap.size ≤ W'.heap.size
  block : ∀ k, k < W.heap.size → k ≠ gp → k ≠ gn → some k ≠ vp.ownBlock → W'.heap[k]? = W.heap[k]?
theorem Pool.stay (h : Pool W base g gw gm gp gn vp L x) (hc : Chg W W' gp gn vp) : (∃ log, log.length ≤ L ∧ Is W' base g gw gm ⟨log, 0, [x.c, x.a], []⟩) ∧ (∀ k, Far W g gw gm k → Far W' g gw gm k) ∧ (∀ k t u, t = TPtr ∨ t = 3 → Bx W g gw gm k t u → Bx W' g gw gm k t u) := by
  obtain ⟨log, hl, hi⟩ := h.is
  obtain ⟨i1, i2⟩ := hi.stay (W' := W') (fun k hk hlt => hc.block k hlt (fun e => hk (e ▸ h.f1)) (fun e => hk (e ▸ h.f2)) (fun e => hk (h.f3 k e.symm)))
  have keep : ∀ k, Far W g gw gm k → Far W' g gw gm k := fun k f => f.keep hc.size i2
  refine ⟨⟨log, hl, i1⟩, keep, fun k t u ht hb => ⟨(hc.block k hb.far.lt ?_ ?_ ?_).trans hb.blk, keep k hb.far⟩⟩
  · rcases ht with rfl | rfl
    · exact ne_type hb.blk h.blk (by decide)
    · exact ne_type hb.blk h.blk (by decide)
  · obtain ⟨cs, h1, _⟩ := h.nxt
    rcases ht with rfl | rfl
    · exact ne_type hb.blk h1 (by decide)
    · exact ne_type hb.blk h1 (by decide)
  · intro e
    obtain ⟨cs2, h2⟩ := Kd.R_typed h.prs _ e.symm
    rcases ht with rfl | rfl
    · exact ne_type hb.blk h2 (by decide) rfl
    · exact ne_type hb.blk h2 (by decide) rfl
theorem chg_p (W : World) (gp gn j : Nat) (vp u : Value) : Chg W (W.setCell ⟨gp, j, none⟩ u) gp gn vp := ⟨by simp [World.setCell], fun k _ h _ _ => Below.heap_setCell W ⟨gp, j, none⟩ u k h⟩
theorem chg_n (W : World) (gp gn j : Nat) (vp u : Value) : Chg W (W.setCell ⟨gn, j, none⟩ u) gp gn vp := ⟨by simp [World.setCell], fun k _ _ h _ => Below.heap_setCell W ⟨gn, j, none⟩ u k h⟩
theorem Pool.setP (h : Pool W base g gw gm gp gn vp L x) (j : Nat) (u : Value) {l' p' : Int} (e : (#[.pointer (some ⟨g, 0, none⟩), .int .i64 x.n, .slice (some ⟨gn, 0, none⟩) x.st.length x.st.length, vp, .int .i64 x.left, .int .i64 x.picks] : Array Value).setIfInBounds j u = #[.pointer (some ⟨g, 0, none⟩), .int .i64 x.n, .slice (some ⟨gn, 0, none⟩) x.st.length x.st.length, vp, .int .i64 l', .int .i64 p']) :
    Pool (W.setCell ⟨gp, j, none⟩ u) base g gw gm gp gn vp L { x with left := l', picks := p' } := by
  obtain ⟨i1, i2, i3⟩ := h.stay (chg_p W gp gn j vp u)
  obtain ⟨cs, h1, h2, h3⟩ := h.nxt
  refine ⟨i1, ?_, R_stay h.prs rfl (fun k hk => Below.heap_setCell W ⟨gp, j, none⟩ u k (fun e => h.pne.1 (by rw [hk]; exact congrArg some e.symm))), ⟨cs, (Below.heap_setCell W ⟨gp, j, none⟩ u gn (fun e => h.gne e.symm)).trans h1, h2, fun i hi => ?_⟩, i2 _ h.f1, i2 _ h.f2, fun k hk => i2 _ (h.f3 k hk), h.b1, h.b2⟩
  · have := blk_set (i := j) h.blk u
    rw [e] at this
    exact this
  · obtain ⟨v, h4, h5⟩ := h3 i hi
    exact ⟨v, h4, h5.move i3⟩
theorem Pool.setLeft (h : Pool W base g gw gm gp gn vp L x) (l' : Int) : Pool (W.setCell ⟨gp, 4, none⟩ (.int .i64 l')) base g gw gm gp gn vp L { x with left := l' } := h.setP 4 _ (by simp)
theorem Pool.setPicks (h : Pool W base g gw gm gp gn vp L x) (p' : Int) : Pool (W.setCell ⟨gp, 5, none⟩ (.int .i64 p')) base g gw gm gp gn vp L { x with picks := p' } := h.setP 5 _ (by simp)
theorem Pool.setStep (h : Pool W base g gw gm gp gn vp L x) (k : Nat) (hk : k < x.st.length) {st : Stp} {u : Value} (hs : StepIs W g gw gm gp st u) : Pool (W.setCell ⟨gn, k, none⟩ u) base g gw gm gp gn vp L { x with st := x.st.set k st } := by
  obtain ⟨i1, i2, i3⟩ := h.stay (chg_n W gp gn k vp u)
  obtain ⟨cs, h1, h2, h3⟩ := h.nxt
  refine ⟨i1, ?_, R_stay h.prs rfl (fun k' hk' => Below.heap_setCell W ⟨gn, k, none⟩ u k' (fun e => h.pne.2 (by rw [hk']; exact congrArg some e.symm))), ⟨cs.setIfInBounds k u, blk_set h1 u, by simp [h2], fun i hi => ?_⟩, i2 _ h.f1, i2 _ h.f2, fun k hk => i2 _ (h.f3 k hk), h.b1, h.b2⟩
  · simp only [List.length_set]
    exact (Below.heap_setCell W ⟨gn, k, none⟩ u gp h.gne).trans h.blk
  · simp only [List.length_set] at hi
    by_cases e : k = i
    · subst e
      refine ⟨u, ?_, ?_⟩
      · simp [Array.getElem?_setIfInBounds, h2, hk]
      · simpa using hs.move i3
    · obtain ⟨v, h4, h5⟩ := h3 i hi
      refine ⟨v, ?_, ?_⟩
      · rw [Array.getElem?_setIfInBounds, if_neg e]; exact h4
      · simp only [List.getElem_set, if_neg e]
        exact h5.move i3
/-- Behind an append to the pairs' row, and the store of the row. -/
theorem Pool.push (h : Pool W base g gw gm gp gn vp L x) {v1 : Value} {p1 : List (Int × Int)} (hl : Kd.R kP TPair W' base (fun _ => True) v1 p1) (hg : W.grownBy W' vp.ownBlock) (hat : v1.ownBlock = vp.ownBlock ∨ ∃ b, v1.ownBlock = some b ∧ W.heap.size ≤ b) :
    Pool (W'.setCell ⟨gp, 3, none⟩ v1) base g gw gm gp gn v1 L { x with pairs := p1 } ∧ Below base W (W'.setCell ⟨gp, 3, none⟩ v1) ∧ ∀ k t u, t = TPtr ∨ t = 3 → Bx W g gw gm k t u → Bx (W'.setCell ⟨gp, 3, none⟩ v1) g gw gm k t u := by
  have hc : Chg W (W'.setCell ⟨gp, 3, none⟩ v1) gp gn vp := ⟨by simpa [World.setCell] using hg.size, fun k hk h1 _ h3 => (Below.heap_setCell W' ⟨gp, 3, none⟩ v1 k h1).trans (hg.block k hk h3)⟩
  obtain ⟨i1, i2, i3⟩ := h.stay hc
  obtain ⟨cs, h1, h2, h3⟩ := h.nxt
  have hbp : W'.heap[gp]? = W.heap[gp]? := hg.block gp h.f1.lt h.pne.1
  have hbn : W'.heap[gn]? = W.heap[gn]? := hg.block gn h.f2.lt h.pne.2
  have hne : ∀ k, v1.ownBlock = some k → k ≠ gp := fun k hk e => by
    subst e
    obtain ⟨c3, e3⟩ := Kd.R_typed hl k hk
    exact ne_type (hbp.trans h.blk) e3 (by decide) rfl
  have hba := Kd.R_base h.prs
  refine ⟨⟨i1, ?_, R_stay hl rfl (fun k hk => Below.heap_setCell W' ⟨gp, 3, none⟩ v1 k (hne k hk)), ⟨cs, (Below.heap_setCell W' ⟨gp, 3, none⟩ v1 gn (fun e => h.gne e.symm)).trans (hbn.trans h1), h2, fun i hi => ?_⟩, i2 _ h.f1, i2 _ h.f2, fun k hk => ?_, h.b1, h.b2⟩, ⟨hg.os, hg.tape, hg.output, by simpa [World.setCell] using hg.size, fun k hk => ?_⟩, i3⟩
  · have := blk_set (i := 3) (hbp.trans h.blk) v1
    simpa using this
  · obtain ⟨v, h4, h5⟩ := h3 i hi
    exact ⟨v, h4, h5.move i3⟩
  · rcases hat with e | ⟨b, e, hle⟩
    · exact i2 _ (h.f3 k (e ▸ hk))
    · rw [e] at hk
      injection hk with hk
      subst hk
      have hlt := Kd.R_lt hl b e
      obtain ⟨log, hl2, hi⟩ := i1
      obtain ⟨log0, _, hi0⟩ := h.is
      obtain ⟨vl, cw, cm, hB⟩ := hi0
      have q1 := hB.lt
      have q2 := hB.wlt.2
      have q3 := hB.mlt.2
      refine ⟨by simpa [World.setCell] using hlt, by omega, by omega, by omega, vl, ?_, fun e2 => ?_⟩
      · rw [← hB.cell.1]
        have eg : (W'.setCell ⟨gp, 3, none⟩ v1).heap[g]? = W.heap[g]? := (Below.heap_setCell W' ⟨gp, 3, none⟩ v1 g (fun e => h.f1.hg e.symm)).trans (hg.block g q1 (fun e => (h.f3 g e.symm).hg rfl))
        simp only [World.cell?, eg]
      · have := Kd.R_lt hB.lo b e2
        omega
  · have := h.b1
    have := h.f1.lt
    exact (Below.heap_setCell W' ⟨gp, 3, none⟩ v1 k (by show k ≠ gp; omega)).trans (hg.block k (by omega) (fun e => by have := hba k e.symm; omega))
end
end Go.Proofs.Ytjheocofbfmopaa.Hand
