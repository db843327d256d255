/- A shared memory as it lies in the world: its block, its words, its mutexes, its log; what a store, an append, new blocks do to it; no condition but what each states. -/
import Derived.Test.YtjheocofbfmopaaProg
import Derived.Below
import Derived.Deep.Draws
import Derived.OwnWalk
import Derived.WalkKit
import Derived.KernelRfl
import Derived.Test.YtjheocofbfmopaaAcc
namespace Go.Proofs.Ytjheocofbfmopaa.Hand
open Go.RowKit Go.Proofs.YtjheocofbfmopaaW.PrintWords Go.Proofs.YtjheocofbfmopaaW.PrintLast Go.Proofs.YtjheocofbfmopaaW.PrintMore

/-- Block g is a memory: its log's row vl, its violations, its words in block gw, its mutexes in block gm; all of it lies from base on. -/
structure MemB (W : World) (base g gw gm : Nat) (vl : Value) (cw cm : Nat) (log : List Acc) (V : Int) (ws : List Int) (ms : List Mut) : Prop where
  blk : W.heap[g]? = some (.cells #[vl, .int .i64 V, .slice (some ⟨gw, 0, none⟩) ws.length cw, .slice (some ⟨gm, 0, none⟩) ms.length cm] 78 (0, 0))
  lo : Kd.R kA 89 W base (fun _ => True) vl log
  words : Kd.R (Kd.int .i64) 3 W base (fun _ => True) (.slice (some ⟨gw, 0, none⟩) ws.length cw) ws
  mus : Kd.R kM 106 W base (fun _ => True) (.slice (some ⟨gm, 0, none⟩) ms.length cm) ms
  hg : base ≤ g
def IsMem (W : World) (base g gw gm : Nat) (log : List Acc) (V : Int) (ws : List Int) (ms : List Mut) : Prop := ∃ vl cw cm, MemB W base g gw gm vl cw cm log V ws ms

/-- What an operation on that memory leaves: every block but the memory's own and its log's is as it was; the log lies where it lay, or in a new block. -/
structure MF (W W' : World) (g gw gm : Nat) : Prop where
  os : W'.os = W.os
  tape : W'.tape = W.tape
  output : W'.output = W.output
  size : W.heap.size ≤ W'.heap.size
  block : ∀ k, k < W.heap.size → k ≠ g → k ≠ gw → k ≠ gm → (∃ v, W.cell? ⟨g, 0, none⟩ = some v ∧ v.ownBlock ≠ some k) → W'.heap[k]? = W.heap[k]?
  log : ∀ v, W.cell? ⟨g, 0, none⟩ = some v → ∃ v', W'.cell? ⟨g, 0, none⟩ = some v' ∧ (v'.ownBlock = v.ownBlock ∨ ∃ b, v'.ownBlock = some b ∧ W.heap.size ≤ b)
theorem MF.refl (W : World) (g gw gm : Nat) : MF W W g gw gm := ⟨rfl, rfl, rfl, Nat.le_refl _, fun _ _ _ _ _ _ => rfl, fun v hv => ⟨v, hv, .inl rfl⟩⟩
theorem MF.trans {A B C : World} {g gw gm : Nat} (h : MF A B g gw gm) (k : MF B C g gw gm) : MF A C g gw gm :=
  ⟨k.os.trans h.os, k.tape.trans h.tape, k.output.trans h.output, Nat.le_trans h.size k.size, fun j hj h1 h2 h3 h4 => by
    have e := h.block j hj h1 h2 h3 h4
    obtain ⟨v, hv, hn⟩ := h4
    obtain ⟨v', hv', ho⟩ := h.log v hv
    refine (k.block j (Nat.lt_of_lt_of_le hj h.size) h1 h2 h3 ⟨v', hv', fun e2 => ?_⟩).trans e
    rcases ho with ho | ⟨b, hb, hle⟩
    · exact hn (ho ▸ e2)
    · rw [hb] at e2
      injection e2 with e2
      omega, fun v hv => by
    obtain ⟨v', hv', ho⟩ := h.log v hv
    obtain ⟨v2, hv2, ho2⟩ := k.log v' hv'
    refine ⟨v2, hv2, ?_⟩
    rcases ho2 with ho2 | ⟨b, hb, hle⟩
    · rw [ho2]; exact ho
    · exact .inr ⟨b, hb, Nat.le_trans h.size hle⟩⟩
theorem MF.below {W W' : World} {g gw gm : Nat} (hg : g < W.heap.size) (h : Below W.heap.size W W') : MF W W' g gw gm := ⟨h.os, h.tape, h.output, h.size, fun k hk _ _ _ _ => h.block k hk, fun v hv => ⟨v, (h.cell (p := ⟨g, 0, none⟩) hg).trans hv, .inl rfl⟩⟩
theorem MF.set {W : World} {g gw gm : Nat} {b j : Nat} (hb : (b = g ∧ j ≠ 0) ∨ (b = gw ∧ gw ≠ g) ∨ (b = gm ∧ gm ≠ g)) (u : Value) : MF W (W.setCell ⟨b, j, none⟩ u) g gw gm :=
  ⟨rfl, rfl, rfl, by simp [World.setCell], fun k _ h1 h2 h3 _ => Below.heap_setCell W ⟨b, j, none⟩ u k (by rcases hb with ⟨rfl, _⟩ | ⟨rfl, _⟩ | ⟨rfl, _⟩ <;> assumption), fun v hv => ⟨v, by
    rw [World.cell?_setCell_other _ _ _ _ (fun e => by injection e with e1 e2; rcases hb with ⟨h1, h2⟩ | ⟨h1, h2⟩ | ⟨h1, h2⟩ <;> omega)]
    exact hv, .inl rfl⟩⟩

theorem grown_set (W : World) (b j : Nat) (u : Value) : W.grownBy (W.setCell ⟨b, j, none⟩ u) (some b) :=
  ⟨rfl, rfl, rfl, by simp [World.setCell], fun k _ hk => Below.heap_setCell W ⟨b, j, none⟩ u k (fun e => hk (by rw [e]))⟩

section
variable {W W' : World} {base g gw gm cw cm : Nat} {vl : Value} {log : List Acc} {V : Int} {ws : List Int} {ms : List Mut}
theorem MemB.lt (h : MemB W base g gw gm vl cw cm log V ws ms) : g < W.heap.size := (Array.getElem?_eq_some_iff.1 h.blk).1
theorem MemB.wblk (h : MemB W base g gw gm vl cw cm log V ws ms) : ∃ cells, W.heap[gw]? = some (.cells cells 3 (0, 0)) := Kd.R_typed h.words gw rfl
theorem MemB.mblk (h : MemB W base g gw gm vl cw cm log V ws ms) : ∃ cells, W.heap[gm]? = some (.cells cells 106 (0, 0)) := Kd.R_typed h.mus gm rfl
theorem MemB.wne (h : MemB W base g gw gm vl cw cm log V ws ms) : gw ≠ g := by
  obtain ⟨cells, e⟩ := h.wblk
  rintro rfl
  have := h.blk
  rw [e] at this
  injection this with this
  injection this with _ ht
  exact absurd ht (by decide)
theorem MemB.mne (h : MemB W base g gw gm vl cw cm log V ws ms) : gm ≠ g := by
  obtain ⟨cells, e⟩ := h.mblk
  rintro rfl
  have := h.blk
  rw [e] at this
  injection this with this
  injection this with _ ht
  exact absurd ht (by decide)
theorem MemB.wmne (h : MemB W base g gw gm vl cw cm log V ws ms) : gw ≠ gm := by
  obtain ⟨cells, e⟩ := h.wblk
  obtain ⟨cells2, e2⟩ := h.mblk
  rintro rfl
  rw [e] at e2
  injection e2 with this
  injection this with _ ht
  exact absurd ht (by decide)
theorem MemB.wlt (h : MemB W base g gw gm vl cw cm log V ws ms) : base ≤ gw ∧ gw < W.heap.size := ⟨Kd.R_base h.words gw rfl, Kd.R_lt h.words gw rfl⟩
theorem MemB.mlt (h : MemB W base g gw gm vl cw cm log V ws ms) : base ≤ gm ∧ gm < W.heap.size := ⟨Kd.R_base h.mus gm rfl, Kd.R_lt h.mus gm rfl⟩
/-- The memory's four cells. -/
theorem MemB.cell (h : MemB W base g gw gm vl cw cm log V ws ms) : W.cell? ⟨g, 0, none⟩ = some vl ∧ W.cell? ⟨g, 1, none⟩ = some (.int .i64 V) ∧ W.cell? ⟨g, 2, none⟩ = some (.slice (some ⟨gw, 0, none⟩) ws.length cw) ∧ W.cell? ⟨g, 3, none⟩ = some (.slice (some ⟨gm, 0, none⟩) ms.length cm) := by
  have e := h.blk
  refine ⟨?_, ?_, ?_, ?_⟩ <;> simp [World.cell?, e]
theorem MemB.free (h : MemB W base g gw gm vl cw cm log V ws ms) (j : Nat) : W.frozen? ⟨g, j, none⟩ = false := by
  have e := h.blk
  simp [World.frozen?, e]
theorem MemB.below (h : MemB W base g gw gm vl cw cm log V ws ms) (hb : Below W.heap.size W W') : MemB W' base g gw gm vl cw cm log V ws ms :=
  ⟨(hb.block g h.lt).trans h.blk, Kd.R_below h.lo hb, Kd.R_below h.words hb, Kd.R_below h.mus hb, h.hg⟩
theorem IsMem.below (h : IsMem W base g gw gm log V ws ms) (hb : Below W.heap.size W W') : IsMem W' base g gw gm log V ws ms := by
  obtain ⟨vl, cw, cm, h⟩ := h
  exact ⟨vl, cw, cm, h.below hb⟩
theorem IsMem.lower {base' : Nat} (h : IsMem W base g gw gm log V ws ms) (hb : base' ≤ base) : IsMem W base' g gw gm log V ws ms := by
  obtain ⟨vl, cw, cm, h1, h2, h3, h4, h5⟩ := h
  exact ⟨vl, cw, cm, h1, Kd.R_lower h2 hb, Kd.R_lower h3 hb, Kd.R_lower h4 hb, Nat.le_trans hb h5⟩
/-- A store into a block that is none of the memory's. -/
theorem MemB.far (h : MemB W base g gw gm vl cw cm log V ws ms) {b j t : Nat} {cells : Array Value} (hb : W.heap[b]? = some (.cells cells t (0, 0))) (h1 : b ≠ g) (h2 : b ≠ gw) (h3 : b ≠ gm) (ht : t ≠ 89) (u : Value) : MemB (W.setCell ⟨b, j, none⟩ u) base g gw gm vl cw cm log V ws ms := by
  have hgw : W.grownBy (W.setCell ⟨b, j, none⟩ u) (some b) := grown_set W b j u
  refine ⟨(Below.heap_setCell W ⟨b, j, none⟩ u g (by simpa using h1.symm)).trans h.blk, Kd.R_set h.lo hb (fun q hq => ?_) j u, ?_, ?_, h.hg⟩
  · rcases List.mem_cons.1 hq with rfl | hq
    · exact fun e => ht e.symm
    · exact absurd hq (by simp [kA, Kd.iso, Kd.pair, Kd.int, Kd.bool, Kd.scalar])
  · exact Kd.R_grown1 h.words (by rfl) hgw (by simp [Value.ownBlock]; exact h2)
  · exact Kd.R_grown1 h.mus (by rfl) hgw (by simp [Value.ownBlock]; exact h3)
theorem blk_set {b t i : Nat} {cs : Array Value} (hb : W.heap[b]? = some (.cells cs t (0, 0))) (u : Value) : (W.setCell ⟨b, i, none⟩ u).heap[b]? = some (.cells (cs.setIfInBounds i u) t (0, 0)) := by
  simp [World.setCell, Array.getElem?_modify, hb]
theorem below_set_ {b j : Nat} (hb : base ≤ b) (u : Value) : Below base W (W.setCell ⟨b, j, none⟩ u) := (Below.refl base W).setCell (p := ⟨b, j, none⟩) hb u
theorem MemB.setWord (h : MemB W base g gw gm vl cw cm log V ws ms) (i : Nat) (u : Int) : MemB (W.setCell ⟨gw, i, none⟩ (.int .i64 u)) base g gw gm vl cw cm log V (ws.set i u) ms := by
  obtain ⟨cells, e⟩ := h.wblk
  have hr := (Kd.R_putg h.words (i : Int) u).1
  rw [Int.toNat_natCast] at hr
  refine ⟨?_, Kd.R_set h.lo e (fun q hq => ?_) i _, by rw [List.length_set]; exact hr, Kd.R_set h.mus e (fun q hq => ?_) i _, h.hg⟩
  · rw [List.length_set]
    exact (Below.heap_setCell W ⟨gw, i, none⟩ _ g (by simpa using h.wne.symm)).trans h.blk
  · rcases List.mem_cons.1 hq with rfl | hq
    · decide
    · exact absurd hq (by simp [kA, Kd.iso, Kd.pair, Kd.int, Kd.bool, Kd.scalar])
  · rcases List.mem_cons.1 hq with rfl | hq
    · decide
    · exact absurd hq (by simp [kM, Kd.iso, Kd.pair, Kd.int, Kd.bool, Kd.scalar])
theorem MemB.setG (h : MemB W base g gw gm vl cw cm log V ws ms) (j : Nat) (u : Value) :
    Kd.R kA 89 (W.setCell ⟨g, j, none⟩ u) base (fun _ => True) vl log ∧ Kd.R (Kd.int .i64) 3 (W.setCell ⟨g, j, none⟩ u) base (fun _ => True) (.slice (some ⟨gw, 0, none⟩) ws.length cw) ws ∧
      Kd.R kM 106 (W.setCell ⟨g, j, none⟩ u) base (fun _ => True) (.slice (some ⟨gm, 0, none⟩) ms.length cm) ms := by
  refine ⟨Kd.R_set h.lo h.blk (fun q hq => ?_) j _, Kd.R_set h.words h.blk (fun q hq => ?_) j _, Kd.R_set h.mus h.blk (fun q hq => ?_) j _⟩
  · rcases List.mem_cons.1 hq with rfl | hq
    · decide
    · exact absurd hq (by simp [kA, Kd.iso, Kd.pair, Kd.int, Kd.bool, Kd.scalar])
  · rcases List.mem_cons.1 hq with rfl | hq
    · decide
    · exact absurd hq (by simp [Kd.int, Kd.scalar])
  · rcases List.mem_cons.1 hq with rfl | hq
    · decide
    · exact absurd hq (by simp [kM, Kd.iso, Kd.pair, Kd.int, Kd.bool, Kd.scalar])
theorem MemB.setViol (h : MemB W base g gw gm vl cw cm log V ws ms) (V' : Int) : MemB (W.setCell ⟨g, 1, none⟩ (.int .i64 V')) base g gw gm vl cw cm log V' ws ms := by
  obtain ⟨h1, h2, h3⟩ := h.setG 1 (.int .i64 V')
  exact ⟨blk_set h.blk _, h1, h2, h3, h.hg⟩
theorem MemB.setLogCell (h : MemB W base g gw gm vl cw cm log V ws ms) {v1 : Value} {log1 : List Acc} (hl : Kd.R kA 89 W base (fun _ => True) v1 log1) : MemB (W.setCell ⟨g, 0, none⟩ v1) base g gw gm v1 cw cm log1 V ws ms := by
  obtain ⟨_, h2, h3⟩ := h.setG 0 v1
  refine ⟨blk_set h.blk _, Kd.R_set hl h.blk (fun q hq => ?_) 0 _, h2, h3, h.hg⟩
  rcases List.mem_cons.1 hq with rfl | hq
  · decide
  · exact absurd hq (by simp [kA, Kd.iso, Kd.pair, Kd.int, Kd.bool, Kd.scalar])
/-- Behind an append to the log's row, ahead of its store: all but the log is as it was. -/
theorem MemB.grownLog (h : MemB W base g gw gm vl cw cm log V ws ms) (hg : W.grownBy W' vl.ownBlock) : W'.heap[g]? = W.heap[g]? ∧
    Kd.R (Kd.int .i64) 3 W' base (fun _ => True) (.slice (some ⟨gw, 0, none⟩) ws.length cw) ws ∧ Kd.R kM 106 W' base (fun _ => True) (.slice (some ⟨gm, 0, none⟩) ms.length cm) ms := by
  have hty := Kd.R_typed h.lo
  have ne : ∀ b t cells, W.heap[b]? = some (.cells cells t (0, 0)) → t ≠ 89 → some b ≠ vl.ownBlock := by
    intro b t cells hb ht e
    obtain ⟨cs, e2⟩ := hty b e.symm
    rw [hb] at e2
    injection e2 with e2
    injection e2 with _ e3
    exact ht e3
  obtain ⟨c1, e1⟩ := h.wblk
  obtain ⟨c2, e2⟩ := h.mblk
  exact ⟨hg.block g h.lt (ne _ _ _ h.blk (by decide)), Kd.R_grown1 h.words (by rfl) hg (fun e => ne _ _ _ e1 (by decide) e.symm), Kd.R_grown1 h.mus (by rfl) hg (fun e => ne _ _ _ e2 (by decide) e.symm)⟩
theorem MemB.pushLog (h : MemB W base g gw gm vl cw cm log V ws ms) {v1 : Value} {log1 : List Acc} (hl : Kd.R kA 89 W' base (fun _ => True) v1 log1) (hg : W.grownBy W' vl.ownBlock) (hat : v1.ownBlock = vl.ownBlock ∨ ∃ b, v1.ownBlock = some b ∧ W.heap.size ≤ b) :
    MemB (W'.setCell ⟨g, 0, none⟩ v1) base g gw gm v1 cw cm log1 V ws ms ∧ MF W (W'.setCell ⟨g, 0, none⟩ v1) g gw gm ∧ Below base W (W'.setCell ⟨g, 0, none⟩ v1) := by
  obtain ⟨e, h2, h3⟩ := h.grownLog hg
  have hba := Kd.R_base h.lo
  -- the same block with the log's row told as empty serves setLogCell
  have h' : MemB W' base g gw gm v1 cw cm log1 V ws ms ∨ True := .inr trivial
  clear h'
  have hb : W'.heap[g]? = some (.cells #[vl, .int .i64 V, .slice (some ⟨gw, 0, none⟩) ws.length cw, .slice (some ⟨gm, 0, none⟩) ms.length cm] 78 (0, 0)) := e.trans h.blk
  have mf : MF W (W'.setCell ⟨g, 0, none⟩ v1) g gw gm := ⟨hg.os, hg.tape, hg.output, by simpa [World.setCell] using hg.size, fun k hk h1 _ _ ht => by
    obtain ⟨v, hv, hn⟩ := ht
    rw [h.cell.1] at hv
    injection hv with hv
    subst hv
    exact (Below.heap_setCell W' ⟨g, 0, none⟩ v1 k h1).trans (hg.block k hk (fun e => hn e.symm)), fun v hv => ⟨v1, World.cell?_setCell_same' _ _ _ (by simp [World.cell?, hb]), by
      rw [h.cell.1] at hv
      injection hv with hv
      subst hv
      exact hat⟩⟩
  have bl : Below base W W' := ⟨hg.os, hg.tape, hg.output, hg.size, fun k hk => by
    rcases Nat.lt_or_ge k W.heap.size with hlt | hge
    · exact hg.block k hlt (fun e => by have := hba k e.symm; omega)
    · have := h.lt; have := h.hg; omega⟩
  refine ⟨⟨blk_set hb _, Kd.R_set hl hb (fun q hq => ?_) 0 _, Kd.R_set h2 hb (fun q hq => ?_) 0 _, Kd.R_set h3 hb (fun q hq => ?_) 0 _, h.hg⟩, mf, bl.trans (below_set_ h.hg _)⟩
  · rcases List.mem_cons.1 hq with rfl | hq
    · decide
    · exact absurd hq (by simp [kA, Kd.iso, Kd.pair, Kd.int, Kd.bool, Kd.scalar])
  · rcases List.mem_cons.1 hq with rfl | hq
    · decide
    · exact absurd hq (by simp [Kd.int, Kd.scalar])
  · rcases List.mem_cons.1 hq with rfl | hq
    · decide
    · exact absurd hq (by simp [kM, Kd.iso, Kd.pair, Kd.int, Kd.bool, Kd.scalar])
/-- Behind a store into the mutexes' row. -/
theorem MemB.ofMut (h : MemB W base g gw gm vl cw cm log V ws ms) {ms1 : List Mut} (hl : ms1.length = ms.length) (hm : Kd.R kM 106 W' base (fun _ => True) (.slice (some ⟨gm, 0, none⟩) ms.length cm) ms1) (hg : W.grownBy W' (some gm)) :
    MemB W' base g gw gm vl cw cm log V ws ms1 ∧ MF W W' g gw gm ∧ Below base W W' := by
  obtain ⟨c2, e2⟩ := h.mblk
  have hb := h.mlt.1
  refine ⟨⟨?_, ?_, Kd.R_grown1 h.words (by rfl) hg (by simp [Value.ownBlock]; exact h.wmne.symm), by rw [hl]; exact hm, h.hg⟩, ⟨hg.os, hg.tape, hg.output, hg.size, fun k hk _ _ h3 _ => hg.block k hk (fun e => h3 (by injection e)), fun v hv => ⟨v, ?_, .inl rfl⟩⟩, ⟨hg.os, hg.tape, hg.output, hg.size, fun k hk => ?_⟩⟩
  · rw [hl]
    exact (hg.block g h.lt (fun e => h.mne (by injection e with e; exact e.symm))).trans h.blk
  · exact Kd.R_grown1 h.lo (by rfl) hg (fun e => by
      obtain ⟨cs, e3⟩ := Kd.R_typed h.lo gm e.symm
      rw [e2] at e3
      injection e3 with e3
      injection e3 with _ e4
      exact absurd e4 (by decide))
  · have eb : W'.heap[g]? = W.heap[g]? := hg.block g h.lt (fun e => h.mne (by injection e with e; exact e.symm))
    rw [← hv]
    simp [World.cell?, eb]
  · rcases Nat.lt_or_ge k W.heap.size with hlt | hge
    · exact hg.block k hlt (fun e => by injection e with e; omega)
    · have := h.lt; have := h.hg; omega
end
end Go.Proofs.Ytjheocofbfmopaa.Hand
