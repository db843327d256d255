/- The reference memory: what an operation leaves; Held and set; no condition but what each states. -/
import Derived.Test.YtfkoehokjpcogaaRefA
namespace Go.Proofs.Ytfkoehokjpcogaa.Hand
open Go.RowKit Go.Proofs.YtfkoehokjpcogaaW.PrintWords Go.Proofs.YtfkoehokjpcogaaW.PrintLast Go.Proofs.YtfkoehokjpcogaaW.PrintMore
set_option linter.unusedVariables false
set_option linter.unusedSimpArgs false
attribute [local go_sem] max2_int min2_int max_two min_two max_three min_three max_four min_four

structure RF (W W' : World) (rb rw rm : Nat) : Prop where
  os : W'.os = W.os
  tape : W'.tape = W.tape
  output : W'.output = W.output
  size : W.heap.size ≤ W'.heap.size
  block : ∀ k, k < W.heap.size → k ≠ rb → k ≠ rw → k ≠ rm → (∃ v, W.cell? ⟨rb, 2, none⟩ = some v ∧ v.ownBlock ≠ some k) → W'.heap[k]? = W.heap[k]?
  log : ∀ v, W.cell? ⟨rb, 2, none⟩ = some v → ∃ v', W'.cell? ⟨rb, 2, none⟩ = some v' ∧ (v'.ownBlock = v.ownBlock ∨ ∃ b, v'.ownBlock = some b ∧ W.heap.size ≤ b)
theorem RF.refl (W : World) (rb rw rm : Nat) : RF W W rb rw rm := ⟨rfl, rfl, rfl, Nat.le_refl _, fun _ _ _ _ _ _ => rfl, fun v hv => ⟨v, hv, .inl rfl⟩⟩
theorem RF.trans {A B C : World} {rb rw rm : Nat} (h : RF A B rb rw rm) (k : RF B C rb rw rm) : RF A C rb rw rm :=
  ⟨k.os.trans h.os, k.tape.trans h.tape, k.output.trans h.output, Nat.le_trans h.size k.size, fun j hj h1 h2 h3 h4 => by
    have e := h.block j hj h1 h2 h3 h4
    obtain ⟨v, hv, hn⟩ := h4
    obtain ⟨v', hv', ho⟩ := h.log v hv
    refine (k.block j (Nat.lt_of_lt_of_le hj h.size) h1 h2 h3 ⟨v', hv', fun e2 => ?_⟩).trans e
    rcases ho with ho | ⟨b, hb, hle⟩
    · exact hn (ho ▸ e2)
    · rw [hb] at e2
      injection e2 with e2
      omega, fun v hv => by
    obtain ⟨v', hv', ho⟩ := h.log v hv
    obtain ⟨v2, hv2, ho2⟩ := k.log v' hv'
    refine ⟨v2, hv2, ?_⟩
    rcases ho2 with ho2 | ⟨b, hb, hle⟩
    · rw [ho2]; exact ho
    · exact .inr ⟨b, hb, Nat.le_trans h.size hle⟩⟩
theorem RF.below {W W' : World} {rb rw rm : Nat} (hg : rb < W.heap.size) (h : Below W.heap.size W W') : RF W W' rb rw rm := ⟨h.os, h.tape, h.output, h.size, fun k hk _ _ _ _ => h.block k hk, fun v hv => ⟨v, (h.cell (p := ⟨rb, 2, none⟩) hg).trans hv, .inl rfl⟩⟩
theorem RF.set {W : World} {rb rw rm : Nat} {b j : Nat} (hb : (b = rb ∧ j ≠ 2) ∨ (b = rw ∧ rw ≠ rb) ∨ (b = rm ∧ rm ≠ rb)) (u : Value) : RF W (W.setCell ⟨b, j, none⟩ u) rb rw rm :=
  ⟨rfl, rfl, rfl, by simp [World.setCell], fun k _ h1 h2 h3 _ => Below.heap_setCell W ⟨b, j, none⟩ u k (by rcases hb with ⟨rfl, _⟩ | ⟨rfl, _⟩ | ⟨rfl, _⟩ <;> assumption), fun v hv => ⟨v, by
    rw [World.cell?_setCell_other _ _ _ _ (fun e => by injection e with e1 e2; rcases hb with ⟨h1, h2⟩ | ⟨h1, h2⟩ | ⟨h1, h2⟩ <;> omega)]
    exact hv, .inl rfl⟩⟩
section
variable {W W' : World} {base rb rw rm cw cm : Nat} {vl : Value} {log : List Acc} {V : Int} {ws hs : List Int}
theorem RefB.lt (h : RefB W base rb rw rm vl cw cm log V ws hs) : rb < W.heap.size := (Array.getElem?_eq_some_iff.1 h.blk).1
theorem RefB.wne (h : RefB W base rb rw rm vl cw cm log V ws hs) : rw ≠ rb := by
  obtain ⟨cells, e⟩ := Kd.R_typed h.words rw rfl
  rintro rfl
  have := h.blk
  rw [e] at this
  injection this with this
  injection this with _ ht
  exact absurd ht (by decide)
theorem RefB.mne (h : RefB W base rb rw rm vl cw cm log V ws hs) : rm ≠ rb := by
  obtain ⟨cells, e⟩ := Kd.R_typed h.hold rm rfl
  rintro rfl
  have := h.blk
  rw [e] at this
  injection this with this
  injection this with _ ht
  exact absurd ht (by decide)
theorem RefB.cell (h : RefB W base rb rw rm vl cw cm log V ws hs) : W.cell? ⟨rb, 0, none⟩ = some (.slice (some ⟨rw, 0, none⟩) ws.length cw) ∧ W.cell? ⟨rb, 1, none⟩ = some (.slice (some ⟨rm, 0, none⟩) hs.length cm) ∧ W.cell? ⟨rb, 2, none⟩ = some vl ∧ W.cell? ⟨rb, 3, none⟩ = some (.int .i64 V) := by
  have e := h.blk
  refine ⟨?_, ?_, ?_, ?_⟩ <;> simp [World.cell?, e]
theorem RefB.free (h : RefB W base rb rw rm vl cw cm log V ws hs) (j : Nat) : W.frozen? ⟨rb, j, none⟩ = false := by
  have e := h.blk
  simp [World.frozen?, e]
theorem RefB.below (h : RefB W base rb rw rm vl cw cm log V ws hs) (hb : Below W.heap.size W W') : RefB W' base rb rw rm vl cw cm log V ws hs :=
  ⟨(hb.block rb h.lt).trans h.blk, Kd.R_below h.words hb, Kd.R_below h.hold hb, Kd.R_below h.lo hb, h.ne, h.hg⟩
/-- The row's own blocks are as they were: so is the row. -/
theorem R_stay {α : Type} {d : Kd α} {e : Nat} {v : Value} {xs : List α} {ok : Nat → Prop} (h : d.R e W base ok v xs) (hE : d.E = []) (hb : ∀ k, v.ownBlock = some k → W'.heap[k]? = W.heap[k]?) : d.R e W' base ok v xs :=
  Kd.R_reok hE (Kd.R_move (Kd.R_tight hE h) (fun k hk => hb k hk.symm)) h.1
theorem RefB.setRow (h : RefB W base rb rw rm vl cw cm log V ws hs) (i : Nat) (u : Int) :
    RefB (W.setCell ⟨rw, i, none⟩ (.int .i64 u)) base rb rw rm vl cw cm log V (ws.set i u) hs ∧ RefB (W.setCell ⟨rm, i, none⟩ (.int .i64 u)) base rb rw rm vl cw cm log V ws (hs.set i u) := by
  have hl : ∀ k cs, W.heap[k]? = some (.cells cs 3 (0, 0)) → vl.ownBlock ≠ some k := fun k cs hk e => by
    obtain ⟨c2, e2⟩ := Kd.R_typed h.lo k e
    rw [hk] at e2
    injection e2 with e2
    injection e2 with _ e3
    exact absurd e3 (by decide)
  obtain ⟨c1, e1⟩ := Kd.R_typed h.words rw rfl
  obtain ⟨c2, e2⟩ := Kd.R_typed h.hold rm rfl
  have hw := (Kd.R_putg h.words (i : Int) u).1
  have hm := (Kd.R_putg h.hold (i : Int) u).1
  rw [Int.toNat_natCast] at hw hm
  constructor
  · refine ⟨?_, by rw [List.length_set]; exact hw, R_stay h.hold rfl (fun k hk => ?_), R_stay h.lo rfl (fun k hk => ?_), h.ne, h.hg⟩
    · rw [List.length_set]
      exact (Below.heap_setCell W ⟨rw, i, none⟩ _ rb (by simpa using h.wne.symm)).trans h.blk
    · refine Below.heap_setCell W ⟨rw, i, none⟩ _ k ?_
      simp [Value.ownBlock] at hk
      have := h.ne
      simp; omega
    · refine Below.heap_setCell W ⟨rw, i, none⟩ _ k ?_
      intro e
      simp at e
      exact hl _ _ e1 (e ▸ hk)
  · refine ⟨?_, R_stay h.words rfl (fun k hk => ?_), by rw [List.length_set]; exact hm, R_stay h.lo rfl (fun k hk => ?_), h.ne, h.hg⟩
    · rw [List.length_set]
      exact (Below.heap_setCell W ⟨rm, i, none⟩ _ rb (by simpa using h.mne.symm)).trans h.blk
    · refine Below.heap_setCell W ⟨rm, i, none⟩ _ k ?_
      simp [Value.ownBlock] at hk
      have := h.ne
      simp; omega
    · refine Below.heap_setCell W ⟨rm, i, none⟩ _ k ?_
      intro e
      simp at e
      exact hl _ _ e2 (e ▸ hk)
/-- A store into the struct's own block, its rows as they are. -/
theorem RefB.rows (h : RefB W base rb rw rm vl cw cm log V ws hs) (j : Nat) (u : Value) :
    Kd.R (Kd.int .i64) 3 (W.setCell ⟨rb, j, none⟩ u) base (fun _ => True) (.slice (some ⟨rw, 0, none⟩) ws.length cw) ws ∧ Kd.R (Kd.int .i64) 3 (W.setCell ⟨rb, j, none⟩ u) base (fun _ => True) (.slice (some ⟨rm, 0, none⟩) hs.length cm) hs ∧
      Kd.R kA 47 (W.setCell ⟨rb, j, none⟩ u) base (fun _ => True) vl log := by
  refine ⟨R_stay h.words rfl (fun k hk => Below.heap_setCell W ⟨rb, j, none⟩ _ k ?_), R_stay h.hold rfl (fun k hk => Below.heap_setCell W ⟨rb, j, none⟩ _ k ?_), R_stay h.lo rfl (fun k hk => Below.heap_setCell W ⟨rb, j, none⟩ _ k ?_)⟩
  · simp [Value.ownBlock] at hk; have := h.wne; simp; omega
  · simp [Value.ownBlock] at hk; have := h.mne; simp; omega
  · intro e
    simp at e
    obtain ⟨c2, e2⟩ := Kd.R_typed h.lo k hk
    rw [e, h.blk] at e2
    injection e2 with e2
    injection e2 with _ e3
    exact absurd e3 (by decide)
theorem RefB.setViol (h : RefB W base rb rw rm vl cw cm log V ws hs) (V' : Int) : RefB (W.setCell ⟨rb, 3, none⟩ (.int .i64 V')) base rb rw rm vl cw cm log V' ws hs := by
  obtain ⟨h1, h2, h3⟩ := h.rows 3 (.int .i64 V')
  exact ⟨blk_set h.blk _, h1, h2, h3, h.ne, h.hg⟩
theorem RefB.pushLog (h : RefB W base rb rw rm vl cw cm log V ws hs) {v1 : Value} {log1 : List Acc} (hl : Kd.R kA 47 W' base (fun _ => True) v1 log1) (hg : W.grownBy W' vl.ownBlock) (hat : v1.ownBlock = vl.ownBlock ∨ ∃ b, v1.ownBlock = some b ∧ W.heap.size ≤ b) :
    RefB (W'.setCell ⟨rb, 2, none⟩ v1) base rb rw rm v1 cw cm log1 V ws hs ∧ RF W (W'.setCell ⟨rb, 2, none⟩ v1) rb rw rm ∧ Below base W (W'.setCell ⟨rb, 2, none⟩ v1) := by
  have hty := Kd.R_typed h.lo
  have ne : ∀ b t cells, W.heap[b]? = some (.cells cells t (0, 0)) → t ≠ 47 → some b ≠ vl.ownBlock := by
    intro b t cells hb ht e
    obtain ⟨cs, e2⟩ := hty b e.symm
    rw [hb] at e2
    injection e2 with e2
    injection e2 with _ e3
    exact ht e3
  obtain ⟨c1, e1⟩ := Kd.R_typed h.words rw rfl
  obtain ⟨c2, e2⟩ := Kd.R_typed h.hold rm rfl
  have hb : W'.heap[rb]? = some (.cells #[.slice (some ⟨rw, 0, none⟩) ws.length cw, .slice (some ⟨rm, 0, none⟩) hs.length cm, vl, .int .i64 V] TR (0, 0)) := (hg.block rb h.lt (ne _ _ _ h.blk (by decide))).trans h.blk
  have k1 := Kd.R_grown1 h.words (by rfl) hg (fun e => ne _ _ _ e1 (by decide) e.symm)
  have k2 := Kd.R_grown1 h.hold (by rfl) hg (fun e => ne _ _ _ e2 (by decide) e.symm)
  have hba := Kd.R_base h.lo
  refine ⟨⟨blk_set hb _, R_stay k1 rfl (fun k hk => Below.heap_setCell W' ⟨rb, 2, none⟩ _ k ?_), R_stay k2 rfl (fun k hk => Below.heap_setCell W' ⟨rb, 2, none⟩ _ k ?_), R_stay hl rfl (fun k hk => Below.heap_setCell W' ⟨rb, 2, none⟩ _ k ?_), h.ne, h.hg⟩, ⟨hg.os, hg.tape, hg.output, by simpa [World.setCell] using hg.size, fun k hk h1 _ _ ht => ?_, fun v hv => ⟨v1, World.cell?_setCell_same' _ _ _ (by simp [World.cell?, hb]), ?_⟩⟩, ⟨hg.os, hg.tape, hg.output, by simpa [World.setCell] using hg.size, fun k hk => ?_⟩⟩
  · simp [Value.ownBlock] at hk; have := h.wne; simp; omega
  · simp [Value.ownBlock] at hk; have := h.mne; simp; omega
  · intro e
    simp at e
    obtain ⟨c3, e3⟩ := Kd.R_typed hl k hk
    rw [e, hb] at e3
    injection e3 with e3
    injection e3 with _ e4
    exact absurd e4 (by decide)
  · obtain ⟨v, hv, hn⟩ := ht
    rw [h.cell.2.2.1] at hv
    injection hv with hv
    subst hv
    exact (Below.heap_setCell W' ⟨rb, 2, none⟩ v1 k h1).trans (hg.block k hk (fun e => hn e.symm))
  · rw [h.cell.2.2.1] at hv
    injection hv with hv
    subst hv
    exact hat
  · have hlt := h.lt
    have hgb := h.hg
    exact (Below.heap_setCell W' ⟨rb, 2, none⟩ v1 k (by show k ≠ rb; omega)).trans (hg.block k (by omega) (fun e => by have := hba k e.symm; omega))
end
end Go.Proofs.Ytfkoehokjpcogaa.Hand
