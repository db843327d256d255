/- The reference memory's Held, set; no condition but what each states. -/
import Derived.Test.YtfkoehokjpcogaaRefB
import Derived.BigQuiet
import Derived.Deep.QuietTactic
namespace Go.Proofs.Ytfkoehokjpcogaa.Hand
open Go.RowKit Go.Proofs.YtfkoehokjpcogaaW.PrintWords Go.Proofs.YtfkoehokjpcogaaW.PrintLast Go.Proofs.YtfkoehokjpcogaaW.PrintMore
set_option linter.unusedVariables false
set_option linter.unusedSimpArgs false
attribute [local go_sem] max2_int min2_int max_two min_two max_three min_three max_four min_four

structure RLeft (W W' : World) (base rb rw rm : Nat) (log : List Acc) (V : Int) (ws hs : List Int) : Prop where
  is : RefIs W' base rb rw rm log V ws hs
  rf : RF W W' rb rw rm
  bl : Below base W W'
section
variable {W W' : World} {base rb rw rm cw cm : Nat} {vl : Value} {log : List Acc} {V : Int} {ws hs : List Int}
theorem RefIs.lt (h : RefIs W base rb rw rm log V ws hs) : rb < W.heap.size := by
  obtain ⟨_, _, _, h⟩ := h
  exact h.lt
theorem RefIs.bs (h : RefIs W base rb rw rm log V ws hs) : base ≤ W.heap.size := by
  obtain ⟨_, _, _, h⟩ := h
  exact Nat.le_trans h.hg (Nat.le_of_lt h.lt)
theorem RefIs.left (h : RefIs W base rb rw rm log V ws hs) (hb : Below W.heap.size W W') : RLeft W W' base rb rw rm log V ws hs := by
  have h2 := h.bs
  have h3 := h.lt
  obtain ⟨vl, cw, cm, h⟩ := h
  exact ⟨⟨vl, cw, cm, h.below hb⟩, RF.below h3 hb, hb.mono h2⟩
theorem RLeft.trans {A B C : World} {log2 : List Acc} {V2 : Int} {ws2 hs2 : List Int} (h : RLeft A B base rb rw rm log V ws hs) (k : RLeft B C base rb rw rm log2 V2 ws2 hs2) : RLeft A C base rb rw rm log2 V2 ws2 hs2 := ⟨k.is, h.rf.trans k.rf, h.bl.trans k.bl⟩
theorem RLeft.ofDrew (h : RLeft W.drew W' base rb rw rm log V ws hs) : RLeft W W' base rb rw rm log V ws hs := ⟨h.is, ⟨h.rf.os, h.rf.tape, h.rf.output, h.rf.size, h.rf.block, h.rf.log⟩, below_ofDrew h.bl⟩
end
/-- Block k is none of the reference memory's, nor its log's. -/
structure RFar (w : World) (rb rw rm k : Nat) : Prop where
  lt : k < w.heap.size
  hg : k ≠ rb
  hw : k ≠ rw
  hm : k ≠ rm
  hl : ∃ v, w.cell? ⟨rb, 2, none⟩ = some v ∧ v.ownBlock ≠ some k
theorem RF.far {w w' : World} {rb rw rm k : Nat} (h : RF w w' rb rw rm) (f : RFar w rb rw rm k) : RFar w' rb rw rm k ∧ w'.heap[k]? = w.heap[k]? := by
  refine ⟨⟨Nat.lt_of_lt_of_le f.lt h.size, f.hg, f.hw, f.hm, ?_⟩, h.block k f.lt f.hg f.hw f.hm f.hl⟩
  obtain ⟨v, hv, hn⟩ := f.hl
  obtain ⟨v', hv', ho⟩ := h.log v hv
  refine ⟨v', hv', fun e => ?_⟩
  rcases ho with ho | ⟨b, hb, hle⟩
  · exact hn (ho ▸ e)
  · rw [hb] at e
    injection e with e
    have := f.lt
    omega
theorem RefIs.far {W w' : World} {base rb rw rm k : Nat} {log : List Acc} {V : Int} {ws hs : List Int} (h : RefIs W base rb rw rm log V ws hs) (hb : Below W.heap.size W w') (h1 : W.heap.size ≤ k) (h2 : k < w'.heap.size) : RFar w' rb rw rm k := by
  obtain ⟨vl, cw, cm, h⟩ := h
  have e1 := h.lt
  have e2 := Kd.R_lt h.words rw rfl
  have e3 := Kd.R_lt h.hold rm rfl
  refine ⟨h2, by omega, by omega, by omega, vl, (hb.cell (p := ⟨rb, 2, none⟩) h.lt).trans h.cell.2.2.1, fun e => ?_⟩
  have := Kd.R_lt h.lo k e
  omega
/-- A reference memory beside an operation's block. -/
structure Mo (W w : World) (base rb rw rm b8 : Nat) (log : List Acc) (V : Int) (ws hs : List Int) (o : OpV) : Prop where
  l : RLeft W w base rb rw rm log V ws hs
  far : RFar w rb rw rm b8
  blk : w.heap[b8]? = some (.cells #[.int .i64 o.kd, .int .i64 o.th, .int .i64 o.ix, .int .i64 o.a, .int .i64 o.b] 29 (0, 0))
section
variable {W w w' : World} {base rb rw rm b8 : Nat} {log log2 : List Acc} {V V2 : Int} {ws hs ws2 hs2 : List Int} {o : OpV}
theorem Mo.left (h : Mo W w base rb rw rm b8 log V ws hs o) (l : RLeft w w' base rb rw rm log2 V2 ws2 hs2) : Mo W w' base rb rw rm b8 log2 V2 ws2 hs2 o :=
  ⟨⟨l.is, h.l.rf.trans l.rf, h.l.bl.trans l.bl⟩, (l.rf.far h.far).1, (l.rf.far h.far).2.trans h.blk⟩
theorem Mo.viol (h : Mo W w base rb rw rm b8 log V ws hs o) : Mo W (w.setCell ⟨rb, 3, none⟩ (.int .i64 (V + 1))) base rb rw rm b8 log (V + 1) ws hs o := by
  refine h.left ?_
  obtain ⟨vl, cw, cm, hB⟩ := h.l.is
  exact ⟨⟨_, _, _, hB.setViol (V + 1)⟩, RF.set (.inl ⟨rfl, by omega⟩) _, below_set_ hB.hg _⟩
theorem Mo.drewN (h : Mo W w base rb rw rm b8 log V ws hs o) (n : Nat) : Mo W (w.drewN n) base rb rw rm b8 log V ws hs o := h.left (h.l.is.left (pw_below_drewN (Below.refl _ _) n))
theorem Mo.drew (h : Mo W w base rb rw rm b8 log V ws hs o) : Mo W w.drew base rb rw rm b8 log V ws hs o := h.left (h.l.is.left (below_drew1 (Below.refl _ _)))
theorem Mo.new (h : RefIs W base rb rw rm log V ws hs) (kd th ix a b : Int) : Mo W (W.alloc (.cells #[.int .i64 kd, .int .i64 th, .int .i64 ix, .int .i64 a, .int .i64 b] 29)) base rb rw rm W.heap.size log V ws hs ⟨kd, th, ix, a, b⟩ :=
  ⟨h.left (below_alloc (Below.refl _ _) _), h.far (below_alloc (Below.refl _ _) _) (Nat.le_refl _) (by simp), push_get rfl⟩
theorem Mo.cells (h : Mo W w base rb rw rm b8 log V ws hs o) : w.cell? ⟨b8, 0, none⟩ = some (.int .i64 o.kd) ∧ w.cell? ⟨b8, 1, none⟩ = some (.int .i64 o.th) ∧ w.cell? ⟨b8, 2, none⟩ = some (.int .i64 o.ix) ∧ w.cell? ⟨b8, 3, none⟩ = some (.int .i64 o.a) ∧ w.cell? ⟨b8, 4, none⟩ = some (.int .i64 o.b) := by
  have e := h.blk
  refine ⟨?_, ?_, ?_, ?_, ?_⟩ <;> simp [World.cell?, e]
end
section
variable {W W' : World} {base rb rw rm cw cm : Nat} {vl : Value} {log : List Acc} {V : Int} {ws hs : List Int}

set_option maxHeartbeats 1000000 in
theorem held_calls (h : RefIs W base rb rw rm log V ws hs) (i : Int) (h0 : 0 ≤ i) (h1 : i < hs.length) (h4 : hs.length = 4) :
    Calls Try.prog 39 #[.pointer (some ⟨rb, 0, none⟩), .int .i64 i] W fun e w' => e = .returned (.bool (rd hs i != -1)) ∧ w' = W := by
  obtain ⟨vl, cw, cm, h⟩ := h
  obtain ⟨_, c1, _, _⟩ := h.cell
  obtain ⟨hx0, _⟩ := Kd.R_celln 0 h.hold i h0 h1
  have hx : W.cell? ⟨rm, i.toNat, none⟩ = some (.int .i64 (rd hs i)) := hx0
  obtain ⟨z, hz⟩ : ∃ z, rd hs i = z := ⟨_, rfl⟩
  rw [hz] at hx ⊢
  clear hx0 hz h
  go_enter Try.func39, Try.ntmps39
  go_wp2
  go_ret
  exact ⟨rfl, rfl⟩
set_option maxHeartbeats 1000000 in
theorem set_calls (h : RefIs W base rb rw rm log V ws hs) (i : Int) (held ok : Bool) (th : Int) (h0 : 0 ≤ i) (h1 : i < hs.length) (h4 : hs.length = 4) :
    Calls Try.prog 40 #[.pointer (some ⟨rb, 0, none⟩), .int .i64 i, .bool held, .bool ok, .int .i64 th] W fun e w' =>
      e = .returned (.tuple #[]) ∧ RLeft W w' base rb rw rm log V ws (if ok = true then hs.set i.toNat (if held = true then th else -1) else hs) := by
  have HI := Aside0.mk h
  obtain ⟨vl, cw, cm, h⟩ := h
  have HB := Aside0.mk h
  obtain ⟨_, c1, _, _⟩ := h.cell
  obtain ⟨hx, hf⟩ := Kd.R_celln 0 h.hold i h0 h1
  have hbm := Aside0.mk (Kd.R_base h.hold rm rfl)
  have hmn := Aside0.mk h.mne
  clear h
  cases ok
  · go_enter Try.func40, Try.ntmps40
    go_wp2
    refine bodyPost_ret (results_none rfl _ _ _) rfl ?_
    exact ⟨rfl, HI.out.left (Below.refl _ _)⟩
  · cases held
    · go_enter Try.func40, Try.ntmps40
      go_wp2
      go_end0
      exact ⟨rfl, ⟨_, _, _, (HB.out.setRow i.toNat (-1)).2⟩, RF.set (.inr (.inr ⟨rfl, hmn.out⟩)) _, below_set_ hbm.out _⟩
    · go_enter Try.func40, Try.ntmps40
      go_wp2
      go_end0
      exact ⟨rfl, ⟨_, _, _, (HB.out.setRow i.toNat th).2⟩, RF.set (.inr (.inr ⟨rfl, hmn.out⟩)) _, below_set_ hbm.out _⟩
end
end Go.Proofs.Ytfkoehokjpcogaa.Hand
