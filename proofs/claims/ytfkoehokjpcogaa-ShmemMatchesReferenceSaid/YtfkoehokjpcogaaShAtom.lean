/- What one operation does to the words; an operation's block and an array beside a memory; no condition but what each states. -/
import Derived.Test.YtfkoehokjpcogaaShRep
namespace Go.Proofs.Ytfkoehokjpcogaa.Hand
open Go.ChangeShapes Go.WideShapes Go.Deep
open Go.RowKit Go.Proofs.YtfkoehokjpcogaaW.PrintWords Go.Proofs.YtfkoehokjpcogaaW.PrintLast Go.Proofs.YtfkoehokjpcogaaW.PrintMore
set_option linter.unusedVariables false

theorem word_of {s : St} {j : Int} (h : inL s.ws j) : s.word j = rd s.ws j := by unfold St.word; rw [if_pos h]
theorem word_ws {s s' : St} (h : s'.ws = s.ws) (j : Int) : s'.word j = s.word j := by unfold St.word; rw [h]
theorem word_set {s s' : St} {i u : Int} (hi : inL s.ws i) (h : s'.ws = s.ws.set i.toNat u) {j : Int} (hj : inL s.ws j) : s'.word j = if j = i then u else s.word j := by
  have hj2 : inL s'.ws j := by rw [inL, h, List.length_set]; exact hj
  rw [word_of hj2, word_of hj, h]
  obtain ⟨i0, i1⟩ := hi
  obtain ⟨j0, j1⟩ := hj
  simp only [rd, List.getD_eq_getElem?_getD, List.getElem?_set]
  by_cases e : j = i
  · subst e
    rw [if_pos rfl, if_pos rfl, if_pos (by omega)]
    rfl
  · rw [if_neg (by omega), if_neg e]
structure Wx (s s' : St) (kd ix a b n : Int) (ok : Bool) : Prop where
  off : ∀ j : Int, 0 ≤ j ∧ j < 4 → j ≠ ix → s'.word j = s.word j
  add : (0 ≤ ix ∧ ix < 4) → kd = 2 → n = wrap64 (s.word ix + a) ∧ s'.word ix = wrap64 (s.word ix + a)
  store : (0 ≤ ix ∧ ix < 4) → kd = 4 → s'.word ix = a
  cas : (0 ≤ ix ∧ ix < 4) → kd = 3 → (s.word ix == a) = ok ∧ s'.word ix = if ok = true then b else s.word ix
  load : (0 ≤ ix ∧ ix < 4) → kd = 1 → n = s.word ix ∧ s'.word ix = s.word ix
  other : 5 ≤ kd → ∀ j : Int, s'.word j = s.word j
theorem run1_wx {s s' : St} {k : Nat} (h : s.In k) {kd th ix a b n : Int} {ok : Bool} (h1 : 1 ≤ kd) (h7 : kd ≤ 7) (e : s.run1 ⟨kd, th, ix, a, b⟩ = (s', n, ok)) : Wx s s' kd ix a b n ok := by
  obtain ⟨hw, hm, _, _, _⟩ := h
  have iw : ∀ j, inL s.ws j ↔ 0 ≤ j ∧ j < 4 := fun j => by rw [inL, hw]; exact Iff.rfl
  have im : inL s.ms ix ↔ 0 ≤ ix ∧ ix < 4 := by rw [inL, hm]; exact Iff.rfl
  by_cases hi : 0 ≤ ix ∧ ix < 4
  · have jw := (iw ix).2 hi
    have upd : ∀ (kd u : Int) (ok : Bool) (j : Int), 0 ≤ j ∧ j < 4 → (s.upd th kd ix u ok).word j = if j = ix then u else s.word j := fun kd u ok j hj => word_set jw rfl ((iw j).2 hj)
    obtain rfl | rfl | rfl | rfl | h5 : kd = 1 ∨ kd = 2 ∨ kd = 3 ∨ kd = 4 ∨ 5 ≤ kd := by omega
    · simp [St.run1] at e
      obtain ⟨rfl, rfl, rfl⟩ := e
      unfold St.load; rw [if_pos jw]
      exact ⟨fun j hj hn => by rw [upd _ _ _ j hj, if_neg hn], fun _ q => by omega, fun _ q => by omega, fun _ q => by omega, fun _ _ => ⟨(word_of jw).symm, by rw [upd _ _ _ ix hi, if_pos rfl, word_of jw]⟩, fun q => by omega⟩
    · simp [St.run1] at e
      obtain ⟨rfl, rfl, rfl⟩ := e
      unfold St.add; rw [if_pos jw]
      exact ⟨fun j hj hn => by rw [upd _ _ _ j hj, if_neg hn], fun _ _ => ⟨by rw [word_of jw], by rw [upd _ _ _ ix hi, if_pos rfl, word_of jw]⟩, fun _ q => by omega, fun _ q => by omega, fun _ q => by omega, fun q => by omega⟩
    · simp [St.run1] at e
      obtain ⟨rfl, rfl, rfl⟩ := e
      unfold St.cas; rw [if_pos jw]
      by_cases hv : rd s.ws ix = a
      · rw [if_pos hv]
        exact ⟨fun j hj hn => by rw [upd _ _ _ j hj, if_neg hn], fun _ q => by omega, fun _ q => by omega, fun _ _ => ⟨by rw [word_of jw]; exact beq_iff_eq.2 hv, by rw [upd _ _ _ ix hi, if_pos rfl]; rfl⟩, fun _ q => by omega, fun q => by omega⟩
      · rw [if_neg hv]
        exact ⟨fun j hj hn => by rw [upd _ _ _ j hj, if_neg hn], fun _ q => by omega, fun _ q => by omega, fun _ _ => ⟨by rw [word_of jw]; exact beq_eq_false_iff_ne.2 hv, by rw [upd _ _ _ ix hi, if_pos rfl, word_of jw]; simp⟩, fun _ q => by omega, fun q => by omega⟩
    · simp [St.run1] at e
      obtain ⟨rfl, rfl, rfl⟩ := e
      unfold St.store; rw [if_pos jw]
      exact ⟨fun j hj hn => by rw [upd _ _ _ j hj, if_neg hn], fun _ q => by omega, fun _ _ => by rw [upd _ _ _ ix hi, if_pos rfl], fun _ q => by omega, fun _ q => by omega, fun q => by omega⟩
    · have ew : s'.ws = s.ws := by
        obtain rfl | rfl | rfl : kd = 5 ∨ kd = 6 ∨ kd = 7 := by omega
        all_goals simp [St.run1] at e
        all_goals obtain ⟨rfl, rfl, rfl⟩ := e
        · unfold St.tryLock; (repeat' split) <;> rfl
        · unfold St.unlock; (repeat' split) <;> rfl
        · unfold St.touch; split <;> rfl
      exact ⟨fun j _ _ => word_ws ew j, fun _ q => by omega, fun _ q => by omega, fun _ q => by omega, fun _ q => by omega, fun _ j => word_ws ew j⟩
  · have jw : ¬ inL s.ws ix := fun q => hi ((iw ix).1 q)
    have jm : ¬ inL s.ms ix := fun q => hi (im.1 q)
    have ew : s'.ws = s.ws := by
      obtain rfl | rfl | rfl | rfl | rfl | rfl | rfl : kd = 1 ∨ kd = 2 ∨ kd = 3 ∨ kd = 4 ∨ kd = 5 ∨ kd = 6 ∨ kd = 7 := by omega
      all_goals simp [St.run1] at e
      all_goals obtain ⟨rfl, rfl, rfl⟩ := e
      · unfold St.load; rw [if_neg jw]
      · unfold St.add; rw [if_neg jw]
      · unfold St.cas; rw [if_neg jw]
      · unfold St.store; rw [if_neg jw]
      · unfold St.tryLock; rw [if_neg jm]
      · unfold St.unlock; rw [if_neg jm]
      · unfold St.touch; rw [if_neg (fun q => jm q.1)]
    exact ⟨fun j _ _ => word_ws ew j, fun q => absurd q hi, fun q => absurd q hi, fun q => absurd q hi, fun q => absurd q hi, fun _ j => word_ws ew j⟩

/-- An operation's block, an array behind it, beside a memory. -/
structure Bo (base : Nat) (W w : World) (g gw gm b8 : Nat) (s : St) (o : OpV) (f : Nat → Int) : Prop where
  is : Is w base g gw gm s
  bl : Below base W w
  far : Far w g gw gm b8
  blk : w.heap[b8]? = some (.cells #[.int .i64 o.kd, .int .i64 o.th, .int .i64 o.ix, .int .i64 o.a, .int .i64 o.b] 29 (0, 0))
  ar : Arr w g gw gm (b8 + 1) f
  hb : base ≤ b8
section
variable {W w w' : World} {base g gw gm b8 : Nat} {s s' : St} {o : OpV} {f : Nat → Int}
theorem Bo.below (h : Bo base W w g gw gm b8 s o f) (hb : Below w.heap.size w w') : Bo base W w' g gw gm b8 s o f := by
  have m := MF.below (gw := gw) (gm := gm) h.is.lt hb
  exact ⟨(h.is.left hb).is, h.bl.trans (hb.mono h.is.bs), (m.far h.far).1, (m.far h.far).2.trans h.blk, h.ar.move m, h.hb⟩
theorem Bo.left (h : Bo base W w g gw gm b8 s o f) (l : Left w w' base g gw gm s') : Bo base W w' g gw gm b8 s' o f :=
  ⟨l.is, h.bl.trans l.bl, (l.mf.far h.far).1, (l.mf.far h.far).2.trans h.blk, h.ar.move l.mf, h.hb⟩
theorem Bo.put (h : Bo base W w g gw gm b8 s o f) {i : Nat} (hi : i < 4) (u : Int) : Bo base W (w.setCell ⟨b8 + 1, i, none⟩ (.int .i64 u)) g gw gm b8 s o (fun j => if j = i then u else f j) := by
  refine ⟨h.is.beside h.ar _ _, h.bl.trans (below_set_ (by have := h.hb; omega) _), ⟨by simpa [World.setCell] using h.far.lt, h.far.hg, h.far.hw, h.far.hm, ?_⟩, (Below.heap_setCell w ⟨b8 + 1, i, none⟩ _ b8 (by simp)).trans h.blk, h.ar.put hi u, h.hb⟩
  obtain ⟨v, hv, hn⟩ := h.far.hl
  refine ⟨v, ?_, hn⟩
  rw [World.cell?_setCell_other _ _ _ _ (fun e => h.ar.far.hg (by cases e; rfl))]
  exact hv
theorem Bo.cells (h : Bo base W w g gw gm b8 s o f) : w.cell? ⟨b8, 0, none⟩ = some (.int .i64 o.kd) ∧ w.cell? ⟨b8, 1, none⟩ = some (.int .i64 o.th) ∧ w.cell? ⟨b8, 2, none⟩ = some (.int .i64 o.ix) ∧ w.cell? ⟨b8, 3, none⟩ = some (.int .i64 o.a) ∧ w.cell? ⟨b8, 4, none⟩ = some (.int .i64 o.b) := by
  have e := h.blk
  refine ⟨?_, ?_, ?_, ?_, ?_⟩ <;> simp [World.cell?, e]
theorem Bo.new (h : Is w base g gw gm s) (hb : Below base W w) {w3 : World} (h3 : Below w.heap.size w w3) (kd th ix a b : Int) :
    Bo base W ((w3.alloc (.cells #[.int .i64 kd, .int .i64 th, .int .i64 ix, .int .i64 a, .int .i64 b] 29)).alloc (.cells #[.int .i64 0, .int .i64 0, .int .i64 0, .int .i64 0] T4)) g gw gm w3.heap.size s ⟨kd, th, ix, a, b⟩ (fun _ => 0) := by
  have e1 : (w3.alloc (.cells #[.int .i64 kd, .int .i64 th, .int .i64 ix, .int .i64 a, .int .i64 b] 29)).heap.size = w3.heap.size + 1 := by simp
  have k1 := (h.left (below_alloc h3 (.cells #[.int .i64 kd, .int .i64 th, .int .i64 ix, .int .i64 a, .int .i64 b] 29))).is
  have f1 := h.far (below_alloc h3 (.cells #[.int .i64 kd, .int .i64 th, .int .i64 ix, .int .i64 a, .int .i64 b] 29)) h3.size (by simp)
  have m := MF.below (gw := gw) (gm := gm) k1.lt (below_alloc (Below.refl _ _) (.cells (arr4 fun _ => 0) T4))
  have a2 := Arr.new k1 (Below.refl _ _) (fun _ => 0)
  rw [e1] at a2
  refine ⟨(k1.left (below_alloc (Below.refl _ _) _)).is, hb.trans ((below_alloc (below_alloc h3 _) _).mono h.bs), (m.far f1).1, (m.far f1).2.trans (push_get rfl), a2, Nat.le_trans h.bs h3.size⟩
theorem word_callsV (h : Is w base g gw gm s) (hf : s.fit) (i : Int) {v : Int} (e : s.word i = v) :
    Calls Try.prog 15 #[.pointer (some ⟨g, 0, none⟩), .int .i64 i] w fun e w' => e = .returned (.int .i64 v) ∧ w' = w := by
  subst e
  exact word_calls h hf i
end
section
variable {H : Type} {enc : TypeId × Value → H} {W : World} {base b0 : Nat} {spare : Nat → Bool} {held : Bool} {r : Reach}
theorem open_rawV {v : Value} {d : DataW H} {p : List MemPlace} (hv : Value.okWide Try.prog W r b0 32 v) (h : DataW.Trod enc Try.prog W base spare held 32 v d p) :
    ∃ y : Raw, y.ok ∧ v = .agg #[.int .u8 y.k, .int .u8 y.t, .int .u8 y.x, .int .i64 y.a, .int .i64 y.b] := by
  obtain ⟨cs, rfl, hsz⟩ := okWide_struct Try.underlying32 hv
  obtain ⟨fuel, hf⟩ := h
  have q : Try.prog.cellsOf 32 = 5 := by kernel_rfl
  obtain ⟨y, hy, e⟩ := open_raw (cs := cs.toList) (by simpa using hsz.trans q) hf
  refine ⟨y, hy, ?_⟩
  have : cs = y.cells.toArray := by rw [← e]
  rw [this]
  rfl
end
end Go.Proofs.Ytfkoehokjpcogaa.Hand
