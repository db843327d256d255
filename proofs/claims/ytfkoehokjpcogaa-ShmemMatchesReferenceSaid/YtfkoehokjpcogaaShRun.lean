/- Runs of operations on a memory of four words and four mutexes; the calls of a law's round under short names; no condition but what each states. -/
import Derived.Test.YtfkoehokjpcogaaShSizes
import Derived.Test.YtfkoehokjpcogaaShOpen
namespace Go.Proofs.Ytfkoehokjpcogaa.Hand
open Go.RowKit Go.Proofs.YtfkoehokjpcogaaW.PrintWords Go.Proofs.YtfkoehokjpcogaaW.PrintLast Go.Proofs.YtfkoehokjpcogaaW.PrintMore
set_option linter.unusedVariables false

def St.runs (s : St) (l : List Raw) : St := l.foldl (fun s r => (s.run1 (opOf r)).1) s
theorem runs_succ (s : St) (l : List Raw) (k : Nat) (h : k < l.length) : s.runs (l.take (k + 1)) = ((s.runs (l.take k)).run1 (opOf l[k])).1 := by
  unfold St.runs
  rw [List.take_succ_eq_append_getElem h, List.foldl_append]
  rfl
/-- Four words, four mutexes; at most k entries and violations. -/
structure St.In (s : St) (k : Nat) : Prop where
  w : s.ws.length = 4
  m : s.ms.length = 4
  l : s.log.length ≤ k
  v0 : 0 ≤ s.V
  v1 : s.V ≤ k
theorem St.In.fit {s : St} {k : Nat} (h : s.In k) (hk : k ≤ 1000000) : s.fit := ⟨by rw [h.w]; omega, by rw [h.m]; omega, by have := h.l; omega, h.v0, by have := h.v1; omega⟩
theorem in_44 : (sz 4 4).In 0 := ⟨by simp [sz], by simp [sz], by simp [sz], by simp [sz], by simp [sz]⟩
theorem run1_in {s : St} {k : Nat} (h : s.In k) (o : OpV) : (s.run1 o).1.In (k + 1) := by
  obtain ⟨h1, h2, h3, h4, h5⟩ := h
  unfold St.run1 St.load St.add St.cas St.store St.tryLock St.unlock St.touch St.upd
  (repeat' split) <;> refine ⟨?_, ?_, ?_, ?_, ?_⟩ <;> simp [h1, h2] <;> omega
theorem runs_in (l : List Raw) : ∀ k, k ≤ l.length → ((sz 4 4).runs (l.take k)).In k
  | 0, _ => by simpa [St.runs] using in_44
  | k + 1, h => by
    rw [runs_succ _ _ _ h]
    exact run1_in (runs_in l k (by omega)) _
theorem opOf_range {r : Raw} (h : r.ok) {o : OpV} (e : opOf r = o) : 1 ≤ o.kd ∧ o.kd ≤ 7 ∧ 0 ≤ o.th ∧ o.th ≤ 3 ∧ -1 ≤ o.ix ∧ o.ix ≤ 4 := by
  subst e
  have h1 := h.k0; have h2 := h.t0; have h3 := h.x0
  simp only [opOf]
  omega
theorem op_calls' (r : Raw) (o : OpV) (W : World) (hr : r.ok) (e : opOf r = o) :
    Calls Try.prog 12 #[.agg #[.int .u8 r.k, .int .u8 r.t, .int .u8 r.x, .int .i64 r.a, .int .i64 r.b]] W fun e w' =>
      e = .returned (.agg #[.int .i64 o.kd, .int .i64 o.th, .int .i64 o.ix, .int .i64 o.a, .int .i64 o.b]) ∧ Below W.heap.size W w' := by
  subst e
  exact op_calls r W hr
section
variable {W : World} {base g gw gm : Nat} {s : St}
theorem do_calls' (h : Is W base g gw gm s) (hf : s.fit) (kd th ix a b : Int) {s' : St} {n : Int} {ok : Bool} (e : s.run1 ⟨kd, th, ix, a, b⟩ = (s', n, ok)) :
    Calls Try.prog 13 #[.pointer (some ⟨g, 0, none⟩), .agg #[.int .i64 kd, .int .i64 th, .int .i64 ix, .int .i64 a, .int .i64 b]] W fun e w' =>
      e = .returned (.tuple #[.int .i64 n, .bool ok]) ∧ Left W w' base g gw gm s' := by
  have h2 := do_calls h hf kd th ix a b
  rw [e] at h2
  exact h2
theorem viol_calls' (h : Is W base g gw gm s) (hf : s.fit) {v : Int} (e : s.V = v) :
    Calls Try.prog 19 #[.pointer (some ⟨g, 0, none⟩)] W fun e w' => e = .returned (.int .i64 v) ∧ w' = W := by
  subst e
  exact violations_calls h hf
theorem len_calls (h : Is W base g gw gm s) (hf : s.fit) {n : Nat} (hn : s.log.length = n) :
    Calls Try.prog 18 #[.pointer (some ⟨g, 0, none⟩)] W fun e w' => ∃ A c, e = .returned (.slice A n c) ∧ Below W.heap.size W w' := by
  refine (log_calls h hf).mono ?_
  rintro e w' ⟨v, rfl, hv, hb⟩
  obtain ⟨A, c, rfl⟩ := Kd.R_slice hv
  rw [hn]
  exact ⟨A, c, rfl, hb⟩
theorem new44 (W : World) : Calls Try.prog 10 #[.int .i64 4, .int .i64 4] W fun e w' => ∃ g gw gm, e = .returned (.pointer (some ⟨g, 0, none⟩)) ∧ Is w' W.heap.size g gw gm (sz 4 4) ∧ Below W.heap.size W w' := new_calls 4 4 W (by decide) (by decide)
/-- The cells of a new block behind an operation on the memory. -/
theorem Left.newCells {w1 w2 : World} {s' : St} {cs : Array Value} {t : Nat} (h : Is W base g gw gm s) (hb : Below W.heap.size W w1) (hl : Left (w1.alloc (.cells cs t)) w2 base g gw gm s') : ∀ j v, cs[j]? = some v → w2.cell? ⟨w1.heap.size, j, none⟩ = some v := by
  intro j v hj
  have f : Far (w1.alloc (.cells cs t)) g gw gm w1.heap.size := h.far (below_alloc hb _) hb.size (by simp)
  have e := (hl.mf.far f).2
  simp only [World.cell?]
  rw [e]
  have e2 : (w1.alloc (.cells cs t)).heap[w1.heap.size]? = some (.cells cs t (0, 0)) := push_get rfl
  rw [e2]
  simpa using hj
end
/-- What one operation does to the counts. -/
theorem run1_counts {s s' : St} {k : Nat} (h : s.In k) {kd th ix a b n : Int} {ok : Bool} (h1 : 1 ≤ kd) (h7 : kd ≤ 7) (e : s.run1 ⟨kd, th, ix, a, b⟩ = (s', n, ok)) :
    s'.V = s.V + (if ok = false ∧ (kd = 7 ∨ kd = 6 ∧ 0 ≤ ix ∧ ix < 4) then 1 else 0) ∧ s'.log.length = s.log.length + (if (0 ≤ ix ∧ ix < 4) ∧ kd ≠ 7 then 1 else 0) := by
  obtain ⟨hw, hm, _, _, _⟩ := h
  have iw : inL s.ws ix ↔ 0 ≤ ix ∧ ix < 4 := by rw [inL, hw]; exact Iff.rfl
  have im : inL s.ms ix ↔ 0 ≤ ix ∧ ix < 4 := by rw [inL, hm]; exact Iff.rfl
  by_cases ht : 0 ≤ ix ∧ ix < 4
  · have jw := iw.2 ht
    have jm := im.2 ht
    obtain rfl | rfl | rfl | rfl | rfl | rfl | rfl : kd = 1 ∨ kd = 2 ∨ kd = 3 ∨ kd = 4 ∨ kd = 5 ∨ kd = 6 ∨ kd = 7 := by omega
    all_goals simp [St.run1] at e
    all_goals obtain ⟨rfl, rfl, rfl⟩ := e
    · unfold St.load; rw [if_pos jw]; simp [St.upd, ht]
    · unfold St.add; rw [if_pos jw]; simp [St.upd, ht]
    · unfold St.cas; rw [if_pos jw]; split <;> simp [St.upd, ht]
    · unfold St.store; rw [if_pos jw]; simp [St.upd, ht]
    · unfold St.tryLock; rw [if_pos jm]; split <;> simp [ht]
    · unfold St.unlock; rw [if_pos jm]; split <;> simp [ht]
    · unfold St.touch; split <;> simp
  · have jw : ¬ inL s.ws ix := fun q => ht (iw.1 q)
    have jm : ¬ inL s.ms ix := fun q => ht (im.1 q)
    obtain rfl | rfl | rfl | rfl | rfl | rfl | rfl : kd = 1 ∨ kd = 2 ∨ kd = 3 ∨ kd = 4 ∨ kd = 5 ∨ kd = 6 ∨ kd = 7 := by omega
    all_goals simp [St.run1] at e
    all_goals obtain ⟨rfl, rfl, rfl⟩ := e
    · unfold St.load; rw [if_neg jw]; simp [ht]
    · unfold St.add; rw [if_neg jw]; simp [ht]
    · unfold St.cas; rw [if_neg jw]; simp [ht]
    · unfold St.store; rw [if_neg jw]; simp [ht]
    · unfold St.tryLock; rw [if_neg jm]; simp [ht]
    · unfold St.unlock; rw [if_neg jm]; simp [ht]
    · unfold St.touch; split <;> simp
theorem run1_counts' {s s' : St} {k : Nat} (h : s.In k) {kd th ix a b n : Int} {ok : Bool} (h1 : 1 ≤ kd) (h7 : kd ≤ 7) (e : s.run1 ⟨kd, th, ix, a, b⟩ = (s', n, ok)) :
    (ok = true → s'.V = s.V) ∧ (ok = false → s'.V = s.V + (if kd = 7 ∨ kd = 6 ∧ 0 ≤ ix ∧ ix < 4 then 1 else 0)) ∧ s'.log.length = s.log.length + (if (0 ≤ ix ∧ ix < 4) ∧ kd ≠ 7 then 1 else 0) := by
  obtain ⟨e1, e2⟩ := run1_counts h h1 h7 e
  refine ⟨fun q => ?_, fun q => ?_, e2⟩
  · rw [e1, if_neg (fun z => by rw [q] at z; cases z.1)]; omega
  · rw [e1, q]; simp
theorem add_flat (x : Addr) {j : Nat} (hj : j ≠ 0) : x.add j = ⟨x.block, x.off + j, none⟩ := by simp [Addr.add, hj]
/-- A Raw's cells, as the walk spells them. -/
theorem raw_cells {w : World} {ad : Addr} {k : Nat} {r : Raw} (h : ∀ j u, r.cells[j]? = some u → w.cell? (ad.add (k * 5 + j)) = some u) :
    w.cell? (ad.add (k * 5)) = some (.int .u8 r.k) ∧ w.cell? ⟨(ad.add (k * 5)).block, (ad.add (k * 5)).off + 1, none⟩ = some (.int .u8 r.t) ∧ w.cell? ⟨(ad.add (k * 5)).block, (ad.add (k * 5)).off + 2, none⟩ = some (.int .u8 r.x) ∧
      w.cell? ⟨(ad.add (k * 5)).block, (ad.add (k * 5)).off + 3, none⟩ = some (.int .i64 r.a) ∧ w.cell? ⟨(ad.add (k * 5)).block, (ad.add (k * 5)).off + 4, none⟩ = some (.int .i64 r.b) := by
  have q : ∀ j u, j ≠ 0 → r.cells[j]? = some u → w.cell? ⟨(ad.add (k * 5)).block, (ad.add (k * 5)).off + j, none⟩ = some u := fun j u hj hu => by
    rw [← add_flat _ hj, Go.Deep.add_add]
    exact h j u hu
  exact ⟨h 0 _ rfl, q 1 _ (by decide) rfl, q 2 _ (by decide) rfl, q 3 _ (by decide) rfl, q 4 _ (by decide) rfl⟩
theorem cell_add {B j : Nat} {W w : World} {ad : Addr} (h : Below B W w) (hlt : ad.block < B) : w.cell? (ad.add j) = W.cell? (ad.add j) := h.cell (p := ad.add j) (by rw [add_block]; exact hlt)
end Go.Proofs.Ytfkoehokjpcogaa.Hand
