/- The argument []Raw: from its reading as data to its cells; no condition. -/
import Derived.Test.YtfkoehokjpcogaaMemF
import Derived.Deep.Slices
import Derived.Deep.Fields
import Derived.ChangeSame
import Derived.OpenShut
namespace Go.Proofs.Ytfkoehokjpcogaa.Hand
open Go.ChangeShapes Go.WideShapes Go.Deep
open Go.RowKit Go.Proofs.YtfkoehokjpcogaaW.PrintWords Go.Proofs.YtfkoehokjpcogaaW.PrintLast Go.Proofs.YtfkoehokjpcogaaW.PrintMore
set_option linter.unusedVariables false

def Raw.cells (r : Raw) : List Value := [.int .u8 r.k, .int .u8 r.t, .int .u8 r.x, .int .i64 r.a, .int .i64 r.b]
def Raw.zero : Raw := ⟨0, 0, 0, 0, 0⟩
structure IsRaws (w : World) (A : Option Addr) (n : Nat) (l : List Raw) : Prop where
  len : l.length = n
  max : n ≤ 9223372036854775807
  ok : ∀ i, (h : i < l.length) → l[i].ok
  cell : ∀ i, (h : i < l.length) → ∃ ad, A = some ad ∧ ad.block < w.heap.size ∧ ∀ j u, l[i].cells[j]? = some u → w.cell? (ad.add (i * 5 + j)) = some u
theorem list_of {α : Type} {n : Nat} {P : Nat → α → Prop} (z : α) (h : ∀ i, i < n → ∃ x, P i x) : ∃ l : List α, l.length = n ∧ ∀ i, (hi : i < l.length) → P i l[i] := by
  refine ⟨(List.range n).map (fun i => if hi : i < n then Classical.choose (h i hi) else z), by simp, fun i hi => ?_⟩
  have hn : i < n := by simpa using hi
  simp only [List.getElem_map, List.getElem_range, dif_pos hn]
  exact Classical.choose_spec (h i hn)
theorem byte_ok {n : Int} (h : (Lit.int .u8 n).wf = true) : 0 ≤ n ∧ n ≤ 255 := by
  have := bounds_u8 h
  omega
section
variable {H : Type} {enc : TypeId × Value → H} {W : World} {base : Nat} {spare : Nat → Bool} {held : Bool}
theorem open_raw {fuel : Nat} {cs : List Value} {x : DataW H × List MemPlace} (hl : cs.length = 5) (h : DataW.trod enc Try.prog W base spare held fuel 32 cs = some x) : ∃ r : Raw, r.ok ∧ cs = r.cells := by
  match cs, hl with
  | [c0, c1, c2, c3, c4], _ =>
    obtain ⟨ys, n, _, _, _, hlen, hg⟩ := DataW.trod_struct Try.underlying32 h
    match ys, hlen with
    | [y0, y1, y2, y3, y4], _ =>
      have q5 : Try.prog.cellsOf 5 = 1 := by kernel_rfl
      have q3 : Try.prog.cellsOf 3 = 1 := by kernel_rfl
      have g0 : DataW.trod enc Try.prog W base spare held n 5 (([c0, c1, c2, c3, c4].drop 0).take (Try.prog.cellsOf 5)) = some y0 := hg 0 _ rfl
      rw [q5] at g0
      have g1 : DataW.trod enc Try.prog W base spare held n 5 (([c0, c1, c2, c3, c4].drop 1).take (Try.prog.cellsOf 5)) = some y1 := hg 1 _ rfl
      rw [q5] at g1
      have g2 : DataW.trod enc Try.prog W base spare held n 5 (([c0, c1, c2, c3, c4].drop 2).take (Try.prog.cellsOf 5)) = some y2 := hg 2 _ rfl
      rw [q5] at g2
      have g3 : DataW.trod enc Try.prog W base spare held n 3 (([c0, c1, c2, c3, c4].drop 3).take (Try.prog.cellsOf 3)) = some y3 := hg 3 _ rfl
      rw [q3] at g3
      have g4 : DataW.trod enc Try.prog W base spare held n 3 (([c0, c1, c2, c3, c4].drop 4).take (Try.prog.cellsOf 3)) = some y4 := hg 4 _ rfl
      rw [q3] at g4
      obtain ⟨n0, e0, _, w0⟩ := DataW.trod_int Try.underlying5 g0
      have e0' := List.head_eq_of_cons_eq e0
      obtain ⟨n1, e1, _, w1⟩ := DataW.trod_int Try.underlying5 g1
      have e1' := List.head_eq_of_cons_eq e1
      obtain ⟨n2, e2, _, w2⟩ := DataW.trod_int Try.underlying5 g2
      have e2' := List.head_eq_of_cons_eq e2
      obtain ⟨n3, e3, _, w3⟩ := DataW.trod_int Try.underlying3 g3
      have e3' := List.head_eq_of_cons_eq e3
      obtain ⟨n4, e4, _, w4⟩ := DataW.trod_int Try.underlying3 g4
      have e4' := List.head_eq_of_cons_eq e4
      subst e0' e1' e2' e3' e4'
      exact ⟨⟨n0, n1, n2, n3, n4⟩, ⟨(byte_ok w0).1, (byte_ok w0).2, (byte_ok w1).1, (byte_ok w1).2, (byte_ok w2).1, (byte_ok w2).2⟩, rfl⟩
theorem open_raws {A : Option Addr} {len cap : Nat} {d : DataW H} {p : List MemPlace} (h : DataW.Trod enc Try.prog W base spare held 22 (.slice A len cap) d p) (hlt : ∀ x ∈ p, x.block < W.heap.size) : ∃ l, IsRaws W A len l := by
  obtain ⟨fuel, hf⟩ := h
  rcases open_slice Try.underlying22 hf with ⟨hcs, _⟩ | ⟨x, l, c, m, n, D, Pl, hcs, _, hl, hm, hmm, _, hi⟩
  · simp [Value.cells] at hcs
    obtain ⟨rfl, rfl, rfl⟩ := hcs
    exact ⟨[], rfl, by omega, fun i h => absurd h (by simp), fun i h => absurd h (by simp)⟩
  · simp [Value.cells] at hcs
    obtain ⟨rfl, rfl, rfl⟩ := hcs
    have hml : len ≤ m := by rw [hmm]; split <;> omega
    have qr : Try.prog.cellsOf 32 = 5 := by kernel_rfl
    obtain ⟨l, hll, hP⟩ := list_of (n := len) (P := fun i (r : Raw) => r.ok ∧ x.block < W.heap.size ∧ ∀ j u, r.cells[j]? = some u → W.cell? (x.add (i * 5 + j)) = some u) Raw.zero (fun i hil => by
      obtain ⟨cs', hc, ht⟩ := hi i (by omega)
      rw [qr] at hc
      obtain ⟨_, hcl, hat⟩ := World.cells?_some hc
      obtain ⟨r, hr, rfl⟩ := open_raw hcl ht
      have hcell : ∀ j u, r.cells[j]? = some u → W.cell? (x.add (i * 5 + j)) = some u := fun j u hu => by
        have hj : j < 5 := by
          have := (List.getElem?_eq_some_iff.1 hu).1
          simpa [Raw.cells] using this
        rw [← Go.Deep.add_add, hat j hj, hu]
      refine ⟨r, hr, ?_, hcell⟩
      have h0 := hcell 0 _ rfl
      by_cases hb : x.block < W.heap.size
      · exact hb
      · exfalso
        unfold World.cell? at h0
        rw [add_block, Array.getElem?_eq_none (Nat.le_of_not_lt hb)] at h0
        cases h0)
    exact ⟨l, hll, by simp [maxLen] at hm; omega, fun i h => (hP i h).1, fun i h => ⟨x, rfl, (hP i h).2.1, (hP i h).2.2⟩⟩
end
end Go.Proofs.Ytfkoehokjpcogaa.Hand
