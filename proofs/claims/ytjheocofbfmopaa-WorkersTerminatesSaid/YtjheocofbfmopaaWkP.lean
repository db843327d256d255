/- The worker pool's phase as plain functions: a pick, a run of picks, the finish; what every run keeps. -/
import Derived.Test.YtjheocofbfmopaaWkA
namespace Go.Proofs.Ytjheocofbfmopaa.Hand
set_option linter.unusedVariables false

def Ph.pick (x : Ph) (k : Nat) : Ph :=
  match x.st.getD k .done with
  | .claim => if x.c + 1 ≤ x.n then { x with c := x.c + 1, st := x.st.set k (.work x.c), picks := x.picks + 1 } else { x with c := x.c + 1, st := x.st.set k .arrive, picks := x.picks + 1 }
  | .work t => { x with pairs := x.pairs ++ [(t, (k : Int))], st := x.st.set k .claim, picks := x.picks + 1 }
  | .arrive => { x with a := x.a + 1, st := x.st.set k .wait, picks := x.picks + 1 }
  | .wait => if x.a = x.st.length then { x with left := x.left - 1, st := x.st.set k .done, picks := x.picks + 1 } else { x with picks := x.picks + 1 }
  | .done => { x with picks := x.picks + 1 }
def ph0 (n : Int) (w : Nat) : Ph := ⟨n, 0, 0, List.replicate w .claim, [], w, 0⟩
def Ph.run (x : Ph) (l : List Int) : Ph := l.foldl (fun x p => x.pick p.toNat) x

/-- How many of the steps are of a kind. -/
def Stp.isWork : Stp → Bool | .work _ => true | _ => false
def Stp.isDone : Stp → Bool | .done => true | _ => false
def Stp.past : Stp → Bool | .wait => true | .done => true | _ => false
def Stp.late : Stp → Bool | .arrive => true | .wait => true | .done => true | _ => false
/-- What every phase of a run from the start keeps (the numbers). -/
structure Ph.Inv (x : Ph) (w : Nat) : Prop where
  len : x.st.length = w
  n0 : 0 ≤ x.n
  c0 : 0 ≤ x.c
  p0 : 0 ≤ x.picks
  cp : x.c ≤ x.picks
  a : x.a = x.st.countP Stp.past
  left : x.left + x.st.countP Stp.isDone = w
  held : (x.pairs.length : Int) + x.st.countP Stp.isWork = min x.c x.n
  two : 2 * (x.pairs.length : Int) + x.st.countP Stp.isWork ≤ x.picks
  late : 0 < x.st.countP Stp.late → x.n < x.c
  full : 0 < x.st.countP Stp.isDone → x.a = w
theorem countP_set {α : Type} (f : α → Bool) (l : List α) (k : Nat) (h : k < l.length) (u : α) : (l.set k u).countP f + (f l[k]).toNat = l.countP f + (f u).toNat := by
  induction l generalizing k with
  | nil => simp at h
  | cons y ys ih =>
    cases k with
    | zero => 
      simp only [List.set_cons_zero, List.countP_cons, List.getElem_cons_zero]
      cases f y <;> cases f u <;> simp <;> omega
    | succ k =>
      have := ih k (by simpa using h)
      simp only [List.set_cons_succ, List.countP_cons, List.getElem_cons_succ]
      omega
theorem inv0 (n : Int) (w : Nat) (h : 0 ≤ n) : (ph0 n w).Inv w := by
  have e : ∀ f : Stp → Bool, f .claim = false → (List.replicate w Stp.claim).countP f = 0 := fun f hf => by
    rw [List.countP_eq_zero]
    intro a ha
    rw [List.eq_of_mem_replicate ha, hf]
    simp
  have e1 := e Stp.past rfl
  have e2 := e Stp.isDone rfl
  have e3 := e Stp.isWork rfl
  have e4 := e Stp.late rfl
  refine ⟨by simp [ph0], h, by simp [ph0], by simp [ph0], by simp [ph0], ?_, ?_, ?_, ?_, ?_, ?_⟩ <;> simp only [ph0, List.length_nil] <;> omega
theorem getD_of {x : Ph} {k : Nat} (h : k < x.st.length) : x.st.getD k .done = x.st[k] := by simp [List.getD_eq_getElem?_getD, List.getElem?_eq_getElem h]
theorem pick_inv {x : Ph} {w : Nat} (h : x.Inv w) (k : Nat) (hk : k < w) : (x.pick k).Inv w := by
  obtain ⟨h1, h2, h3, h4, h5, h6, h7, h8, h9, h10, h11⟩ := h
  have hk' : k < x.st.length := by omega
  have q := fun f u => countP_set f x.st k hk' u
  unfold Ph.pick
  rw [getD_of hk']
  cases e : x.st[k] with
  | claim =>
    simp only
    split
    · have q1 := q Stp.past (.work x.c); have q2 := q Stp.isDone (.work x.c); have q3 := q Stp.isWork (.work x.c); have q4 := q Stp.late (.work x.c)
      rw [e] at q1 q2 q3 q4
      simp only [Stp.past, Stp.isDone, Stp.isWork, Stp.late, Bool.toNat_true, Bool.toNat_false] at q1 q2 q3 q4
      refine ⟨by simpa using h1, h2, by simp only; omega, by simp only; omega, by simp only; omega, by simp only; omega, by simp only; omega, by simp only; omega, by simp only; omega, by simp only; omega, by simp only; omega⟩
    · have q1 := q Stp.past .arrive; have q2 := q Stp.isDone .arrive; have q3 := q Stp.isWork .arrive; have q4 := q Stp.late .arrive
      rw [e] at q1 q2 q3 q4
      simp only [Stp.past, Stp.isDone, Stp.isWork, Stp.late, Bool.toNat_true, Bool.toNat_false] at q1 q2 q3 q4
      refine ⟨by simpa using h1, h2, by simp only; omega, by simp only; omega, by simp only; omega, by simp only; omega, by simp only; omega, by simp only; omega, by simp only; omega, by simp only; omega, by simp only; omega⟩
  | work t =>
    simp only
    have q1 := q Stp.past .claim; have q2 := q Stp.isDone .claim; have q3 := q Stp.isWork .claim; have q4 := q Stp.late .claim
    rw [e] at q1 q2 q3 q4
    simp only [Stp.past, Stp.isDone, Stp.isWork, Stp.late, Bool.toNat_true, Bool.toNat_false] at q1 q2 q3 q4
    refine ⟨by simpa using h1, h2, h3, by simp only; omega, by simp only; omega, by simp only; omega, by simp only; omega, by simp only [List.length_append, List.length_cons, List.length_nil]; omega, by simp only [List.length_append, List.length_cons, List.length_nil]; omega, by simp only; omega, by simp only; omega⟩
  | arrive =>
    simp only
    have q1 := q Stp.past .wait; have q2 := q Stp.isDone .wait; have q3 := q Stp.isWork .wait; have q4 := q Stp.late .wait
    rw [e] at q1 q2 q3 q4
    simp only [Stp.past, Stp.isDone, Stp.isWork, Stp.late, Bool.toNat_true, Bool.toNat_false] at q1 q2 q3 q4
    have hle := List.countP_le_length (p := Stp.past) (l := x.st.set k .wait)
    rw [List.length_set] at hle
    refine ⟨by simpa using h1, h2, h3, by simp only; omega, by simp only; omega, by simp only; omega, by simp only; omega, by simp only; omega, by simp only; omega, by simp only; omega, fun hd => ?_⟩
    simp only at hd ⊢
    have := h11 (by omega)
    omega
  | wait =>
    simp only
    split
    · rename_i ha
      have q1 := q Stp.past .done; have q2 := q Stp.isDone .done; have q3 := q Stp.isWork .done; have q4 := q Stp.late .done
      rw [e] at q1 q2 q3 q4
      simp only [Stp.past, Stp.isDone, Stp.isWork, Stp.late, Bool.toNat_true, Bool.toNat_false] at q1 q2 q3 q4
      refine ⟨by simpa using h1, h2, h3, by simp only; omega, by simp only; omega, by simp only; omega, by simp only; omega, by simp only; omega, by simp only; omega, by simp only; omega, fun _ => by simp only; omega⟩
    · exact ⟨h1, h2, h3, by simp only; omega, by simp only; omega, h6, h7, h8, by simp only; omega, h10, h11⟩
  | done =>
    exact ⟨h1, h2, h3, by simp only; omega, by simp only; omega, h6, h7, h8, by simp only; omega, h10, h11⟩
theorem pick_st {x : Ph} (k : Nat) : (x.pick k).st.length = x.st.length ∧ (x.pick k).picks = x.picks + 1 ∧ (x.pick k).n = x.n := by
  unfold Ph.pick
  (repeat' split) <;> simp
end Go.Proofs.Ytjheocofbfmopaa.Hand
