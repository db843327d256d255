/- ropeladderlaw24: the contracts of Sizes, Picks, Run, Finish, Same under the laws' names; no condition but what each states. -/
import Derived.Test.YtjheocofbfmopaaWkH
namespace Go.Proofs.Ytjheocofbfmopaa.Hand
open Go.RowKit Go.Proofs.YtjheocofbfmopaaW.PrintWords Go.Proofs.YtjheocofbfmopaaW.PrintLast Go.Proofs.YtjheocofbfmopaaW.PrintMore
set_option linter.unusedVariables false
set_option linter.unusedSimpArgs false

theorem C_take {α : Type} {d : Kd α} {w : World} {A : Option Addr} {n : Nat} {xs : List α} (h : d.C w A n xs) {m : Nat} (hm : m ≤ n) : d.C w A m (xs.take m) := by
  obtain ⟨h1, h2, h3⟩ := h
  refine ⟨by rw [List.length_take]; omega, by omega, fun h0 => ?_⟩
  obtain ⟨ad, e, hc⟩ := h3 (by omega)
  refine ⟨ad, e, fun j p hj => hc j p ?_⟩
  rw [List.getElem?_take] at hj
  split at hj
  · exact hj
  · cases hj
def OutM (W w' : World) (q : Nat) (pairs : List (Int × Int)) (u : Value) (e : Ending) : Prop := ∃ A k, e = .returned (.tuple #[.slice A q k, u]) ∧ q ≤ k ∧ Kd.C kP w' A q pairs ∧ Below W.heap.size W w'
theorem Out.m {W w' : World} {pairs : List (Int × Int)} {u : Value} {e : Ending} (h : Out W w' pairs u e) {q : Nat} (hq : pairs.length = q) : OutM W w' q pairs u e := by
  obtain ⟨v, he, hR, hb⟩ := h
  obtain ⟨A, c, rfl, hc, hC⟩ := Kd.R_reads hR
  rw [hq] at he hC hc
  exact ⟨A, c, he, hc, hC, hb⟩
/-- A law's sizes: n tasks, w workers. -/
structure Sz (t c n : Int) (w : Nat) : Prop where
  t0 : 0 ≤ t
  t1 : t ≤ 255
  c0 : 0 ≤ c
  c1 : c ≤ 255
  n : n = t % 10
  w : (w : Int) = c % 6 + 1
theorem Sz.bd {t c n : Int} {w : Nat} (h : Sz t c n w) : 0 ≤ n ∧ n ≤ 9 ∧ 1 ≤ w ∧ w ≤ 6 := by
  obtain ⟨h1, h2, h3, h4, h5, h6⟩ := h
  omega
theorem sizesM {t c n : Int} {w : Nat} (h : Sz t c n w) (W : World) : Calls Try.prog 8 #[.int .u8 t, .int .u8 c] W fun e w' => e = .returned (.tuple #[.int .i64 n, .int .i64 w]) ∧ w' = W := by
  have h2 := sizes_calls t c W h.t0 h.t1 h.c0 h.c1
  rw [← h.n, ← h.w] at h2
  exact h2
theorem picksM (A : Option Addr) (c m : Nat) (l : List Int) (w : Nat) (W : World) (h : IsBytes W A m l) (hw : 1 ≤ w) (hw1 : w ≤ 64) (hm : m ≤ 300) :
    Calls Try.prog 10 #[.slice A m c, .int .i64 w] W fun e w' => ∃ A2 c2, e = .returned (.slice A2 m c2) ∧ m ≤ c2 ∧ Kd.C (Kd.int .i64) w' A2 m (l.map (· % (w : Int))) ∧ Below W.heap.size W w' := by
  obtain rfl := h.len
  refine (picks_calls A c l w W h hw (by omega) (by omega)).mono ?_
  rintro e w' ⟨v, he, hR, hb⟩
  obtain ⟨A2, c2, rfl, hc, hC⟩ := Kd.R_reads hR
  rw [List.length_map] at he hc hC
  exact ⟨A2, c2, he, hc, hC, hb⟩
/-- The law's picks are workers. -/
structure Pk (l : List Int) (m w : Nat) : Prop where
  len : l.length = m
  rng : ∀ p ∈ l, 0 ≤ p ∧ p < w
theorem pk_map {W : World} {A : Option Addr} {m : Nat} {l : List Int} (h : IsBytes W A m l) {w : Nat} (hw : 1 ≤ w) : Pk (l.map (· % (w : Int))) m w := by
  refine ⟨by rw [List.length_map]; exact h.len, fun p hp => ?_⟩
  obtain ⟨x, _, rfl⟩ := List.mem_map.1 hp
  exact ⟨Int.emod_nonneg _ (by omega), Int.emod_lt_of_pos _ (by omega)⟩
theorem Pk.take {l : List Int} {m w : Nat} (h : Pk l m w) {k : Nat} (hk : k ≤ m) : Pk (l.take k) k w := ⟨by rw [List.length_take, h.len]; omega, fun p hp => h.rng p (List.mem_of_mem_take hp)⟩
theorem runM {t c n : Int} {w : Nat} (hs : Sz t c n w) {l : List Int} {m : Nat} (hp : Pk l m w) (hm : m ≤ 20000) (A : Option Addr) (k : Nat) (w0 W : World) (hC : Kd.C (Kd.int .i64) w0 A m l) (hb : Below w0.heap.size w0 W) {ps : List (Int × Int)} {q : Nat} {u : Bool} (e1 : ((ph0 n w).run l).pairs = ps) (e2 : ps.length = q) (e3 : decide (((ph0 n w).run l).left = 0) = u) :
    Calls Try.prog 11 #[.int .i64 n, .int .i64 w, .slice A m k] W fun e w' => OutM W w' q ps (.bool u) e := by
  obtain ⟨b0, b1, b2, b3⟩ := hs.bd
  obtain ⟨rfl, hr⟩ := hp
  subst e1 e3
  exact (run_calls n w l A k W b0 (by omega) b2 (by omega) (by omega) hr (Kd.C_below hC hb)).mono fun _ _ h => h.m e2
theorem finM {t c n : Int} {w : Nat} (hs : Sz t c n w) {l : List Int} {m : Nat} (hp : Pk l m w) (hm : m ≤ 20000) (A : Option Addr) (k : Nat) (w0 W : World) (hC : Kd.C (Kd.int .i64) w0 A m l) (hb : Below w0.heap.size w0 W) {ps : List (Int × Int)} {q N : Nat} (e1 : ((ph0 n w).steps (pickAt l w) N).pairs = ps) (e2 : ps.length = q) (hN : N ≤ 80000) (hz : ((ph0 n w).steps (pickAt l w) N).left = 0) (hlt : ∀ j, j < N → 0 < ((ph0 n w).steps (pickAt l w) j).left) :
    Calls Try.prog 9 #[.int .i64 n, .int .i64 w, .slice A m k] W fun e w' => OutM W w' q ps (.int .i64 N) e := by
  obtain ⟨b0, b1, b2, b3⟩ := hs.bd
  obtain ⟨rfl, hr⟩ := hp
  subst e1
  exact (finish_calls n w l A k W b0 (by omega) b2 (by omega) (by omega) hr (Kd.C_below hC hb) N hN hz hlt).mono fun _ _ h => h.m e2
theorem sameM (A0 A1 : Option Addr) (c0 c1 q : Nat) (l : List (Int × Int)) (w0 w1 W : World) (hl : l.length = q) (hq : q ≤ 1000000) (h0 : Kd.C kP w0 A0 q l) (hb0 : Below w0.heap.size w0 W) (h1 : Kd.C kP w1 A1 q l) (hb1 : Below w1.heap.size w1 W) :
    Calls Try.prog 12 #[.slice A0 q c0, .slice A1 q c1] W fun e w' => e = .returned (.bool true) ∧ Below W.heap.size W w' := by
  subst hl
  exact (same_calls A0 A1 c0 c1 l W hq (Kd.C_below h0 hb0) (Kd.C_below h1 hb1)).mono fun _ _ ⟨he, n, hw⟩ => ⟨he, by rw [hw]; exact pw_below_drewN (Below.refl _ _) _⟩
theorem C_len {α : Type} {d : Kd α} {w : World} {A : Option Addr} {n : Nat} {xs : List α} (h : d.C w A n xs) : xs.length = n := h.1
end Go.Proofs.Ytjheocofbfmopaa.Hand
