/- Contracts of library functions that package sched calls: slices.Clone and slices.Max at []int; each under its stated bound on the length. -/
import Derived.Test.YtjheocofbfmopaaProg
import Derived.Below
import Derived.Deep.Draws
import Derived.Deep.AppendLies
import Derived.Maps.AppendAt
import Derived.OwnWalk
import Derived.Laws.BytesArg
import Derived.Laws.MakeOwn
import Derived.Laws.OwnMore
import Derived.Deep.OwnRows
import Derived.Tactics
import Derived.Lib.ConvBytes
import Derived.Laws.Slices
import Derived.WalkKit
import Derived.KernelRfl
import Derived.RowKit3
import Derived.Deep.LoopGhost
import Derived.Deep.QuietTactic
import Derived.BigQuiet
import Derived.WideLaws
import Derived.Deep.DeepCutAuto
import Derived.Deep.CutBlock
import Derived.Deep.RegionHeld3
import Derived.Laws.Rows
import Derived.Lib.AppendStr
import Derived.ArgAppend
import Derived.Laws.IdiomCopy
import Derived.OrdersHeld
import Derived.Laws.BitsLemmas
import Derived.RowKit
import Derived.Test.YtjheocofbfmopaaWWords
import Derived.Test.YtjheocofbfmopaaWLast
import Derived.Test.YtjheocofbfmopaaWTab
import Derived.Test.YtjheocofbfmopaaWFour
import Derived.Test.YtjheocofbfmopaaWQPut
import Derived.Test.YtjheocofbfmopaaWApart
import Derived.Test.YtjheocofbfmopaaWArr
import Derived.Test.YtjheocofbfmopaaWZeros
import Derived.Test.YtjheocofbfmopaaWFoot
import Derived.Test.YtjheocofbfmopaaWKept
import Derived.Test.YtjheocofbfmopaaWShare
import Derived.Test.YtjheocofbfmopaaWN
import Derived.Test.YtjheocofbfmopaaWFootNe
import Derived.Test.YtjheocofbfmopaaWAt
import Derived.Test.YtjheocofbfmopaaWEqStruct
import Derived.Test.YtjheocofbfmopaaWRepsOne
import Derived.Test.YtjheocofbfmopaaWInv
import Derived.Test.YtjheocofbfmopaaWInvWords
import Derived.Test.YtjheocofbfmopaaWGuard
import Derived.Test.YtjheocofbfmopaaWNEv
import Derived.Test.YtjheocofbfmopaaWMore
import Derived.Lib.SliceRun
namespace Go.Proofs.Ytjheocofbfmopaa.Sch
open Go.RowKit Go.Proofs.YtjheocofbfmopaaW.PrintWords Go.Proofs.YtjheocofbfmopaaW.PrintLast Go.Proofs.YtjheocofbfmopaaW.PrintMore
attribute [local go_sem] max2_int min2_int max_two min_two max_three min_three max_four min_four

theorem info3 : (Try.prog.info? 3).map (fun i => (i.zero, i.size, i.bytes)) = some (some (.int .i64 0), 1, 8) := by kernel_rfl

set_option maxHeartbeats 1000000 in
set_option maxRecDepth 100000 in
theorem clone_calls (A0 : Option Addr) (c0 : Nat) (l0 : List Int) (w : World) (hr0 : Kd.C (Kd.int .i64) w A0 l0.length l0) (hl : l0.length ≤ 17592186044416) :
    Calls Try.prog 20 #[.slice A0 l0.length c0] w fun e w' => ∃ v : Value, e = .returned v ∧ Kd.R (Kd.int .i64) 3 w' w.heap.size (fun _ => True) v l0 ∧ Below w.heap.size w w' := by
  have qT : ∀ (w : World) (a : Option Addr) (n c n' c' : Nat), (binOp .eql 29 (.slice a n c) (.slice none n' c')).run Try.prog w = .ok (.bool a.isNone) w := fun w a n c n' c' => Lib.run_eql_slice_nil w _ _ a n c n' c' Try.underlying29
  have HR := Aside0.mk hr0
  have HL := Aside0.mk hl
  clear hr0 hl
  rcases A0 with _ | ad
  · obtain rfl : l0 = [] := by
      have h := HR.out
      cases l0 with
      | nil => rfl
      | cons x xs =>
        obtain ⟨ad, h2, _⟩ := h.2.2 (by simp)
        cases h2
    go_enter Try.func20, Try.ntmps20
    go_wp2
    go_ret
    exact ⟨_, rfl, Kd.R_nil _ _ _ _ _, Below.refl _ _⟩
  · go_enter Try.func20, Try.ntmps20
    go_wp2_with (first | ((with_reducible refine gate_dst (N := 5) rfl ?_); refine Kd.R_lit (Kd.int .i64) _ 3 ?hg (N := 5) ?hd (xs := ([] : List Int)) (inner := []) (ok := fun _ => True) (okp := fun _ => True) ?hr ?hp (fun _ hk => hk) trivial (Below.refl _ _) (Nat.le_refl _) (by simp) ?_; (case hd => rfl); (case hg => rfl); (case hr => first | (go_simp; done) | (go_simp; rfl)); (case hp => exact Reps.none _ _); intro v5 w5 ho5 hb5 hg5 hnew5; have HO5 := Aside0.mk ho5; have HB5 := Aside0.mk hb5; clear ho5 hb5 hg5 hnew5) | ((with_reducible refine gate_builtin (b := .append) (xs := #[.tmp 5, .tmp 6]) rfl ?_); at_builtin; refine Kd.R_append_rows (Kd.int .i64) (Rr := (Kd.int .i64).K w5) (w0 := w) w.heap.size rfl (.tmp 5) (.tmp 6) 29 3 (.int .i64 0) 8 rfl Try.underlying29 info3 rfl (by decide) (by omega) v5 [] l0 (some ad) l0.length c0 (fun _ => True) (fun _ => False) rfl rfl HO5.out ?aR (fun _ _ h => h) (fun _ h => h.elim) (fun _ _ => trivial) HB5.out HB5.out.size ?aL ?_; (case aR => exact Kd.C_below HR.out HB5.out); (case aL => have := HL.out; simp; omega); intro v7 w7 ho7 hb7 hg7 hat7; have HO7 := Aside0.mk ho7; have HB7 := Aside0.mk hb7; clear ho7 hb7 hg7 hat7))
    go_ret
    exact ⟨_, rfl, HO7.out, HB7.out⟩

/-- The greatest of a list's numbers. -/
def lmax : List Int → Int
  | [] => 0
  | x :: xs => xs.foldl mx x
theorem lmax_take_succ (l : List Int) (k : Nat) (h1 : 1 ≤ k) (h : k < l.length) : lmax (l.take (k + 1)) = mx (lmax (l.take k)) (l[k]) := by
  cases l with
  | nil => simp at h
  | cons x xs =>
    obtain ⟨j, rfl⟩ : ∃ j, k = j + 1 := ⟨k - 1, by omega⟩
    simp only [List.take_succ_cons, lmax, List.getElem_cons_succ]
    rw [List.take_succ_eq_append_getElem (by simpa using h), List.foldl_append]
    rfl

set_option maxHeartbeats 1000000 in
set_option maxRecDepth 100000 in
theorem max_calls (A0 : Option Addr) (c0 : Nat) (l0 : List Int) (w : World) (hr0 : Kd.C (Kd.int .i64) w A0 l0.length l0) (hl : l0.length ≤ 17592186044416) (hp : 1 ≤ l0.length) :
    Calls Try.prog 21 #[.slice A0 l0.length c0] w fun e w' => e = .returned (.int .i64 (lmax l0)) ∧ Drawn0 w w' := by
  have HR := Aside0.mk hr0
  obtain ⟨ad, e0, hx0⟩ := Kd.at_int hr0 0 (by omega) (by omega)
  cases e0
  clear hr0
  have e1 : rd l0 0 = lmax (l0.take 1) := by
    cases l0 with
    | nil => simp at hp
    | cons x xs => rfl
  rw [e1] at hx0
  clear e1
  have hxz : w.cell? ad = some (.int .i64 (lmax (l0.take 1))) := by rw [← hx0]; rfl
  clear hx0
  go_enter Try.func21, Try.ntmps21
  go_wp2
  go_loopw [3, 4] (fun m i w' => ∃ k : Nat, 1 ≤ k ∧ k ≤ l0.length ∧ i = .int .i64 k ∧ m = .int .i64 (lmax (l0.take k)) ∧ Drawn0 w w') (fun _ i _ => l0.length - (intOf i).toNat)
  case atStart => exact ⟨1, by omega, by omega, rfl, rfl, Drawn0.refl _⟩
  case round =>
    obtain ⟨k, hk1, hk, rfl, rfl, ⟨m1, rfl⟩⟩ := hrel
    clear hxz
    by_cases hlt : k < l0.length
    · have hs := Aside0.mk (lmax_take_succ l0 k hk1 hlt)
      obtain ⟨ad2, e2, hx⟩ := Kd.at_int HR.out (k : Int) (by omega) (by omega)
      cases e2
      rw [show rd l0 (k : Int) = l0[k] by simp [rd, List.getD_eq_getElem?_getD, hlt], Int.toNat_natCast] at hx
      go_wp2
      go_roundw
      case rel => exact ⟨k + 1, by omega, by omega, by go_num, by rw [hs.out]; rfl, by repeat (first | exact Drawn0.refl _ | apply Drawn0.step)⟩
      case measure => simp [intOf]; omega
    · have hge : l0.length ≤ k := by omega
      clear hlt
      go_wp2
      go_ret
      exact ⟨by first | rfl | (rw [List.take_of_length_le hge]; rfl), by repeat (first | exact Drawn0.refl _ | apply Drawn0.step)⟩
end Go.Proofs.Ytjheocofbfmopaa.Sch
