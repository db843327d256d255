/- shmem: Load, Store, Add, CompareAndSwap compute the state's plain functions; the conditions: the sizes are at most 256, the log at most 1000000. -/
import Derived.Test.YtjheocofbfmopaaMemB
namespace Go.Proofs.Ytjheocofbfmopaa.Hand
open Go.RowKit Go.Proofs.YtjheocofbfmopaaW.PrintWords Go.Proofs.YtjheocofbfmopaaW.PrintLast Go.Proofs.YtjheocofbfmopaaW.PrintMore
set_option linter.unusedVariables false
attribute [local go_sem] max2_int min2_int max_two min_two max_three min_three max_four min_four
section
variable {W : World} {base g gw gm : Nat} {log : List Acc} {V : Int} {ws : List Int} {ms : List Mut}
end
section
variable {W : World} {base g gw gm : Nat} {s : St}

set_option maxHeartbeats 2000000 in
theorem load_calls (h : Is W base g gw gm s) (hf : s.fit) (th i : Int)  :
    Calls Try.prog 40 #[.pointer (some ⟨g, 0, none⟩), .int .i64 th, .int .i64 i] W fun e w' => e = .returned (.int .i64 (s.load th i ).2) ∧ Left W w' base g gw gm (s.load th i ).1 := by
  obtain ⟨f1, _, f3, _, _⟩ := hf
  have HL := Aside0.mk f3
  have HF := Aside0.mk f1
  have HA := Aside0.mk (h.left (W' := W) (Below.refl _ _))
  clear h f1 f3
  unfold St.load
  by_cases hi : inL s.ws i
  · simp only [if_pos hi]
    obtain ⟨h0, h1⟩ := hi
    go_enter Try.func40, Try.ntmps40
    go_wp2_with (first | (go_at_call 34; refine (updLoad_in HA.out.is th i  h0 h1 HF.out HL.out ).mono ?_; rintro e w1 ⟨rfl, hi1, hm1, hb1⟩; have HI := Aside0.mk hi1; have HM := Aside0.mk hm1; have HB := Aside0.mk hb1; clear hi1 hm1 hb1))
    go_ret
    exact ⟨rfl, HA.out.trans ⟨HI.out, HM.out, HB.out⟩⟩
  · simp only [if_neg hi]
    have HI := Aside0.mk hi
    clear hi
    go_enter Try.func40, Try.ntmps40
    go_wp2_with (first | (go_at_call 34; refine (updLoad_out HA.out.is th i  HI.out HF.out).mono ?_; rintro e w1 ⟨rfl, hw1⟩; have HW := Aside0.mk hw1; clear hw1))
    go_ret
    exact ⟨rfl, by rw [HW.out]; exact HA.out⟩

set_option maxHeartbeats 2000000 in
theorem add_calls (h : Is W base g gw gm s) (hf : s.fit) (th i : Int) (v : Int) :
    Calls Try.prog 31 #[.pointer (some ⟨g, 0, none⟩), .int .i64 th, .int .i64 i, .int .i64 v] W fun e w' => e = .returned (.int .i64 (s.add th i v).2) ∧ Left W w' base g gw gm (s.add th i v).1 := by
  obtain ⟨f1, _, f3, _, _⟩ := hf
  have HL := Aside0.mk f3
  have HF := Aside0.mk f1
  have HA := Aside0.mk (h.left (W' := (W.alloc (.cells #[.int .i64 v] 3))) (below_alloc (Below.refl _ _) _))
  clear h f1 f3
  unfold St.add
  by_cases hi : inL s.ws i
  · simp only [if_pos hi]
    obtain ⟨h0, h1⟩ := hi
    go_enter Try.func31, Try.ntmps31
    go_wp2_with (first | (go_at_call 34; refine (updAdd_in HA.out.is th i v W.heap.size h0 h1 HF.out HL.out ?q0).mono ?_; (case q0 => simp); rintro e w1 ⟨rfl, hi1, hm1, hb1⟩; have HI := Aside0.mk hi1; have HM := Aside0.mk hm1; have HB := Aside0.mk hb1; clear hi1 hm1 hb1))
    go_ret
    exact ⟨rfl, HA.out.trans ⟨HI.out, HM.out, HB.out⟩⟩
  · simp only [if_neg hi]
    have HI := Aside0.mk hi
    clear hi
    go_enter Try.func31, Try.ntmps31
    go_wp2_with (first | (go_at_call 34; refine (updAdd_out HA.out.is th i v W.heap.size HI.out HF.out).mono ?_; rintro e w1 ⟨rfl, hw1⟩; have HW := Aside0.mk hw1; clear hw1))
    go_ret
    exact ⟨rfl, by rw [HW.out]; exact HA.out⟩

end
end Go.Proofs.Ytjheocofbfmopaa.Hand
