/- ropeladderlaw01.ShmemSizes computes true; the integers are of their range. -/
import Derived.Test.YtfkoehokjpcogaaMemG
namespace Go.Proofs.Ytfkoehokjpcogaa.Hand
open Go.RowKit Go.Proofs.YtfkoehokjpcogaaW.PrintWords Go.Proofs.YtfkoehokjpcogaaW.PrintLast Go.Proofs.YtfkoehokjpcogaaW.PrintMore
set_option linter.unusedVariables false
attribute [local go_sem] max2_int min2_int max_two min_two max_three min_three max_four min_four

def sz (a b : Nat) : St := ⟨[], 0, List.replicate a 0, List.replicate b ⟨false, 0⟩⟩
theorem sz_fit {a b : Nat} (h1 : a ≤ 256) (h2 : b ≤ 256) : (sz a b).fit := by
  refine ⟨?_, ?_, ?_, ?_, ?_⟩ <;> simp [sz] <;> omega
theorem sz_word (a b : Nat) (i : Int) : (sz a b).word i = 0 := by
  unfold St.word
  split
  · simp only [sz, rd, List.getD_eq_getElem?_getD, List.getElem?_replicate]
    split <;> rfl
  · rfl
theorem sz_rdM (a b : Nat) (i : Int) : rdM (sz a b).ms i = ⟨false, 0⟩ := by
  simp only [sz, rdM, List.getD_eq_getElem?_getD, List.getElem?_replicate]
  split <;> rfl
theorem sz_holder (a b : Nat) (i : Int) : (sz a b).holder i = -1 := by
  unfold St.holder
  rw [sz_rdM, if_neg (fun h => by simp at h)]
theorem sz_try {a b : Nat} {i : Int} (h : 0 ≤ i ∧ i < b) : ((sz a b).tryLock 3 i).2 = true := by
  unfold St.tryLock
  rw [if_pos (by simpa [sz, inL] using h), sz_rdM]
  rfl
theorem sz_tryN {a b : Nat} {i : Int} (h : ¬ (0 ≤ i ∧ i < b)) : ((sz a b).tryLock 3 i).2 = false := by
  unfold St.tryLock
  rw [if_neg (by simpa [sz] using h)]

theorem log0_calls {W : World} {base g gw gm : Nat} {s : St} (h : Is W base g gw gm s) (hf : s.fit) (h0 : s.log = []) :
    Calls Try.prog 18 #[.pointer (some ⟨g, 0, none⟩)] W fun e w' => ∃ A c, e = .returned (.slice A 0 c) ∧ Below W.heap.size W w' := by
  refine (log_calls h hf).mono ?_
  rintro e w' ⟨v, rfl, hv, hb⟩
  rw [h0] at hv
  obtain ⟨A, c, rfl⟩ := Kd.R_slice hv
  exact ⟨A, c, rfl, hb⟩
theorem newSz_calls (a b : Nat) (W : World) (h1 : a ≤ 256) (h3 : b ≤ 256) :
    Calls Try.prog 10 #[.int .i64 a, .int .i64 b] W fun e w' => ∃ g gw gm, e = .returned (.pointer (some ⟨g, 0, none⟩)) ∧ Is w' W.heap.size g gw gm (sz a b) ∧ Below W.heap.size W w' := new_calls a b W h1 h3

theorem viol0_calls {W : World} {base g gw gm a b : Nat} (h : Is W base g gw gm (sz a b)) (hf : (sz a b).fit) :
    Calls Try.prog 19 #[.pointer (some ⟨g, 0, none⟩)] W fun e w' => e = .returned (.int .i64 0) ∧ w' = W := violations_calls h hf
set_option maxHeartbeats 4000000 in
theorem sizes_yes (a b : Nat) (i : Int) (W : World) (h1 : a ≤ 256) (h2 : b ≤ 256) :
    Calls Try.prog 8 #[.int .i64 a, .int .i64 b, .int .i64 i] W fun e w' => e = .returned (.bool true) ∧ Below W.heap.size W w' := by
  have HF := Aside0.mk (sz_fit h1 h2)
  have HA : (a : Int) ≤ 256 := by omega
  have HB : (b : Int) ≤ 256 := by omega
  have HA0 : (0 : Int) ≤ a := by omega
  have HB0 : (0 : Int) ≤ b := by omega
  have d1 : decide ((0 : Int) ≤ a) = true := decide_eq_true HA0
  have d2 : decide ((a : Int) ≤ 256) = true := decide_eq_true HA
  have d3 : decide ((0 : Int) ≤ b) = true := decide_eq_true HB0
  have d4 : decide ((b : Int) ≤ 256) = true := decide_eq_true HB
  by_cases hi : 0 ≤ i ∧ i < b
  · have HT := Aside0.mk (sz_try (a := a) hi)
    obtain ⟨i0, i1⟩ := hi
    have d5 : decide ((0 : Int) ≤ i) = true := decide_eq_true i0
    have d6 : decide (i < (b : Int)) = true := decide_eq_true i1
    go_enter Try.func8, Try.ntmps8
    go_wp2_with (first | (go_at_call 9; (with_reducible refine (head_calls W).mono ?_); rintro e w1 ⟨rfl, hb⟩; have B1 := Aside0.mk hb; clear hb) | (go_at_call 10; (with_reducible refine (newSz_calls a b _ h1 h2).mono ?_); rintro e w2 ⟨g, gw, gm, rfl, hi, hb⟩; have H2 := Aside0.mk hi; have B2 := Aside0.mk (Below.trans B1.out (hb.mono B1.out.size)); have HS2 := Aside0.mk B1.out.size; clear hi hb) | (go_at_call 15; (with_reducible refine (word_calls H2.out HF.out i).mono ?_); simp only [sz_word]; rintro e wx ⟨rfl, rfl⟩) | (go_at_call 16; (with_reducible refine (holder_calls H2.out HF.out i).mono ?_); simp only [sz_holder]; rintro e wx ⟨rfl, rfl⟩) | (go_at_call 18; (with_reducible refine (log0_calls H2.out HF.out rfl).mono ?_); rintro e w3 ⟨A, c, rfl, hb⟩; have H3 := Aside0.mk (H2.out.left hb); clear hb) | (go_at_call 19; (with_reducible refine (viol0_calls H3.out.is HF.out).mono ?_); rintro e wx ⟨rfl, rfl⟩) | (go_at_call 20; (with_reducible refine (tryLock_calls H3.out.is HF.out 3 i).mono ?_); simp only [HT.out]; rintro e w4 ⟨rfl, hl⟩; have H4 := Aside0.mk hl; clear hl))
    go_ret
    exact ⟨rfl, B2.out.trans ((H3.out.bl.mono HS2.out).trans (H4.out.bl.mono HS2.out))⟩
  · have HT := Aside0.mk (sz_tryN (a := a) hi)
    by_cases i0 : 0 ≤ i
    · have i1 : ¬ i < b := fun k => hi ⟨i0, k⟩
      clear hi
      have d5 : decide ((0 : Int) ≤ i) = true := decide_eq_true i0
      have d6 : decide (i < (b : Int)) = false := decide_eq_false i1
      go_enter Try.func8, Try.ntmps8
      go_wp2_with (first | (go_at_call 9; (with_reducible refine (head_calls W).mono ?_); rintro e w1 ⟨rfl, hb⟩; have B1 := Aside0.mk hb; clear hb) | (go_at_call 10; (with_reducible refine (newSz_calls a b _ h1 h2).mono ?_); rintro e w2 ⟨g, gw, gm, rfl, hi, hb⟩; have H2 := Aside0.mk hi; have B2 := Aside0.mk (Below.trans B1.out (hb.mono B1.out.size)); have HS2 := Aside0.mk B1.out.size; clear hi hb) | (go_at_call 15; (with_reducible refine (word_calls H2.out HF.out i).mono ?_); simp only [sz_word]; rintro e wx ⟨rfl, rfl⟩) | (go_at_call 16; (with_reducible refine (holder_calls H2.out HF.out i).mono ?_); simp only [sz_holder]; rintro e wx ⟨rfl, rfl⟩) | (go_at_call 18; (with_reducible refine (log0_calls H2.out HF.out rfl).mono ?_); rintro e w3 ⟨A, c, rfl, hb⟩; have H3 := Aside0.mk (H2.out.left hb); clear hb) | (go_at_call 19; (with_reducible refine (viol0_calls H3.out.is HF.out).mono ?_); rintro e wx ⟨rfl, rfl⟩) | (go_at_call 20; (with_reducible refine (tryLock_calls H3.out.is HF.out 3 i).mono ?_); simp only [HT.out]; rintro e w4 ⟨rfl, hl⟩; have H4 := Aside0.mk hl; clear hl))
      go_ret
      exact ⟨rfl, B2.out.trans ((H3.out.bl.mono HS2.out).trans (H4.out.bl.mono HS2.out))⟩
    · clear hi
      have d5 : decide ((0 : Int) ≤ i) = false := decide_eq_false i0
      go_enter Try.func8, Try.ntmps8
      go_wp2_with (first | (go_at_call 9; (with_reducible refine (head_calls W).mono ?_); rintro e w1 ⟨rfl, hb⟩; have B1 := Aside0.mk hb; clear hb) | (go_at_call 10; (with_reducible refine (newSz_calls a b _ h1 h2).mono ?_); rintro e w2 ⟨g, gw, gm, rfl, hi, hb⟩; have H2 := Aside0.mk hi; have B2 := Aside0.mk (Below.trans B1.out (hb.mono B1.out.size)); have HS2 := Aside0.mk B1.out.size; clear hi hb) | (go_at_call 15; (with_reducible refine (word_calls H2.out HF.out i).mono ?_); simp only [sz_word]; rintro e wx ⟨rfl, rfl⟩) | (go_at_call 16; (with_reducible refine (holder_calls H2.out HF.out i).mono ?_); simp only [sz_holder]; rintro e wx ⟨rfl, rfl⟩) | (go_at_call 18; (with_reducible refine (log0_calls H2.out HF.out rfl).mono ?_); rintro e w3 ⟨A, c, rfl, hb⟩; have H3 := Aside0.mk (H2.out.left hb); clear hb) | (go_at_call 19; (with_reducible refine (viol0_calls H3.out.is HF.out).mono ?_); rintro e wx ⟨rfl, rfl⟩) | (go_at_call 20; (with_reducible refine (tryLock_calls H3.out.is HF.out 3 i).mono ?_); simp only [HT.out]; rintro e w4 ⟨rfl, hl⟩; have H4 := Aside0.mk hl; clear hl))
      go_ret
      exact ⟨rfl, B2.out.trans ((H3.out.bl.mono HS2.out).trans (H4.out.bl.mono HS2.out))⟩

set_option maxHeartbeats 4000000 in
theorem sizes_no (a b : Int) (i : Int) (W : World) (h : ¬ ((0 ≤ a ∧ a ≤ 256) ∧ (0 ≤ b ∧ b ≤ 256))) :
    Calls Try.prog 8 #[.int .i64 a, .int .i64 b, .int .i64 i] W fun e w' => e = .returned (.bool true) ∧ Below W.heap.size W w' := by
  have HN := Aside0.mk h
  by_cases h1 : 0 ≤ a
  · have d1 : decide ((0 : Int) ≤ a) = true := decide_eq_true h1
    by_cases h2 : a ≤ 256
    · have d2 : decide ((a : Int) ≤ 256) = true := decide_eq_true h2
      by_cases h3 : 0 ≤ b
      · have d3 : decide ((0 : Int) ≤ b) = true := decide_eq_true h3
        have h4 : ¬ b ≤ 256 := fun h4 => h ⟨⟨h1, h2⟩, ⟨h3, h4⟩⟩
        have d4 : decide ((b : Int) ≤ 256) = false := decide_eq_false h4
        clear h
        go_enter Try.func8, Try.ntmps8
        go_wp2_with (first | (go_at_call 9; (with_reducible refine (head_calls W).mono ?_); rintro e w1 ⟨rfl, hb⟩; have B1 := Aside0.mk hb; clear hb) | (go_at_call 10; (with_reducible refine (new_nil a b _ HN.out).mono ?_); rintro e wx ⟨rfl, rfl⟩))
        go_ret
        exact ⟨rfl, B1.out⟩
      · have d3 : decide ((0 : Int) ≤ b) = false := decide_eq_false h3
        clear h
        go_enter Try.func8, Try.ntmps8
        go_wp2_with (first | (go_at_call 9; (with_reducible refine (head_calls W).mono ?_); rintro e w1 ⟨rfl, hb⟩; have B1 := Aside0.mk hb; clear hb) | (go_at_call 10; (with_reducible refine (new_nil a b _ HN.out).mono ?_); rintro e wx ⟨rfl, rfl⟩))
        go_ret
        exact ⟨rfl, B1.out⟩
    · have d2 : decide ((a : Int) ≤ 256) = false := decide_eq_false h2
      clear h
      go_enter Try.func8, Try.ntmps8
      go_wp2_with (first | (go_at_call 9; (with_reducible refine (head_calls W).mono ?_); rintro e w1 ⟨rfl, hb⟩; have B1 := Aside0.mk hb; clear hb) | (go_at_call 10; (with_reducible refine (new_nil a b _ HN.out).mono ?_); rintro e wx ⟨rfl, rfl⟩))
      go_ret
      exact ⟨rfl, B1.out⟩
  · have d1 : decide ((0 : Int) ≤ a) = false := decide_eq_false h1
    clear h
    go_enter Try.func8, Try.ntmps8
    go_wp2_with (first | (go_at_call 9; (with_reducible refine (head_calls W).mono ?_); rintro e w1 ⟨rfl, hb⟩; have B1 := Aside0.mk hb; clear hb) | (go_at_call 10; (with_reducible refine (new_nil a b _ HN.out).mono ?_); rintro e wx ⟨rfl, rfl⟩))
    go_ret
    exact ⟨rfl, B1.out⟩
theorem sizes_calls (a b i : Int) (W : World) : Calls Try.prog 8 #[.int .i64 a, .int .i64 b, .int .i64 i] W fun e w' => e = .returned (.bool true) ∧ Below W.heap.size W w' := by
  by_cases h : (0 ≤ a ∧ a ≤ 256) ∧ (0 ≤ b ∧ b ≤ 256)
  · obtain ⟨⟨h1, h2⟩, h3, h4⟩ := h
    obtain ⟨n, rfl⟩ : ∃ n : Nat, a = n := ⟨a.toNat, by omega⟩
    obtain ⟨m, rfl⟩ : ∃ n : Nat, b = n := ⟨b.toNat, by omega⟩
    exact sizes_yes n m i W (by omega) (by omega)
  · exact sizes_no a b i W h
end Go.Proofs.Ytfkoehokjpcogaa.Hand
