/- shmem: Load, Store, Add, CompareAndSwap compute the state's plain functions; the conditions: the sizes are at most 256, the log at most 1000000. -/
import Derived.Test.YtfkoehokjpcogaaMemB
namespace Go.Proofs.Ytfkoehokjpcogaa.Hand
open Go.RowKit Go.Proofs.YtfkoehokjpcogaaW.PrintWords Go.Proofs.YtfkoehokjpcogaaW.PrintLast Go.Proofs.YtfkoehokjpcogaaW.PrintMore
set_option linter.unusedVariables false
attribute [local go_sem] max2_int min2_int max_two min_two max_three min_three max_four min_four
section
variable {W : World} {base g gw gm : Nat} {log : List Acc} {V : Int} {ws : List Int} {ms : List Mut}
theorem updCAS_yes (h : IsMem W base g gw gm log V ws ms) (th i v u : Int) (q q2 : Nat) (h0 : 0 ≤ i) (h1 : i < ws.length) (hw : ws.length ≤ 256) (hl : log.length ≤ 1000000) (hv : rd ws i = v) (hq : W.cell? ⟨q, 0, none⟩ = some (.int .i64 v)) (hq2 : W.cell? ⟨q2, 0, none⟩ = some (.int .i64 u)) :
    Calls Try.prog 34 #[.pointer (some ⟨g, 0, none⟩), .int .i64 th, .int .i64 3, .int .i64 i, .func (.func 36) #[] #[.pointer (some ⟨q, 0, none⟩), .pointer (some ⟨q2, 0, none⟩)]] W fun e w' =>
      e = .returned (.tuple #[.int .i64 u, .bool true]) ∧ IsMem w' base g gw gm (log ++ [⟨th, 3, i, rd ws i, u, true⟩]) V (ws.set i.toNat u) ms ∧ MF W w' g gw gm ∧ Below base W w' := by
  have h := updCAS_in h th i v u q q2 h0 h1 hw hl hq hq2
  simpa only [if_pos hv] using h
theorem updCAS_no (h : IsMem W base g gw gm log V ws ms) (th i v u : Int) (q q2 : Nat) (h0 : 0 ≤ i) (h1 : i < ws.length) (hw : ws.length ≤ 256) (hl : log.length ≤ 1000000) (hv : ¬ rd ws i = v) (hq : W.cell? ⟨q, 0, none⟩ = some (.int .i64 v)) (hq2 : W.cell? ⟨q2, 0, none⟩ = some (.int .i64 u)) :
    Calls Try.prog 34 #[.pointer (some ⟨g, 0, none⟩), .int .i64 th, .int .i64 3, .int .i64 i, .func (.func 36) #[] #[.pointer (some ⟨q, 0, none⟩), .pointer (some ⟨q2, 0, none⟩)]] W fun e w' =>
      e = .returned (.tuple #[.int .i64 (rd ws i), .bool false]) ∧ IsMem w' base g gw gm (log ++ [⟨th, 3, i, rd ws i, rd ws i, false⟩]) V (ws.set i.toNat (rd ws i)) ms ∧ MF W w' g gw gm ∧ Below base W w' := by
  have h := updCAS_in h th i v u q q2 h0 h1 hw hl hq hq2
  simpa only [if_neg hv] using h
end
section
variable {W : World} {base g gw gm : Nat} {s : St}

set_option maxHeartbeats 2000000 in
theorem load_calls (h : Is W base g gw gm s) (hf : s.fit) (th i : Int)  :
    Calls Try.prog 26 #[.pointer (some ⟨g, 0, none⟩), .int .i64 th, .int .i64 i] W fun e w' => e = .returned (.int .i64 (s.load th i ).2) ∧ Left W w' base g gw gm (s.load th i ).1 := by
  obtain ⟨f1, _, f3, _, _⟩ := hf
  have HL := Aside0.mk f3
  have HF := Aside0.mk f1
  have HA := Aside0.mk (h.left (W' := W) (Below.refl _ _))
  clear h f1 f3
  unfold St.load
  by_cases hi : inL s.ws i
  · simp only [if_pos hi]
    obtain ⟨h0, h1⟩ := hi
    go_enter Try.func26, Try.ntmps26
    go_wp2_with (first | (go_at_call 34; refine (updLoad_in HA.out.is th i  h0 h1 HF.out HL.out ).mono ?_; rintro e w1 ⟨rfl, hi1, hm1, hb1⟩; have HI := Aside0.mk hi1; have HM := Aside0.mk hm1; have HB := Aside0.mk hb1; clear hi1 hm1 hb1))
    go_ret
    exact ⟨rfl, HA.out.trans ⟨HI.out, HM.out, HB.out⟩⟩
  · simp only [if_neg hi]
    have HI := Aside0.mk hi
    clear hi
    go_enter Try.func26, Try.ntmps26
    go_wp2_with (first | (go_at_call 34; refine (updLoad_out HA.out.is th i  HI.out HF.out).mono ?_; rintro e w1 ⟨rfl, hw1⟩; have HW := Aside0.mk hw1; clear hw1))
    go_ret
    exact ⟨rfl, by rw [HW.out]; exact HA.out⟩

set_option maxHeartbeats 2000000 in
theorem store_calls (h : Is W base g gw gm s) (hf : s.fit) (th i : Int) (v : Int) :
    Calls Try.prog 24 #[.pointer (some ⟨g, 0, none⟩), .int .i64 th, .int .i64 i, .int .i64 v] W fun e w' => e = .returned (.tuple #[]) ∧ Left W w' base g gw gm (s.store th i v) := by
  obtain ⟨f1, _, f3, _, _⟩ := hf
  have HL := Aside0.mk f3
  have HF := Aside0.mk f1
  have HA := Aside0.mk (h.left (W' := (W.alloc (.cells #[.int .i64 v] 3))) (below_alloc (Below.refl _ _) _))
  clear h f1 f3
  unfold St.store
  by_cases hi : inL s.ws i
  · simp only [if_pos hi]
    obtain ⟨h0, h1⟩ := hi
    go_enter Try.func24, Try.ntmps24
    go_wp2_with (first | (go_at_call 34; refine (updStore_in HA.out.is th i v W.heap.size h0 h1 HF.out HL.out ?q0).mono ?_; (case q0 => simp); rintro e w1 ⟨rfl, hi1, hm1, hb1⟩; have HI := Aside0.mk hi1; have HM := Aside0.mk hm1; have HB := Aside0.mk hb1; clear hi1 hm1 hb1))
    go_end0
    exact ⟨rfl, HA.out.trans ⟨HI.out, HM.out, HB.out⟩⟩
  · simp only [if_neg hi]
    have HI := Aside0.mk hi
    clear hi
    go_enter Try.func24, Try.ntmps24
    go_wp2_with (first | (go_at_call 34; refine (updStore_out HA.out.is th i v W.heap.size HI.out HF.out).mono ?_; rintro e w1 ⟨rfl, hw1⟩; have HW := Aside0.mk hw1; clear hw1))
    go_end0
    exact ⟨rfl, by rw [HW.out]; exact HA.out⟩

set_option maxHeartbeats 2000000 in
theorem add_calls (h : Is W base g gw gm s) (hf : s.fit) (th i : Int) (v : Int) :
    Calls Try.prog 21 #[.pointer (some ⟨g, 0, none⟩), .int .i64 th, .int .i64 i, .int .i64 v] W fun e w' => e = .returned (.int .i64 (s.add th i v).2) ∧ Left W w' base g gw gm (s.add th i v).1 := by
  obtain ⟨f1, _, f3, _, _⟩ := hf
  have HL := Aside0.mk f3
  have HF := Aside0.mk f1
  have HA := Aside0.mk (h.left (W' := (W.alloc (.cells #[.int .i64 v] 3))) (below_alloc (Below.refl _ _) _))
  clear h f1 f3
  unfold St.add
  by_cases hi : inL s.ws i
  · simp only [if_pos hi]
    obtain ⟨h0, h1⟩ := hi
    go_enter Try.func21, Try.ntmps21
    go_wp2_with (first | (go_at_call 34; refine (updAdd_in HA.out.is th i v W.heap.size h0 h1 HF.out HL.out ?q0).mono ?_; (case q0 => simp); rintro e w1 ⟨rfl, hi1, hm1, hb1⟩; have HI := Aside0.mk hi1; have HM := Aside0.mk hm1; have HB := Aside0.mk hb1; clear hi1 hm1 hb1))
    go_ret
    exact ⟨rfl, HA.out.trans ⟨HI.out, HM.out, HB.out⟩⟩
  · simp only [if_neg hi]
    have HI := Aside0.mk hi
    clear hi
    go_enter Try.func21, Try.ntmps21
    go_wp2_with (first | (go_at_call 34; refine (updAdd_out HA.out.is th i v W.heap.size HI.out HF.out).mono ?_; rintro e w1 ⟨rfl, hw1⟩; have HW := Aside0.mk hw1; clear hw1))
    go_ret
    exact ⟨rfl, by rw [HW.out]; exact HA.out⟩

set_option maxHeartbeats 2000000 in
theorem cas_calls (h : Is W base g gw gm s) (hf : s.fit) (th i : Int) (old new : Int) :
    Calls Try.prog 22 #[.pointer (some ⟨g, 0, none⟩), .int .i64 th, .int .i64 i, .int .i64 old, .int .i64 new] W fun e w' => e = .returned (.bool (s.cas th i old new).2) ∧ Left W w' base g gw gm (s.cas th i old new).1 := by
  obtain ⟨f1, _, f3, _, _⟩ := hf
  have HL := Aside0.mk f3
  have HF := Aside0.mk f1
  have HA := Aside0.mk (h.left (W' := ((W.alloc (.cells #[.int .i64 old] 3)).alloc (.cells #[.int .i64 new] 3))) (below_alloc (below_alloc (Below.refl _ _) _) _))
  clear h f1 f3
  unfold St.cas
  by_cases hi : inL s.ws i
  · simp only [if_pos hi]
    obtain ⟨h0, h1⟩ := hi
    by_cases hv : rd s.ws i = old
    · simp only [if_pos hv]
      have HV := Aside0.mk hv
      clear hv
      go_enter Try.func22, Try.ntmps22
      go_wp2_with (first | (go_at_call 34; refine (updCAS_yes HA.out.is th i old new W.heap.size (W.heap.size + 1) h0 h1 HF.out HL.out HV.out ?q0 ?q1).mono ?_; (case q0 => simp); (case q1 => simp); rintro e w1 ⟨rfl, hi1, hm1, hb1⟩; have HI := Aside0.mk hi1; have HM := Aside0.mk hm1; have HB := Aside0.mk hb1; clear hi1 hm1 hb1))
      go_ret
      exact ⟨rfl, HA.out.trans ⟨HI.out, HM.out, HB.out⟩⟩
    · simp only [if_neg hv]
      have HV := Aside0.mk hv
      clear hv
      go_enter Try.func22, Try.ntmps22
      go_wp2_with (first | (go_at_call 34; refine (updCAS_no HA.out.is th i old new W.heap.size (W.heap.size + 1) h0 h1 HF.out HL.out HV.out ?q0 ?q1).mono ?_; (case q0 => simp); (case q1 => simp); rintro e w1 ⟨rfl, hi1, hm1, hb1⟩; have HI := Aside0.mk hi1; have HM := Aside0.mk hm1; have HB := Aside0.mk hb1; clear hi1 hm1 hb1))
      go_ret
      exact ⟨rfl, HA.out.trans ⟨HI.out, HM.out, HB.out⟩⟩
  · simp only [if_neg hi]
    have HI := Aside0.mk hi
    clear hi
    go_enter Try.func22, Try.ntmps22
    go_wp2_with (first | (go_at_call 34; refine (updCAS_out HA.out.is th i old new W.heap.size (W.heap.size + 1) HI.out HF.out).mono ?_; rintro e w1 ⟨rfl, hw1⟩; have HW := Aside0.mk hw1; clear hw1))
    go_ret
    exact ⟨rfl, by rw [HW.out]; exact HA.out⟩
end
end Go.Proofs.Ytfkoehokjpcogaa.Hand
