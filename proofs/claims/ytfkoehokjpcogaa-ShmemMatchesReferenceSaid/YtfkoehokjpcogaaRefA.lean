/- The reference memory as it lies in the world; what a store, an append do to it; New; no condition but what each states. -/
import Derived.Test.YtfkoehokjpcogaaShAtom
namespace Go.Proofs.Ytfkoehokjpcogaa.Hand
open Go.RowKit Go.Proofs.YtfkoehokjpcogaaW.PrintWords Go.Proofs.YtfkoehokjpcogaaW.PrintLast Go.Proofs.YtfkoehokjpcogaaW.PrintMore
set_option linter.unusedVariables false
set_option linter.unusedSimpArgs false
attribute [local go_sem] max2_int min2_int max_two min_two max_three min_three max_four min_four

abbrev TR : Nat := 40
structure RefB (W : World) (base rb rw rm : Nat) (vl : Value) (cw cm : Nat) (log : List Acc) (V : Int) (ws hs : List Int) : Prop where
  blk : W.heap[rb]? = some (.cells #[.slice (some ⟨rw, 0, none⟩) ws.length cw, .slice (some ⟨rm, 0, none⟩) hs.length cm, vl, .int .i64 V] TR (0, 0))
  words : Kd.R (Kd.int .i64) 3 W base (fun _ => True) (.slice (some ⟨rw, 0, none⟩) ws.length cw) ws
  hold : Kd.R (Kd.int .i64) 3 W base (fun _ => True) (.slice (some ⟨rm, 0, none⟩) hs.length cm) hs
  lo : Kd.R kA 47 W base (fun _ => True) vl log
  ne : rw ≠ rm
  hg : base ≤ rb
def RefIs (W : World) (base rb rw rm : Nat) (log : List Acc) (V : Int) (ws hs : List Int) : Prop := ∃ vl cw cm, RefB W base rb rw rm vl cw cm log V ws hs

set_option maxHeartbeats 4000000 in
set_option maxRecDepth 100000 in
theorem refNew_yes (a b : Nat) (W : World) (h1 : a ≤ 256) (h3 : b ≤ 256) :
    Calls Try.prog 11 #[.int .i64 a, .int .i64 b] W fun e w' => ∃ rb vw vm, e = .returned (.pointer (some ⟨rb, 0, none⟩)) ∧ W.heap.size ≤ rb ∧
      w'.heap[rb]? = some (.cells #[vw, vm, .slice none 0 0, .int .i64 0] TR (0, 0)) ∧ Kd.R (Kd.int .i64) 3 w' W.heap.size (fun k => k < rb) vw (List.replicate a 0) ∧ Kd.R (Kd.int .i64) 3 w' W.heap.size (fun k => rb < k) vm (List.replicate b (-1)) ∧ Below W.heap.size W w' := by
  obtain ⟨CA, hA, hRA⟩ := make_run (Kd.int .i64) 37 3 (.int .i64 0) 8 0 Try.underlying37 info3 rfl (by decide) (by omega) (fun _ _ => rfl) a (by omega)
  have HA := Aside0.mk hRA
  clear hRA
  have e1 : decide ((a : Int) < 0) = false := decide_eq_false (by omega)
  have e2 : decide ((256 : Int) < a) = false := decide_eq_false (by omega)
  have e3 : decide ((b : Int) < 0) = false := decide_eq_false (by omega)
  have e4 : decide ((256 : Int) < b) = false := decide_eq_false (by omega)
  have em : max (a : Int) 0 = a := by omega
  have en : min (a : Int) 256 = a := by omega
  go_enter Try.func11, Try.ntmps11
  go_wp2
  go_loopw [6] (fun i w' => ∃ k : Nat, k ≤ b ∧ i = .int .i64 k ∧ ∃ A c, Aside0 (w'.heap[W.heap.size + 1]? = some (.cells #[.slice (some ⟨W.heap.size, 0, none⟩) a a, .slice A k c, .slice none 0 0, .int .i64 0] TR (0, 0))) ∧
      Aside0 (Kd.R (Kd.int .i64) 3 w' W.heap.size (fun k => k < W.heap.size + 1) (.slice (some ⟨W.heap.size, 0, none⟩) a a) (List.replicate a 0)) ∧ Aside0 (Kd.R (Kd.int .i64) 3 w' W.heap.size (fun k => W.heap.size + 1 < k) (.slice A k c) (List.replicate k (-1))) ∧
      Aside0 (Below W.heap.size W w') ∧ Aside0 (W.heap.size + 1 < w'.heap.size)) (fun i _ => b - (intOf i).toNat)
  case atStart =>
    have k1 := HA.out W W.heap.size (Nat.le_refl _)
    have k2 := Kd.R_alloc k1 (.cells #[Value.slice (some ⟨W.heap.size, 0, none⟩) a a, .slice none 0 0, .slice none 0 0, .int .i64 0] TR)
    refine ⟨0, Nat.zero_le _, rfl, none, 0, ⟨?_⟩, ⟨Kd.R_reok rfl k2 (fun k hk => by simp [Value.ownBlock] at hk; omega)⟩, ⟨Kd.R_nil _ _ _ _ _⟩, ⟨below_alloc (below_alloc (Below.refl _ _) _) _⟩, ⟨by simp⟩⟩
    show ((W.heap.push _).push _)[_]? = _
    refine push_get ?_
    simp
  case round =>
    obtain ⟨k, hk, rfl, A, c, HBK, HVW, HVM, HBL, HSZ⟩ := hrel
    by_cases hlt : k < b
    · have c1 : wr.cell? ⟨W.heap.size + 1, 1, none⟩ = some (.slice A k c) := by simp [World.cell?, HBK.out]
      have f1 : wr.frozen? ⟨W.heap.size + 1, 1, none⟩ = false := by simp [World.frozen?, HBK.out]
      have HC1 := Aside0.mk c1
      have HF1 := Aside0.mk f1
      have HL3 := Aside0.mk h3
      clear HA hA e1 e2 e3 e4 em en
      go_wp2_with (first | ((with_reducible refine gate_builtin (b := .append) (xs := #[.tmp 36, .tmp 37]) rfl ?_); at_builtin; refine Kd.R_append (Kd.int .i64) (w0 := W) W.heap.size rfl (.tmp 36) (.tmp 37) 37 3 (.int .i64 0) 8 rfl Try.underlying37 info3 rfl (by decide) (by omega) (.slice A k c) (List.replicate k (-1)) (-1) [.int .i64 (-1)] (fun k => W.heap.size + 1 < k) (fun _ => False) rfl rfl ?aP (fun _ hk => hk.elim) ?aF HVM.out ?aB ?aS ?aL ?_; (case aP => exact rfl); (case aF => (intro q hq; have := HSZ.out; omega)); (case aB => exact HBL.out); (case aS => (have := HSZ.out; omega)); (case aL => (have := HL3.out; rw [List.length_replicate]; omega)); intro v1 w1 hv1 hb1 hg1 hat1; rw [← List.replicate_succ'] at hv1; obtain ⟨A1, c1', rfl⟩ := Kd.R_slice hv1; rw [List.length_replicate] at hv1 ⊢; have hne : (Value.slice A k c).ownBlock ≠ some (W.heap.size + 1) := (fun e => by have := HVM.out.1 _ e; omega); have ev : (Value.slice A k c).ownBlock ≠ some W.heap.size := (fun e => by have := HVM.out.1 _ e; omega); have hbk : w1.heap[W.heap.size + 1]? = _ := (hg1.block _ HSZ.out (fun e => hne e.symm)).trans HBK.out; have HBK1 := Aside0.mk hbk; have HV1 := Aside0.mk hv1; have HVW1 := Aside0.mk (Kd.R_grown1 HVW.out rfl hg1 (fun e => ev (e.trans rfl))); have HBL1 := Aside0.mk hb1; have HSZ1 := Aside0.mk (Nat.lt_of_lt_of_le HSZ.out hg1.size); have hc1 : w1.cell? ⟨W.heap.size + 1, 1, none⟩ = some (.slice A k c) := (by simp [World.cell?, hbk]); have hf1 : w1.frozen? ⟨W.heap.size + 1, 1, none⟩ = false := (by simp [World.frozen?, hbk]); clear hv1 hb1 hg1 hat1 hne hbk ev))
      go_roundw
      case rel =>
        have gs := grown_set w1 (W.heap.size + 1) 1 (.slice A1 (k + 1) c1')
        exact ⟨k + 1, by omega, by go_num, A1, c1', ⟨blk_set HBK1.out _⟩, ⟨Kd.R_grown1 HVW1.out rfl gs (fun e => by have := HVW1.out.1 _ e.symm; omega)⟩, ⟨Kd.R_grown1 HV1.out rfl gs (fun e => by have := HV1.out.1 _ e.symm; omega)⟩, ⟨below_set HBL1.out (by omega)⟩, ⟨by simpa [World.setCell] using HSZ1.out⟩⟩
      case measure => simp [intOf]; omega
    · obtain rfl : k = b := by omega
      clear HA hA e1 e2 e3 e4 em en
      go_wp2
      go_ret
      exact ⟨_, _, _, rfl, by omega, HBK.out, HVW.out, HVM.out, HBL.out⟩
end Go.Proofs.Ytfkoehokjpcogaa.Hand
