/- sched.Random: the call computes the generator's numbers; 0 to 100000 picks, 1 to 64 threads, the seed a uint32. -/
import Derived.Test.YtjheocofbfmopaaHand0
namespace Go.Proofs.Ytjheocofbfmopaa.Sch
open Go.RowKit Go.Proofs.YtjheocofbfmopaaW.PrintWords Go.Proofs.YtjheocofbfmopaaW.PrintLast Go.Proofs.YtjheocofbfmopaaW.PrintMore
attribute [local go_sem] max2_int min2_int max_two min_two max_three min_three max_four min_four

/-- The generator's next state. -/
def lcg (x : Int) : Int := (x * 1664525 + 1013904223) % 4294967296
/-- The state behind k steps. -/
def lcgN (x : Int) : Nat → Int
  | 0 => x
  | k + 1 => lcg (lcgN x k)
/-- Pick number k. -/
def rndAt (seed threads : Int) (k : Nat) : Int := (lcgN seed (k + 1) / 65536) % threads
def rndList (seed threads : Int) (n : Nat) : List Int := (List.range n).map (rndAt seed threads)
theorem lcg_range (x : Int) : 0 ≤ lcg x ∧ lcg x < 4294967296 := by unfold lcg; omega
theorem lcgN_range {x : Int} (h : 0 ≤ x ∧ x < 4294967296) : ∀ k, 0 ≤ lcgN x k ∧ lcgN x k < 4294967296
  | 0 => h
  | _ + 1 => lcg_range _

def rndOk (a0 a1 a2 : Int) : Prop := 0 ≤ a0 ∧ a0 < 4294967296 ∧ 1 ≤ a1 ∧ a1 ≤ 64 ∧ 0 ≤ a2 ∧ a2 ≤ 100000
instance (a0 a1 a2 : Int) : Decidable (rndOk a0 a1 a2) := by unfold rndOk; exact inferInstance
def sched_Random.f (a0 a1 a2 : Int) : Option (List Int) := if rndOk a0 a1 a2 then some (rndList a0 a1 a2.toNat) else none

/-- What lies in the result behind k rounds. -/
def rndPart (seed threads : Int) (n k : Nat) : List Int := rndList seed threads k ++ List.replicate (n - k) 0
theorem rndList_length (s t : Int) (n : Nat) : (rndList s t n).length = n := by simp [rndList]
theorem rndPart_length (s t : Int) {n k : Nat} (h : k ≤ n) : (rndPart s t n k).length = n := by simp [rndPart, rndList_length]; omega
theorem rndPart_zero (s t : Int) (n : Nat) : rndPart s t n 0 = List.replicate n 0 := by simp [rndPart, rndList]
theorem rndPart_all (s t : Int) (n : Nat) : rndPart s t n n = rndList s t n := by simp [rndPart]
theorem rndPart_step (s t : Int) {n k : Nat} (h : k < n) : (rndPart s t n k).set k (rndAt s t k) = rndPart s t n (k + 1) := by
  unfold rndPart
  rw [List.set_append_right _ _ (by rw [rndList_length]; omega), rndList_length, Nat.sub_self]
  obtain ⟨m, hm⟩ : ∃ m, n - k = m + 1 := ⟨n - k - 1, by omega⟩
  have hm2 : n - (k + 1) = m := by omega
  rw [hm, hm2, List.replicate_succ]
  simp [rndList, List.range_succ]

set_option maxHeartbeats 1000000 in
theorem next_calls (B : Nat) (x : Int) (w : World) (hc : w.cell? ⟨B, 0, none⟩ = some (.int .u32 x)) (hf : w.frozen? ⟨B, 0, none⟩ = false) (h : 0 ≤ x ∧ x < 4294967296) :
    Calls Try.prog 28 #[.pointer (some ⟨B, 0, none⟩)] w fun e w' => e = .returned (.int .u32 (lcg x)) ∧ w' = w.setCell ⟨B, 0, none⟩ (.int .u32 (lcg x)) := by
  obtain ⟨h0, h1⟩ := h
  go_enter Try.func28, Try.ntmps28
  go_wp2
  go_ret
  exact ⟨rfl, rfl⟩

set_option maxHeartbeats 1000000 in
theorem gen_calls (x : Int) (w : World) :
    Calls Try.prog 23 #[.int .u32 x] w fun e w' => e = .returned (.func (.func 28) #[] #[.pointer (some ⟨w.heap.size, 0, none⟩)]) ∧
      Below w.heap.size w w' ∧ w.heap.size < w'.heap.size ∧ w'.cell? ⟨w.heap.size, 0, none⟩ = some (.int .u32 x) ∧ w'.frozen? ⟨w.heap.size, 0, none⟩ = false := by
  go_enter Try.func23, Try.ntmps23
  go_wp2
  go_ret
  exact ⟨rfl, (Below.refl _ _).alloc (Nat.le_refl _) _, by simp, by simp, by simp⟩

set_option maxHeartbeats 4000000 in
set_option maxRecDepth 100000 in
theorem sched_Random.calls (a0 : Int) (a1 : Int) (a2 : Int) (r : List Int) (w : World) (h : sched_Random.f a0 a1 a2 = some r) :
    Calls Try.prog 15 #[.int .u32 a0, .int .i64 a1, .int .i64 a2] w fun e w' => ∃ v0_ : Value, e = .returned (v0_) ∧ Kd.R (Kd.int .i64) 3 w' w.heap.size (fun _ => True) v0_ r ∧ Below w.heap.size w w' := by
  unfold sched_Random.f at h
  split at h
  case isFalse => simp at h
  case isTrue hok =>
  obtain ⟨h1, h2, h3, h4, h5, h6⟩ := hok
  have HS := Aside0.mk (Option.some.inj h)
  clear h
  obtain ⟨n, rfl⟩ : ∃ n : Nat, a2 = n := ⟨a2.toNat, by omega⟩
  have hn : (n : Int).toNat = n := by omega
  rw [hn] at HS
  go_enter Try.func15, Try.ntmps15
  go_wp2_with (first | (go_at_call 23; refine (gen_calls a0 _).mono ?_; rintro e w1 ⟨rfl, hb1, hs1, hc1, hf1⟩; have HB1 := Aside0.mk hb1; have HS1 := Aside0.mk hs1; have HC1 := Aside0.mk hc1; have HF1 := Aside0.mk hf1; clear hb1 hs1 hc1 hf1) | ((with_reducible refine gate_dst (N := 13) rfl ?_); refine Kd.R_make (Kd.int .i64) _ 3 rfl (N := 13) rfl 29 _ _ rfl (n : Int) rfl rfl Try.underlying29 (.int .i64 0) 8 info3 rfl (by decide) (by omega) 0 (ok := fun k => k ≠ w.heap.size) (okp := fun k => k ≠ w.heap.size) rfl (fun _ hk => hk) (by have := HS1.out; omega) (by omega) (by omega) (Below.refl _ _) (Nat.le_refl _) ?_; intro vo w2 ho hb2 hg2 hnew2; rw [hn] at ho; obtain ⟨Ao, co, rfl⟩ := Kd.R_slice ho; rw [List.length_replicate] at ho ⊢; have HO := Aside0.mk (Kd.R_lower ho (Nat.le_of_lt HS1.out)); have HB := Aside0.mk (below_step HB1.out hb2); have HC := Aside0.mk ((hb2.cell (p := ⟨w.heap.size, 0, none⟩) HS1.out).trans HC1.out); have HF := Aside0.mk ((hb2.frozen (p := ⟨w.heap.size, 0, none⟩) HS1.out).trans HF1.out); have HS2 := Aside0.mk (Nat.lt_of_lt_of_le HS1.out hb2.size); clear ho hb2 hg2 hnew2 HB1 HC1 HF1 HS1))
  go_loopw [16] (fun i w' => ∃ k : Nat, k ≤ n ∧ i = .int .i64 k ∧
      Aside0 (Kd.R (Kd.int .i64) 3 w' w.heap.size (fun k => k ≠ w.heap.size) (.slice Ao n co) (rndPart a0 a1 n k)) ∧
      Aside0 (w'.cell? ⟨w.heap.size, 0, none⟩ = some (.int .u32 (lcgN a0 k))) ∧ Aside0 (w'.frozen? ⟨w.heap.size, 0, none⟩ = false) ∧ Aside0 (w.heap.size < w'.heap.size) ∧
      Aside0 (Below w.heap.size w w')) (fun i _ => n - (intOf i).toNat)
  case atStart => exact ⟨0, Nat.zero_le _, rfl, by rw [rndPart_zero]; exact HO, HC, HF, HS2, HB⟩
  case round =>
    clear HO HC HF HB HS2
    obtain ⟨k, hk, rfl, HO, HC, HF, HSZ, HB⟩ := hrel
    have hpl := rndPart_length a0 a1 hk
    by_cases hlt : k < n
    · obtain ⟨go, co2, eo, hgo, _, _⟩ := Kd.R_form HO.out (by omega)
      injection eo with e1 e2 e3
      subst e1; subst e3; clear e2
      have HGO := Aside0.mk hgo
      have hne : w.heap.size ≠ go := by
        have := HO.out.1 go rfl
        omega
      have hlr := lcgN_range (x := a0) ⟨h1, h2⟩ (k + 1)
      have HE : Aside0 (lcgN a0 (k + 1) = lcg (lcgN a0 k)) := ⟨rfl⟩
      have HP := Aside0.mk (rndPart_step a0 a1 hlt)
      have HR : Aside0 (rndAt a0 a1 k = (lcgN a0 (k + 1) / 65536) % a1) := ⟨rfl⟩
      clear hpl hgo
      obtain ⟨y, hy⟩ : ∃ y, lcgN a0 (k + 1) = y := ⟨_, rfl⟩
      rw [hy] at hlr HE HR
      have HY := Aside0.mk hy
      clear hy
      have hz : (a1 == 0) = false := beq_eq_false_iff_ne.2 (by omega)
      have hz2 : (a1 != 0) = true := bne_iff_ne.2 (by omega)
      go_wp2_with (first | (go_at_call 28; refine (next_calls _ _ _ HC.out HF.out (lcgN_range ⟨by omega, by omega⟩ k)).mono ?_; rintro e w4 ⟨rfl, hw4⟩; rw [← HE.out] at hw4 ⊢; have hc4 : w4.cell? ⟨w.heap.size, 0, none⟩ = some (.int .u32 y) := (by rw [hw4]; exact World.cell?_setCell_same' _ _ _ (by rw [HC.out]; rfl)); have hf4 : w4.frozen? ⟨w.heap.size, 0, none⟩ = false := (by rw [hw4, World.frozen?_setCell]; exact HF.out); have n1 := Aside0.mk (show Kd.R (Kd.int .i64) 3 w4 w.heap.size (fun k => k ≠ w.heap.size) (.slice (some ⟨go, 0, none⟩) n co) (rndPart a0 a1 n k) by rw [hw4]; exact Kd.R_far HO.out (fun k hk => hk) _); have n2 := Aside0.mk (show Below w.heap.size w w4 by rw [hw4]; exact below_set HB.out (Nat.le_refl _)); have n3 := Aside0.mk (show w.heap.size < w4.heap.size by rw [hw4]; simpa [World.setCell] using HSZ.out); clear HO HB HSZ HC HF hw4; have HO := n1; have HB := n2; have HSZ := n3; have HC := Aside0.mk hc4; have HF := Aside0.mk hf4; clear n1 n2 n3 hc4 hf4; obtain ⟨hx5, hf5⟩ := Kd.R_celln 0 HO.out (k : Int) (by omega) (by omega); rw [Int.toNat_natCast] at hx5 hf5))
      go_roundw
      case rel =>
        have n2 := Kd.R_putg HO.out (k : Int) (rndAt a0 a1 k)
        rw [Int.toNat_natCast, HP.out, HR.out] at n2
        refine ⟨k + 1, by omega, by go_num, ⟨n2.1⟩, ⟨?_⟩, ⟨?_⟩, ⟨?_⟩, ⟨below_set HB.out HGO.out⟩⟩
        · rw [World.cell?_setCell_other _ _ _ _ (fun e => hne (by injection e with e1; exact e1.symm)), HY.out]; exact HC.out
        · rw [World.frozen?_setCell]; exact HF.out
        · simpa [World.setCell] using HSZ.out
      case measure => simp [intOf]; omega
    · obtain rfl : k = n := by omega
      have hall := Aside0.mk (rndPart_all a0 a1 k)
      go_wp2
      go_ret
      exact ⟨_, rfl, by rw [← HS.out, ← hall.out]; exact Kd.R_mono HO.out (fun _ _ => trivial), HB.out⟩
end Go.Proofs.Ytjheocofbfmopaa.Sch
