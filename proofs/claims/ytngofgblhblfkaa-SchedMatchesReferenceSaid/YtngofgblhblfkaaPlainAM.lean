/- What the small functions of SchedMatchesReference come to; the conditions stand in each. -/
import Derived.Test.YtngofgblhblfkaaPMx1
import Derived.Test.YtngofgblhblfkaaPlainB
namespace Go.Proofs.Ytngofgblhblfkaa.PureM
open Go.RowKit Go.Proofs.Ytngofgblhblfkaa.PM Go.Proofs.Ytngofgblhblfkaa.Hand Go.Proofs.YtngofgblhblfkaaW.PrintWords Go.Proofs.YtngofgblhblfkaaW.PrintLast

theorem u8_range {a : Int} (h : (Lit.int .u8 a).wf = true) : 0 ≤ a ∧ a < 256 := by
  have h2 : decide (IntKind.u8.min ≤ a) && decide (a ≤ IntKind.u8.max) := by simpa [Lit.wf] using h
  have e1 : IntKind.u8.min = 0 := rfl
  have e2 : IntKind.u8.max = 255 := rfl
  rw [e1, e2] at h2
  simp at h2
  omega
theorem u32_range {a : Int} (h : (Lit.int .u32 a).wf = true) : 0 ≤ a ∧ a < 4294967296 := by
  have h2 : decide (IntKind.u32.min ≤ a) && decide (a ≤ IntKind.u32.max) := by simpa [Lit.wf] using h
  have e1 : IntKind.u32.min = 0 := rfl
  have e2 : IntKind.u32.max = 4294967295 := rfl
  rw [e1, e2] at h2
  simp at h2
  omega
theorem w64 {n : Int} (h0 : -9223372036854775808 ≤ n) (h1 : n ≤ 9223372036854775807) : wrap64 n = n := by
  unfold wrap64
  omega
theorem tmod_ {a b : Int} (h : 0 ≤ a) : Int.tmod a b = a % b := Int.tmod_eq_emod_of_nonneg h
theorem rd_get {l : List Int} {i : Nat} (h : i < l.length) : rd l (i : Int) = l[i] := by simp [rd, List.getD_eq_getElem?_getD, h]

theorem head_true : ropeladderlaw02_head.f 10 = some true := by decide +kernel
theorem head_ev : Ev (fun k => ropeladderlaw02_head.f k) true := Ev.of ropeladderlaw02_head.mono head_true

theorem same_from (a b : List Int) (hab : a.length = b.length) (ha : a.length ≤ 1000000) : ∀ d i, a.length - i = d → i ≤ a.length → (∀ j, j < i → a[j]? = b[j]?) → Ev (fun k => ropeladderref02_Same.l0 k a b (i : Int)) (decide (a = b)) := by
  intro d
  induction d with
  | zero =>
    intro i hd hi hj
    have e : a = b := by
      apply List.ext_getElem?
      intro j
      rcases Nat.lt_or_ge j i with h | h
      · exact hj j h
      · rw [List.getElem?_eq_none (by omega), List.getElem?_eq_none (by omega)]
    refine Ev.step (f := fun _ => some (decide (a = b))) (fun k => ?_) (Ev.now _)
    simp only [ropeladderref02_Same.l0]
    rw [if_neg (by omega), decide_eq_true e]
  | succ d ih =>
    intro i hd hi hj
    have h1 : i < a.length := by omega
    have h2 : i < b.length := by omega
    by_cases e : a[i] = b[i]
    · refine Ev.step (f := fun k => ropeladderref02_Same.l0 k a b ((i + 1 : Nat) : Int)) (fun k => ?_) (ih (i + 1) (by omega) (by omega) (fun j hj2 => ?_))
      · simp only [ropeladderref02_Same.l0]
        rw [if_pos (by omega), if_pos (by omega), if_pos (by omega), rd_get h1, rd_get h2, if_pos e, w64 (by omega) (by omega)]
        rfl
      · rcases Nat.lt_or_ge j i with h | h
        · exact hj j h
        · obtain rfl : j = i := by omega
          rw [List.getElem?_eq_getElem h1, List.getElem?_eq_getElem h2, e]
    · have hne : ¬ a = b := fun h => by subst h; exact e rfl
      refine Ev.step (f := fun _ => some (decide (a = b))) (fun k => ?_) (Ev.now _)
      simp only [ropeladderref02_Same.l0]
      rw [if_pos (by omega), if_pos (by omega), if_pos (by omega), rd_get h1, rd_get h2, if_neg e, decide_eq_false hne]
theorem same_ev (a b : List Int) (ha : a.length ≤ 1000000) : Ev (fun k => ropeladderref02_Same.f k a b) (decide (a = b)) := by
  unfold ropeladderref02_Same.f
  by_cases h : a.length = b.length
  · refine Ev.congr (f := fun k => ropeladderref02_Same.l0 k a b ((0 : Nat) : Int)) (fun k => by rw [if_pos (by omega)]; rfl) (same_from a b h ha a.length 0 (by omega) (by omega) (fun j hj => absurd hj (by omega)))
  · have hne : ¬ a = b := fun e => by subst e; exact h rfl
    refine Ev.congr (f := fun _ => some (decide (a = b))) (fun k => by rw [if_neg (by omega), decide_eq_false hne]) (Ev.now _)

theorem threads_is {a : Int} (h : (Lit.int .u8 a).wf = true) : ∃ n : Nat, ropeladderlaw02_Threads.f a = some (n : Int) ∧ 1 ≤ n ∧ n ≤ 8 := by
  have h := u8_range h
  refine ⟨(a % 8 + 1).toNat, ?_, by omega, by omega⟩
  unfold ropeladderlaw02_Threads.f
  rw [w64 (n := a) (by omega) (by omega), tmod_ h.1, w64 (by omega) (by omega)]
  congr 1
  omega

/-- The picks out of raw numbers. -/
def picks (l : List Int) (n : Nat) : List Int := l.map (· % (n : Int))
theorem picks_range (l : List Int) (n : Nat) (hn : 1 ≤ n) : ∀ p ∈ picks l n, 0 ≤ p ∧ p < n := by
  intro p hp
  obtain ⟨x, _, rfl⟩ := List.mem_map.1 hp
  exact ⟨Int.emod_nonneg _ (by omega), Int.emod_lt_of_pos _ (by omega)⟩
theorem picks_length (l : List Int) (n : Nat) : (picks l n).length = l.length := by simp [picks]
theorem picks_ev (l : List Int) (n : Nat) (hn : 1 ≤ n) (hl : l.length ≤ 100000) (hw : ∀ x ∈ l, (Lit.int .u8 x).wf = true) : Ev (fun k => ropeladderlaw02_Picks.f k l (n : Int)) (picks l n) := by
  have gen : ∀ d i, l.length - i = d → i ≤ l.length → Ev (fun k => ropeladderlaw02_Picks.l0 k l (n : Int) (picks (l.take i) n) (i : Int)) (picks l n) := by
    intro d
    induction d with
    | zero =>
      intro i hd hi
      refine Ev.step (f := fun _ => some (picks l n)) (fun k => ?_) (Ev.now _)
      simp only [ropeladderlaw02_Picks.l0]
      rw [if_neg (by omega), List.take_of_length_le (by omega)]
    | succ d ih =>
      intro i hd hi
      have h1 : i < l.length := by omega
      have hx := u8_range (hw l[i] (List.getElem_mem _))
      refine Ev.step (f := fun k => ropeladderlaw02_Picks.l0 k l (n : Int) (picks (l.take (i + 1)) n) ((i + 1 : Nat) : Int)) (fun k => ?_) (ih (i + 1) (by omega) (by omega))
      simp only [ropeladderlaw02_Picks.l0]
      rw [if_pos (by omega), if_pos (by omega), if_neg (by omega), if_pos (by rw [picks_length, List.length_take]; omega), rd_get h1, w64 (n := l[i]) (by omega) (by omega), tmod_ hx.1, w64 (n := (i : Int) + 1) (by omega) (by omega)]
      have e : picks (l.take i) n ++ [l[i] % (n : Int)] = picks (l.take (i + 1)) n := by
        rw [List.take_succ_eq_append_getElem h1]
        unfold picks
        rw [List.map_append]
        rfl
      rw [e]
      rfl
  exact gen l.length 0 (by omega) (by omega)

theorem robin_ev (f : Int) (n c : Nat) (hf : 0 ≤ f ∧ f < n) (hn : 1 ≤ n) (hn8 : n ≤ 100000) (hc : c ≤ 100000) : Ev (fun k => sched_RoundRobin.f k f (n : Int) (c : Int)) (robin f n c) := by
  have gen : ∀ d i, c - i = d → i ≤ c → Ev (fun k => sched_RoundRobin.l0 k f (n : Int) (robin f n i ++ List.replicate (c - i) 0) (c : Int) (i : Int)) (robin f n c) := by
    intro d
    induction d with
    | zero =>
      intro i hd hi
      obtain rfl : i = c := by omega
      refine Ev.step (f := fun _ => some (robin f n i)) (fun k => ?_) (Ev.now _)
      simp only [sched_RoundRobin.l0]
      rw [if_neg (by omega)]
      simp
    | succ d ih =>
      intro i hd hi
      refine Ev.step (f := fun k => sched_RoundRobin.l0 k f (n : Int) (robin f n (i + 1) ++ List.replicate (c - (i + 1)) 0) (c : Int) ((i + 1 : Nat) : Int)) (fun k => ?_) (ih (i + 1) (by omega) (by omega))
      simp only [sched_RoundRobin.l0]
      have hlen : (robin f n i ++ List.replicate (c - i) 0).length = c := by simp [robin_length]; omega
      rw [if_pos (by omega), if_neg (by omega), if_pos (by omega), if_pos (by omega), w64 (n := f + (i : Int)) (by omega) (by omega), tmod_ (by omega), w64 (n := (i : Int) + 1) (by omega) (by omega)]
      have e : (robin f n i ++ List.replicate (c - i) 0).set (i : Int).toNat ((f + (i : Int)) % (n : Int)) = robin f n (i + 1) ++ List.replicate (c - (i + 1)) 0 := by
        rw [Int.toNat_natCast, List.set_append_right _ _ (by rw [robin_length]; omega), robin_length, Nat.sub_self, show c - i = (c - (i + 1)) + 1 by omega, List.replicate_succ]
        simp [robin, List.range_succ]
      rw [e]
      rfl
  have h0 := gen c 0 (by omega) (by omega)
  refine Ev.congr (fun k => ?_) h0
  unfold sched_RoundRobin.f
  rw [if_pos (by omega), if_pos (by omega)]
  simp [robin]
end Go.Proofs.Ytngofgblhblfkaa.PureM
