/- Random, RoundRobin, Fair and Repair answer as the reference does, for all arguments in the stated ranges. No condition. -/
import Derived.Test.YtngofgblhblfkaaPMx4
import Derived.Test.YtngofgblhblfkaaPlainCM
namespace Go.Proofs.Ytngofgblhblfkaa.Pure
open Go.RowKit Go.Proofs.Ytngofgblhblfkaa.PM Go.Proofs.Ytngofgblhblfkaa.Hand Go.Proofs.Ytngofgblhblfkaa.PureM Go.Proofs.YtngofgblhblfkaaW.PrintWords Go.Proofs.YtngofgblhblfkaaW.PrintLast Go.Proofs.YtngofgblhblfkaaW.PrintMore

theorem ref_random_ev (s : Int) (n c : Nat) (hn : 1 ≤ n) (hc : c ≤ 100000) : Ev (fun k => ropeladderref02_Random.f k s (n : Int) (c : Int)) (rndList s n c) := by
  have gen : ∀ d i, c - i = d → i ≤ c → Ev (fun k => ropeladderref02_Random.l0 k (n : Int) (c : Int) (lcgN s i) (rndList s n i) (i : Int)) (rndList s n c) := by
    intro d
    induction d with
    | zero =>
      intro i hd hi
      obtain rfl : i = c := by omega
      refine Ev.step (f := fun _ => some (rndList s n i)) (fun k => ?_) (Ev.now _)
      simp only [ropeladderref02_Random.l0]
      rw [if_neg (by omega)]
    | succ d ih =>
      intro i hd hi
      refine Ev.step (fun k => ?_) (ih (i + 1) (by omega) (by omega))
      have e1 : (1664525 * lcgN s i + 1013904223) % 4294967296 = lcgN s (i + 1) := by show _ = lcg (lcgN s i); unfold lcg; rw [Int.mul_comm]
      have e2 : rndList s n i ++ [lcgN s (i + 1) / 65536 % (n : Int)] = rndList s n (i + 1) := by simp [rndList, List.range_succ, rndAt]
      simp only [ropeladderref02_Random.l0]
      rw [if_pos (by omega), if_neg (by omega), if_pos (by rw [rndList_length]; omega), w64 (by omega) (by omega), e1, e2]
      rfl
  exact gen c 0 (by omega) (by omega)
theorem ref_robin_ev (f : Int) (n c : Nat) (hf : 0 ≤ f ∧ f < n) (hn : 1 ≤ n) (hn8 : n ≤ 100000) (hc : c ≤ 100000) : Ev (fun k => ropeladderref02_RoundRobin.f k f (n : Int) (c : Int)) (robin f n c) := by
  have gen : ∀ d i, c - i = d → i ≤ c → Ev (fun k => ropeladderref02_RoundRobin.l0 k f (n : Int) (c : Int) (robin f n i) (i : Int)) (robin f n c) := by
    intro d
    induction d with
    | zero =>
      intro i hd hi
      obtain rfl : i = c := by omega
      refine Ev.step (f := fun _ => some (robin f n i)) (fun k => ?_) (Ev.now _)
      simp only [ropeladderref02_RoundRobin.l0]
      rw [if_neg (by omega)]
    | succ d ih =>
      intro i hd hi
      refine Ev.step (fun k => ?_) (ih (i + 1) (by omega) (by omega))
      have e2 : robin f n i ++ [(f + (i : Int)) % (n : Int)] = robin f n (i + 1) := by simp [robin, List.range_succ]
      simp only [ropeladderref02_RoundRobin.l0]
      rw [if_pos (by omega), if_neg (by omega), if_pos (by rw [robin_length]; omega), w64 (n := f + (i : Int)) (by omega) (by omega), tmod_ (by omega), w64 (by omega) (by omega), e2]
      rfl
  exact gen c 0 (by omega) (by omega)

/-- The reference's search: the first of the oldest among the first t threads; is one due? -/
def oldAt (a : List Int) : Nat → Nat
  | 0 => 0
  | t + 1 => if a.getD t 0 > a.getD (oldAt a t) 0 then t else oldAt a t
def dueAt (a : List Int) (d : Int) (t : Nat) : Bool := (a.take t).any fun x => decide (x ≥ d)
theorem oldAt_lt (a : List Int) : ∀ t, oldAt a t ≤ t
  | 0 => Nat.le_refl _
  | t + 1 => by have := oldAt_lt a t; unfold oldAt; split <;> omega
theorem oldAt_lt' (a : List Int) : ∀ t, 1 ≤ t → oldAt a t < t
  | 0, h => by omega
  | 1, _ => by unfold oldAt; simp [oldAt]
  | t + 2, _ => by have := oldAt_lt' a (t + 1) (by omega); rw [oldAt]; split <;> omega
theorem oldAt_max (a : List Int) : ∀ t, (∀ j, j < t → a.getD j 0 ≤ a.getD (oldAt a t) 0) ∧ (∀ j, j < oldAt a t → a.getD j 0 < a.getD (oldAt a t) 0)
  | 0 => ⟨fun j h => absurd h (by omega), fun j h => absurd h (by simp [oldAt])⟩
  | t + 1 => by
    have ih := oldAt_max a t
    have hle := oldAt_lt a t
    rw [show oldAt a (t + 1) = if a.getD t 0 > a.getD (oldAt a t) 0 then t else oldAt a t from rfl]
    by_cases c : a.getD t 0 > a.getD (oldAt a t) 0
    · rw [if_pos c]
      refine ⟨fun j hj => ?_, fun j hj => ?_⟩
      · by_cases e : j = t
        · subst e; omega
        · have := ih.1 j (by omega); omega
      · have := ih.1 j hj; omega
    · rw [if_neg c]
      refine ⟨fun j hj => ?_, ih.2⟩
      by_cases e : j = t
      · subst e; omega
      · exact ih.1 j (by omega)
theorem getD_of (a : List Int) {i : Nat} (h : i < a.length) : a.getD i 0 = a[i] := by simp [List.getD_eq_getElem?_getD, h]
theorem oldAt_idx (a : List Int) (h : 1 ≤ a.length) : oldAt a a.length = a.idxOf (lmax a) := by
  have hlt := oldAt_lt' a a.length h
  have hm := oldAt_max a a.length
  have hne : a ≠ [] := by intro e; rw [e] at h; simp at h
  have hv : a[oldAt a a.length]'hlt = lmax a := by
    have h1 := lmax_ge a _ (List.getElem_mem hlt)
    obtain ⟨j, hj, e⟩ := List.mem_iff_getElem.1 (lmax_mem a hne)
    have h2 := hm.1 j hj
    rw [getD_of a hj, getD_of a hlt] at h2
    omega
  symm
  unfold List.idxOf
  rw [List.findIdx_eq hlt]
  refine ⟨by simp [hv], fun j hj => ?_⟩
  have hjl : j < a.length := by omega
  have h3 := hm.2 j hj
  rw [getD_of a hjl, getD_of a hlt, hv] at h3
  simp
  omega
theorem due_lmax (a : List Int) (d : Int) (h : 1 ≤ a.length) : dueAt a d a.length = decide (lmax a ≥ d) := by
  have hne : a ≠ [] := by intro e; rw [e] at h; simp at h
  unfold dueAt
  rw [List.take_of_length_le (Nat.le_refl _), Bool.eq_iff_iff, List.any_eq_true, decide_eq_true_eq]
  refine ⟨fun ⟨x, hx, hd⟩ => ?_, fun hd => ⟨_, lmax_mem a hne, decide_eq_true hd⟩⟩
  have := lmax_ge a x hx
  have := of_decide_eq_true hd
  omega
theorem due_succ (a : List Int) (d : Int) (t : Nat) (h : t < a.length) : dueAt a d (t + 1) = (dueAt a d t || decide (a[t] ≥ d)) := by
  unfold dueAt
  rw [List.take_succ_eq_append_getElem h, List.any_append]
  simp

section
variable (l : List Int) (n : Nat) (w : Int) (hl : l.length ≤ 1000) (hn : 1 ≤ n) (hn8 : n ≤ 64) (hw : 0 ≤ w) (hw2 : w ≤ 1000)
include hl hn hn8 hw hw2
theorem rr_l3 (r : List Int) (out : List Int) (i : Nat) (g : Int) (a : List Int) (ha : a.length = n) (hi : i < l.length) (ho : out.length = i) (hg : 0 ≤ g ∧ g < n) (hb : ∀ x ∈ a, 0 ≤ x ∧ x ≤ (i : Int))
    (next : Ev (fun k => ropeladderref02_Repair.l1 k l (n : Int) w (aged a g) (out ++ [g]) ((i + 1 : Nat) : Int)) r) :
    ∀ d t, n - t = d → t ≤ n → Ev (fun k => ropeladderref02_Repair.l3 k l (n : Int) w (grown a t) out (i : Int) g (t : Int)) r := by
  have _u := hw
  have _v := hw2
  intro d
  induction d with
  | zero =>
    intro t hd ht
    obtain rfl : t = n := by omega
    have hgl := grown_length a t
    refine Ev.step (fun k => ?_) next
    simp only [ropeladderref02_Repair.l3]
    rw [if_neg (by omega), if_pos hg.1, if_pos (by omega), if_pos (by omega), w64 (by omega) (by omega), grown_all a (by omega)]
    rfl
  | succ d ih =>
    intro t hd ht
    have h1 : t < a.length := by omega
    have hgl := grown_length a t
    have hbt := hb a[t] (List.getElem_mem _)
    refine Ev.step (fun k => ?_) (ih (t + 1) (by omega) (by omega))
    simp only [ropeladderref02_Repair.l3]
    rw [if_pos (by omega), if_pos (by omega), if_pos (by omega), grown_rd a h1, w64 (n := a[t] + 1) (by omega) (by omega), w64 (by omega) (by omega), Int.toNat_natCast, grown_step a h1]
    rfl
theorem rr_l2 (r : List Int) (out : List Int) (i : Nat) (a : List Int) (ha : a.length = n) (hi : i < l.length) (ho : out.length = i) (hp : 0 ≤ l[i] ∧ l[i] < n) (hb : ∀ x ∈ a, 0 ≤ x ∧ x ≤ (i : Int))
    (next : Ev (fun k => ropeladderref02_Repair.l1 k l (n : Int) w (aged a (pickOf (w - n) a l[i])) (out ++ [pickOf (w - n) a l[i]]) ((i + 1 : Nat) : Int)) r) :
    ∀ d t, n - t = d → t ≤ n → Ev (fun k => ropeladderref02_Repair.l2 k l (n : Int) w a out (i : Int) l[i] (oldAt a t : Int) (dueAt a (w - n) t) (t : Int)) r := by
  intro d
  induction d with
  | zero =>
    intro t hd ht
    obtain rfl : t = n := by omega
    have hne : a ≠ [] := by intro he; rw [he] at ha; simp at ha; omega
    have hpr := pickOf_range (d := w - t) (ages := a) (p := l[i]) hne (by rw [ha]; exact hp)
    rw [ha] at hpr
    have h3 := rr_l3 l t w hl hn hn8 hw hw2 r out i (pickOf (w - t) a l[i]) a ha hi ho hpr hb next t 0 (by omega) (by omega)
    rw [grown_zero] at h3
    have h4 : Ev (fun k => ropeladderref02_Repair.j3 k l (t : Int) w a out (i : Int) (pickOf (w - t) a l[i])) r := Ev.step (fun k => by simp only [ropeladderref02_Repair.j3]; rfl) h3
    refine Ev.step (fun k => ?_) h4
    simp only [ropeladderref02_Repair.l2]
    rw [if_neg (by omega)]
    have e1 := oldAt_idx a (by omega)
    have e2 := due_lmax a (w - t) (by omega)
    rw [ha] at e1 e2
    rw [e2]
    unfold pickOf
    by_cases c : lmax a ≥ w - t
    · rw [if_pos c, if_pos (decide_eq_true c), e1]
    · rw [if_neg c, if_neg (by simp; omega)]
  | succ d ih =>
    intro t hd ht
    have h1 : t < a.length := by omega
    have hbt := hb a[t] (List.getElem_mem _)
    have hol := oldAt_lt a t
    refine Ev.step (fun k => ?_) (ih (t + 1) (by omega) (by omega))
    have ho1 : oldAt a (t + 1) = if a.getD t 0 > a.getD (oldAt a t) 0 then t else oldAt a t := rfl
    have h2 : oldAt a t < a.length := by omega
    rw [getD_of a h1, getD_of a h2] at ho1
    rw [due_succ a (w - n) t h1]
    simp only [ropeladderref02_Repair.l2]
    rw [if_pos (by omega), if_pos (by omega), if_pos (by omega), if_pos (by omega), if_pos (by omega), rd_get h1, rd_get h2, w64 (n := w - (n : Int)) (by omega) (by omega), w64 (n := (t : Int) + 1) (by omega) (by omega)]
    by_cases c : a[t] > a[oldAt a t]
    · rw [if_pos c] at ho1 ⊢
      rw [ho1]
      by_cases c2 : a[t] ≥ w - n
      · rw [if_pos c2, decide_eq_true c2, Bool.or_true]; rfl
      · rw [if_neg c2, decide_eq_false c2, Bool.or_false]; rfl
    · rw [if_neg c] at ho1 ⊢
      rw [ho1]
      by_cases c2 : a[t] ≥ w - n
      · rw [if_pos c2, decide_eq_true c2, Bool.or_true]; rfl
      · rw [if_neg c2, decide_eq_false c2, Bool.or_false]; rfl
theorem rr_l1 (hp : ∀ p ∈ l, 0 ≤ p ∧ p < (n : Int)) : ∀ d i (a out : List Int), l.length - i = d → i ≤ l.length → a.length = n → out.length = i → (∀ x ∈ a, 0 ≤ x ∧ x ≤ (i : Int)) →
    Ev (fun k => ropeladderref02_Repair.l1 k l (n : Int) w a out (i : Int)) (out ++ repGo (w - n) a (l.drop i)) := by
  intro d
  induction d with
  | zero =>
    intro i a out hd hi ha ho hb
    rw [List.drop_eq_nil_of_le (by omega)]
    refine Ev.step (f := fun _ => some (out ++ repGo (w - n) a [])) (fun k => ?_) (Ev.now _)
    simp only [ropeladderref02_Repair.l1]
    rw [if_neg (by omega)]
    simp [repGo]
  | succ d ih =>
    intro i a out hd hi ha ho hb
    have h1 : i < l.length := by omega
    rw [List.drop_eq_getElem_cons h1]
    have h2 := ih (i + 1) (aged a (pickOf (w - n) a l[i])) (out ++ [pickOf (w - n) a l[i]]) (by omega) (by omega) (by rw [aged_length, ha]) (by simp [ho]) (aged_bound hb)
    rw [List.append_assoc] at h2
    have h3 := rr_l2 l n w hl hn hn8 hw hw2 _ out i a ha h1 ho (hp _ (List.getElem_mem _)) hb h2 n 0 (by omega) (by omega)
    refine Ev.step (fun k => ?_) h3
    simp only [ropeladderref02_Repair.l1]
    rw [if_pos (by omega), if_pos (by omega), rd_get h1]
    simp [oldAt, dueAt]
theorem rr_l0 (hp : ∀ p ∈ l, 0 ≤ p ∧ p < (n : Int)) : ∀ d i, n - i = d → i ≤ n → Ev (fun k => ropeladderref02_Repair.l0 k l (n : Int) w (List.replicate i 0) (i : Int)) (repGo (w - n) (List.replicate n 0) l) := by
  intro d
  induction d with
  | zero =>
    intro i hd hi
    obtain rfl : i = n := by omega
    have h := rr_l1 l i w hl hn hn8 hw hw2 hp l.length 0 (List.replicate i 0) [] (by omega) (by omega) (by simp) (by simp) (fun x hx => by have := List.eq_of_mem_replicate hx; omega)
    rw [List.drop_zero, List.nil_append] at h
    refine Ev.step (fun k => ?_) h
    simp only [ropeladderref02_Repair.l0]
    rw [if_neg (by omega)]
    rfl
  | succ d ih =>
    intro i hd hi
    refine Ev.step (fun k => ?_) (ih (i + 1) (by omega) (by omega))
    simp only [ropeladderref02_Repair.l0]
    rw [if_pos (by omega), if_pos (by simp; omega), w64 (by omega) (by omega), ← List.replicate_succ']
    rfl
theorem ref_repair_ev (hp : ∀ p ∈ l, 0 ≤ p ∧ p < (n : Int)) : Ev (fun k => ropeladderref02_Repair.f k l (n : Int) w) (repGo (w - n) (List.replicate n 0) l) := by
  have h := rr_l0 l n w hl hn hn8 hw hw2 hp n 0 (by omega) (by omega)
  refine Ev.congr (fun k => ?_) h
  unfold ropeladderref02_Repair.f
  rw [if_pos (by omega)]
  rfl
end

theorem SchedMatchesReference : ropeladderlaw02_SchedMatchesReference.Pure := by
  intro a0 a1 a2 l a4 w0 w1 w2 _ _ hw w4
  obtain ⟨n, hn, n1, n8⟩ := threads_is w1
  have r0 := u32_range w0
  have r2 := u8_range w2
  have r4 := u8_range w4
  refine Ev.rounds (g := fun k => ropeladderlaw02_SchedMatchesReference.f k a0 a1 a2 l a4) ?_
  unfold ropeladderlaw02_SchedMatchesReference.f
  refine Ev.bind head_ev ?_
  by_cases hl : (l.length : Int) > 500
  · simp only [if_pos hl]
    exact Ev.now _
  · simp only [if_neg hl, hn, Option.bind_some, if_true]
    refine Ev.bind (picks_ev l n n1 (by omega) hw) ?_
    obtain ⟨c, rfl⟩ : ∃ c : Nat, a2 = c := ⟨a2.toNat, by omega⟩
    rw [w64 (n := (c : Int)) (by omega) (by omega), w64 (n := a4) (by omega) (by omega), tmod_ r4.1, w64 (n := a4 % 30 + 1) (by omega) (by omega), w64 (n := a0) (by omega) (by omega), tmod_ r0.1]
    obtain ⟨w, hww⟩ : ∃ w : Nat, a4 % 30 + 1 = w := ⟨(a4 % 30 + 1).toNat, by omega⟩
    rw [hww, w64 (n := (n : Int) + w) (by omega) (by omega), w64 (n := (n : Int) + w - 1) (by omega) (by omega)]
    have hw1 : 1 ≤ w := by omega
    have hw30 : w ≤ 30 := by omega
    clear hww
    have hpl := picks_length l n
    have hpr := picks_range l n n1
    generalize picks l n = p at *
    have hf : sched_Random.f a0 (n : Int) (c : Int) = some (rndList a0 n c) := by
      unfold sched_Random.f
      rw [if_pos ⟨by omega, by omega, by omega, by omega, by omega, by omega⟩, Int.toNat_natCast]
    have hF : sched_Fair.f p (n : Int) (w : Int) = some (fair p n w) := by
      unfold sched_Fair.f
      rw [if_pos ⟨by omega, by omega, by omega, by omega, by omega⟩, Int.toNat_natCast, Int.toNat_natCast]
    have hR : sched_Repair.f p (n : Int) ((n : Int) + w - 1) = some (repGo ((n : Int) + w - 1 - n) (List.replicate n 0) p) := by
      unfold sched_Repair.f
      rw [if_pos ⟨by omega, by omega, by omega, by omega, by omega, hpr⟩, Int.toNat_natCast]
    have f0 : 0 ≤ a0 % (n : Int) := Int.emod_nonneg _ (by omega)
    have f1 : a0 % (n : Int) < n := Int.emod_lt_of_pos _ (by omega)
    simp only [hf, hF, hR, Option.bind_some]
    refine Ev.bind (ref_random_ev a0 n c n1 (by omega)) ?_
    refine Ev.bind (same_ev _ _ (by rw [rndList_length]; omega)) ?_
    simp only [decide_true, if_true, if_neg (show ¬ (n : Int) = 0 by omega)]
    refine Ev.bind (robin_ev _ _ _ ⟨f0, f1⟩ n1 (by omega) (by omega)) ?_
    refine Ev.bind (ref_robin_ev _ _ _ ⟨f0, f1⟩ n1 (by omega) (by omega)) ?_
    refine Ev.bind (same_ev _ _ (by rw [robin_length]; omega)) ?_
    simp only [decide_true, if_true]
    refine Ev.bind (ref_fair_ev p n w (by omega) (by omega) hw1 (by omega)) ?_
    simp only [beq_self_eq_true, if_true]
    refine Ev.bind (ref_repair_ev p n ((n : Int) + w - 1) (by omega) n1 (by omega) (by omega) (by omega) hpr) ?_
    refine Ev.bind (same_ev _ _ (by rw [repGo_length]; omega)) ?_
    simp only [decide_true]
    exact Ev.now _
end Go.Proofs.Ytngofgblhblfkaa.Pure
