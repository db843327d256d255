/- The reference memory's Do over the program's own state; New at all sizes; Same at equal logs; the two memories side by side; four words, four mutexes, the counts at most 1000000. -/
import Derived.Test.YtfkoehokjpcogaaRefD
import Derived.Test.YtfkoehokjpcogaaRefF
namespace Go.Proofs.Ytfkoehokjpcogaa.Hand
open Go.RowKit Go.Proofs.YtfkoehokjpcogaaW.PrintWords Go.Proofs.YtfkoehokjpcogaaW.PrintLast Go.Proofs.YtfkoehokjpcogaaW.PrintMore
set_option linter.unusedVariables false
set_option linter.unusedSimpArgs false

def holdOf (m : Mut) : Int := if m.held = true then m.th else -1
def holdsOf (ms : List Mut) : List Int := ms.map holdOf
/-- A held mutex is held by a thread. -/
def St.Ok (s : St) : Prop := ∀ i : Nat, i < s.ms.length → (rdM s.ms i).held = true → 0 ≤ (rdM s.ms i).th
theorem rd_holds {ms : List Mut} {i : Int} (h0 : 0 ≤ i) (h1 : i < ms.length) : rd (holdsOf ms) i = holdOf (rdM ms i) := by
  unfold holdsOf rdM rd
  simp only [List.getD_eq_getElem?_getD, List.getElem?_map]
  have e : i.toNat < ms.length := by omega
  rw [List.getElem?_eq_getElem e]
  rfl
theorem holds_len (ms : List Mut) : (holdsOf ms).length = ms.length := List.length_map _
theorem holds_set (ms : List Mut) (n : Nat) (m : Mut) : holdsOf (ms.set n m) = (holdsOf ms).set n (holdOf m) := List.map_set

abbrev RIs (W : World) (base rb rw rm : Nat) (s : St) : Prop := RefIs W base rb rw rm s.log s.V s.ws (holdsOf s.ms)
abbrev RL (W w : World) (base rb rw rm : Nat) (s : St) : Prop := RLeft W w base rb rw rm s.log s.V s.ws (holdsOf s.ms)

section
variable {W W' : World} {base rb rw rm : Nat} {s s' : St}
theorem ok_set {s : St} (h : s.Ok) {n : Nat} {m : Mut} (hm : m.held = true → 0 ≤ m.th) {log : List Acc} {V : Int} {ws : List Int} : (⟨log, V, ws, s.ms.set n m⟩ : St).Ok := by
  intro i hi hd
  simp only [rdM, List.getD_eq_getElem?_getD, List.length_set, Int.toNat_natCast] at hi hd ⊢
  rw [List.getElem?_set] at hd ⊢
  by_cases e : n = i
  · rw [if_pos e] at hd ⊢
    subst e
    rw [if_pos hi] at hd ⊢
    exact hm hd
  · rw [if_neg e] at hd ⊢
    have := h i hi
    simp only [rdM, List.getD_eq_getElem?_getD, Int.toNat_natCast] at this
    exact this hd
theorem run1_ok {s : St} (h : s.Ok) {o : OpV} (ht : 0 ≤ o.th) : (s.run1 o).1.Ok := by
  unfold St.run1 St.load St.add St.cas St.store St.tryLock St.unlock St.touch St.upd
  (repeat' split) <;> first | exact h | exact ok_set h (fun _ => ht) | exact ok_set h (fun e => by cases e)

theorem refDo (h : RIs W base rb rw rm s) {k : Nat} (hi : s.In k) (hk : k ≤ 1000000) (ho : s.Ok) (kd th ix a b : Int) (k1 : 1 ≤ kd) (k7 : kd ≤ 7) (ht : 0 ≤ th) {n : Int} {ok : Bool} (e : s.run1 ⟨kd, th, ix, a, b⟩ = (s', n, ok)) :
    Calls Try.prog 14 #[.pointer (some ⟨rb, 0, none⟩), .agg #[.int .i64 kd, .int .i64 th, .int .i64 ix, .int .i64 a, .int .i64 b]] W fun e w' =>
      e = .returned (.tuple #[.int .i64 n, .bool ok]) ∧ RL W w' base rb rw rm s' := by
  obtain ⟨hw, hm, hl, hv0, hv1⟩ := hi
  have h4 : (holdsOf s.ms).length = 4 := by rw [holds_len, hm]
  have hl' : s.log.length ≤ 1000000 := by omega
  have hv' : s.V ≤ 1000000 := by omega
  by_cases h0 : 0 ≤ ix
  · by_cases h1 : ix < 4
    · have iw : inL s.ws ix := by rw [inL, hw]; omega
      have im : inL s.ms ix := by rw [inL, hm]; omega
      have er := rd_holds (ms := s.ms) h0 (by rw [hm]; omega)
      have hok := ho ix.toNat (by omega)
      rw [Int.toNat_of_nonneg h0] at hok
      obtain rfl | rfl | rfl | rfl | rfl | rfl | rfl : kd = 1 ∨ kd = 2 ∨ kd = 3 ∨ kd = 4 ∨ kd = 5 ∨ kd = 6 ∨ kd = 7 := by omega
      all_goals simp [St.run1] at e
      all_goals obtain ⟨rfl, rfl, rfl⟩ := e
      · unfold St.load; rw [if_pos iw]
        exact do1 h hw hl' th ix a b _ h0 h1 rfl
      · unfold St.add; rw [if_pos iw]
        exact do2 h hw hl' th ix a b _ h0 h1 rfl
      · unfold St.cas; rw [if_pos iw]
        by_cases hv : rd s.ws ix = a
        · rw [if_pos hv]
          exact do3_yes h hw hl' th ix a b _ h0 h1 rfl hv
        · rw [if_neg hv]
          exact do3_no h hw hl' th ix a b _ h0 h1 rfl hv
      · unfold St.store; rw [if_pos iw]
        exact do4 h hw hl' th ix a b _ h0 h1 rfl
      · unfold St.tryLock; rw [if_pos im]
        cases hh : (rdM s.ms ix).held
        · simp only [Bool.false_eq_true, if_false]
          refine do_mut h 5 th ix a b (by omega) (fun W1 h1' => ?_)
          have := mut5_yes h1' h4 hl' th ix a b h0 h1 (by rw [er]; simp [holdOf, hh])
          simpa only [holds_set, holdOf, if_true] using this
        · simp only [if_true]
          refine do_mut h 5 th ix a b (by omega) (fun W1 h1' => ?_)
          exact mut5_no h1' h4 hl' th ix a b h0 h1 (by rw [er]; simp [holdOf, hh]; have := hok hh; omega)
      · unfold St.unlock; rw [if_pos im]
        cases hh : (rdM s.ms ix).held
        · simp only [Bool.false_eq_true, false_and, if_false]
          refine do_mut h 6 th ix a b (by omega) (fun W1 h1' => ?_)
          exact mut6_free h1' h4 hl' hv0 hv' th ix a b h0 h1 (by rw [er]; simp [holdOf, hh])
        · by_cases hth : (rdM s.ms ix).th = th
          · rw [if_pos ⟨rfl, hth⟩]
            refine do_mut h 6 th ix a b (by omega) (fun W1 h1' => ?_)
            have := mut6_yes h1' h4 hl' th ix a b h0 h1 (by rw [er]; simp [holdOf, hh, hth]) ht
            simpa only [holds_set, holdOf, Bool.false_eq_true, if_false] using this
          · rw [if_neg (fun q => hth q.2)]
            refine do_mut h 6 th ix a b (by omega) (fun W1 h1' => ?_)
            exact mut6_no h1' h4 hl' hv0 hv' th ix a b h0 h1 (by rw [er]; simp [holdOf, hh]; have := hok hh; omega) (by rw [er]; simpa [holdOf, hh] using hth)
      · unfold St.touch
        cases hh : (rdM s.ms ix).held
        · rw [if_neg (fun q => by cases q.2.1)]
          refine do_mut h 7 th ix a b (by omega) (fun W1 h1' => ?_)
          exact mut7_free h1' h4 hv0 hv' th ix a b h0 h1 (by rw [er]; simp [holdOf, hh])
        · by_cases hth : (rdM s.ms ix).th = th
          · rw [if_pos ⟨im, rfl, hth⟩]
            refine do_mut h 7 th ix a b (by omega) (fun W1 h1' => ?_)
            exact mut7_yes h1' h4 hv0 hv' th ix a b h0 h1 (by rw [er]; simp [holdOf, hh, hth]) ht
          · rw [if_neg (fun q => hth q.2.2)]
            refine do_mut h 7 th ix a b (by omega) (fun W1 h1' => ?_)
            exact mut7_no h1' h4 hv0 hv' th ix a b h0 h1 (by rw [er]; simp [holdOf, hh]; have := hok hh; omega) (by rw [er]; simpa [holdOf, hh] using hth)
    · have iw : ¬ inL s.ws ix := by rw [inL, hw]; omega
      have im : ¬ inL s.ms ix := by rw [inL, hm]; omega
      obtain rfl | rfl | rfl | rfl | rfl | rfl | rfl : kd = 1 ∨ kd = 2 ∨ kd = 3 ∨ kd = 4 ∨ kd = 5 ∨ kd = 6 ∨ kd = 7 := by omega
      all_goals simp [St.run1] at e
      all_goals obtain ⟨rfl, rfl, rfl⟩ := e
      · unfold St.load; rw [if_neg iw]
        exact do_hi h hw 1 th ix a b (by omega) (by omega) h0 (by omega)
      · unfold St.add; rw [if_neg iw]
        exact do_hi h hw 2 th ix a b (by omega) (by omega) h0 (by omega)
      · unfold St.cas; rw [if_neg iw]
        exact do_hi h hw 3 th ix a b (by omega) (by omega) h0 (by omega)
      · unfold St.store; rw [if_neg iw]
        exact do_hi h hw 4 th ix a b (by omega) (by omega) h0 (by omega)
      · unfold St.tryLock; rw [if_neg im]
        exact do_mut h 5 th ix a b (by omega) (fun W1 h1' => mut5_hi h1' h4 hv0 hv' th ix a b h0 (by omega))
      · unfold St.unlock; rw [if_neg im]
        exact do_mut h 6 th ix a b (by omega) (fun W1 h1' => mut6_hi h1' h4 hv0 hv' th ix a b h0 (by omega))
      · unfold St.touch; rw [if_neg (fun q => im q.1)]
        exact do_mut h 7 th ix a b (by omega) (fun W1 h1' => mut7_hi h1' h4 hv0 hv' th ix a b h0 (by omega))
  · have iw : ¬ inL s.ws ix := by rw [inL, hw]; omega
    have im : ¬ inL s.ms ix := by rw [inL, hm]; omega
    obtain rfl | rfl | rfl | rfl | rfl | rfl | rfl : kd = 1 ∨ kd = 2 ∨ kd = 3 ∨ kd = 4 ∨ kd = 5 ∨ kd = 6 ∨ kd = 7 := by omega
    all_goals simp [St.run1] at e
    all_goals obtain ⟨rfl, rfl, rfl⟩ := e
    · unfold St.load; rw [if_neg iw]
      exact do_lo h hw 1 th ix a b (by omega) (by omega) (by omega)
    · unfold St.add; rw [if_neg iw]
      exact do_lo h hw 2 th ix a b (by omega) (by omega) (by omega)
    · unfold St.cas; rw [if_neg iw]
      exact do_lo h hw 3 th ix a b (by omega) (by omega) (by omega)
    · unfold St.store; rw [if_neg iw]
      exact do_lo h hw 4 th ix a b (by omega) (by omega) (by omega)
    · unfold St.tryLock; rw [if_neg im]
      exact do_mut h 5 th ix a b (by omega) (fun W1 h1' => mut5_lo h1' h4 hv0 hv' th ix a b (by omega))
    · unfold St.unlock; rw [if_neg im]
      exact do_mut h 6 th ix a b (by omega) (fun W1 h1' => mut6_lo h1' h4 hv0 hv' th ix a b (by omega))
    · unfold St.touch; rw [if_neg (fun q => im q.1)]
      exact do_mut h 7 th ix a b (by omega) (fun W1 h1' => mut7_lo h1' h4 hv0 hv' th ix a b (by omega))
end

set_option maxHeartbeats 1000000 in
theorem refNew_no (a b : Int) (W : World) (h : ¬ ((0 ≤ a ∧ a ≤ 256) ∧ (0 ≤ b ∧ b ≤ 256))) :
    Calls Try.prog 11 #[.int .i64 a, .int .i64 b] W fun e w' => e = .returned (.pointer none) ∧ w' = W := by
  by_cases h0 : a < 0
  · have d0 : decide (a < 0) = true := decide_eq_true h0
    clear h
    go_enter Try.func11, Try.ntmps11
    go_wp2
    go_ret
    exact ⟨rfl, rfl⟩
  · have d0 : decide (a < 0) = false := decide_eq_false h0
    by_cases h1 : 256 < a
    · have d1 : decide (256 < a) = true := decide_eq_true h1
      clear h
      go_enter Try.func11, Try.ntmps11
      go_wp2
      go_ret
      exact ⟨rfl, rfl⟩
    · have d1 : decide (256 < a) = false := decide_eq_false h1
      by_cases h2 : b < 0
      · have d2 : decide (b < 0) = true := decide_eq_true h2
        clear h
        go_enter Try.func11, Try.ntmps11
        go_wp2
        go_ret
        exact ⟨rfl, rfl⟩
      · have d2 : decide (b < 0) = false := decide_eq_false h2
        have h3 : 256 < b := by omega
        have d3 : decide (256 < b) = true := decide_eq_true h3
        clear h
        go_enter Try.func11, Try.ntmps11
        go_wp2
        go_ret
        exact ⟨rfl, rfl⟩
end Go.Proofs.Ytfkoehokjpcogaa.Hand
