/- sched.Repair at any picks in range: the call computes repGo; at most 100000 picks, 1 to 64 threads, a window of 0 to 100000. -/
import Derived.Test.YtjheocofbfmopaaRepair
namespace Go.Proofs.Ytjheocofbfmopaa.Sch
open Go.RowKit Go.Proofs.YtjheocofbfmopaaW.PrintWords Go.Proofs.YtjheocofbfmopaaW.PrintLast Go.Proofs.YtjheocofbfmopaaW.PrintMore
attribute [local go_sem] max2_int min2_int max_two min_two max_three min_three max_four min_four

def repOk (l0 : List Int) (a1 a2 : Int) : Prop := 1 ≤ a1 ∧ a1 ≤ 64 ∧ l0.length ≤ 100000 ∧ 0 ≤ a2 ∧ a2 ≤ 100000 ∧ ∀ p ∈ l0, 0 ≤ p ∧ p < a1
instance (l0 : List Int) (a1 a2 : Int) : Decidable (repOk l0 a1 a2) := by unfold repOk; exact inferInstance
def sched_Repair.f (l0 : List Int) (a1 a2 : Int) : Option (List Int) := if repOk l0 a1 a2 then some (repGo (a2 - a1) (List.replicate a1.toNat 0) l0) else none

/-- The state ahead of round k: what is done, the waiting times. -/
structure RepAt (l0 : List Int) (d : Int) (n k : Nat) (res out ages : List Int) : Prop where
  outEq : ∃ done : List Int, done.length = k ∧ out = done ++ l0.drop k ∧ res = done ++ repGo d ages (l0.drop k)
  len : ages.length = n
  bd : ∀ x ∈ ages, 0 ≤ x ∧ x ≤ (k : Int)
theorem RepAt.start (l0 : List Int) (d : Int) (n : Nat) : RepAt l0 d n 0 (repGo d (List.replicate n 0) l0) l0 (List.replicate n 0) :=
  ⟨⟨[], rfl, by simp, by simp⟩, by simp, fun x hx => by have := List.eq_of_mem_replicate hx; omega⟩
theorem RepAt.olen {l0 : List Int} {d : Int} {n k : Nat} {res out ages : List Int} (h : RepAt l0 d n k res out ages) (hk : k ≤ l0.length) : out.length = l0.length := by
  obtain ⟨done, h1, rfl, _⟩ := h.outEq
  simp [h1]; omega
theorem RepAt.rdAt {l0 : List Int} {d : Int} {n k : Nat} {res out ages : List Int} (h : RepAt l0 d n k res out ages) (hk : k < l0.length) : rd out (k : Int) = l0[k] := by
  obtain ⟨done, h1, rfl, _⟩ := h.outEq
  subst h1
  simp [rd, List.getD_eq_getElem?_getD, List.getElem?_append_right, hk]
theorem RepAt.step {l0 : List Int} {d : Int} {n k : Nat} {res out ages : List Int} (h : RepAt l0 d n k res out ages) (hk : k < l0.length) :
    RepAt l0 d n (k + 1) res (out.set k (pickOf d ages l0[k])) (aged ages (pickOf d ages l0[k])) := by
  obtain ⟨⟨done, h1, rfl, h3⟩, h4, h5⟩ := h
  rw [List.drop_eq_getElem_cons hk] at h3 ⊢
  refine ⟨⟨done ++ [pickOf d ages l0[k]], by simp [h1], ?_, ?_⟩, by rw [aged_length, h4], aged_bound h5⟩
  · subst h1
    simp only [List.set_append_right _ _ (Nat.le_refl _), Nat.sub_self, List.append_assoc, List.cons_append, List.nil_append]
    rfl
  · rw [h3]; simp [repGo]
theorem RepAt.same {l0 : List Int} {d : Int} {n k : Nat} {res out ages : List Int} (h : RepAt l0 d n k res out ages) (hk : k < l0.length) : out.set k l0[k] = out := by
  obtain ⟨done, h1, rfl, h3⟩ := h.outEq
  subst h1
  rw [List.set_append_right _ _ (Nat.le_refl _), Nat.sub_self, List.drop_eq_getElem_cons hk]
  rfl
theorem RepAt.fin {l0 : List Int} {d : Int} {n : Nat} {res out ages : List Int} (h : RepAt l0 d n l0.length res out ages) : out = res := by
  obtain ⟨done, h1, rfl, rfl⟩ := h.outEq
  simp [repGo]

theorem max_calls' (A0 : Option Addr) (c0 : Nat) (l0 : List Int) (n : Nat) (w : World) (hn : l0.length = n) (hr0 : Kd.C (Kd.int .i64) w A0 l0.length l0) (hl : n ≤ 17592186044416) (hp : 1 ≤ n) :
    Calls Try.prog 21 #[.slice A0 n c0] w fun e w' => e = .returned (.int .i64 (lmax l0)) ∧ Below w.heap.size w w' := by
  subst hn
  exact (max_calls A0 c0 l0 w hr0 hl hp).mono fun _ _ h => ⟨h.1, h.2.below⟩
theorem index_calls' (A0 : Option Addr) (c0 : Nat) (l0 : List Int) (n : Nat) (q : Int) (w : World) (hn : l0.length = n) (hr0 : Kd.C (Kd.int .i64) w A0 l0.length l0) (hc : n ≤ c0) (hl : n ≤ 100000) (hp : 1 ≤ n) (hq : (l0.idxOf (lmax l0) : Int) = q) :
    Calls Try.prog 22 #[.slice A0 n c0, .int .i64 (lmax l0)] w fun e w' => e = .returned (.int .i64 q) ∧ Below w.heap.size w w' := by
  subst hn
  subst hq
  exact (PI.slices_Index_int_int.calls (l0.length + 1) A0 c0 l0 (lmax l0) _ w hr0 hc (index_some l0 (lmax l0) hl (lmax_mem l0 (by intro h; rw [h] at hp; simp at hp)))).mono fun _ _ h => ⟨h.1, h.2.below⟩
/-- What the inner loop has done behind t rounds. -/
def grown (ages : List Int) (t : Nat) : List Int := (ages.take t).map (· + 1) ++ ages.drop t
theorem grown_zero (ages : List Int) : grown ages 0 = ages := by simp [grown]
theorem grown_all (ages : List Int) {t : Nat} (h : ages.length ≤ t) : grown ages t = ages.map (· + 1) := by
  unfold grown
  rw [List.take_of_length_le h, List.drop_eq_nil_of_le h, List.append_nil]
theorem grown_length (ages : List Int) (t : Nat) : (grown ages t).length = ages.length := by simp [grown]; omega
theorem grown_rd (ages : List Int) {t : Nat} (h : t < ages.length) : rd (grown ages t) (t : Int) = ages[t] := by
  unfold grown rd
  rw [Int.toNat_natCast, List.getD_eq_getElem?_getD, List.getElem?_append_right (by simp; omega)]
  simp [Nat.min_eq_left (Nat.le_of_lt h), h]
theorem grown_step (ages : List Int) {t : Nat} (h : t < ages.length) : (grown ages t).set t (ages[t] + 1) = grown ages (t + 1) := by
  unfold grown
  rw [List.set_append_right _ _ (by simp; omega), List.take_succ_eq_append_getElem h, List.map_append, List.append_assoc]
  congr 1
  have hm : t - ((ages.take t).map (· + 1)).length = 0 := by simp; omega
  rw [hm, List.drop_eq_getElem_cons h]
  rfl

set_option maxHeartbeats 4000000 in
set_option maxRecDepth 100000 in
theorem sched_Repair.calls (A0 : Option Addr) (c0 : Nat) (l0 : List Int) (a1 : Int) (a2 : Int) (r : List Int) (w : World) (hr0 : Kd.C (Kd.int .i64) w A0 l0.length l0) (_hc0 : l0.length ≤ c0) (h : sched_Repair.f l0 a1 a2 = some r) :
    Calls Try.prog 14 #[.slice A0 l0.length c0, .int .i64 a1, .int .i64 a2] w fun e w' => ∃ v0_ : Value, e = .returned (v0_) ∧ Kd.R (Kd.int .i64) 3 w' w.heap.size (fun _ => True) v0_ r ∧ Below w.heap.size w w' := by
  unfold sched_Repair.f at h
  split at h
  case isFalse => simp at h
  case isTrue hok =>
  obtain ⟨h1, h2, h3, h4, h5, h6⟩ := hok
  have HR := Aside0.mk hr0
  have H6 := Aside0.mk h6
  have HS := Aside0.mk (Option.some.inj h)
  clear hr0 h6 h
  obtain ⟨n, rfl⟩ : ∃ n : Nat, a1 = n := ⟨a1.toNat, by omega⟩
  have hn : (n : Int).toNat = n := by omega
  go_enter Try.func14, Try.ntmps14
  go_wp2_with (first | ((with_reducible refine gate_dst (N := 14) rfl ?_); refine Kd.R_make (Kd.int .i64) _ 3 rfl (N := 14) rfl 29 _ _ rfl (n : Int) rfl rfl Try.underlying29 (.int .i64 0) 8 info3 rfl (by decide) (by omega) 0 (ok := fun _ => True) (okp := fun _ => True) rfl (fun _ hk => hk) trivial (by omega) (by omega) (Below.refl _ _) (Nat.le_refl _) ?_; intro va w1 ha hb1 hg1 hnew1; rw [hn] at ha; obtain ⟨ga, ca, rfl, hga1, hga2, hga3⟩ := Kd.R_form ha (by simp; omega); rw [List.length_replicate] at ha ⊢; have HA := Aside0.mk ha; have HB := Aside0.mk hb1; have HGA := Aside0.mk hga1; clear ha hb1 hg1 hnew1 hga3 hga1 hga2) | (go_at_call 20; refine (clone_calls _ _ l0 _ (Kd.C_below HR.out HB.out) (by omega)).mono ?_; rintro e w2 ⟨vo, rfl, ho, hb2⟩; obtain ⟨Ao, co, rfl⟩ := Kd.R_slice ho; have HO := Aside0.mk ho; have HB2 := Aside0.mk hb2; clear ho hb2))
  have HA2 := Aside0.mk (Kd.R_elder' HA.out (v := .slice Ao l0.length co) (Kd.R_base HO.out) HB2.out)
  have HO2 := Aside0.mk (Kd.R_lower (Kd.R_new' HO.out (Kd.R_lt HA.out)) HB.out.size)
  have HB3 := Aside0.mk (below_step HB.out HB2.out)
  clear HA HO HB HB2
  rw [hn] at HS
  go_wp2
  go_loopw [19] (fun i w' => ∃ (k : Nat) (out ages : List Int), k ≤ l0.length ∧ i = .int .i64 k ∧ RepAt l0 (a2 - n) n k r out ages ∧
      Aside0 (Kd.R (Kd.int .i64) 3 w' w.heap.size (fun k => True ∧ some k ≠ (Value.slice Ao l0.length co).ownBlock) (.slice (some ⟨ga, 0, none⟩) n ca) ages) ∧
      Aside0 (Kd.R (Kd.int .i64) 3 w' w.heap.size (fun k => True ∧ some k ≠ (Value.slice (some ⟨ga, 0, none⟩) n ca).ownBlock) (.slice Ao l0.length co) out) ∧
      Aside0 (Below w.heap.size w w')) (fun i _ => l0.length - (intOf i).toNat)
  case atStart => exact ⟨0, l0, List.replicate n 0, Nat.zero_le _, rfl, by rw [← HS.out]; exact RepAt.start _ _ _, HA2, HO2, HB3⟩
  case round =>
    clear HA2 HO2 HB3
    obtain ⟨k, out, ages, hk, rfl, hat, HA, HO, HB⟩ := hrel
    have HAT := Aside0.mk hat
    clear hat
    by_cases hlt : k < l0.length
    · have hol := HAT.out.olen hk
      have hal := HAT.out.len
      obtain ⟨go, co2, eo, hgo, _, _⟩ := Kd.R_form HO.out (by omega)
      injection eo with e1 e2 e3
      subst e1; subst e3; clear e2
      have HGO := Aside0.mk hgo
      have hne : ages ≠ [] := by intro he; rw [he] at hal; simp at hal; omega
      have hpk := HAT.out.rdAt hlt
      obtain ⟨hx, hf⟩ := Kd.R_celln 0 HO.out (k : Int) (by omega) (by omega)
      replace hx : wr.cell? ⟨go, (k : Int).toNat, none⟩ = some (Value.int .i64 (rd out (k : Int))) := hx
      rw [hpk, Int.toNat_natCast] at hx
      clear hpk hf
      have hp := H6.out l0[k] (List.getElem_mem _)
      have hqr := pickOf_range (d := a2 - n) (p := l0[k]) hne (by rw [hal]; exact hp)
      rw [hal] at hqr
      have hst := HAT.out.step hlt
      have hsm := HAT.out.same hlt
      have HAL := Aside0.mk hal
      obtain ⟨p, hpe⟩ : ∃ p, l0[k] = p := ⟨_, rfl⟩
      rw [hpe] at hx hp hqr hst hsm
      have HSM := Aside0.mk hsm
      have HP0 := Aside0.mk hp.1
      have HP1 := Aside0.mk hp.2
      clear hal hpe hol hsm hp
      by_cases hd : a2 - n ≤ lmax ages
      · obtain ⟨q, hq⟩ : ∃ q, (ages.idxOf (lmax ages) : Int) = q := ⟨_, rfl⟩
        have hq2 : pickOf (a2 - n) ages p = q := by unfold pickOf; rw [if_pos hd, hq]
        rw [hq2] at hqr hst
        have HQ := Aside0.mk hq
        have HQ0 := Aside0.mk hqr.1
        have HQ1 := Aside0.mk hqr.2
        have HSTEP := Aside0.mk hst
        clear hq hq2 hqr hst
        go_wp2_with (first | (go_at_call 21; refine (max_calls' _ _ ages n _ HAL.out (Kd.R_reads' HA.out).2.2 (by omega) (by omega)).mono ?_; rintro e w3 ⟨rfl, hb3⟩; have n1 := Aside0.mk (Kd.R_below HA.out hb3); have n2 := Aside0.mk (Kd.R_below HO.out hb3); have n3 := Aside0.mk (below_step HB.out hb3); clear HA HO HB hb3 hx; have HA := n1; have HO := n2; have HB := n3; clear n1 n2 n3) | (go_at_call 22; refine (index_calls' _ _ ages n q _ HAL.out (Kd.R_reads' HA.out).2.2 (Kd.R_reads' HA.out).2.1 (by omega) (by omega) HQ.out).mono ?_; rintro e w4 ⟨rfl, hb4⟩; have n1 := Aside0.mk (Kd.R_below HA.out hb4); have n2 := Aside0.mk (Kd.R_below HO.out hb4); have n3 := Aside0.mk (below_step HB.out hb4); clear HA HO HB hb4; have HA := n1; have HO := n2; have HB := n3; clear n1 n2 n3; obtain ⟨hx4, hf4⟩ := Kd.R_celln 0 HO.out (k : Int) (by omega) (by omega); rw [Int.toNat_natCast] at hx4 hf4) | ((with_reducible refine gate_store (t := 3) (p := 37) rfl ?_); refine store_event (t := 3) (p := 37) (v := ?voO) (w1 := (w4.setCell ⟨go, k, none⟩ (.int .i64 q))) ?hgO ?hoO ?hnO ?hrO ?_; (case hoO => rfl); (case hgO => rfl); (case hnO => rfl); (case hrO => first | (go_simp; done) | (go_simp; rfl)); intro w5 hw5; have n2 := Aside0.mk (Kd.R_putg HO.out (k : Int) (q : Int)); have n1 := Aside0.mk (Kd.R_grown HA.out n2.out.2 (fun k hk => hk.2)); rw [Int.toNat_natCast] at n1 n2; rw [← hw5] at n1 n2; have n3 := Aside0.mk (show Below w.heap.size w w5 by rw [hw5]; exact below_set HB.out HGO.out); have n4 := Aside0.mk n2.out.1; clear HA HO HB hw5 n2 hx4 hf4; have HA := n1; have HO := n4; have HB := n3; clear n1 n4 n3))
        go_loopw [40] (fun i w' => ∃ t : Nat, t ≤ n ∧ i = .int .i64 t ∧
            Aside0 (Kd.R (Kd.int .i64) 3 w' w.heap.size (fun k => True ∧ some k ≠ (Value.slice (some ⟨go, 0, none⟩) l0.length co).ownBlock) (.slice (some ⟨ga, 0, none⟩) n ca) (grown ages t)) ∧
            Aside0 (Kd.R (Kd.int .i64) 3 w' w.heap.size (fun k => True ∧ some k ≠ (Value.slice (some ⟨ga, 0, none⟩) n ca).ownBlock) (.slice (some ⟨go, 0, none⟩) l0.length co) (out.set k q)) ∧
            Aside0 (Below w.heap.size w w')) (fun i _ => n - (intOf i).toNat)
        case atStart => exact ⟨0, Nat.zero_le _, rfl, by rw [grown_zero]; exact HA, HO, HB⟩
        case round =>
          clear HA HO HB
          obtain ⟨t, ht, rfl, HA, HO, HB⟩ := hrel
          have hgl : (grown ages t).length = n := (grown_length ages t).trans HAL.out
          have hal := HAL.out
          by_cases htn : t < n
          · obtain ⟨hx6, hf6⟩ := Kd.R_celln 0 HA.out (t : Int) (by omega) (by omega)
            rw [Int.toNat_natCast] at hx6 hf6
            have hr6 := grown_rd ages (t := t) (by omega)
            replace hx6 : wr.cell? ⟨ga, t, none⟩ = some (Value.int .i64 (rd (grown ages t) (t : Int))) := hx6
            rw [hr6] at hx6
            clear hr6
            obtain ⟨hb6, hb7⟩ := HAT.out.bd ages[t] (List.getElem_mem _)
            go_wp2_with (first | ((with_reducible refine gate_store (t := 3) (p := 48) rfl ?_); refine store_event (t := 3) (p := 48) (v := ?voIa) (w1 := (wr.setCell ⟨ga, t, none⟩ (.int .i64 (ages[t] + 1)))) ?hgIa ?hoIa ?hnIa ?hrIa ?_; (case hoIa => rfl); (case hgIa => rfl); (case hnIa => rfl); (case hrIa => first | (go_simp; done) | (go_simp; rfl)); intro w7 hw7; have n2 := Aside0.mk (Kd.R_putg HA.out (t : Int) (ages[t] + 1)); have n1 := Aside0.mk (Kd.R_grown HO.out n2.out.2 (fun k hk => hk.2)); rw [Int.toNat_natCast] at n1 n2; rw [← hw7] at n1 n2; have n3 := Aside0.mk (show Below w.heap.size w w7 by rw [hw7]; exact below_set HB.out HGA.out); have n4 := Aside0.mk n2.out.1; clear HA HO HB hw7 n2 hx6 hf6; have HA := n4; have HO := n1; have HB := n3; clear n1 n4 n3))
            go_roundw
            case rel => exact ⟨t + 1, by omega, by go_num, by rw [← grown_step ages (by omega)]; exact HA, HO, HB⟩
            case measure => simp [intOf]; omega
          · have hga := grown_all ages (t := t) (by omega)
            rw [hga] at HA hgl
            clear hga
            obtain ⟨hx7, hf7⟩ := Kd.R_celln 0 HA.out (q : Int) HQ0.out HQ1.out
            have hc7 : wr.cell? ⟨ga, q.toNat, none⟩ = some (.int .i64 (rd (ages.map (· + 1)) q)) := hx7
            clear hx7
            have hx7 := hc7
            clear hc7
            have hq0 := HQ0.out
            have hq1 := HQ1.out
            go_wp2_with (first | ((with_reducible refine gate_store (t := 3) (p := 52) rfl ?_); refine store_event (t := 3) (p := 52) (v := ?voZa) (w1 := (wr.setCell ⟨ga, q.toNat, none⟩ (.int .i64 0))) ?hgZa ?hoZa ?hnZa ?hrZa ?_; (case hoZa => rfl); (case hgZa => rfl); (case hnZa => rfl); (case hrZa => first | (go_simp; done) | (go_simp; rfl)); intro w8 hw8; have n2 := Aside0.mk (Kd.R_putg HA.out (q : Int) 0); have n1 := Aside0.mk (Kd.R_grown HO.out n2.out.2 (fun k hk => hk.2)); rw [← hw8] at n1 n2; have n3 := Aside0.mk (show Below w.heap.size w w8 by rw [hw8]; exact below_set HB.out HGA.out); have n4 := Aside0.mk n2.out.1; clear HA HO HB hw8 n2 hx7 hf7; have HA := n4; have HO := n1; have HB := n3; clear n1 n4 n3))
            go_roundw
            case rel => exact ⟨k + 1, _, _, by omega, by go_num, HSTEP.out, HA, HO, HB⟩
            case measure => simp [intOf]; omega
      · have hq2 : pickOf (a2 - n) ages p = p := by unfold pickOf; rw [if_neg hd]
        rw [hq2] at hqr hst
        rw [HSM.out] at hst
        obtain ⟨q, rfl⟩ : ∃ q, q = p := ⟨_, rfl⟩
        have HQ0 := Aside0.mk hqr.1
        have HQ1 := Aside0.mk hqr.2
        have HSTEP := Aside0.mk hst
        clear hq2 hqr hst
        go_wp2_with (first | (go_at_call 21; refine (max_calls' _ _ ages n _ HAL.out (Kd.R_reads' HA.out).2.2 (by omega) (by omega)).mono ?_; rintro e w3 ⟨rfl, hb3⟩; have n1 := Aside0.mk (Kd.R_below HA.out hb3); have n2 := Aside0.mk (Kd.R_below HO.out hb3); have n3 := Aside0.mk (below_step HB.out hb3); clear HA HO HB hb3 hx; have HA := n1; have HO := n2; have HB := n3; clear n1 n2 n3))
        go_loopw [40] (fun i w' => ∃ t : Nat, t ≤ n ∧ i = .int .i64 t ∧
            Aside0 (Kd.R (Kd.int .i64) 3 w' w.heap.size (fun k => True ∧ some k ≠ (Value.slice (some ⟨go, 0, none⟩) l0.length co).ownBlock) (.slice (some ⟨ga, 0, none⟩) n ca) (grown ages t)) ∧
            Aside0 (Kd.R (Kd.int .i64) 3 w' w.heap.size (fun k => True ∧ some k ≠ (Value.slice (some ⟨ga, 0, none⟩) n ca).ownBlock) (.slice (some ⟨go, 0, none⟩) l0.length co) out) ∧
            Aside0 (Below w.heap.size w w')) (fun i _ => n - (intOf i).toNat)
        case atStart => exact ⟨0, Nat.zero_le _, rfl, by rw [grown_zero]; exact HA, HO, HB⟩
        case round =>
          clear HA HO HB
          obtain ⟨t, ht, rfl, HA, HO, HB⟩ := hrel
          have hgl : (grown ages t).length = n := (grown_length ages t).trans HAL.out
          have hal := HAL.out
          by_cases htn : t < n
          · obtain ⟨hx6, hf6⟩ := Kd.R_celln 0 HA.out (t : Int) (by omega) (by omega)
            rw [Int.toNat_natCast] at hx6 hf6
            have hr6 := grown_rd ages (t := t) (by omega)
            replace hx6 : wr.cell? ⟨ga, t, none⟩ = some (Value.int .i64 (rd (grown ages t) (t : Int))) := hx6
            rw [hr6] at hx6
            clear hr6
            obtain ⟨hb6, hb7⟩ := HAT.out.bd ages[t] (List.getElem_mem _)
            go_wp2_with (first | ((with_reducible refine gate_store (t := 3) (p := 48) rfl ?_); refine store_event (t := 3) (p := 48) (v := ?voIb) (w1 := (wr.setCell ⟨ga, t, none⟩ (.int .i64 (ages[t] + 1)))) ?hgIb ?hoIb ?hnIb ?hrIb ?_; (case hoIb => rfl); (case hgIb => rfl); (case hnIb => rfl); (case hrIb => first | (go_simp; done) | (go_simp; rfl)); intro w7 hw7; have n2 := Aside0.mk (Kd.R_putg HA.out (t : Int) (ages[t] + 1)); have n1 := Aside0.mk (Kd.R_grown HO.out n2.out.2 (fun k hk => hk.2)); rw [Int.toNat_natCast] at n1 n2; rw [← hw7] at n1 n2; have n3 := Aside0.mk (show Below w.heap.size w w7 by rw [hw7]; exact below_set HB.out HGA.out); have n4 := Aside0.mk n2.out.1; clear HA HO HB hw7 n2 hx6 hf6; have HA := n4; have HO := n1; have HB := n3; clear n1 n4 n3))
            go_roundw
            case rel => exact ⟨t + 1, by omega, by go_num, by rw [← grown_step ages (by omega)]; exact HA, HO, HB⟩
            case measure => simp [intOf]; omega
          · have hga := grown_all ages (t := t) (by omega)
            rw [hga] at HA hgl
            clear hga
            obtain ⟨hx7, hf7⟩ := Kd.R_celln 0 HA.out (q : Int) HQ0.out HQ1.out
            have hc7 : wr.cell? ⟨ga, q.toNat, none⟩ = some (.int .i64 (rd (ages.map (· + 1)) q)) := hx7
            clear hx7
            have hx7 := hc7
            clear hc7
            have hq0 := HQ0.out
            have hq1 := HQ1.out
            go_wp2_with (first | ((with_reducible refine gate_store (t := 3) (p := 52) rfl ?_); refine store_event (t := 3) (p := 52) (v := ?voZb) (w1 := (wr.setCell ⟨ga, q.toNat, none⟩ (.int .i64 0))) ?hgZb ?hoZb ?hnZb ?hrZb ?_; (case hoZb => rfl); (case hgZb => rfl); (case hnZb => rfl); (case hrZb => first | (go_simp; done) | (go_simp; rfl)); intro w8 hw8; have n2 := Aside0.mk (Kd.R_putg HA.out (q : Int) 0); have n1 := Aside0.mk (Kd.R_grown HO.out n2.out.2 (fun k hk => hk.2)); rw [← hw8] at n1 n2; have n3 := Aside0.mk (show Below w.heap.size w w8 by rw [hw8]; exact below_set HB.out HGA.out); have n4 := Aside0.mk n2.out.1; clear HA HO HB hw8 n2 hx7 hf7; have HA := n4; have HO := n1; have HB := n3; clear n1 n4 n3))
            go_roundw
            case rel => exact ⟨k + 1, _, _, by omega, by go_num, HSTEP.out, HA, HO, HB⟩
            case measure => simp [intOf]; omega
    · have hke : l0.length ≤ k := by omega
      obtain rfl : k = l0.length := by omega
      have hfin := Aside0.mk HAT.out.fin
      go_wp2
      go_ret
      exact ⟨_, rfl, by rw [← hfin.out]; exact Kd.R_mono HO.out (fun _ _ => trivial), HB.out⟩
end Go.Proofs.Ytjheocofbfmopaa.Sch
