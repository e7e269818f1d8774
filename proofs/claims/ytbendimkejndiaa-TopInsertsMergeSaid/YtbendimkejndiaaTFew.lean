/- Few, of values and of events; lists as arguments are read. -/
import Derived.Test.YtbendimkejndiaaTPlc
namespace Go.Proofs.Ytbendimkejndiaa
open Go.RowKit
set_option linter.unusedVariables false
set_option linter.unusedSimpArgs false
/-- The cells of a value, of whatever length its text is. -/
def RV0 (_ : World) (_ : Nat → Prop) (xs : List Value) (x : V3) : Prop := xs = [.int .i64 x.q, .int .i64 x.n, .string x.s] ∧ gV x ∧ x.s.size ≤ maxLen
theorem rd_V0 : Rd RV0 := ⟨fun _ h => h, fun _ h => h⟩
def REv0 (w : World) (Z : Nat → Prop) (xs : List Value) (x : Evt) : Prop := ∃ v, xs = [.int .i64 x.a, .int .i64 x.b, .int .i64 x.c, .int .i64 x.d, v] ∧ Lst w Z 3 RV0 v x.vs ∧ inI x.a ∧ inI x.b ∧ inI x.c ∧ inI x.d
theorem rd_Ev0 : Rd REv0 := ⟨fun hk ⟨v, e, h, hg⟩ => ⟨v, e, h.keep rd_V0 hk, hg⟩, fun hs ⟨v, e, h, hg⟩ => ⟨v, e, h.more rd_V0 hs, hg⟩⟩
theorem Lst.turn {α : Type} {R R' : World → (Nat → Prop) → List Value → α → Prop} {w : World} {Z : Nat → Prop} {sz : Nat} {v : Value} {l : List α} (h : Lst w Z sz R v l) (ht : ∀ x ∈ l, ∀ xs, R w Z xs x → R' w Z xs x) : Lst w Z sz R' v l := by
  refine ⟨h.1, fun j hj => ?_⟩
  obtain ⟨g, off, cap, xs, e, hz, hl, hc, hr⟩ := h.2 j hj
  exact ⟨g, off, cap, xs, e, hz, hl, hc, ht _ (List.getElem_mem hj) _ hr⟩
def fewV (l : List V3) : Bool := l.all (fun x => decide (x.s.size ≤ 128)) && decide (l.length < 40)
def fewE (l : List Evt) : Bool := l.all (fun x => decide (x.vs.length ≤ 12) && fewV x.vs) && decide (l.length ≤ 12)
theorem all_no {α : Type} {p : α → Bool} {L : List α} {j : Nat} (hj : j < L.length) (hx : p L[j] = false) : L.all p = false := by
  rw [List.all_eq_false]
  exact ⟨L[j], List.getElem_mem hj, by simp [hx]⟩
theorem all_take {α : Type} {p : α → Bool} {L : List α} {j : Nat} (hj : j < L.length) (h : (L.take j).all p = true) (hx : p L[j] = true) : (L.take (j + 1)).all p = true := by
  rw [List.take_succ_eq_append_getElem hj, List.all_append, h]; simp [hx]
theorem few_ev {l : List Evt} (h : fewE l = true) : (∀ x ∈ l, ∀ y ∈ x.vs, y.s.size ≤ 128) ∧ l.length ≤ 12 ∧ ∀ x ∈ l, x.vs.length ≤ 12 := by
  unfold fewE at h
  simp only [Bool.and_eq_true, List.all_eq_true, decide_eq_true_eq] at h
  refine ⟨fun x hx y hy => ?_, h.2, fun x hx => (h.1 x hx).1⟩
  have := (h.1 x hx).2
  unfold fewV at this
  simp only [Bool.and_eq_true, List.all_eq_true, decide_eq_true_eq] at this
  exact this.1 y hy
section
variable (w : World)
set_option maxRecDepth 100000 in
set_option maxHeartbeats 4000000 in
theorem few1_any (v : Value) (l : List V3) {Z : Nat → Prop} (hv : Lst w Z 3 RV0 v l) : Calls Try.prog 18 #[v] w fun e w' => e = .returned (.bool (fewV l)) ∧ w = w' := by
  obtain ⟨A, cap, rfl⟩ := hv.form
  have HV := hide hv
  have hlen := hv.len
  unfold maxLen at hlen
  obtain ⟨m, hm⟩ : ∃ m, l.length = m := ⟨_, rfl⟩
  rw [hm] at HV hlen ⊢
  have HM := hide hm
  clear hv hm
  go_enter Try.func18, Try.ntmps18
  go_wp2
  go_loop [3] (fun i => ∃ j : Nat, j ≤ m ∧ j ≤ 40 ∧ i = .int .i64 j ∧ Hid ((l.take j).all (fun x => decide (x.s.size ≤ 128)) = true)) (fun i => m - (intOf i).toNat)
  case atStart => exact ⟨0, by omega, by omega, rfl, hide rfl⟩
  case round =>
    obtain ⟨j, hj, hj4, rfl, HA⟩ := hrel
    by_cases hlt : j < m ∧ j < 40
    · have hjl : j < l.length := by rw [HM.out]; exact hlt.1
      obtain ⟨g, off, xs, e2, hg, hxl, hc, hR⟩ := HV.out.at_ hjl
      cases e2
      have HNO := hide (fun h => all_no (p := fun x : V3 => decide (x.s.size ≤ 128)) hjl h)
      have HYS := hide (fun h => all_take (p := fun x : V3 => decide (x.s.size ≤ 128)) hjl HA.out h)
      obtain ⟨x, hx⟩ : ∃ x, l[j] = x := ⟨_, rfl⟩
      rw [hx] at hR HNO HYS
      obtain ⟨rfl, -, hsz⟩ := hR
      have k2 := hc 2 _ rfl
      have hu0 : (0 : Int) ≤ (j : Int) := by omega
      have hu1 : (j : Int) < (m : Int) := by omega
      have hu2 : (j : Int) < 40 := by omega
      unfold maxLen at hsz
      clear hx hc hxl
      by_cases hs : x.s.size ≤ 128
      · have t1 : decide ((128 : Int) < (x.s.size : Int)) = false := decide_eq_false (by omega)
        have HA2 := hide (HYS.out (decide_eq_true hs))
        go_wp2
        go_round
        case rel => exact ⟨j + 1, by omega, by omega, by go_num, HA2⟩
        case measure => simp [intOf]; omega
      · have t1 : decide ((128 : Int) < (x.s.size : Int)) = true := decide_eq_true (by omega)
        have HF : Hid (fewV l = false) := hide (by unfold fewV; rw [HNO.out (decide_eq_false hs)]; rfl)
        go_wp2
        go_ret
        exact ⟨by rw [HF.out]; rfl, rfl⟩
    · have HE : Hid (fewV l = decide ((m : Int) < 40)) := hide (by
        unfold fewV
        by_cases h4 : m < 40
        · obtain rfl : j = m := by omega
          have := HA.out
          rw [List.take_of_length_le (by rw [HM.out]; exact Nat.le_refl _)] at this
          rw [this, HM.out, Bool.true_and]
          exact decide_eq_decide.2 (by omega)
        · rw [decide_eq_false (by rw [HM.out]; exact h4), decide_eq_false (by omega), Bool.and_false])
      rcases (by omega : j = m ∨ (j < m ∧ j = 40)) with rfl | ⟨h5, rfl⟩
      · go_wp2
        all_goals (go_ret; exact ⟨by rw [HE.out]; first | rfl | (refine congrArg (fun b => Ending.returned (.bool b)) ?_; first | rfl | (symm; exact decide_eq_false (by omega)) | (exact (decide_eq_false (by omega)).symm)), rfl⟩)
      · have hu1 : (40 : Int) < (m : Int) := by omega
        go_wp2
        all_goals (go_ret; exact ⟨by rw [HE.out]; first | rfl | (refine congrArg (fun b => Ending.returned (.bool b)) ?_; first | rfl | (symm; exact decide_eq_false (by omega)) | (exact (decide_eq_false (by omega)).symm)), rfl⟩)
set_option maxRecDepth 100000 in
set_option maxHeartbeats 4000000 in
theorem few_any (v : Value) (l : List Evt) {Z : Nat → Prop} (hv : Lst w Z 5 REv0 v l) : Calls Try.prog 5 #[v] w fun e w' => e = .returned (.bool (fewE l)) ∧ w = w' := by
  obtain ⟨A, cap, rfl⟩ := hv.form
  have HV := hide hv
  have hlen := hv.len
  unfold maxLen at hlen
  obtain ⟨m, hm⟩ : ∃ m, l.length = m := ⟨_, rfl⟩
  rw [hm] at HV hlen ⊢
  have HM := hide hm
  clear hv hm
  go_enter Try.func5, Try.ntmps5
  go_wp2
  go_loop [3] (fun i => ∃ j : Nat, j ≤ m ∧ j ≤ 20 ∧ i = .int .i64 j ∧ Hid ((l.take j).all (fun x => decide (x.vs.length ≤ 12) && fewV x.vs) = true)) (fun i => m - (intOf i).toNat)
  case atStart => exact ⟨0, by omega, by omega, rfl, hide rfl⟩
  case round =>
    obtain ⟨j, hj, hj4, rfl, HA⟩ := hrel
    by_cases hlt : j < m ∧ j < 20
    · have hjl : j < l.length := by rw [HM.out]; exact hlt.1
      obtain ⟨g, off, xs, e2, hg, hxl, hc, hR⟩ := HV.out.at_ hjl
      cases e2
      have HNO := hide (fun h => all_no (p := fun x : Evt => decide (x.vs.length ≤ 12) && fewV x.vs) hjl h)
      have HYS := hide (fun h => all_take (p := fun x : Evt => decide (x.vs.length ≤ 12) && fewV x.vs) hjl HA.out h)
      obtain ⟨x, hx⟩ : ∃ x, l[j] = x := ⟨_, rfl⟩
      rw [hx] at hR HNO HYS
      obtain ⟨vv, rfl, hvv, -⟩ := hR
      have HFV := hide (few1_any w vv x.vs hvv)
      obtain ⟨A1, c1, rfl⟩ := hvv.form
      have hsz := hvv.len
      have k4 := hc 4 _ rfl
      have hu0 : (0 : Int) ≤ (j : Int) := by omega
      have hu1 : (j : Int) < (m : Int) := by omega
      have hu2 : (j : Int) < 20 := by omega
      unfold maxLen at hsz
      clear hx hc hxl hvv
      by_cases hs : x.vs.length ≤ 12
      · have t1 : decide ((12 : Int) < (x.vs.length : Int)) = false := decide_eq_false (by omega)
        cases hf : fewV x.vs
        · have HF : Hid (fewE l = false) := hide (by unfold fewE; rw [HNO.out (by rw [hf, Bool.and_false])]; rfl)
          rw [hf] at HFV
          clear hf
          go_wp2_with fail
          refine HFV.out.mono ?_
          rintro en w1 ⟨rfl, rfl⟩
          go_wp2
          go_ret
          exact ⟨by rw [HF.out]; rfl, rfl⟩
        · have HA2 := hide (HYS.out (by rw [hf, decide_eq_true hs]; rfl))
          rw [hf] at HFV
          clear hf
          go_wp2_with fail
          refine HFV.out.mono ?_
          rintro en w1 ⟨rfl, rfl⟩
          go_wp2
          go_round
          case rel => exact ⟨j + 1, by omega, by omega, by go_num, HA2⟩
          case measure => simp [intOf]; omega
      · have t1 : decide ((12 : Int) < (x.vs.length : Int)) = true := decide_eq_true (by omega)
        have HF : Hid (fewE l = false) := hide (by unfold fewE; rw [HNO.out (by rw [decide_eq_false hs]; rfl)]; rfl)
        go_wp2
        go_ret
        exact ⟨by rw [HF.out]; rfl, rfl⟩
    · have HE : Hid (fewE l = decide ((m : Int) ≤ 12)) := hide (by
        unfold fewE
        by_cases h4 : m ≤ 12
        · obtain rfl : j = m := by omega
          have := HA.out
          rw [List.take_of_length_le (by rw [HM.out]; exact Nat.le_refl _)] at this
          rw [this, HM.out, Bool.true_and]
          exact decide_eq_decide.2 (by omega)
        · rw [decide_eq_false (by rw [HM.out]; exact h4), decide_eq_false (by omega), Bool.and_false])
      rcases (by omega : j = m ∨ (j < m ∧ j = 20)) with rfl | ⟨h5, rfl⟩
      · go_wp2
        all_goals (go_ret; exact ⟨by rw [HE.out]; first | rfl | (refine congrArg (fun b => Ending.returned (.bool b)) ?_; first | rfl | (symm; exact decide_eq_false (by omega)) | (exact (decide_eq_false (by omega)).symm)), rfl⟩)
      · have hu1 : (20 : Int) < (m : Int) := by omega
        go_wp2
        all_goals (go_ret; exact ⟨by rw [HE.out]; first | rfl | (refine congrArg (fun b => Ending.returned (.bool b)) ?_; first | rfl | (symm; exact decide_eq_false (by omega)) | (exact (decide_eq_false (by omega)).symm)), rfl⟩)
end
end Go.Proofs.Ytbendimkejndiaa
