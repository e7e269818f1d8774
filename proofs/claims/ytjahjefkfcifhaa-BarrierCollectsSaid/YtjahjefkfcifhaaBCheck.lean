/- barrier.Check and the reference's Check. -/
import Derived.Test.YtjahjefkfcifhaaSeek
import Derived.Laws.EntriesVeiled
namespace Go.Proofs.Ytjahjefkfcifhaa
open Go.RowKit
set_option linter.unusedVariables false
set_option linter.unusedSimpArgs false

theorem count_take {l : List Bool} {k : Nat} (h : k < l.length) : (l.take (k + 1)).count true = (l.take k).count true + if l[k] = true then 1 else 0 := by
  rw [List.take_succ_eq_append_getElem h, List.count_append, List.count_singleton]
  by_cases hx : l[k] = true
  · rw [hx]; simp
  · rw [if_neg hx]; simp [hx]

set_option maxHeartbeats 400000 in
theorem count_any (v : Value) (l : List Bool) (w : World) (hl : l.length ≤ 1000) (hv : Row w w.heap.size 1 v l.length (bools l)) :
    Calls Try.prog 28 #[v] w fun e w' => e = .returned (.int .i64 ((l.count true : Nat) : Int)) ∧ w = w' := by
  obtain ⟨m, hm⟩ : ∃ m, l.length = m := ⟨_, rfl⟩
  rw [hm] at hv hl
  have HM := hide hm
  clear hm
  rcases Nat.eq_zero_or_pos m with rfl | hpos
  · obtain rfl : l = [] := List.eq_nil_of_length_eq_zero HM.out
    obtain ⟨A, cap, rfl⟩ := hv.form
    clear hv
    go_enter Try.func28, Try.ntmps28
    go_wp2
    refine wp_loop_rounds 1 ?_
    rw [rounds_succ]
    go_wp2
    go_ret
    exact ⟨rfl, rfl⟩
  · obtain ⟨g, off, cap, rfl, _, _, hc⟩ := hv.at_ hpos
    have HC := hide hc
    clear hc hv
    go_enter Try.func28, Try.ntmps28
    go_wp2
    go_loop [3, 4] (fun c i => ∃ k : Nat, k ≤ m ∧ i = .int .i64 k ∧ c = .int .i64 (((l.take k).count true : Nat) : Int)) (fun _ i => m - (intOf i).toNat)
    case atStart => exact ⟨0, by omega, rfl, rfl⟩
    case round =>
      obtain ⟨k, hk, rfl, rfl⟩ := hrel
      have hcl : (l.take k).count true ≤ k := Nat.le_trans List.count_le_length (List.length_take_le _ _)
      by_cases hlt : k < m
      · have hkl : k < l.length := by rw [HM.out]; exact hlt
        have e1 : w.cell? ⟨g, off + k, none⟩ = some (.bool l[k]) := HC.out k _ (by simp [bools, hkl])
        have HT := hide (count_take hkl)
        obtain ⟨z, hz⟩ : ∃ z, l[k] = z := ⟨_, rfl⟩
        rw [hz] at e1 HT
        clear hz
        obtain ⟨c, hc⟩ : ∃ c, (l.take k).count true = c := ⟨_, rfl⟩
        rw [hc] at HT hcl ⊢
        clear hc
        cases z
        · go_wp2
          go_round
          case rel => exact ⟨k + 1, by omega, by go_num, by rw [HT.out]; rfl⟩
          case measure => simp [intOf]; omega
        · go_wp2
          go_round
          case rel => exact ⟨k + 1, by omega, by go_num, by rw [HT.out]; go_num⟩
          case measure => simp [intOf]; omega
      · obtain rfl : k = m := by omega
        have HT : Hid (l.take k = l) := hide (List.take_of_length_le (by rw [HM.out]; exact Nat.le_refl _))
        go_wp2
        go_ret
        exact ⟨congrArg (fun (c : List Bool) => Ending.returned (.int .i64 ((c.count true : Nat) : Int))) HT.out, rfl⟩

theorem count_all {l : List Bool} : ((l.count true : Nat) : Int) = (l.length : Int) ↔ has false l = false := by
  rw [Int.ofNat_inj, List.count_eq_length]
  simp only [has, List.any_eq_false, decide_eq_true_eq]
  constructor
  · intro h x hx e; have := h x hx; subst e; cases this
  · intro h x hx
    cases x
    · exact absurd rfl (h _ hx)
    · rfl
theorem count_none {l : List Bool} : ((l.count true : Nat) : Int) = 0 ↔ has true l = false := by
  rw [show ((0 : Int)) = ((0 : Nat) : Int) from rfl, Int.ofNat_inj, List.count_eq_zero]
  simp only [has, List.any_eq_false, decide_eq_true_eq]
  constructor
  · intro h x hx e; exact h (e ▸ hx)
  · intro h hx; exact h _ hx rfl

/-- The number of the error of an aligner. -/
def chk (n : Int) (l : List Bool) : Int := if ¬ (1 ≤ (l.length : Int) ∧ (l.length : Int) ≤ 8) then 5 else if ¬ (0 ≤ n ∧ n ≤ 1099511627776) then 2 else if has false l = false then 21 else 0
def cntd (n : Int) : Bool := decide (1 ≤ n ∧ n ≤ 8)

set_option maxHeartbeats 400000 in
theorem counted_any (n : Int) (w : World) : Calls Try.prog 26 #[.int .i64 n] w fun e w' => e = .returned (.bool (cntd n)) ∧ w = w' := by
  go_enter Try.func26, Try.ntmps26
  go_wp2
  all_goals go_ret
  all_goals exact ⟨congrArg (fun b => Ending.returned (.bool b)) (by unfold cntd; simp; omega), rfl⟩

def al (n : Int) (v : Value) : Value := .agg #[.int .i64 n, v]

set_option maxHeartbeats 400000 in
theorem few_any (n : Int) (a : Option Addr) (k c : Nat) (w : World) :
    Calls Try.prog 9 #[.agg #[.int .i64 n, .slice a k c]] w (Ret (.bool (decide ((k : Int) ≤ 12))) w) := by
  go_enter Try.func9, Try.ntmps9
  go_wp2
  go_ret
  exact Ret.bool (by simp) ((Below.refl _ _).alloc (Nat.le_refl _) _)

set_option maxHeartbeats 400000 in
theorem cond1_any (n : Int) (a : Option Addr) (k c : Nat) (w : World) (hk : k ≤ 1000) :
    Calls Try.prog 35 #[.agg #[.int .i64 n, .slice a k c]] w (Ret (.bool (cntd k)) w) := by
  go_enter Try.func35, Try.ntmps35
  go_wp2_with fail
  refine (counted_any _ _).mono ?_
  rintro e w1 ⟨rfl, rfl⟩
  go_wp2
  go_ret
  exact Ret.bool rfl ((Below.refl _ _).alloc (Nat.le_refl _) _)

set_option maxHeartbeats 400000 in
theorem cond2_any (n : Int) (v : Value) (w : World) (hv : v.oneCell' = true) :
    Calls Try.prog 36 #[.agg #[.int .i64 n, v]] w (Ret (.bool (decide (0 ≤ n ∧ n ≤ 1099511627776))) w) := by
  go_enter Try.func36, Try.ntmps36
  go_wp2
  all_goals go_ret
  all_goals exact Ret.bool (by simp; omega) ((Below.refl _ _).alloc (Nat.le_refl _) _)

set_option maxHeartbeats 400000 in
theorem cond3_any (n : Int) (v : Value) (l : List Bool) (w : World) (hl : l.length ≤ 1000) (hv : Row w w.heap.size 1 v l.length (bools l)) :
    Calls Try.prog 37 #[.agg #[.int .i64 n, v]] w (Ret (.bool (has false l)) w) := by
  obtain ⟨A, cap, rfl⟩ := hv.form
  have HV := hide (hv.below ((Below.refl _ w).alloc (Nat.le_refl _) (.cells #[.int .i64 n, .slice A l.length cap] 24)))
  clear hv
  go_enter Try.func37, Try.ntmps37
  go_wp2_with fail
  refine (contains_bool _ _ l _ hl (HV.out.more (by simp))).mono ?_
  rintro e w1 ⟨rfl, rfl⟩
  go_wp2
  go_ret
  exact Ret.bool rfl ((Below.refl _ _).alloc (Nat.le_refl _) _)

set_option maxHeartbeats 400000 in
theorem conditions_any (w : World) : Calls Try.prog 27 #[] w fun e w' => e = .returned (.slice (some ⟨w.heap.size, 0, none⟩) 3 3) ∧
    w' = w.alloc (.cells #[.func (.func 35) #[] #[], .int .i64 5, .func (.func 36) #[] #[], .int .i64 2, .func (.func 37) #[] #[], .int .i64 21] 61) := by
  go_enter Try.func27, Try.ntmps27
  go_wp2
  go_ret
  exact ⟨rfl, rfl⟩

theorem cntd_iff {n : Int} : cntd n = true ↔ 1 ≤ n ∧ n ≤ 8 := by simp [cntd]

set_option maxHeartbeats 1000000 in
theorem check_any (n : Int) (v : Value) (l : List Bool) (w : World) (hl : l.length ≤ 1000) (hv : Row w w.heap.size 1 v l.length (bools l)) :
    Calls Try.prog 13 #[.agg #[.int .i64 n, v]] w (Ret (.int .i64 (chk n l)) w) := by
  obtain ⟨A, cap, rfl⟩ := hv.form
  have HV := hide hv
  clear hv
  obtain ⟨m, hm⟩ : ∃ m, l.length = m := ⟨_, rfl⟩
  rw [hm] at HV hl ⊢
  have HM := hide hm
  clear hm
  go_enter Try.func13, Try.ntmps13
  go_wp2_with fail
  refine (conditions_any _).mono ?_
  rintro e w1 ⟨rfl, hw1⟩
  have hcs := cells_lit (w.alloc (.cells #[.int .i64 n, .slice A m cap] 24)) [.func (.func 35) #[] #[], .int .i64 5, .func (.func 36) #[] #[], .int .i64 2, .func (.func 37) #[] #[], .int .i64 21] 61
  rw [← hw1] at hcs
  have d0 := hcs 0 _ rfl
  have d1 := hcs 1 _ rfl
  have d2 := hcs 2 _ rfl
  have d3 := hcs 3 _ rfl
  have d4 := hcs 4 _ rfl
  have d5 := hcs 5 _ rfl
  simp only [World.size_alloc] at d0 d1 d2 d3 d4 d5
  have hbox : w1.cell? ⟨w.heap.size, 0, none⟩ = some (.int .i64 n) ∧ w1.cell? ⟨w.heap.size, 1, none⟩ = some (.slice A m cap) := by
    rw [hw1]
    exact ⟨(World.cell?_alloc_lt _ _ _ (by simp)).trans (cells_lit w [.int .i64 n, .slice A m cap] _ 0 _ rfl), (World.cell?_alloc_lt _ _ _ (by simp)).trans (cells_lit w [.int .i64 n, .slice A m cap] _ 1 _ rfl)⟩
  obtain ⟨b0, b1⟩ := hbox
  have hz : w1.heap.size = w.heap.size + 2 := by rw [hw1]; simp
  have HB := hide (show Below w.heap.size w w1 by rw [hw1]; exact ((Below.refl _ _).alloc (Nat.le_refl _) _).alloc (by simp) _)
  clear hcs hw1
  go_wp2
  refine wp_loop_rounds 4 ?_
  rw [rounds_succ]
  go_wp2_with fail
  refine (cond1_any n A m cap _ hl).mono ?_
  rintro e w2 ⟨rfl, hb2⟩
  obtain ⟨hb2', hz2, hx2⟩ := step_box [.func (.func 35) #[] #[], .int .i64 5] hb2
  have x2 := hx2 1 _ rfl
  have hc2 := (bcell hb2').1
  have c0 := (hc2 _ _ (by omega)).trans b0
  have c1 := (hc2 _ _ (by omega)).trans b1
  have f2 := (hc2 _ _ (by omega)).trans d2
  have f3 := (hc2 _ _ (by omega)).trans d3
  have f4 := (hc2 _ _ (by omega)).trans d4
  have f5 := (hc2 _ _ (by omega)).trans d5
  clear hc2
  rw [hz] at x2 hz2
  have HB2 := hide (HB.out.trans (hb2'.mono (by omega)))
  clear hb2 hb2' hx2
  have hs2 : w.heap.size < w2.heap.size := by omega
  go_wp2_with fail
  · rename_i hnot
    go_ret
    exact Ret.int (by rw [chk, HM.out, if_pos]; intro h; rw [cntd_iff.2 h] at hnot; cases hnot) HB2.out
  · rename_i hyes
    have H1 := hide (cntd_iff.1 (by simpa using hyes))
    clear hyes
    rw [rounds_succ]
    go_wp2_with fail
    refine (cond2_any n (.slice A m cap) _ rfl).mono ?_
    rintro e w3 ⟨rfl, hb3⟩
    obtain ⟨hb3', hz3, hx3⟩ := step_box [.func (.func 36) #[] #[], .int .i64 2] hb3
    have x3 := hx3 1 _ rfl
    have hc3 := (bcell hb3').1
    have c30 := (hc3 _ _ (by omega)).trans c0
    have c31 := (hc3 _ _ (by omega)).trans c1
    have g4 := (hc3 _ _ (by omega)).trans f4
    have g5 := (hc3 _ _ (by omega)).trans f5
    clear hc3
    have HB3 := hide (HB2.out.trans (hb3'.mono (by omega)))
    clear hb3 hb3' hx3
    have hs3 : w.heap.size < w3.heap.size := by omega
    go_wp2_with fail
    · rename_i hnot
      go_ret
      exact Ret.int (by rw [chk, HM.out, if_neg (fun h => h H1.out), if_pos]; intro h; simp at hnot; omega) HB3.out
    · rename_i hyes
      have H2 : Hid (0 ≤ n ∧ n ≤ 1099511627776) := hide (by simpa using hyes)
      clear hyes
      rw [rounds_succ]
      go_wp2_with fail
      refine (cond3_any n _ l _ ?c1 ?c2).mono ?_
      case c1 => rw [HM.out]; exact hl
      case c2 => rw [HM.out]; exact (HV.out.grow HB3.out).laid _
      rintro e w4 ⟨rfl, hb4⟩
      obtain ⟨hb4', hz4, hx4⟩ := step_box [.func (.func 37) #[] #[], .int .i64 21] hb4
      have x4 := hx4 1 _ rfl
      have hc4 := (bcell hb4').1
      have HB4 := hide (HB3.out.trans (hb4'.mono (by omega)))
      clear hb4 hb4' hx4
      go_wp2_with fail
      · rename_i hnot
        go_ret
        exact Ret.int (by rw [chk, HM.out, if_neg (fun h => h H1.out), if_neg (fun h => h H2.out), if_pos (by simpa using hnot)]) HB4.out
      · rename_i hyes
        rw [rounds_succ]
        go_wp2
        go_ret
        exact Ret.int (by rw [chk, HM.out, if_neg (fun h => h H1.out), if_neg (fun h => h H2.out), if_neg (by simpa using hyes)]) HB4.out
end Go.Proofs.Ytjahjefkfcifhaa
