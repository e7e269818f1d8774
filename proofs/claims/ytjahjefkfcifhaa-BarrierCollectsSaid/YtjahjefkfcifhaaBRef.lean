/- The reference's Check; Begin; barrier.input. -/
import Derived.Test.YtjahjefkfcifhaaBCheck
namespace Go.Proofs.Ytjahjefkfcifhaa
open Go.RowKit
set_option linter.unusedVariables false
set_option linter.unusedSimpArgs false

theorem chk_many {n : Int} {l : List Bool} (h : ¬ (1 ≤ l.length ∧ l.length ≤ 8)) : chk n l = 5 := by unfold chk; rw [if_pos (by omega)]
theorem chk_range {n : Int} {l : List Bool} (h : 1 ≤ l.length ∧ l.length ≤ 8) (h2 : ¬ (0 ≤ n ∧ n ≤ 1099511627776)) : chk n l = 2 := by unfold chk; rw [if_neg (by omega), if_pos h2]
theorem chk_state {n : Int} {l : List Bool} (h : 1 ≤ l.length ∧ l.length ≤ 8) (h2 : 0 ≤ n ∧ n ≤ 1099511627776) (h3 : has false l = false) : chk n l = 21 := by unfold chk; rw [if_neg (by omega), if_neg (by omega), if_pos h3]
theorem chk_ok {n : Int} {l : List Bool} (h : 1 ≤ l.length ∧ l.length ≤ 8) (h2 : 0 ≤ n ∧ n ≤ 1099511627776) (h3 : has false l = true) : chk n l = 0 := by unfold chk; rw [if_neg (by omega), if_neg (by omega), if_neg (by simp [h3])]
theorem chk_zero {n : Int} {l : List Bool} (h : chk n l = 0) : (1 ≤ l.length ∧ l.length ≤ 8) ∧ (0 ≤ n ∧ n ≤ 1099511627776) ∧ has false l = true := by
  unfold chk at h
  split at h
  · cases h
  · split at h
    · cases h
    · split at h
      · cases h
      · rename_i h1 h2 h3
        exact ⟨by omega, by omega, by simpa using h3⟩

set_option maxHeartbeats 1000000 in
theorem rcheck_any (n : Int) (v : Value) (l : List Bool) (w : World) (hl : l.length ≤ 1000) (hv : Row w w.heap.size 1 v l.length (bools l)) :
    Calls Try.prog 14 #[.agg #[.int .i64 n, v]] w (Ret (.int .i64 (chk n l)) w) := by
  obtain ⟨A, cap, rfl⟩ := hv.form
  have HV := hide (hv.laid (.cells #[.int .i64 n, .slice A l.length cap] 24))
  clear hv
  have hcl : l.count true ≤ l.length := List.count_le_length
  by_cases h1 : 1 ≤ l.length ∧ l.length ≤ 8
  · have H1 := hide h1
    have t1 : decide (8 < l.length) = false := decide_eq_false (by omega)
    have t1' : decide ((8 : Int) < (l.length : Int)) = false := decide_eq_false (by omega)
    have t0 : decide (l.length < 1) = false := decide_eq_false (by omega)
    have t0' : decide ((l.length : Int) < 1) = false := decide_eq_false (by omega)
    have t3 : decide (l.length = 0) = false := decide_eq_false (by omega)
    have t4 : decide (l = []) = false := decide_eq_false (by intro h; subst h; simp at h1)
    clear h1
    by_cases h2 : 0 ≤ n ∧ n ≤ 1099511627776
    · have H2 := hide h2
      have t5 : decide (n < 0) = false := decide_eq_false (by omega)
      have t6 : decide (1099511627776 < n) = false := decide_eq_false (by omega)
      clear h2
      cases h3 : has false l
      · have HK := hide (chk_state H1.out H2.out h3)
        have q : (((l.count true : Nat) : Int) == (l.length : Int)) = true := by rw [beq_iff_eq]; exact count_all.2 h3
        clear h3
        go_enter Try.func14, Try.ntmps14
        go_wp2
        go_quiet ((go_at_call 28; exact Calls.quiet_of_same ((count_any _ l _ hl (HV.out.grow (below_drewN (Below.refl _ _) _))).mono (fun _ _ h => ⟨h.1, h.2.symm⟩))))
        go_wp2
        go_ret
        exact Ret.int HK.out.symm (below_drewN ((Below.refl _ _).alloc (Nat.le_refl _) _) _)
      · have HK := hide (chk_ok H1.out H2.out h3)
        have q : (((l.count true : Nat) : Int) == (l.length : Int)) = false := by rw [beq_eq_false_iff_ne]; intro h; have := count_all.1 h; rw [h3] at this; cases this
        clear h3
        go_enter Try.func14, Try.ntmps14
        go_wp2
        go_quiet ((go_at_call 28; exact Calls.quiet_of_same ((count_any _ l _ hl (HV.out.grow (below_drewN (Below.refl _ _) _))).mono (fun _ _ h => ⟨h.1, h.2.symm⟩))))
        go_wp2
        go_ret
        exact Ret.int HK.out.symm (below_drewN ((Below.refl _ _).alloc (Nat.le_refl _) _) _)
    · have HK := hide (chk_range H1.out h2)
      go_enter Try.func14, Try.ntmps14
      go_wp2
      all_goals (try simp only [isEmpty_size, bne_iff_ne, ne_eq, bne_eq_false_iff_eq, beq_iff_eq, beq_eq_false_iff_ne, Bool.not_eq_true', Bool.not_eq_false', decide_eq_true_eq, decide_eq_false_iff_not] at *)
      all_goals first | (exfalso; omega) | (go_ret; exact Ret.int HK.out.symm ((Below.refl _ _).alloc (Nat.le_refl _) _))
  · have HK := hide (chk_many (n := n) h1)
    have H1 := hide h1
    clear h1
    go_enter Try.func14, Try.ntmps14
    go_wp2
    all_goals first | (go_ret; exact Ret.int HK.out.symm ((Below.refl _ _).alloc (Nat.le_refl _) _)) | skip
    all_goals (have h1 := H1.out; clear H1; all_goals (try simp only [isEmpty_size, bne_iff_ne, ne_eq, bne_eq_false_iff_eq, beq_iff_eq, beq_eq_false_iff_ne, Bool.not_eq_true', Bool.not_eq_false', decide_eq_true_eq, decide_eq_false_iff_not] at *))
    all_goals (exfalso; omega)
end Go.Proofs.Ytjahjefkfcifhaa
