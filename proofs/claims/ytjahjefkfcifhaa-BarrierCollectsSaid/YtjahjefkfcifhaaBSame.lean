/- The reference's Same over aligners; barrier.input. -/
import Derived.Test.YtjahjefkfcifhaaBBegin
namespace Go.Proofs.Ytjahjefkfcifhaa
open Go.RowKit
set_option linter.unusedVariables false
set_option linter.unusedSimpArgs false

set_option maxHeartbeats 1000000 in
/-- An aligner is the same as one of the same number and the same flags. -/
theorem same_any (n : Int) (u v : Value) (l : List Bool) (w : World) (hl : l.length ≤ 1000) (hu : Row w w.heap.size 1 u l.length (bools l)) (hv : Row w w.heap.size 1 v l.length (bools l)) :
    Calls Try.prog 15 #[.agg #[.int .i64 n, u], .agg #[.int .i64 n, v]] w (Ret (.bool true) w) := by
  obtain ⟨m, hm⟩ : ∃ m, l.length = m := ⟨_, rfl⟩
  rw [hm] at hu hv hl
  have HM := hide hm
  clear hm
  rcases Nat.eq_zero_or_pos m with rfl | hpos
  · obtain ⟨A, cap, rfl⟩ := hu.form
    obtain ⟨A', cap', rfl⟩ := hv.form
    clear hu hv
    go_enter Try.func15, Try.ntmps15
    go_wp2
    refine wp_loop_rounds 1 ?_
    rw [rounds_succ]
    go_wp2
    go_ret
    exact Ret.bool rfl (((Below.refl _ _).alloc (Nat.le_refl _) _).alloc (by simp) _)
  · obtain ⟨g, off, cap, rfl, hg, _, hc⟩ := hu.at_ hpos
    obtain ⟨g', off', cap', rfl, hg', _, hc'⟩ := hv.at_ hpos
    have HC := hide hc
    have HC' := hide hc'
    clear hc hu hc' hv
    go_enter Try.func15, Try.ntmps15
    go_wp2
    go_loopw [5] (fun i wr => ∃ k d : Nat, k ≤ m ∧ i = .int .i64 k ∧ wr = ((w.alloc (.cells #[.int .i64 n, .slice (some ⟨g, off, none⟩) m cap] 24)).alloc (.cells #[.int .i64 n, .slice (some ⟨g', off', none⟩) m cap'] 24)).drewN d) (fun i _ => m - (intOf i).toNat)
    case atStart => exact ⟨0, 0, by omega, rfl, rfl⟩
    case round =>
      obtain ⟨k, d, hk, rfl, rfl⟩ := hrel
      by_cases hlt : k < m
      · have hkl : k < l.length := by rw [HM.out]; exact hlt
        have e1 : w.cell? ⟨g, off + k, none⟩ = some (.bool l[k]) := HC.out k _ (by simp [bools, hkl])
        have e2 : w.cell? ⟨g', off' + k, none⟩ = some (.bool l[k]) := HC'.out k _ (by simp [bools, hkl])
        obtain ⟨z, hz⟩ : ∃ z, l[k] = z := ⟨_, rfl⟩
        rw [hz] at e1 e2
        clear hz
        go_wp2
        go_quiet (fail)
        go_wp2
        go_roundw
        case rel => exact ⟨k + 1, _, by omega, by go_num, rfl⟩
        case measure => simp [intOf]; omega
      · obtain rfl : k = m := by omega
        go_wp2
        go_ret
        exact Ret.bool rfl (below_drewN (((Below.refl _ _).alloc (Nat.le_refl _) _).alloc (by simp) _) _)

/-- The number of the error of an aligner and an input. -/
def inp (n : Int) (l : List Bool) (i : Int) : Int := if chk n l = 0 then (if 0 ≤ i ∧ i < (l.length : Int) then 0 else 32) else chk n l

set_option maxHeartbeats 1000000 in
theorem input_any (n : Int) (v : Value) (l : List Bool) (i : Int) (w : World) (hl : l.length ≤ 1000) (hv : Row w w.heap.size 1 v l.length (bools l)) :
    Calls Try.prog 29 #[.agg #[.int .i64 n, v], .int .i64 i] w (Ret (.int .i64 (inp n l i)) w) := by
  obtain ⟨A, cap, rfl⟩ := hv.form
  have HV := hide (hv.laid (.cells #[.int .i64 n, .slice A l.length cap] 24))
  clear hv
  have HK := hide (@check_any n (.slice A l.length cap) l)
  by_cases hc : chk n l = 0
  · rw [hc] at HK
    by_cases hi : 0 ≤ i ∧ i < (l.length : Int)
    · have HI : Hid (inp n l i = 0) := hide (by unfold inp; rw [if_pos hc, if_pos hi])
      have t1 : decide (i < 0) = false := decide_eq_false (by omega)
      have t2 : decide ((l.length : Int) ≤ i) = false := decide_eq_false (by omega)
      clear hc hi
      go_enter Try.func29, Try.ntmps29
      go_wp2_with fail
      refine (HK.out _ hl HV.out).mono ?_
      rintro e w1 ⟨rfl, hb⟩
      obtain ⟨hb', hz, hx⟩ := step_box [.int .i64 n, .slice A l.length cap] hb
      have x1 := hx 1 _ rfl
      clear hx hb
      go_wp2
      go_ret
      exact Ret.int HI.out.symm hb'
    · have HI : Hid (inp n l i = 32) := hide (by unfold inp; rw [if_pos hc, if_neg hi])
      have HN := hide hi
      clear hc hi
      go_enter Try.func29, Try.ntmps29
      go_wp2_with fail
      refine (HK.out _ hl HV.out).mono ?_
      rintro e w1 ⟨rfl, hb⟩
      obtain ⟨hb', hz, hx⟩ := step_box [.int .i64 n, .slice A l.length cap] hb
      have x1 := hx 1 _ rfl
      clear hx hb
      go_wp2
      all_goals first | (go_ret; exact Ret.int HI.out.symm hb') | skip
      all_goals (have hno := HN.out; clear HN)
      all_goals (try simp only [isEmpty_size, bne_iff_ne, ne_eq, bne_eq_false_iff_eq, beq_iff_eq, beq_eq_false_iff_ne, Bool.not_eq_true', Bool.not_eq_false', decide_eq_true_eq, decide_eq_false_iff_not] at *)
      all_goals (exfalso; omega)
  · have HI : Hid (inp n l i = chk n l) := hide (by unfold inp; rw [if_neg hc])
    have t1 : (chk n l != 0) = true := by rw [bne_iff_ne]; exact hc
    clear hc
    generalize chk n l = c at *
    go_enter Try.func29, Try.ntmps29
    go_wp2_with fail
    refine (HK.out _ hl HV.out).mono ?_
    rintro e w1 ⟨rfl, hb⟩
    obtain ⟨hb', hz, hx⟩ := step_box [.int .i64 n, .slice A l.length cap] hb
    go_wp2
    go_ret
    exact Ret.int HI.out.symm hb'
end Go.Proofs.Ytjahjefkfcifhaa
