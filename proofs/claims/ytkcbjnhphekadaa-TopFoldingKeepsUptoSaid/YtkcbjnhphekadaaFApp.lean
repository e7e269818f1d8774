/- The operations on values, each by itself. -/
import Derived.Test.YtkcbjnhphekadaaFOpd
namespace Go.Proofs.Ytkcbjnhphekadaa
open Go.RowKit
set_option linter.unusedVariables false
set_option linter.unusedSimpArgs false
/-- Behind the call of a function before which the result's box was laid, and its three cells written. -/
theorem set_laid {a w w1 : World} {x : Array Value} {t : TypeId} (h : Below a.heap.size a w) (hb : Below (w.alloc (.cells x t)).heap.size (w.alloc (.cells x t)) w1) (v0 v1 v2 : Value) :
    Below a.heap.size a (((w1.setCell ⟨w.heap.size, 0, none⟩ v0).setCell ⟨w.heap.size, 1, none⟩ v1).setCell ⟨w.heap.size, 2, none⟩ v2) :=
  below_set3' (bthen h (bthen (below_laid _) hb)) h.size _ _ _
section
variable (w : World)
set_option maxHeartbeats 1000000 in
theorem vbool_any (b : Bool) : Calls Try.prog 53 #[.bool b] w (Ret (V3.v (flagQ b)) w) := by
  cases b
  all_goals
    go_enter Try.func53, Try.ntmps53
    go_wp2
  · refine bodyPost_ret (v := .agg #[.int .i64 1, .int .i64 0, .string ⟨#[]⟩]) (by rw [results_c rfl]; go_simp) rfl ?_
    exact Ret.mk rfl (bthen (below_laid _) (below_laid _))
  · refine bodyPost_ret (v := .agg #[.int .i64 1, .int .i64 1, .string ⟨#[]⟩]) (by rw [results_c rfl]; go_simp) rfl ?_
    exact Ret.mk rfl (bthen (below_laid _) (below_laid _))
set_option maxHeartbeats 1000000 in
theorem rflag_any (b : Bool) : Calls Try.prog 12 #[.bool b] w (Ret (V3.v (flagQ b)) w) := by
  cases b
  all_goals
    go_enter Try.func12, Try.ntmps12
    go_wp2
  · refine bodyPost_ret (v := .agg #[.int .i64 1, .int .i64 0, .string ⟨#[]⟩]) (by rw [results_c rfl]; go_simp) rfl ?_
    exact Ret.mk rfl (below_laid _)
  · refine bodyPost_ret (v := .agg #[.int .i64 1, .int .i64 1, .string ⟨#[]⟩]) (by rw [results_c rfl]; go_simp) rfl ?_
    exact Ret.mk rfl (below_laid _)
theorem num_any (n : Int) : Calls Try.prog 38 #[.int .i64 n] w (Ret (.agg #[.int .i64 0, .int .i64 n, .string ⟨#[]⟩]) w) := by
  go_enter Try.func38, Try.ntmps38
  go_wp2
  refine bodyPost_ret (v := .agg #[.int .i64 0, .int .i64 n, .string ⟨#[]⟩]) (by rw [results_c rfl]; go_simp) rfl ?_
  exact Ret.mk rfl (below_laid _)
set_option maxHeartbeats 1000000 in
theorem flag_any (b : Bool) : Calls Try.prog 26 #[.bool b] w (Ret (V3.v (flagQ b)) w) := by
  have HV := hide (fun w => vbool_any w b)
  generalize flagQ b = r at HV ⊢
  obtain ⟨q, n, s⟩ := r
  go_enter Try.func26, Try.ntmps26
  go_wp2_with fail
  refine (HV.out _).mono ?_
  rintro e w1 ⟨rfl, hb⟩
  obtain ⟨-, hz, hx⟩ := step_box [.int .i64 0, .int .i64 0, .string ⟨#[]⟩] hb
  have y0 := hx 0 _ rfl
  have y1 := hx 1 _ rfl
  have y2 := hx 2 _ rfl
  have z0 := step_frozen [.int .i64 0, .int .i64 0, .string ⟨#[]⟩] hb 0
  have z1 := step_frozen [.int .i64 0, .int .i64 0, .string ⟨#[]⟩] hb 1
  have z2 := step_frozen [.int .i64 0, .int .i64 0, .string ⟨#[]⟩] hb 2
  have HB := hide hb
  clear hb hx
  go_wp2
  refine bodyPost_ret (v := .agg #[.int .i64 q, .int .i64 n, .string s]) (by rw [results_c rfl]; go_simp; try first | exact ⟨rfl, rfl, rfl⟩ | rfl) rfl ?_
  exact Ret.mk rfl (set_laid (Below.refl _ _) HB.out _ _ _)
set_option maxHeartbeats 1000000 in
theorem op5_any (a b : Int) (c : Nat) (hc : w.cell? ⟨c, 0, none⟩ = some (.func (.func 38) #[] #[])) : Calls Try.prog 39 #[.int .i64 a, .int .i64 b, .pointer (some ⟨c, 0, none⟩)] w (Ret (V3.v (appQ 5 a b)) w) := by
  have hlc := World.block_lt_of_cell? w _ hc
  rw [show appQ 5 a b = ⟨0, wrap64 (a + b), ⟨#[]⟩⟩ from rfl]
  go_enter Try.func39, Try.ntmps39
  go_wp2_with fail
  refine (num_any _ _).mono ?_
  rintro e w1 ⟨rfl, hb⟩
  obtain ⟨-, hz, hx⟩ := step_box [.int .i64 0, .int .i64 0, .string ⟨#[]⟩] hb
  have y0 := hx 0 _ rfl
  have y1 := hx 1 _ rfl
  have y2 := hx 2 _ rfl
  have z0 := step_frozen [.int .i64 0, .int .i64 0, .string ⟨#[]⟩] hb 0
  have z1 := step_frozen [.int .i64 0, .int .i64 0, .string ⟨#[]⟩] hb 1
  have z2 := step_frozen [.int .i64 0, .int .i64 0, .string ⟨#[]⟩] hb 2
  have HB := hide hb
  clear hb hx
  go_wp2
  refine bodyPost_ret (v := .agg #[.int .i64 0, .int .i64 (wrap64 (a + b)), .string ⟨#[]⟩]) (by rw [results_c rfl]; go_simp; try first | exact ⟨rfl, rfl, rfl⟩ | rfl) rfl ?_
  exact Ret.mk rfl (set_laid (Below.refl _ _) HB.out _ _ _)
set_option maxHeartbeats 1000000 in
theorem op6_any (a b : Int) (c : Nat) (hc : w.cell? ⟨c, 0, none⟩ = some (.func (.func 38) #[] #[])) : Calls Try.prog 40 #[.int .i64 a, .int .i64 b, .pointer (some ⟨c, 0, none⟩)] w (Ret (V3.v (appQ 6 a b)) w) := by
  have hlc := World.block_lt_of_cell? w _ hc
  rw [show appQ 6 a b = ⟨0, wrap64 (a - b), ⟨#[]⟩⟩ from rfl]
  go_enter Try.func40, Try.ntmps40
  go_wp2_with fail
  refine (num_any _ _).mono ?_
  rintro e w1 ⟨rfl, hb⟩
  obtain ⟨-, hz, hx⟩ := step_box [.int .i64 0, .int .i64 0, .string ⟨#[]⟩] hb
  have y0 := hx 0 _ rfl
  have y1 := hx 1 _ rfl
  have y2 := hx 2 _ rfl
  have z0 := step_frozen [.int .i64 0, .int .i64 0, .string ⟨#[]⟩] hb 0
  have z1 := step_frozen [.int .i64 0, .int .i64 0, .string ⟨#[]⟩] hb 1
  have z2 := step_frozen [.int .i64 0, .int .i64 0, .string ⟨#[]⟩] hb 2
  have HB := hide hb
  clear hb hx
  go_wp2
  refine bodyPost_ret (v := .agg #[.int .i64 0, .int .i64 (wrap64 (a - b)), .string ⟨#[]⟩]) (by rw [results_c rfl]; go_simp; try first | exact ⟨rfl, rfl, rfl⟩ | rfl) rfl ?_
  exact Ret.mk rfl (set_laid (Below.refl _ _) HB.out _ _ _)
set_option maxHeartbeats 1000000 in
theorem op7_any (a b : Int) : Calls Try.prog 41 #[.int .i64 a, .int .i64 b] w (Ret (V3.v (appQ 7 a b)) w) := by
  have HV := hide (fun w => flag_any w (decide (a < b)))
  rw [show appQ 7 a b = flagQ (decide (a < b)) from rfl]
  obtain ⟨z, hz⟩ : ∃ z, decide (a < b) = z := ⟨_, rfl⟩
  rw [hz] at HV ⊢
  generalize flagQ z = r at HV ⊢
  obtain ⟨q, n, s⟩ := r
  go_enter Try.func41, Try.ntmps41
  go_wp2_with fail
  refine (HV.out _).mono ?_
  rintro e w1 ⟨rfl, hb⟩
  obtain ⟨-, hz, hx⟩ := step_box [.int .i64 0, .int .i64 0, .string ⟨#[]⟩] hb
  have y0 := hx 0 _ rfl
  have y1 := hx 1 _ rfl
  have y2 := hx 2 _ rfl
  have z0 := step_frozen [.int .i64 0, .int .i64 0, .string ⟨#[]⟩] hb 0
  have z1 := step_frozen [.int .i64 0, .int .i64 0, .string ⟨#[]⟩] hb 1
  have z2 := step_frozen [.int .i64 0, .int .i64 0, .string ⟨#[]⟩] hb 2
  have HB := hide hb
  clear hb hx
  go_wp2
  refine bodyPost_ret (v := .agg #[.int .i64 q, .int .i64 n, .string s]) (by rw [results_c rfl]; go_simp; try first | exact ⟨rfl, rfl, rfl⟩ | rfl) rfl ?_
  exact Ret.mk rfl (set_laid (Below.refl _ _) HB.out _ _ _)
set_option maxHeartbeats 1000000 in
theorem op8_any (a b : Int) : Calls Try.prog 42 #[.int .i64 a, .int .i64 b] w (Ret (V3.v (appQ 8 a b)) w) := by
  have HV := hide (fun w => flag_any w (decide (a ≤ b)))
  rw [show appQ 8 a b = flagQ (decide (a ≤ b)) from rfl]
  obtain ⟨z, hz⟩ : ∃ z, decide (a ≤ b) = z := ⟨_, rfl⟩
  rw [hz] at HV ⊢
  generalize flagQ z = r at HV ⊢
  obtain ⟨q, n, s⟩ := r
  go_enter Try.func42, Try.ntmps42
  go_wp2_with fail
  refine (HV.out _).mono ?_
  rintro e w1 ⟨rfl, hb⟩
  obtain ⟨-, hz, hx⟩ := step_box [.int .i64 0, .int .i64 0, .string ⟨#[]⟩] hb
  have y0 := hx 0 _ rfl
  have y1 := hx 1 _ rfl
  have y2 := hx 2 _ rfl
  have z0 := step_frozen [.int .i64 0, .int .i64 0, .string ⟨#[]⟩] hb 0
  have z1 := step_frozen [.int .i64 0, .int .i64 0, .string ⟨#[]⟩] hb 1
  have z2 := step_frozen [.int .i64 0, .int .i64 0, .string ⟨#[]⟩] hb 2
  have HB := hide hb
  clear hb hx
  go_wp2
  refine bodyPost_ret (v := .agg #[.int .i64 q, .int .i64 n, .string s]) (by rw [results_c rfl]; go_simp; try first | exact ⟨rfl, rfl, rfl⟩ | rfl) rfl ?_
  exact Ret.mk rfl (set_laid (Below.refl _ _) HB.out _ _ _)
set_option maxHeartbeats 2000000 in
theorem op10_any (a b : Int) : Calls Try.prog 43 #[.int .i64 a, .int .i64 b] w (Ret (V3.v (appQ 10 a b)) w) := by
  have HV := hide (fun w => flag_any w (decide (a = 1) && decide (b = 1)))
  rw [show appQ 10 a b = flagQ (decide (a = 1) && decide (b = 1)) from rfl]
  by_cases ha : a = 1 <;> by_cases hb : b = 1
  all_goals
    first | (have ta : (a == 1) = true := beq_iff_eq.2 ha) | (have ta : (a == 1) = false := beq_eq_false_iff_ne.2 ha)
    first | (have tb : (b == 1) = true := beq_iff_eq.2 hb) | (have tb : (b == 1) = false := beq_eq_false_iff_ne.2 hb)
    simp only [ha, hb, decide_true, decide_false, Bool.and_true, Bool.and_false, Bool.false_and, Bool.true_and] at HV ⊢
    clear ha hb
  all_goals
    go_enter Try.func43, Try.ntmps43
  · go_wp2_with fail
    refine (HV.out _).mono ?_
    rintro e w1 ⟨rfl, hb⟩
    obtain ⟨-, hz, hx⟩ := step_box [.int .i64 0, .int .i64 0, .string ⟨#[]⟩] hb
    have y0 := hx 0 _ rfl
    have y1 := hx 1 _ rfl
    have y2 := hx 2 _ rfl
    have z0 := step_frozen [.int .i64 0, .int .i64 0, .string ⟨#[]⟩] hb 0
    have z1 := step_frozen [.int .i64 0, .int .i64 0, .string ⟨#[]⟩] hb 1
    have z2 := step_frozen [.int .i64 0, .int .i64 0, .string ⟨#[]⟩] hb 2
    have HB := hide hb
    clear hb hx
    go_wp2
    refine bodyPost_ret (v := .agg #[.int .i64 1, .int .i64 1, .string ⟨#[]⟩]) (by rw [results_c rfl]; go_simp; try first | exact ⟨rfl, rfl, rfl⟩ | rfl) rfl ?_
    exact Ret.mk rfl (set_laid (Below.refl _ _) HB.out _ _ _)
  · go_wp2_with fail
    refine (HV.out _).mono ?_
    rintro e w1 ⟨rfl, hb⟩
    obtain ⟨-, hz, hx⟩ := step_box [.int .i64 0, .int .i64 0, .string ⟨#[]⟩] hb
    have y0 := hx 0 _ rfl
    have y1 := hx 1 _ rfl
    have y2 := hx 2 _ rfl
    have z0 := step_frozen [.int .i64 0, .int .i64 0, .string ⟨#[]⟩] hb 0
    have z1 := step_frozen [.int .i64 0, .int .i64 0, .string ⟨#[]⟩] hb 1
    have z2 := step_frozen [.int .i64 0, .int .i64 0, .string ⟨#[]⟩] hb 2
    have HB := hide hb
    clear hb hx
    go_wp2
    refine bodyPost_ret (v := .agg #[.int .i64 1, .int .i64 0, .string ⟨#[]⟩]) (by rw [results_c rfl]; go_simp; try first | exact ⟨rfl, rfl, rfl⟩ | rfl) rfl ?_
    exact Ret.mk rfl (set_laid (Below.refl _ _) HB.out _ _ _)
  · go_wp2_with fail
    refine (HV.out _).mono ?_
    rintro e w1 ⟨rfl, hb⟩
    obtain ⟨-, hz, hx⟩ := step_box [.int .i64 0, .int .i64 0, .string ⟨#[]⟩] hb
    have y0 := hx 0 _ rfl
    have y1 := hx 1 _ rfl
    have y2 := hx 2 _ rfl
    have z0 := step_frozen [.int .i64 0, .int .i64 0, .string ⟨#[]⟩] hb 0
    have z1 := step_frozen [.int .i64 0, .int .i64 0, .string ⟨#[]⟩] hb 1
    have z2 := step_frozen [.int .i64 0, .int .i64 0, .string ⟨#[]⟩] hb 2
    have HB := hide hb
    clear hb hx
    go_wp2
    refine bodyPost_ret (v := .agg #[.int .i64 1, .int .i64 0, .string ⟨#[]⟩]) (by rw [results_c rfl]; go_simp; try first | exact ⟨rfl, rfl, rfl⟩ | rfl) rfl ?_
    exact Ret.mk rfl (set_laid (Below.refl _ _) HB.out _ _ _)
  · go_wp2_with fail
    refine (HV.out _).mono ?_
    rintro e w1 ⟨rfl, hb⟩
    obtain ⟨-, hz, hx⟩ := step_box [.int .i64 0, .int .i64 0, .string ⟨#[]⟩] hb
    have y0 := hx 0 _ rfl
    have y1 := hx 1 _ rfl
    have y2 := hx 2 _ rfl
    have z0 := step_frozen [.int .i64 0, .int .i64 0, .string ⟨#[]⟩] hb 0
    have z1 := step_frozen [.int .i64 0, .int .i64 0, .string ⟨#[]⟩] hb 1
    have z2 := step_frozen [.int .i64 0, .int .i64 0, .string ⟨#[]⟩] hb 2
    have HB := hide hb
    clear hb hx
    go_wp2
    refine bodyPost_ret (v := .agg #[.int .i64 1, .int .i64 0, .string ⟨#[]⟩]) (by rw [results_c rfl]; go_simp; try first | exact ⟨rfl, rfl, rfl⟩ | rfl) rfl ?_
    exact Ret.mk rfl (set_laid (Below.refl _ _) HB.out _ _ _)
set_option maxHeartbeats 2000000 in
theorem op11_any (a b : Int) : Calls Try.prog 44 #[.int .i64 a, .int .i64 b] w (Ret (V3.v (appQ 11 a b)) w) := by
  have HV := hide (fun w => flag_any w (decide (a = 1) || decide (b = 1)))
  rw [show appQ 11 a b = flagQ (decide (a = 1) || decide (b = 1)) from rfl]
  by_cases ha : a = 1 <;> by_cases hb : b = 1
  all_goals
    first | (have ta : (a == 1) = true := beq_iff_eq.2 ha) | (have ta : (a == 1) = false := beq_eq_false_iff_ne.2 ha)
    first | (have tb : (b == 1) = true := beq_iff_eq.2 hb) | (have tb : (b == 1) = false := beq_eq_false_iff_ne.2 hb)
    simp only [ha, hb, decide_true, decide_false, Bool.or_true, Bool.or_false, Bool.false_or, Bool.true_or] at HV ⊢
    clear ha hb
  all_goals
    go_enter Try.func44, Try.ntmps44
  · go_wp2_with fail
    refine (HV.out _).mono ?_
    rintro e w1 ⟨rfl, hb⟩
    obtain ⟨-, hz, hx⟩ := step_box [.int .i64 0, .int .i64 0, .string ⟨#[]⟩] hb
    have y0 := hx 0 _ rfl
    have y1 := hx 1 _ rfl
    have y2 := hx 2 _ rfl
    have z0 := step_frozen [.int .i64 0, .int .i64 0, .string ⟨#[]⟩] hb 0
    have z1 := step_frozen [.int .i64 0, .int .i64 0, .string ⟨#[]⟩] hb 1
    have z2 := step_frozen [.int .i64 0, .int .i64 0, .string ⟨#[]⟩] hb 2
    have HB := hide hb
    clear hb hx
    go_wp2
    refine bodyPost_ret (v := .agg #[.int .i64 1, .int .i64 1, .string ⟨#[]⟩]) (by rw [results_c rfl]; go_simp; try first | exact ⟨rfl, rfl, rfl⟩ | rfl) rfl ?_
    exact Ret.mk rfl (set_laid (Below.refl _ _) HB.out _ _ _)
  · go_wp2_with fail
    refine (HV.out _).mono ?_
    rintro e w1 ⟨rfl, hb⟩
    obtain ⟨-, hz, hx⟩ := step_box [.int .i64 0, .int .i64 0, .string ⟨#[]⟩] hb
    have y0 := hx 0 _ rfl
    have y1 := hx 1 _ rfl
    have y2 := hx 2 _ rfl
    have z0 := step_frozen [.int .i64 0, .int .i64 0, .string ⟨#[]⟩] hb 0
    have z1 := step_frozen [.int .i64 0, .int .i64 0, .string ⟨#[]⟩] hb 1
    have z2 := step_frozen [.int .i64 0, .int .i64 0, .string ⟨#[]⟩] hb 2
    have HB := hide hb
    clear hb hx
    go_wp2
    refine bodyPost_ret (v := .agg #[.int .i64 1, .int .i64 1, .string ⟨#[]⟩]) (by rw [results_c rfl]; go_simp; try first | exact ⟨rfl, rfl, rfl⟩ | rfl) rfl ?_
    exact Ret.mk rfl (set_laid (Below.refl _ _) HB.out _ _ _)
  · go_wp2_with fail
    refine (HV.out _).mono ?_
    rintro e w1 ⟨rfl, hb⟩
    obtain ⟨-, hz, hx⟩ := step_box [.int .i64 0, .int .i64 0, .string ⟨#[]⟩] hb
    have y0 := hx 0 _ rfl
    have y1 := hx 1 _ rfl
    have y2 := hx 2 _ rfl
    have z0 := step_frozen [.int .i64 0, .int .i64 0, .string ⟨#[]⟩] hb 0
    have z1 := step_frozen [.int .i64 0, .int .i64 0, .string ⟨#[]⟩] hb 1
    have z2 := step_frozen [.int .i64 0, .int .i64 0, .string ⟨#[]⟩] hb 2
    have HB := hide hb
    clear hb hx
    go_wp2
    refine bodyPost_ret (v := .agg #[.int .i64 1, .int .i64 1, .string ⟨#[]⟩]) (by rw [results_c rfl]; go_simp; try first | exact ⟨rfl, rfl, rfl⟩ | rfl) rfl ?_
    exact Ret.mk rfl (set_laid (Below.refl _ _) HB.out _ _ _)
  · go_wp2_with fail
    refine (HV.out _).mono ?_
    rintro e w1 ⟨rfl, hb⟩
    obtain ⟨-, hz, hx⟩ := step_box [.int .i64 0, .int .i64 0, .string ⟨#[]⟩] hb
    have y0 := hx 0 _ rfl
    have y1 := hx 1 _ rfl
    have y2 := hx 2 _ rfl
    have z0 := step_frozen [.int .i64 0, .int .i64 0, .string ⟨#[]⟩] hb 0
    have z1 := step_frozen [.int .i64 0, .int .i64 0, .string ⟨#[]⟩] hb 1
    have z2 := step_frozen [.int .i64 0, .int .i64 0, .string ⟨#[]⟩] hb 2
    have HB := hide hb
    clear hb hx
    go_wp2
    refine bodyPost_ret (v := .agg #[.int .i64 1, .int .i64 0, .string ⟨#[]⟩]) (by rw [results_c rfl]; go_simp; try first | exact ⟨rfl, rfl, rfl⟩ | rfl) rfl ?_
    exact Ret.mk rfl (set_laid (Below.refl _ _) HB.out _ _ _)
set_option maxHeartbeats 1000000 in
theorem op12_any (a b : Int) : Calls Try.prog 45 #[.int .i64 a, .int .i64 b] w (Ret (V3.v (appQ 12 a b)) w) := by
  have HV := hide (fun w => flag_any w (!decide (a = 1)))
  rw [show appQ 12 a b = flagQ (!decide (a = 1)) from rfl]
  by_cases ha : a = 1
  · have ta : (a != 1) = false := by simp [ha]
    simp only [ha, decide_true, Bool.not_true] at HV ⊢
    go_enter Try.func45, Try.ntmps45
    go_wp2_with fail
    refine (HV.out _).mono ?_
    rintro e w1 ⟨rfl, hb⟩
    obtain ⟨-, hz, hx⟩ := step_box [.int .i64 0, .int .i64 0, .string ⟨#[]⟩] hb
    have y0 := hx 0 _ rfl
    have y1 := hx 1 _ rfl
    have y2 := hx 2 _ rfl
    have z0 := step_frozen [.int .i64 0, .int .i64 0, .string ⟨#[]⟩] hb 0
    have z1 := step_frozen [.int .i64 0, .int .i64 0, .string ⟨#[]⟩] hb 1
    have z2 := step_frozen [.int .i64 0, .int .i64 0, .string ⟨#[]⟩] hb 2
    have HB := hide hb
    clear hb hx
    go_wp2
    refine bodyPost_ret (v := .agg #[.int .i64 1, .int .i64 0, .string ⟨#[]⟩]) (by rw [results_c rfl]; go_simp; try first | exact ⟨rfl, rfl, rfl⟩ | rfl) rfl ?_
    exact Ret.mk rfl (set_laid (Below.refl _ _) HB.out _ _ _)
  · have ta : (a != 1) = true := by simp [ha]
    simp only [ha, decide_false, Bool.not_false] at HV ⊢
    go_enter Try.func45, Try.ntmps45
    go_wp2_with fail
    refine (HV.out _).mono ?_
    rintro e w1 ⟨rfl, hb⟩
    obtain ⟨-, hz, hx⟩ := step_box [.int .i64 0, .int .i64 0, .string ⟨#[]⟩] hb
    have y0 := hx 0 _ rfl
    have y1 := hx 1 _ rfl
    have y2 := hx 2 _ rfl
    have z0 := step_frozen [.int .i64 0, .int .i64 0, .string ⟨#[]⟩] hb 0
    have z1 := step_frozen [.int .i64 0, .int .i64 0, .string ⟨#[]⟩] hb 1
    have z2 := step_frozen [.int .i64 0, .int .i64 0, .string ⟨#[]⟩] hb 2
    have HB := hide hb
    clear hb hx
    go_wp2
    refine bodyPost_ret (v := .agg #[.int .i64 1, .int .i64 1, .string ⟨#[]⟩]) (by rw [results_c rfl]; go_simp; try first | exact ⟨rfl, rfl, rfl⟩ | rfl) rfl ?_
    exact Ret.mk rfl (set_laid (Below.refl _ _) HB.out _ _ _)
end
end Go.Proofs.Ytkcbjnhphekadaa
