/- The reference's Check of accumulators; Begin; what is wrong with a value. -/
import Derived.Test.YtgppohelgmadoaaACheck
namespace Go.Proofs.Ytgppohelgmadoaa
open Go.RowKit
set_option linter.unusedVariables false
set_option linter.unusedSimpArgs false
set_option maxHeartbeats 2000000 in
theorem archeck_any (k c q n : Int) (s : ByteArray) (w : World) (hs : s.size ≤ maxLen) :
    Calls Try.prog 23 #[.agg #[.int .i64 k, .int .i64 c, .int .i64 q, .int .i64 n, .string s]] w (Ret (.int .i64 (accE k c q n s.size)) w) := by
  have hss := hide (@suits_same k q)
  go_enter Try.func23, Try.ntmps23
  go_wp2_with (first
    | (go_at_call 36; refine (rkind_any _ _).mono ?_; rintro e w' ⟨rfl, rfl⟩)
    | (go_at_call 39; refine (rsuits_any _ _ _ _ _).mono ?_; rintro e w' ⟨rfl, hb2⟩)
    | (go_at_call 38; refine (rcheck_any _ _ _ _ hs).mono ?_; rintro e w' ⟨rfl, hb⟩; obtain ⟨hb', hz, hx⟩ := step_box [.int .i64 k, .int .i64 c, .int .i64 q, .int .i64 n, .string s] hb; have x0 := hx 0 _ rfl; have x1 := hx 1 _ rfl; have x2 := hx 2 _ rfl; have x3 := hx 3 _ rfl; have x4 := hx 4 _ rfl; clear hx))
  all_goals go_ret
  all_goals refine Ret.int ?_ ?_
  all_goals first | exact below_laid _ | exact hb' | exact bthen hb' hb2 | skip
  all_goals (simp only [toList_nil, Bool.not_eq_true', Bool.not_eq_false', bne_iff_ne, ne_eq, bne_eq_false_iff_eq, beq_iff_eq, beq_eq_false_iff_ne, decide_eq_true_eq, decide_eq_false_iff_not] at *)
  all_goals (have hs2 := hss.out; clear hss)
  all_goals (unfold accE; (repeat' split) <;> first | rfl | omega | (exfalso; simp_all; done) | (exfalso; simp_all; omega))

/-- The number of the error of a value for an aggregate. -/
def wrE (k q n : Int) (len : Nat) : Int := if checkC q n len ≠ 0 then checkC q n len else if suitsB k q = true then 0 else 9
set_option maxHeartbeats 1000000 in
theorem wrong_any (k q n : Int) (s : ByteArray) (w : World) (hs : s.size ≤ maxLen) :
    Calls Try.prog 27 #[.int .i64 k, .agg #[.int .i64 q, .int .i64 n, .string s]] w (Ret (.int .i64 (wrE k q n s.size)) w) := by
  go_enter Try.func27, Try.ntmps27
  go_wp2_with (first
    | (go_at_call 41; refine (suits_any _ _ _ _ _).mono ?_; rintro e w' ⟨rfl, hb2⟩)
    | (go_at_call 40; refine (check_any _ _ _ _ hs).mono ?_; rintro e w' ⟨rfl, hb⟩; obtain ⟨hb', hz, hx⟩ := step_box [.int .i64 q, .int .i64 n, .string s] hb; have x0 := hx 0 _ rfl; have x1 := hx 1 _ rfl; have x2 := hx 2 _ rfl; clear hx))
  all_goals go_ret
  all_goals refine Ret.int ?_ ?_
  all_goals first | exact below_laid _ | exact hb' | exact bthen hb' hb2 | skip
  all_goals (simp only [toList_nil, Bool.not_eq_true', Bool.not_eq_false', bne_iff_ne, ne_eq, bne_eq_false_iff_eq, beq_iff_eq, beq_eq_false_iff_ne, decide_eq_true_eq, decide_eq_false_iff_not] at *)
  all_goals (unfold wrE; (repeat' split) <;> first | rfl | omega | (exfalso; simp_all; done) | (exfalso; simp_all; omega))
set_option maxHeartbeats 1000000 in
theorem rvalue_any (k q n : Int) (s : ByteArray) (w : World) (hs : s.size ≤ maxLen) (hk : knownB k = true) :
    Calls Try.prog 28 #[.int .i64 k, .agg #[.int .i64 q, .int .i64 n, .string s]] w (Ret (.int .i64 (wrE k q n s.size)) w) := by
  have hss := hide (@suits_same k q hk)
  clear hk
  go_enter Try.func28, Try.ntmps28
  go_wp2_with (first
    | (go_at_call 39; refine (rsuits_any _ _ _ _ _).mono ?_; rintro e w' ⟨rfl, hb2⟩)
    | (go_at_call 38; refine (rcheck_any _ _ _ _ hs).mono ?_; rintro e w' ⟨rfl, hb⟩; obtain ⟨hb', hz, hx⟩ := step_box [.int .i64 q, .int .i64 n, .string s] hb; have x0 := hx 0 _ rfl; have x1 := hx 1 _ rfl; have x2 := hx 2 _ rfl; clear hx))
  all_goals go_ret
  all_goals refine Ret.int ?_ ?_
  all_goals first | exact below_laid _ | exact hb' | exact bthen hb' hb2 | skip
  all_goals (simp only [toList_nil, Bool.not_eq_true', Bool.not_eq_false', bne_iff_ne, ne_eq, bne_eq_false_iff_eq, beq_iff_eq, beq_eq_false_iff_ne, decide_eq_true_eq, decide_eq_false_iff_not] at *)
  all_goals (have hs2 := hss.out; clear hss)
  all_goals (unfold wrE; (repeat' split) <;> first | rfl | omega | (exfalso; simp_all; done) | (exfalso; simp_all; omega))

/-- What Begin hands back. -/
def begV (k : Int) : Int := if knownB k = true then k else 0
def begE (k : Int) : Int := if knownB k = true then 0 else 1
def acc (k c q n : Int) (s : ByteArray) : Value := .agg #[.int .i64 k, .int .i64 c, .int .i64 q, .int .i64 n, .string s]
set_option maxHeartbeats 1000000 in
theorem abegin_any (k : Int) (w : World) :
    Calls Try.prog 20 #[.int .i64 k] w (Ret (.tuple #[.agg #[.int .i64 (begV k), .int .i64 0, .int .i64 0, .int .i64 0, .string ⟨#[]⟩], .int .i64 (begE k)]) w) := by
  go_enter Try.func20, Try.ntmps20
  go_wp2_with (go_at_call 31; refine (known_any _ _).mono ?_; rintro e w' ⟨rfl, rfl⟩)
  · have hk : knownB k = false := by simpa using ‹(!knownB k) = true›
    refine bodyPost_ret (v := .tuple #[.agg #[.int .i64 0, .int .i64 0, .int .i64 0, .int .i64 0, .string ⟨#[]⟩], .int .i64 1]) (by rw [results_cell_tmp rfl]; go_simp) rfl ?_
    refine Ret.mk ?_ (below_laid _)
    simp [begV, begE, hk]
  · have hk : knownB k = true := by simpa using ‹(!knownB k) = false›
    refine bodyPost_ret (v := .tuple #[.agg #[.int .i64 k, .int .i64 0, .int .i64 0, .int .i64 0, .string ⟨#[]⟩], .int .i64 0]) (by rw [results_cell_tmp rfl]; go_simp) rfl ?_
    refine Ret.mk ?_ (below_laid _)
    simp [begV, begE, hk]
set_option maxHeartbeats 1000000 in
theorem arbegin_any (k : Int) (w : World) :
    Calls Try.prog 21 #[.int .i64 k] w (Ret (.tuple #[.agg #[.int .i64 (begV k), .int .i64 0, .int .i64 0, .int .i64 0, .string ⟨#[]⟩], .int .i64 (begE k)]) w) := by
  go_enter Try.func21, Try.ntmps21
  go_wp2_with (go_at_call 36; refine (rkind_any _ _).mono ?_; rintro e w' ⟨rfl, rfl⟩)
  · have hk : knownB k = false := by simpa using ‹(!knownB k) = true›
    refine bodyPost_ret (v := .tuple #[.agg #[.int .i64 0, .int .i64 0, .int .i64 0, .int .i64 0, .string ⟨#[]⟩], .int .i64 1]) (by rw [results_cell_tmp rfl]; go_simp) rfl ?_
    refine Ret.mk ?_ (below_laid _)
    simp [begV, begE, hk]
  · have hk : knownB k = true := by simpa using ‹(!knownB k) = false›
    refine bodyPost_ret (v := .tuple #[.agg #[.int .i64 k, .int .i64 0, .int .i64 0, .int .i64 0, .string ⟨#[]⟩], .int .i64 0]) (by rw [results_cell_tmp rfl]; go_simp) rfl ?_
    refine Ret.mk ?_ (below_laid _)
    simp [begV, begE, hk]
end Go.Proofs.Ytgppohelgmadoaa
