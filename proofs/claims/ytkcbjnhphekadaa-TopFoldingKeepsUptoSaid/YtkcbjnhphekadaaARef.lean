/- The reference's Check of accumulators; Begin; what is wrong with a value. -/
import Derived.Test.YtkcbjnhphekadaaACheck
namespace Go.Proofs.Ytkcbjnhphekadaa
open Go.RowKit
set_option linter.unusedVariables false
set_option linter.unusedSimpArgs false
/-- The number of the error of a value for an aggregate. -/
def wrE (k q n : Int) (len : Nat) : Int := if checkC q n len ≠ 0 then checkC q n len else if suitsB k q = true then 0 else 9
set_option maxHeartbeats 1000000 in
theorem wrong_any (k q n : Int) (s : ByteArray) (w : World) (hs : s.size ≤ maxLen) :
    Calls Try.prog 28 #[.int .i64 k, .agg #[.int .i64 q, .int .i64 n, .string s]] w (Ret (.int .i64 (wrE k q n s.size)) w) := by
  go_enter Try.func28, Try.ntmps28
  go_wp2_with (first
    | (go_at_call 55; refine (suits_any _ _ _ _ _).mono ?_; rintro e w' ⟨rfl, hb2⟩)
    | (go_at_call 54; refine (check_any _ _ _ _ hs).mono ?_; rintro e w' ⟨rfl, hb⟩; obtain ⟨hb', hz, hx⟩ := step_box [.int .i64 q, .int .i64 n, .string s] hb; have x0 := hx 0 _ rfl; have x1 := hx 1 _ rfl; have x2 := hx 2 _ rfl; clear hx))
  all_goals go_ret
  all_goals refine Ret.int ?_ ?_
  all_goals first | exact below_laid _ | exact hb' | exact bthen hb' hb2 | skip
  all_goals (simp only [toList_nil, Bool.not_eq_true', Bool.not_eq_false', bne_iff_ne, ne_eq, bne_eq_false_iff_eq, beq_iff_eq, beq_eq_false_iff_ne, decide_eq_true_eq, decide_eq_false_iff_not] at *)
  all_goals (unfold wrE; (repeat' split) <;> first | rfl | omega | (exfalso; simp_all; done) | (exfalso; simp_all; omega))
/-- What Begin hands back. -/
def begV (k : Int) : Int := if knownB k = true then k else 0
def begE (k : Int) : Int := if knownB k = true then 0 else 1
def acc (k c q n : Int) (s : ByteArray) : Value := .agg #[.int .i64 k, .int .i64 c, .int .i64 q, .int .i64 n, .string s]
end Go.Proofs.Ytkcbjnhphekadaa
