/- Check of accumulators, of the program and of the reference; what suits an aggregate. -/
import Derived.Test.YtkcbjnhphekadaaValue
import Derived.Test.YtkcbjnhphekadaaGen
namespace Go.Proofs.Ytkcbjnhphekadaa
open Go.RowKit
set_option linter.unusedVariables false
set_option linter.unusedSimpArgs false

def knownB (k : Int) : Bool := decide (0 ≤ k ∧ k ≤ 5)
def suitsB (k q : Int) : Bool := decide (q = 0 ∨ (k ≠ 1 ∧ k ≠ 2 ∧ k ≠ 3))
def rsuitsB (k q : Int) : Bool := decide (q = 0 ∨ k = 0 ∨ k = 4 ∨ k = 5)
theorem suits_same {k q : Int} (h : knownB k = true) : rsuitsB k q = suitsB k q := by
  simp only [knownB, rsuitsB, suitsB, decide_eq_true_eq] at *
  rw [decide_eq_decide]; omega

set_option maxHeartbeats 400000 in
theorem known_any (k : Int) (w : World) : Calls Try.prog 27 #[.int .i64 k] w fun e w' => e = .returned (.bool (knownB k)) ∧ w = w' := by
  go_enter Try.func27, Try.ntmps27
  go_wp2
  all_goals go_ret
  all_goals (refine ⟨congrArg (fun b => Ending.returned (.bool b)) ?_, rfl⟩; simp only [knownB])
  all_goals (try simp only [isEmpty_size, bne_iff_ne, ne_eq, bne_eq_false_iff_eq, beq_iff_eq, beq_eq_false_iff_ne, Bool.not_eq_true', Bool.not_eq_false', decide_eq_true_eq, decide_eq_false_iff_not] at *)
  all_goals (rw [Bool.eq_iff_iff]; simp only [decide_eq_true_eq, bne_iff_ne, beq_iff_eq, ne_eq, Bool.not_eq_true, reduceCtorEq, iff_true, true_iff, iff_false, false_iff, Bool.or_eq_true, Bool.and_eq_true]; omega)
set_option maxHeartbeats 400000 in
theorem suits_any (k q n : Int) (s : ByteArray) (w : World) :
    Calls Try.prog 55 #[.int .i64 k, .agg #[.int .i64 q, .int .i64 n, .string s]] w (Ret (.bool (suitsB k q)) w) := by
  go_enter Try.func55, Try.ntmps55
  go_wp2
  all_goals go_ret
  all_goals (refine Ret.bool ?_ ((Below.refl _ _).alloc (Nat.le_refl _) _); simp only [suitsB])
  all_goals (try simp only [isEmpty_size, bne_iff_ne, ne_eq, bne_eq_false_iff_eq, beq_iff_eq, beq_eq_false_iff_ne, Bool.not_eq_true', Bool.not_eq_false', decide_eq_true_eq, decide_eq_false_iff_not] at *)
  all_goals (rw [Bool.eq_iff_iff]; simp only [decide_eq_true_eq, bne_iff_ne, beq_iff_eq, ne_eq, Bool.not_eq_true, reduceCtorEq, iff_true, true_iff, iff_false, false_iff, Bool.or_eq_true, Bool.and_eq_true]; omega)
/-- The number of the error of an accumulator. -/
def accE (k c q n : Int) (len : Nat) : Int :=
  if knownB k = false then 1 else if c < 0 ∨ 4096 < c then 2 else if c = 0 ∨ k = 0 then (if q = 0 ∧ n = 0 ∧ len = 0 then 0 else 3)
  else if k = 1 then (if q = 0 ∧ len = 0 ∧ -(c * 1099511627776) ≤ n ∧ n ≤ c * 1099511627776 then 0 else 3)
  else if checkC q n len = 0 ∧ suitsB k q = true then 0 else 3

set_option maxHeartbeats 2000000 in
theorem acheck_any (k c q n : Int) (s : ByteArray) (w : World) (hs : s.size ≤ maxLen) :
    Calls Try.prog 34 #[.agg #[.int .i64 k, .int .i64 c, .int .i64 q, .int .i64 n, .string s]] w (Ret (.int .i64 (accE k c q n s.size)) w) := by
  go_enter Try.func34, Try.ntmps34
  go_wp2_with (first
    | (go_at_call 27; refine (known_any _ _).mono ?_; rintro e w' ⟨rfl, rfl⟩)
    | (go_at_call 55; refine (suits_any _ _ _ _ _).mono ?_; rintro e w' ⟨rfl, hb2⟩)
    | (go_at_call 54; refine (check_any _ _ _ _ hs).mono ?_; rintro e w' ⟨rfl, hb⟩; obtain ⟨hb', hz, hx⟩ := step_box [.int .i64 k, .int .i64 c, .int .i64 q, .int .i64 n, .string s] hb; have x0 := hx 0 _ rfl; have x1 := hx 1 _ rfl; have x2 := hx 2 _ rfl; have x3 := hx 3 _ rfl; have x4 := hx 4 _ rfl; clear hx))
  all_goals go_ret
  all_goals refine Ret.int ?_ ?_
  all_goals first | exact below_laid _ | exact hb' | exact bthen hb' hb2 | skip
  all_goals (simp only [toList_nil, Bool.not_eq_true', Bool.not_eq_false', bne_iff_ne, ne_eq, bne_eq_false_iff_eq, beq_iff_eq, beq_eq_false_iff_ne, decide_eq_true_eq, decide_eq_false_iff_not] at *)
  all_goals (unfold accE; (repeat' split) <;> first | rfl | omega | (exfalso; simp_all; done) | (exfalso; simp_all; omega))
end Go.Proofs.Ytkcbjnhphekadaa
