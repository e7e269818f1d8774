/- value.Check, value.size and the reference's Check: one number. -/
import Derived.Test.YtppaiihcaajkaaaGreatBase
namespace Go.Proofs.YtppaiihcaajkaaaGreat
open Go.RowKit
set_option linter.unusedVariables false
set_option linter.unusedSimpArgs false

def sizeC (k n : Int) (len : Nat) : Int :=
  if k = 0 ∧ (n < -1099511627776 ∨ 1099511627776 < n) then 2 else if k = 1 ∧ n ≠ 0 ∧ n ≠ 1 then 2 else if 64 < len then 13 else 0

def checkC (k n : Int) (len : Nat) : Int :=
  if k = 0 ∨ k = 1 then (if len ≠ 0 then 3 else sizeC k n len) else if k = 2 then (if n ≠ 0 then 3 else sizeC k n len) else 1

set_option maxHeartbeats 400000 in
theorem size_any (k n : Int) (s : ByteArray) (w : World) (hs : s.size ≤ maxLen) :
    Calls Tryz.prog 102 #[.agg #[.int .i64 k, .int .i64 n, .string s]] w (Ret (.int .i64 (sizeC k n s.size)) w) := by
  unfold maxLen at hs
  go_enter Tryz.func102, Tryz.ntmps102
  go_wp2
  all_goals go_ret
  all_goals refine Ret.int ?_ ((Below.refl _ _).alloc (Nat.le_refl _) _)
  all_goals (try simp only [isEmpty_size, bne_iff_ne, ne_eq, bne_eq_false_iff_eq, beq_iff_eq, beq_eq_false_iff_ne, Bool.not_eq_true', Bool.not_eq_false', decide_eq_true_eq, decide_eq_false_iff_not] at *)
  all_goals unfold sizeC
  all_goals (repeat' split) <;> omega

set_option maxHeartbeats 400000 in
theorem check_any (k n : Int) (s : ByteArray) (w : World) (hs : s.size ≤ maxLen) :
    Calls Tryz.prog 86 #[.agg #[.int .i64 k, .int .i64 n, .string s]] w (Ret (.int .i64 (checkC k n s.size)) w) := by
  go_enter Tryz.func86, Tryz.ntmps86
  go_wp2_with (go_at_call 102; refine (size_any _ _ _ _ hs).mono ?_; rintro e w' ⟨rfl, hb⟩)
  all_goals go_ret
  all_goals refine Ret.int ?_ ?_
  all_goals first | exact ((Below.refl _ _).alloc (Nat.le_refl _) _) | exact ((Below.refl _ _).alloc (Nat.le_refl _) _).trans (Below.mono ‹_› (by simp)) | skip
  all_goals (try simp only [isEmpty_size, bne_iff_ne, ne_eq, bne_eq_false_iff_eq, beq_iff_eq, beq_eq_false_iff_ne, Bool.not_eq_true', Bool.not_eq_false', decide_eq_true_eq, decide_eq_false_iff_not] at *)
  all_goals unfold checkC
  all_goals (repeat' split) <;> first | rfl | omega

end Go.Proofs.YtppaiihcaajkaaaGreat
