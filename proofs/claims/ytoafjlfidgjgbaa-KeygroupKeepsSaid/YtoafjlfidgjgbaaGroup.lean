/- keygroup.Group and the reference's Group: one number. -/
import Derived.Test.YtoafjlfidgjgbaaHash
namespace Go.Proofs.Ytoafjlfidgjgbaa
open Go.RowKit
set_option linter.unusedVariables false
set_option linter.unusedSimpArgs false

set_option maxHeartbeats 400000 in
theorem group_any (q n : Int) (s : ByteArray) (w : World) (hs : s.size ≤ maxLen) :
    Calls Try.prog 10 #[.agg #[.int .i64 q, .int .i64 n, .string s]] w (Ret (.tuple #[.int .i64 (hashV q n s % 16), .int .i64 (checkC q n s.size)]) w) := by
  have hr := hashV_range q n s
  have hbad := hide (@hashV_bad q n s)
  go_enter Try.func10, Try.ntmps10
  go_wp2_with (go_at_call 26; refine (hash_any _ _ _ _ hs).mono ?_; rintro e w1 ⟨rfl, hb⟩)
  all_goals go_ret2
  all_goals refine Ret.int2 ?_ ?_ (bthen ((Below.refl _ _).alloc (Nat.le_refl _) _) hb)
  all_goals (try simp only [isEmpty_size, bne_iff_ne, ne_eq, bne_eq_false_iff_eq, beq_iff_eq, beq_eq_false_iff_ne, Bool.not_eq_true', Bool.not_eq_false', decide_eq_true_eq, decide_eq_false_iff_not] at *)
  all_goals first | rfl | (rw [hbad.out ‹_›]; rfl) | omega

set_option maxHeartbeats 400000 in
theorem rgroup_any (q n : Int) (s : ByteArray) (w : World) (hs : s.size ≤ maxLen) :
    Calls Try.prog 11 #[.agg #[.int .i64 q, .int .i64 n, .string s]] w (Ret (.tuple #[.int .i64 (hashV q n s % 16), .int .i64 (checkC q n s.size)]) w) := by
  have hr := hashV_range q n s
  have hbad := hide (@hashV_bad q n s)
  go_enter Try.func11, Try.ntmps11
  go_wp2_with (go_at_call 27; refine (rhash_any _ _ _ _ hs).mono ?_; rintro e w1 ⟨rfl, hb⟩)
  all_goals go_ret2
  all_goals refine Ret.int2 ?_ ?_ (bthen ((Below.refl _ _).alloc (Nat.le_refl _) _) hb)
  all_goals (try simp only [isEmpty_size, bne_iff_ne, ne_eq, bne_eq_false_iff_eq, beq_iff_eq, beq_eq_false_iff_ne, Bool.not_eq_true', Bool.not_eq_false', decide_eq_true_eq, decide_eq_false_iff_not] at *)
  all_goals first | rfl | (rw [hbad.out ‹_›]; rfl) | omega
end Go.Proofs.Ytoafjlfidgjgbaa
