/- The law's operator. -/
import Derived.Test.YtihbonndinnohaaQRep2
import Derived.Test.YtihbonndinnohaaQSame3
namespace Go.Proofs.Ytihbonndinnohaa
open Go.RowKit
set_option linter.unusedVariables false
set_option linter.unusedSimpArgs false
/-- An operator with a mark. -/
def mk1 (n : Int) : Oq := ⟨[n], []⟩
def RetOp (w : World) (n : Int) (e : Ending) (w' : World) : Prop := ∃ g, e = .returned (.agg #[.slice (some ⟨g, 0, none⟩) 1 1, .slice none 0 0]) ∧ ROq w' (· < w'.heap.size) [.slice (some ⟨g, 0, none⟩) 1 1, .slice none 0 0] (mk1 n) ∧ Below w.heap.size w w'
set_option maxHeartbeats 1000000 in
theorem opr_any (w : World) (n : Int) : Calls Try.prog 29 #[.int .i64 n] w (RetOp w n) := by
  go_enter Try.func29, Try.ntmps29
  go_wp2
  refine bodyPost_ret (v := .agg #[.slice (some ⟨w.heap.size + 1, 0, none⟩) 1 1, .slice none 0 0]) (by rw [results_c rfl]; go_simp) rfl ?_
  refine ⟨w.heap.size + 1, rfl, ⟨_, _, rfl, ⟨⟨_, 1, rfl, Nat.le_refl _, by simp [mk1, maxLen]⟩, fun j hj => ?_⟩, Lst.nil, by simp [mk1], by simp [mk1]⟩, bA_alloc (below_laid _) _⟩
  have hj0 : j = 0 := by simp [mk1] at hj; omega
  subst hj0
  refine ⟨w.heap.size + 1, 0, 1, [.int .i64 n], rfl, by simp, rfl, fun c u hu => ?_, rfl⟩
  have := cells_lit (w.alloc (.cells #[.slice (some ⟨w.heap.size + 1, 0, none⟩) 1 1, .slice none 0 0] 42)) [.int .i64 n] 3 c u hu
  simpa using this
end Go.Proofs.Ytihbonndinnohaa
