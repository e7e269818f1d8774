/- Words for the Coordinator's laws. -/
import Derived.Test.YtihbonndinnohaaQAwk2
namespace Go.Proofs.Ytihbonndinnohaa
open Go.RowKit
set_option linter.unusedVariables false
set_option linter.unusedSimpArgs false
def RdyL (w : World) (RN : Int) (RB : Bool) (E : Int) (RS : List Rq) (OS : List Oq) (e : Ending) (w' : World) : Prop := ∃ v u, e = .returned (.tuple #[.agg #[.int .i64 RN, v, u], .bool RB, .int .i64 E]) ∧ Lq w' 6 RRq v RS ∧ Lq w' 2 ROq u OS ∧ Below w.heap.size w w'
theorem rdy_both (c : Cq) : ∃ RN RB RS OS, (∀ w v, CoV w v c → Calls Try.prog 21 #[v] w (RdyL w RN RB (chkQ c) RS OS)) ∧ ∀ w v, CoV w v c → Calls Try.prog 22 #[v] w (RdyL w RN RB (chkQ c) RS OS) :=
  ⟨rdyN c, rdyB c, rdyR c, rdyO c, fun w v h => ready_any w c v h, fun w v h => rready_any w c v h⟩
end Go.Proofs.Ytihbonndinnohaa
