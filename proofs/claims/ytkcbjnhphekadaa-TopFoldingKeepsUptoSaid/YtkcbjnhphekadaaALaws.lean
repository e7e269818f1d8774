/- The walks of five laws of layer 7. -/
import Derived.Test.YtkcbjnhphekadaaAAwake
namespace Go.Proofs.Ytkcbjnhphekadaa
open Go.RowKit
set_option linter.unusedVariables false
set_option linter.unusedSimpArgs false
section
variable (k c q n : Int) (s : ByteArray) (p m : Int) (t : ByteArray) (w : World)
end
section
variable (k c q n l d p m : Int) (s t : ByteArray) (w : World)
end

/-- A list of values that has come in. -/
def InV (w : World) (v : Value) (L : List V3) : Prop := L.length ≤ 9223372036854775807 ∧ (∀ x ∈ L, x.s.size ≤ maxLen) ∧ (∃ A cap, v = .slice A L.length cap) ∧ (Row w w.heap.size 3 v L.length (flat L))
end Go.Proofs.Ytkcbjnhphekadaa
