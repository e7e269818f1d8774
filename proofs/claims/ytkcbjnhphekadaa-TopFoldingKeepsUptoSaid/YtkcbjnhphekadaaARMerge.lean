/- The reference's Merge. -/
import Derived.Test.YtkcbjnhphekadaaAMerge
namespace Go.Proofs.Ytkcbjnhphekadaa
open Go.RowKit
set_option linter.unusedVariables false
set_option linter.unusedSimpArgs false

section
variable (k c q n l d p m : Int) (s t : ByteArray) (w : World)
end
end Go.Proofs.Ytkcbjnhphekadaa
