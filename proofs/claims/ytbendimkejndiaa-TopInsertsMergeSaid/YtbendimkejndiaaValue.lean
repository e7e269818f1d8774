/- value.Check, value.size and the reference's Check: one number. -/
import Derived.Test.YtbendimkejndiaaBase
namespace Go.Proofs.Ytbendimkejndiaa
open Go.RowKit
set_option linter.unusedVariables false
set_option linter.unusedSimpArgs false

def sizeC (k n : Int) (len : Nat) : Int :=
  if k = 0 ∧ (n < -1099511627776 ∨ 1099511627776 < n) then 2 else if k = 1 ∧ n ≠ 0 ∧ n ≠ 1 then 2 else if 64 < len then 13 else 0

def checkC (k n : Int) (len : Nat) : Int :=
  if k = 0 ∨ k = 1 then (if len ≠ 0 then 3 else sizeC k n len) else if k = 2 then (if n ≠ 0 then 3 else sizeC k n len) else 1

end Go.Proofs.Ytbendimkejndiaa
