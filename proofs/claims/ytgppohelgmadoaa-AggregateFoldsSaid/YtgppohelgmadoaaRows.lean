/-
  No cell of these rows narrows 'for every input' (looked for: loops, veiled, ifaces, maps, wideKeys, modest, calm, conditions, laid).
  DERIVED. THE GIVEN ROWS OF THIS SEAT. 8 by the template 'for every input the law returns true; each argument reads behind the call as it read before'; 0 by the template 'total and deterministic' (their statements: YtgppohelgmadoaaTotals.lean).
  GIVEN WITH THE SEED: the statements are not yours to turn. If you find one false, say at which input.
  Laid BY PROGRAM, IN A SANDBOX (cutbox-rows.mjs): the forced cells as the released guide's own fill.sh prints them over the translation 9113746e2d7a7fc4… (all of the seat's roots in one cut). By AI agents, Wed Nov 11 2026. No macro, syntax, notation, axiom, sorry.
-/
import Derived.Test.YtgppohelgmadoaaChecked
import GoSem.Claim
import GoSem.ClaimJoined
import GoSem.ClaimMapViews
import Derived.JoinedTies
import Derived.KernelRfl
namespace Go.Proofs.Ytgppohelgmadoaa
/- THE CELL 'sum', in the pinned program and in every row, IS THE sha256 OF THE DUMP (.gsa) THAT YtgppohelgmadoaaProg.lean LOADS. Nothing in Lean hashes anything: it is a label: what it is worth is what the hold of that sum in a sandbox is worth. -/
noncomputable def Try.pinned : Pinned := { name := "ytgppohelgmadoaa", sum := "9113746e2d7a7fc4d0f3443c879e6b05557fb9ecb86df2a932abd6ead9a83f45", checked := Try.checked }
namespace Rows
def none {H : Type} : Left H := { results := [], args := [] }

/-- 'tidegatelaw07.AggregateResults': WHATEVER THE INPUT: true; the input reads as it did. -/
def aggregateResultsSpec : ChangeSpec := { name := "aggregateResults", fn := fun _ => fun
  | [d1, d2] => { results := [.lit (.bool true)], args := [d1, d2] }
  | _ => none }
def aggregateResultsRow : OpenClaim := { program := "ytgppohelgmadoaa", sum := "9113746e2d7a7fc4d0f3443c879e6b05557fb9ecb86df2a932abd6ead9a83f45", func := "tidegate/tidegatelaw07.AggregateResults", spec := "aggregateResults", unfollowed := true, recurses := true, apart := false }
def AggregateResultsSaid : Prop := aggregateResultsRow.holds Try.pinned (OpenSpec.ofChange aggregateResultsSpec)

/-- ITS FALSE NEIGHBOUR: 'it returns false'. Refute it at one input. -/
def aggregateResultsWrong : ChangeSpec := { name := "aggregateResults", fn := fun _ => fun
  | [d1, d2] => { results := [.lit (.bool false)], args := [d1, d2] }
  | _ => none }
def AggregateResultsWrongFalsely : Prop := aggregateResultsRow.holds Try.pinned (OpenSpec.ofChange aggregateResultsWrong)

/-- 'tidegatelaw07.AggregateLists': WHATEVER THE INPUT: true; the input reads as it did. -/
def aggregateListsSpec : ChangeSpec := { name := "aggregateLists", fn := fun _ => fun
  | [d1, d2, d3] => { results := [.lit (.bool true)], args := [d1, d2, d3] }
  | _ => none }
def aggregateListsRow : OpenClaim := { program := "ytgppohelgmadoaa", sum := "9113746e2d7a7fc4d0f3443c879e6b05557fb9ecb86df2a932abd6ead9a83f45", func := "tidegate/tidegatelaw07.AggregateLists", spec := "aggregateLists", unfollowed := true, recurses := true, apart := false }
def AggregateListsSaid : Prop := aggregateListsRow.holds Try.pinned (OpenSpec.ofChange aggregateListsSpec)

/-- ITS FALSE NEIGHBOUR: 'it returns false'. Refute it at one input. -/
def aggregateListsWrong : ChangeSpec := { name := "aggregateLists", fn := fun _ => fun
  | [d1, d2, d3] => { results := [.lit (.bool false)], args := [d1, d2, d3] }
  | _ => none }
def AggregateListsWrongFalsely : Prop := aggregateListsRow.holds Try.pinned (OpenSpec.ofChange aggregateListsWrong)

/-- 'tidegatelaw07.AggregateMerges': WHATEVER THE INPUT: true; the input reads as it did. -/
def aggregateMergesSpec : ChangeSpec := { name := "aggregateMerges", fn := fun _ => fun
  | [d1, d2] => { results := [.lit (.bool true)], args := [d1, d2] }
  | _ => none }
def aggregateMergesRow : OpenClaim := { program := "ytgppohelgmadoaa", sum := "9113746e2d7a7fc4d0f3443c879e6b05557fb9ecb86df2a932abd6ead9a83f45", func := "tidegate/tidegatelaw07.AggregateMerges", spec := "aggregateMerges", unfollowed := true, recurses := true, apart := false }
def AggregateMergesSaid : Prop := aggregateMergesRow.holds Try.pinned (OpenSpec.ofChange aggregateMergesSpec)

/-- ITS FALSE NEIGHBOUR: 'it returns false'. Refute it at one input. -/
def aggregateMergesWrong : ChangeSpec := { name := "aggregateMerges", fn := fun _ => fun
  | [d1, d2] => { results := [.lit (.bool false)], args := [d1, d2] }
  | _ => none }
def AggregateMergesWrongFalsely : Prop := aggregateMergesRow.holds Try.pinned (OpenSpec.ofChange aggregateMergesWrong)

/-- 'tidegatelaw07.AggregateOrders': WHATEVER THE INPUT: true; the input reads as it did. -/
def aggregateOrdersSpec : ChangeSpec := { name := "aggregateOrders", fn := fun _ => fun
  | [d1, d2] => { results := [.lit (.bool true)], args := [d1, d2] }
  | _ => none }
def aggregateOrdersRow : OpenClaim := { program := "ytgppohelgmadoaa", sum := "9113746e2d7a7fc4d0f3443c879e6b05557fb9ecb86df2a932abd6ead9a83f45", func := "tidegate/tidegatelaw07.AggregateOrders", spec := "aggregateOrders", unfollowed := true, recurses := true, apart := false }
def AggregateOrdersSaid : Prop := aggregateOrdersRow.holds Try.pinned (OpenSpec.ofChange aggregateOrdersSpec)

/-- ITS FALSE NEIGHBOUR: 'it returns false'. Refute it at one input. -/
def aggregateOrdersWrong : ChangeSpec := { name := "aggregateOrders", fn := fun _ => fun
  | [d1, d2] => { results := [.lit (.bool false)], args := [d1, d2] }
  | _ => none }
def AggregateOrdersWrongFalsely : Prop := aggregateOrdersRow.holds Try.pinned (OpenSpec.ofChange aggregateOrdersWrong)

/-- 'tidegatelaw07.AggregateChecks': WHATEVER THE INPUT: true; the input reads as it did. -/
def aggregateChecksSpec : ChangeSpec := { name := "aggregateChecks", fn := fun _ => fun
  | [d1, d2] => { results := [.lit (.bool true)], args := [d1, d2] }
  | _ => none }
def aggregateChecksRow : OpenClaim := { program := "ytgppohelgmadoaa", sum := "9113746e2d7a7fc4d0f3443c879e6b05557fb9ecb86df2a932abd6ead9a83f45", func := "tidegate/tidegatelaw07.AggregateChecks", spec := "aggregateChecks", unfollowed := true, recurses := true, apart := false }
def AggregateChecksSaid : Prop := aggregateChecksRow.holds Try.pinned (OpenSpec.ofChange aggregateChecksSpec)

/-- ITS FALSE NEIGHBOUR: 'it returns false'. Refute it at one input. -/
def aggregateChecksWrong : ChangeSpec := { name := "aggregateChecks", fn := fun _ => fun
  | [d1, d2] => { results := [.lit (.bool false)], args := [d1, d2] }
  | _ => none }
def AggregateChecksWrongFalsely : Prop := aggregateChecksRow.holds Try.pinned (OpenSpec.ofChange aggregateChecksWrong)

/-- 'tidegatelaw07.AggregateJoins': WHATEVER THE INPUT: true; the input reads as it did. -/
def aggregateJoinsSpec : ChangeSpec := { name := "aggregateJoins", fn := fun _ => fun
  | [d1, d2, d3] => { results := [.lit (.bool true)], args := [d1, d2, d3] }
  | _ => none }
def aggregateJoinsRow : OpenClaim := { program := "ytgppohelgmadoaa", sum := "9113746e2d7a7fc4d0f3443c879e6b05557fb9ecb86df2a932abd6ead9a83f45", func := "tidegate/tidegatelaw07.AggregateJoins", spec := "aggregateJoins", unfollowed := true, recurses := true, apart := false }
def AggregateJoinsSaid : Prop := aggregateJoinsRow.holds Try.pinned (OpenSpec.ofChange aggregateJoinsSpec)

/-- ITS FALSE NEIGHBOUR: 'it returns false'. Refute it at one input. -/
def aggregateJoinsWrong : ChangeSpec := { name := "aggregateJoins", fn := fun _ => fun
  | [d1, d2, d3] => { results := [.lit (.bool false)], args := [d1, d2, d3] }
  | _ => none }
def AggregateJoinsWrongFalsely : Prop := aggregateJoinsRow.holds Try.pinned (OpenSpec.ofChange aggregateJoinsWrong)

/-- 'tidegatelaw07.AggregateAdds': WHATEVER THE INPUT: true; the input reads as it did. -/
def aggregateAddsSpec : ChangeSpec := { name := "aggregateAdds", fn := fun _ => fun
  | [d1, d2] => { results := [.lit (.bool true)], args := [d1, d2] }
  | _ => none }
def aggregateAddsRow : OpenClaim := { program := "ytgppohelgmadoaa", sum := "9113746e2d7a7fc4d0f3443c879e6b05557fb9ecb86df2a932abd6ead9a83f45", func := "tidegate/tidegatelaw07.AggregateAdds", spec := "aggregateAdds", unfollowed := true, recurses := true, apart := false }
def AggregateAddsSaid : Prop := aggregateAddsRow.holds Try.pinned (OpenSpec.ofChange aggregateAddsSpec)

/-- ITS FALSE NEIGHBOUR: 'it returns false'. Refute it at one input. -/
def aggregateAddsWrong : ChangeSpec := { name := "aggregateAdds", fn := fun _ => fun
  | [d1, d2] => { results := [.lit (.bool false)], args := [d1, d2] }
  | _ => none }
def AggregateAddsWrongFalsely : Prop := aggregateAddsRow.holds Try.pinned (OpenSpec.ofChange aggregateAddsWrong)

/-- 'tidegatelaw07.AggregateFolds': WHATEVER THE INPUT: true; the input reads as it did. -/
def aggregateFoldsSpec : ChangeSpec := { name := "aggregateFolds", fn := fun _ => fun
  | [d1, d2, d3] => { results := [.lit (.bool true)], args := [d1, d2, d3] }
  | _ => none }
def aggregateFoldsRow : OpenClaim := { program := "ytgppohelgmadoaa", sum := "9113746e2d7a7fc4d0f3443c879e6b05557fb9ecb86df2a932abd6ead9a83f45", func := "tidegate/tidegatelaw07.AggregateFolds", spec := "aggregateFolds", unfollowed := true, recurses := true, apart := false }
def AggregateFoldsSaid : Prop := aggregateFoldsRow.holds Try.pinned (OpenSpec.ofChange aggregateFoldsSpec)

/-- ITS FALSE NEIGHBOUR: 'it returns false'. Refute it at one input. -/
def aggregateFoldsWrong : ChangeSpec := { name := "aggregateFolds", fn := fun _ => fun
  | [d1, d2, d3] => { results := [.lit (.bool false)], args := [d1, d2, d3] }
  | _ => none }
def AggregateFoldsWrongFalsely : Prop := aggregateFoldsRow.holds Try.pinned (OpenSpec.ofChange aggregateFoldsWrong)

/- THE SECOND FORM. 'bulk': how many values and letters a reading holds, each counted each time it is reached (what is shared counts as often as it is met; a slice's spare places count too). A statement '..UptoSaid' is the law's where the arguments, and the package variables that the reading takes, are together of bulk at most 1048576: NARROWER than '..Said'. Prove '..Said' where nothing that the law and all that it calls make is longer than what came in: it says more and counts as full. Else prove '..UptoSaid'. A law counts once. -/
mutual
def uptoBulk {H : Type} : DataW H → Nat
  | .lit (.string bytes) => bytes.length + 1
  | .lit _ => 1
  | .nil => 1
  | .ptr d => uptoBulk d + 1
  | .slice elems spare => uptoBulkAll elems + uptoBulkAll spare + 1
  | .agg parts => uptoBulkAll parts + 1
  | .iface _ d => uptoBulk d + 1
  | .map entries => uptoBulkEntries entries + 1
  | .held _ => 1
def uptoBulkAll {H : Type} : List (DataW H) → Nat
  | [] => 0
  | d :: r => uptoBulk d + uptoBulkAll r
def uptoBulkEntries {H : Type} : List (Lit × DataW H) → Nat
  | [] => 0
  | x :: r => uptoBulkEntry x + uptoBulkEntries r
def uptoBulkEntry {H : Type} : Lit × DataW H → Nat
  | (.string bytes, d) => bytes.length + uptoBulk d + 1
  | (_, d) => uptoBulk d + 1
 end
def uptoSmall : (H : Type) → List (DataW H) → Bool := fun _ ds => decide (uptoBulkAll ds ≤ 1048576)
def OpenSpec.upto (s : _root_.Go.ChangeSpec) : _root_.Go.OpenSpec := { _root_.Go.OpenSpec.ofChange s with cond := some uptoSmall }

/-- 'tidegatelaw07.AggregateResults', WHERE WHAT IT READS IS OF BULK AT MOST 1048576: true; the input reads as it did. -/
def aggregateResultsUptoRow : OpenClaim := { program := "ytgppohelgmadoaa", sum := "9113746e2d7a7fc4d0f3443c879e6b05557fb9ecb86df2a932abd6ead9a83f45", func := "tidegate/tidegatelaw07.AggregateResults", spec := "aggregateResults", unfollowed := true, recurses := true, apart := false, narrowed := true }
def AggregateResultsUptoSaid : Prop := aggregateResultsUptoRow.holds Try.pinned (OpenSpec.upto aggregateResultsSpec)

/-- 'tidegatelaw07.AggregateLists', WHERE WHAT IT READS IS OF BULK AT MOST 1048576: true; the input reads as it did. -/
def aggregateListsUptoRow : OpenClaim := { program := "ytgppohelgmadoaa", sum := "9113746e2d7a7fc4d0f3443c879e6b05557fb9ecb86df2a932abd6ead9a83f45", func := "tidegate/tidegatelaw07.AggregateLists", spec := "aggregateLists", unfollowed := true, recurses := true, apart := false, narrowed := true }
def AggregateListsUptoSaid : Prop := aggregateListsUptoRow.holds Try.pinned (OpenSpec.upto aggregateListsSpec)

/-- 'tidegatelaw07.AggregateMerges', WHERE WHAT IT READS IS OF BULK AT MOST 1048576: true; the input reads as it did. -/
def aggregateMergesUptoRow : OpenClaim := { program := "ytgppohelgmadoaa", sum := "9113746e2d7a7fc4d0f3443c879e6b05557fb9ecb86df2a932abd6ead9a83f45", func := "tidegate/tidegatelaw07.AggregateMerges", spec := "aggregateMerges", unfollowed := true, recurses := true, apart := false, narrowed := true }
def AggregateMergesUptoSaid : Prop := aggregateMergesUptoRow.holds Try.pinned (OpenSpec.upto aggregateMergesSpec)

/-- 'tidegatelaw07.AggregateOrders', WHERE WHAT IT READS IS OF BULK AT MOST 1048576: true; the input reads as it did. -/
def aggregateOrdersUptoRow : OpenClaim := { program := "ytgppohelgmadoaa", sum := "9113746e2d7a7fc4d0f3443c879e6b05557fb9ecb86df2a932abd6ead9a83f45", func := "tidegate/tidegatelaw07.AggregateOrders", spec := "aggregateOrders", unfollowed := true, recurses := true, apart := false, narrowed := true }
def AggregateOrdersUptoSaid : Prop := aggregateOrdersUptoRow.holds Try.pinned (OpenSpec.upto aggregateOrdersSpec)

/-- 'tidegatelaw07.AggregateChecks', WHERE WHAT IT READS IS OF BULK AT MOST 1048576: true; the input reads as it did. -/
def aggregateChecksUptoRow : OpenClaim := { program := "ytgppohelgmadoaa", sum := "9113746e2d7a7fc4d0f3443c879e6b05557fb9ecb86df2a932abd6ead9a83f45", func := "tidegate/tidegatelaw07.AggregateChecks", spec := "aggregateChecks", unfollowed := true, recurses := true, apart := false, narrowed := true }
def AggregateChecksUptoSaid : Prop := aggregateChecksUptoRow.holds Try.pinned (OpenSpec.upto aggregateChecksSpec)

/-- 'tidegatelaw07.AggregateJoins', WHERE WHAT IT READS IS OF BULK AT MOST 1048576: true; the input reads as it did. -/
def aggregateJoinsUptoRow : OpenClaim := { program := "ytgppohelgmadoaa", sum := "9113746e2d7a7fc4d0f3443c879e6b05557fb9ecb86df2a932abd6ead9a83f45", func := "tidegate/tidegatelaw07.AggregateJoins", spec := "aggregateJoins", unfollowed := true, recurses := true, apart := false, narrowed := true }
def AggregateJoinsUptoSaid : Prop := aggregateJoinsUptoRow.holds Try.pinned (OpenSpec.upto aggregateJoinsSpec)

/-- 'tidegatelaw07.AggregateAdds', WHERE WHAT IT READS IS OF BULK AT MOST 1048576: true; the input reads as it did. -/
def aggregateAddsUptoRow : OpenClaim := { program := "ytgppohelgmadoaa", sum := "9113746e2d7a7fc4d0f3443c879e6b05557fb9ecb86df2a932abd6ead9a83f45", func := "tidegate/tidegatelaw07.AggregateAdds", spec := "aggregateAdds", unfollowed := true, recurses := true, apart := false, narrowed := true }
def AggregateAddsUptoSaid : Prop := aggregateAddsUptoRow.holds Try.pinned (OpenSpec.upto aggregateAddsSpec)

/-- 'tidegatelaw07.AggregateFolds', WHERE WHAT IT READS IS OF BULK AT MOST 1048576: true; the input reads as it did. -/
def aggregateFoldsUptoRow : OpenClaim := { program := "ytgppohelgmadoaa", sum := "9113746e2d7a7fc4d0f3443c879e6b05557fb9ecb86df2a932abd6ead9a83f45", func := "tidegate/tidegatelaw07.AggregateFolds", spec := "aggregateFolds", unfollowed := true, recurses := true, apart := false, narrowed := true }
def AggregateFoldsUptoSaid : Prop := aggregateFoldsUptoRow.holds Try.pinned (OpenSpec.upto aggregateFoldsSpec)

end Rows
end Go.Proofs.Ytgppohelgmadoaa
