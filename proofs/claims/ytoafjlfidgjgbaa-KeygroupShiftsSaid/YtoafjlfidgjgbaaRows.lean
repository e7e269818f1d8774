/-
  No cell of these rows narrows 'for every input' (looked for: loops, veiled, ifaces, maps, wideKeys, modest, calm, conditions, laid).
  DERIVED. THE GIVEN ROWS OF THIS SEAT. 7 by the template 'for every input the law returns true; each argument reads behind the call as it read before'; 0 by the template 'total and deterministic' (their statements: YtoafjlfidgjgbaaTotals.lean).
  GIVEN WITH THE SEED: the statements are not yours to turn. If you find one false, say at which input.
  Laid BY PROGRAM, IN A SANDBOX (cutbox-rows.mjs): the forced cells as the released guide's own fill.sh prints them over the translation 79b4ec5b08219757… (all of the seat's roots in one cut). By AI agents, Wed Nov 11 2026. No macro, syntax, notation, axiom, sorry.
-/
import Derived.Test.YtoafjlfidgjgbaaChecked
import GoSem.Claim
import GoSem.ClaimJoined
import GoSem.ClaimMapViews
import Derived.JoinedTies
import Derived.KernelRfl
namespace Go.Proofs.Ytoafjlfidgjgbaa
/- THE CELL 'sum', in the pinned program and in every row, IS THE sha256 OF THE DUMP (.gsa) THAT YtoafjlfidgjgbaaProg.lean LOADS. Nothing in Lean hashes anything: it is a label: what it is worth is what the hold of that sum in a sandbox is worth. -/
noncomputable def Try.pinned : Pinned := { name := "ytoafjlfidgjgbaa", sum := "79b4ec5b08219757a9a4f820803fbeede20f36a00561e11a28b763d0985dd8cb", checked := Try.checked }
namespace Rows
def none {H : Type} : Left H := { results := [], args := [] }

/-- 'tidegatelaw45.KeygroupGroups': WHATEVER THE INPUT: true; the input reads as it did. -/
def keygroupGroupsSpec : ChangeSpec := { name := "keygroupGroups", fn := fun _ => fun
  | [d] => { results := [.lit (.bool true)], args := [d] }
  | _ => none }
def keygroupGroupsRow : OpenClaim := { program := "ytoafjlfidgjgbaa", sum := "79b4ec5b08219757a9a4f820803fbeede20f36a00561e11a28b763d0985dd8cb", func := "tidegate/tidegatelaw45.KeygroupGroups", spec := "keygroupGroups", unfollowed := true, recurses := true, apart := false }
def KeygroupGroupsSaid : Prop := keygroupGroupsRow.holds Try.pinned (OpenSpec.ofChange keygroupGroupsSpec)

/-- ITS FALSE NEIGHBOUR: 'it returns false'. Refute it at one input. -/
def keygroupGroupsWrong : ChangeSpec := { name := "keygroupGroups", fn := fun _ => fun
  | [d] => { results := [.lit (.bool false)], args := [d] }
  | _ => none }
def KeygroupGroupsWrongFalsely : Prop := keygroupGroupsRow.holds Try.pinned (OpenSpec.ofChange keygroupGroupsWrong)

/-- 'tidegatelaw45.KeygroupAssigns': WHATEVER THE INPUT: true; the input reads as it did. -/
def keygroupAssignsSpec : ChangeSpec := { name := "keygroupAssigns", fn := fun _ => fun
  | [d] => { results := [.lit (.bool true)], args := [d] }
  | _ => none }
def keygroupAssignsRow : OpenClaim := { program := "ytoafjlfidgjgbaa", sum := "79b4ec5b08219757a9a4f820803fbeede20f36a00561e11a28b763d0985dd8cb", func := "tidegate/tidegatelaw45.KeygroupAssigns", spec := "keygroupAssigns", unfollowed := true, recurses := true, apart := false }
def KeygroupAssignsSaid : Prop := keygroupAssignsRow.holds Try.pinned (OpenSpec.ofChange keygroupAssignsSpec)

/-- ITS FALSE NEIGHBOUR: 'it returns false'. Refute it at one input. -/
def keygroupAssignsWrong : ChangeSpec := { name := "keygroupAssigns", fn := fun _ => fun
  | [d] => { results := [.lit (.bool false)], args := [d] }
  | _ => none }
def KeygroupAssignsWrongFalsely : Prop := keygroupAssignsRow.holds Try.pinned (OpenSpec.ofChange keygroupAssignsWrong)

/-- 'tidegatelaw45.KeygroupMoves': WHATEVER THE INPUT: true; the input reads as it did. -/
def keygroupMovesSpec : ChangeSpec := { name := "keygroupMoves", fn := fun _ => fun
  | [d1, d2] => { results := [.lit (.bool true)], args := [d1, d2] }
  | _ => none }
def keygroupMovesRow : OpenClaim := { program := "ytoafjlfidgjgbaa", sum := "79b4ec5b08219757a9a4f820803fbeede20f36a00561e11a28b763d0985dd8cb", func := "tidegate/tidegatelaw45.KeygroupMoves", spec := "keygroupMoves", unfollowed := true, recurses := true, apart := false }
def KeygroupMovesSaid : Prop := keygroupMovesRow.holds Try.pinned (OpenSpec.ofChange keygroupMovesSpec)

/-- ITS FALSE NEIGHBOUR: 'it returns false'. Refute it at one input. -/
def keygroupMovesWrong : ChangeSpec := { name := "keygroupMoves", fn := fun _ => fun
  | [d1, d2] => { results := [.lit (.bool false)], args := [d1, d2] }
  | _ => none }
def KeygroupMovesWrongFalsely : Prop := keygroupMovesRow.holds Try.pinned (OpenSpec.ofChange keygroupMovesWrong)

/-- 'tidegatelaw45.KeygroupShifts': WHATEVER THE INPUT: true; the input reads as it did. -/
def keygroupShiftsSpec : ChangeSpec := { name := "keygroupShifts", fn := fun _ => fun
  | [d1, d2] => { results := [.lit (.bool true)], args := [d1, d2] }
  | _ => none }
def keygroupShiftsRow : OpenClaim := { program := "ytoafjlfidgjgbaa", sum := "79b4ec5b08219757a9a4f820803fbeede20f36a00561e11a28b763d0985dd8cb", func := "tidegate/tidegatelaw45.KeygroupShifts", spec := "keygroupShifts", unfollowed := true, recurses := true, apart := false }
def KeygroupShiftsSaid : Prop := keygroupShiftsRow.holds Try.pinned (OpenSpec.ofChange keygroupShiftsSpec)

/-- ITS FALSE NEIGHBOUR: 'it returns false'. Refute it at one input. -/
def keygroupShiftsWrong : ChangeSpec := { name := "keygroupShifts", fn := fun _ => fun
  | [d1, d2] => { results := [.lit (.bool false)], args := [d1, d2] }
  | _ => none }
def KeygroupShiftsWrongFalsely : Prop := keygroupShiftsRow.holds Try.pinned (OpenSpec.ofChange keygroupShiftsWrong)

/-- 'tidegatelaw45.KeygroupKeeps': WHATEVER THE INPUT: true; the input reads as it did. -/
def keygroupKeepsSpec : ChangeSpec := { name := "keygroupKeeps", fn := fun _ => fun
  | [d1, d2] => { results := [.lit (.bool true)], args := [d1, d2] }
  | _ => none }
def keygroupKeepsRow : OpenClaim := { program := "ytoafjlfidgjgbaa", sum := "79b4ec5b08219757a9a4f820803fbeede20f36a00561e11a28b763d0985dd8cb", func := "tidegate/tidegatelaw45.KeygroupKeeps", spec := "keygroupKeeps", unfollowed := true, recurses := true, apart := false }
def KeygroupKeepsSaid : Prop := keygroupKeepsRow.holds Try.pinned (OpenSpec.ofChange keygroupKeepsSpec)

/-- ITS FALSE NEIGHBOUR: 'it returns false'. Refute it at one input. -/
def keygroupKeepsWrong : ChangeSpec := { name := "keygroupKeeps", fn := fun _ => fun
  | [d1, d2] => { results := [.lit (.bool false)], args := [d1, d2] }
  | _ => none }
def KeygroupKeepsWrongFalsely : Prop := keygroupKeepsRow.holds Try.pinned (OpenSpec.ofChange keygroupKeepsWrong)

/-- 'tidegatelaw45.KeygroupWorkers': WHATEVER THE INPUT: true; the input reads as it did. -/
def keygroupWorkersSpec : ChangeSpec := { name := "keygroupWorkers", fn := fun _ => fun
  | [d1, d2, d3] => { results := [.lit (.bool true)], args := [d1, d2, d3] }
  | _ => none }
def keygroupWorkersRow : OpenClaim := { program := "ytoafjlfidgjgbaa", sum := "79b4ec5b08219757a9a4f820803fbeede20f36a00561e11a28b763d0985dd8cb", func := "tidegate/tidegatelaw45.KeygroupWorkers", spec := "keygroupWorkers", unfollowed := true, recurses := true, apart := false }
def KeygroupWorkersSaid : Prop := keygroupWorkersRow.holds Try.pinned (OpenSpec.ofChange keygroupWorkersSpec)

/-- ITS FALSE NEIGHBOUR: 'it returns false'. Refute it at one input. -/
def keygroupWorkersWrong : ChangeSpec := { name := "keygroupWorkers", fn := fun _ => fun
  | [d1, d2, d3] => { results := [.lit (.bool false)], args := [d1, d2, d3] }
  | _ => none }
def KeygroupWorkersWrongFalsely : Prop := keygroupWorkersRow.holds Try.pinned (OpenSpec.ofChange keygroupWorkersWrong)

/-- 'tidegatelaw45.KeygroupCovers': WHATEVER THE INPUT: true; the input reads as it did. -/
def keygroupCoversSpec : ChangeSpec := { name := "keygroupCovers", fn := fun _ => fun
  | [d] => { results := [.lit (.bool true)], args := [d] }
  | _ => none }
def keygroupCoversRow : OpenClaim := { program := "ytoafjlfidgjgbaa", sum := "79b4ec5b08219757a9a4f820803fbeede20f36a00561e11a28b763d0985dd8cb", func := "tidegate/tidegatelaw45.KeygroupCovers", spec := "keygroupCovers", unfollowed := true, recurses := true, apart := false }
def KeygroupCoversSaid : Prop := keygroupCoversRow.holds Try.pinned (OpenSpec.ofChange keygroupCoversSpec)

/-- ITS FALSE NEIGHBOUR: 'it returns false'. Refute it at one input. -/
def keygroupCoversWrong : ChangeSpec := { name := "keygroupCovers", fn := fun _ => fun
  | [d] => { results := [.lit (.bool false)], args := [d] }
  | _ => none }
def KeygroupCoversWrongFalsely : Prop := keygroupCoversRow.holds Try.pinned (OpenSpec.ofChange keygroupCoversWrong)

/- THE SECOND FORM. 'bulk': how many values and letters a reading holds, each counted each time it is reached (what is shared counts as often as it is met; a slice's spare places count too). A statement '..UptoSaid' is the law's where the arguments, and the package variables that the reading takes, are together of bulk at most 1048576: NARROWER than '..Said'. Prove '..Said' where nothing that the law and all that it calls make is longer than what came in: it says more and counts as full. Else prove '..UptoSaid'. A law counts once. -/
mutual
def uptoBulk {H : Type} : DataW H → Nat
  | .lit (.string bytes) => bytes.length + 1
  | .lit _ => 1
  | .nil => 1
  | .ptr d => uptoBulk d + 1
  | .slice elems spare => uptoBulkAll elems + uptoBulkAll spare + 1
  | .agg parts => uptoBulkAll parts + 1
  | .iface _ d => uptoBulk d + 1
  | .map entries => uptoBulkEntries entries + 1
  | .held _ => 1
def uptoBulkAll {H : Type} : List (DataW H) → Nat
  | [] => 0
  | d :: r => uptoBulk d + uptoBulkAll r
def uptoBulkEntries {H : Type} : List (Lit × DataW H) → Nat
  | [] => 0
  | x :: r => uptoBulkEntry x + uptoBulkEntries r
def uptoBulkEntry {H : Type} : Lit × DataW H → Nat
  | (.string bytes, d) => bytes.length + uptoBulk d + 1
  | (_, d) => uptoBulk d + 1
 end
def uptoSmall : (H : Type) → List (DataW H) → Bool := fun _ ds => decide (uptoBulkAll ds ≤ 1048576)
def OpenSpec.upto (s : _root_.Go.ChangeSpec) : _root_.Go.OpenSpec := { _root_.Go.OpenSpec.ofChange s with cond := some uptoSmall }

/-- 'tidegatelaw45.KeygroupGroups', WHERE WHAT IT READS IS OF BULK AT MOST 1048576: true; the input reads as it did. -/
def keygroupGroupsUptoRow : OpenClaim := { program := "ytoafjlfidgjgbaa", sum := "79b4ec5b08219757a9a4f820803fbeede20f36a00561e11a28b763d0985dd8cb", func := "tidegate/tidegatelaw45.KeygroupGroups", spec := "keygroupGroups", unfollowed := true, recurses := true, apart := false, narrowed := true }
def KeygroupGroupsUptoSaid : Prop := keygroupGroupsUptoRow.holds Try.pinned (OpenSpec.upto keygroupGroupsSpec)

/-- 'tidegatelaw45.KeygroupAssigns', WHERE WHAT IT READS IS OF BULK AT MOST 1048576: true; the input reads as it did. -/
def keygroupAssignsUptoRow : OpenClaim := { program := "ytoafjlfidgjgbaa", sum := "79b4ec5b08219757a9a4f820803fbeede20f36a00561e11a28b763d0985dd8cb", func := "tidegate/tidegatelaw45.KeygroupAssigns", spec := "keygroupAssigns", unfollowed := true, recurses := true, apart := false, narrowed := true }
def KeygroupAssignsUptoSaid : Prop := keygroupAssignsUptoRow.holds Try.pinned (OpenSpec.upto keygroupAssignsSpec)

/-- 'tidegatelaw45.KeygroupMoves', WHERE WHAT IT READS IS OF BULK AT MOST 1048576: true; the input reads as it did. -/
def keygroupMovesUptoRow : OpenClaim := { program := "ytoafjlfidgjgbaa", sum := "79b4ec5b08219757a9a4f820803fbeede20f36a00561e11a28b763d0985dd8cb", func := "tidegate/tidegatelaw45.KeygroupMoves", spec := "keygroupMoves", unfollowed := true, recurses := true, apart := false, narrowed := true }
def KeygroupMovesUptoSaid : Prop := keygroupMovesUptoRow.holds Try.pinned (OpenSpec.upto keygroupMovesSpec)

/-- 'tidegatelaw45.KeygroupShifts', WHERE WHAT IT READS IS OF BULK AT MOST 1048576: true; the input reads as it did. -/
def keygroupShiftsUptoRow : OpenClaim := { program := "ytoafjlfidgjgbaa", sum := "79b4ec5b08219757a9a4f820803fbeede20f36a00561e11a28b763d0985dd8cb", func := "tidegate/tidegatelaw45.KeygroupShifts", spec := "keygroupShifts", unfollowed := true, recurses := true, apart := false, narrowed := true }
def KeygroupShiftsUptoSaid : Prop := keygroupShiftsUptoRow.holds Try.pinned (OpenSpec.upto keygroupShiftsSpec)

/-- 'tidegatelaw45.KeygroupKeeps', WHERE WHAT IT READS IS OF BULK AT MOST 1048576: true; the input reads as it did. -/
def keygroupKeepsUptoRow : OpenClaim := { program := "ytoafjlfidgjgbaa", sum := "79b4ec5b08219757a9a4f820803fbeede20f36a00561e11a28b763d0985dd8cb", func := "tidegate/tidegatelaw45.KeygroupKeeps", spec := "keygroupKeeps", unfollowed := true, recurses := true, apart := false, narrowed := true }
def KeygroupKeepsUptoSaid : Prop := keygroupKeepsUptoRow.holds Try.pinned (OpenSpec.upto keygroupKeepsSpec)

/-- 'tidegatelaw45.KeygroupWorkers', WHERE WHAT IT READS IS OF BULK AT MOST 1048576: true; the input reads as it did. -/
def keygroupWorkersUptoRow : OpenClaim := { program := "ytoafjlfidgjgbaa", sum := "79b4ec5b08219757a9a4f820803fbeede20f36a00561e11a28b763d0985dd8cb", func := "tidegate/tidegatelaw45.KeygroupWorkers", spec := "keygroupWorkers", unfollowed := true, recurses := true, apart := false, narrowed := true }
def KeygroupWorkersUptoSaid : Prop := keygroupWorkersUptoRow.holds Try.pinned (OpenSpec.upto keygroupWorkersSpec)

/-- 'tidegatelaw45.KeygroupCovers', WHERE WHAT IT READS IS OF BULK AT MOST 1048576: true; the input reads as it did. -/
def keygroupCoversUptoRow : OpenClaim := { program := "ytoafjlfidgjgbaa", sum := "79b4ec5b08219757a9a4f820803fbeede20f36a00561e11a28b763d0985dd8cb", func := "tidegate/tidegatelaw45.KeygroupCovers", spec := "keygroupCovers", unfollowed := true, recurses := true, apart := false, narrowed := true }
def KeygroupCoversUptoSaid : Prop := keygroupCoversUptoRow.holds Try.pinned (OpenSpec.upto keygroupCoversSpec)

end Rows
end Go.Proofs.Ytoafjlfidgjgbaa
