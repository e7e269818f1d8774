/-
  No cell of these rows narrows 'for every input' (looked for: loops, veiled, ifaces, maps, wideKeys, modest, calm, conditions, laid).
  DERIVED. THE GIVEN ROWS OF THIS SEAT. 6 by the template 'for every input the law returns true; each argument reads behind the call as it read before'; 0 by the template 'total and deterministic' (their statements: YtihbonndinnohaaTotals.lean).
  GIVEN WITH THE SEED: the statements are not yours to turn. If you find one false, say at which input.
  Laid BY PROGRAM, IN A SANDBOX (cutbox-rows.mjs): the forced cells as the released guide's own fill.sh prints them over the translation 76cb50aa4e065c6f… (all of the seat's roots in one cut). By AI agents, Wed Nov 11 2026. No macro, syntax, notation, axiom, sorry.
-/
import Derived.Test.YtihbonndinnohaaChecked
import GoSem.Claim
import GoSem.ClaimJoined
import GoSem.ClaimMapViews
import Derived.JoinedTies
import Derived.KernelRfl
namespace Go.Proofs.Ytihbonndinnohaa
/- THE CELL 'sum', in the pinned program and in every row, IS THE sha256 OF THE DUMP (.gsa) THAT YtihbonndinnohaaProg.lean LOADS. Nothing in Lean hashes anything: it is a label: what it is worth is what the hold of that sum in a sandbox is worth. -/
noncomputable def Try.pinned : Pinned := { name := "ytihbonndinnohaa", sum := "76cb50aa4e065c6f2fc8a950a2e7f247c997e2ce2d1df123f30991bdfec34b30", checked := Try.checked }
namespace Rows
def none {H : Type} : Left H := { results := [], args := [] }

/-- 'tidegatelaw54.CoordinatorTriggers': WHATEVER THE INPUT: true; the input reads as it did. -/
def coordinatorTriggersSpec : ChangeSpec := { name := "coordinatorTriggers", fn := fun _ => fun
  | [d1, d2, d3] => { results := [.lit (.bool true)], args := [d1, d2, d3] }
  | _ => none }
def coordinatorTriggersRow : OpenClaim := { program := "ytihbonndinnohaa", sum := "76cb50aa4e065c6f2fc8a950a2e7f247c997e2ce2d1df123f30991bdfec34b30", func := "tidegate/tidegatelaw54.CoordinatorTriggers", spec := "coordinatorTriggers", unfollowed := true, recurses := true, apart := false }
def CoordinatorTriggersSaid : Prop := coordinatorTriggersRow.holds Try.pinned (OpenSpec.ofChange coordinatorTriggersSpec)

/-- ITS FALSE NEIGHBOUR: 'it returns false'. Refute it at one input. -/
def coordinatorTriggersWrong : ChangeSpec := { name := "coordinatorTriggers", fn := fun _ => fun
  | [d1, d2, d3] => { results := [.lit (.bool false)], args := [d1, d2, d3] }
  | _ => none }
def CoordinatorTriggersWrongFalsely : Prop := coordinatorTriggersRow.holds Try.pinned (OpenSpec.ofChange coordinatorTriggersWrong)

/-- 'tidegatelaw54.CoordinatorReports': WHATEVER THE INPUT: true; the input reads as it did. -/
def coordinatorReportsSpec : ChangeSpec := { name := "coordinatorReports", fn := fun _ => fun
  | [d1, d2, d3] => { results := [.lit (.bool true)], args := [d1, d2, d3] }
  | _ => none }
def coordinatorReportsRow : OpenClaim := { program := "ytihbonndinnohaa", sum := "76cb50aa4e065c6f2fc8a950a2e7f247c997e2ce2d1df123f30991bdfec34b30", func := "tidegate/tidegatelaw54.CoordinatorReports", spec := "coordinatorReports", unfollowed := true, recurses := true, apart := false }
def CoordinatorReportsSaid : Prop := coordinatorReportsRow.holds Try.pinned (OpenSpec.ofChange coordinatorReportsSpec)

/-- ITS FALSE NEIGHBOUR: 'it returns false'. Refute it at one input. -/
def coordinatorReportsWrong : ChangeSpec := { name := "coordinatorReports", fn := fun _ => fun
  | [d1, d2, d3] => { results := [.lit (.bool false)], args := [d1, d2, d3] }
  | _ => none }
def CoordinatorReportsWrongFalsely : Prop := coordinatorReportsRow.holds Try.pinned (OpenSpec.ofChange coordinatorReportsWrong)

/-- 'tidegatelaw54.CoordinatorKeeps': WHATEVER THE INPUT: true; the input reads as it did. -/
def coordinatorKeepsSpec : ChangeSpec := { name := "coordinatorKeeps", fn := fun _ => fun
  | [d1, d2, d3] => { results := [.lit (.bool true)], args := [d1, d2, d3] }
  | _ => none }
def coordinatorKeepsRow : OpenClaim := { program := "ytihbonndinnohaa", sum := "76cb50aa4e065c6f2fc8a950a2e7f247c997e2ce2d1df123f30991bdfec34b30", func := "tidegate/tidegatelaw54.CoordinatorKeeps", spec := "coordinatorKeeps", unfollowed := true, recurses := true, apart := false }
def CoordinatorKeepsSaid : Prop := coordinatorKeepsRow.holds Try.pinned (OpenSpec.ofChange coordinatorKeepsSpec)

/-- ITS FALSE NEIGHBOUR: 'it returns false'. Refute it at one input. -/
def coordinatorKeepsWrong : ChangeSpec := { name := "coordinatorKeeps", fn := fun _ => fun
  | [d1, d2, d3] => { results := [.lit (.bool false)], args := [d1, d2, d3] }
  | _ => none }
def CoordinatorKeepsWrongFalsely : Prop := coordinatorKeepsRow.holds Try.pinned (OpenSpec.ofChange coordinatorKeepsWrong)

/-- 'tidegatelaw54.CoordinatorFinishes': WHATEVER THE INPUT: true; the input reads as it did. -/
def coordinatorFinishesSpec : ChangeSpec := { name := "coordinatorFinishes", fn := fun _ => fun
  | [d1, d2] => { results := [.lit (.bool true)], args := [d1, d2] }
  | _ => none }
def coordinatorFinishesRow : OpenClaim := { program := "ytihbonndinnohaa", sum := "76cb50aa4e065c6f2fc8a950a2e7f247c997e2ce2d1df123f30991bdfec34b30", func := "tidegate/tidegatelaw54.CoordinatorFinishes", spec := "coordinatorFinishes", unfollowed := true, recurses := true, apart := false }
def CoordinatorFinishesSaid : Prop := coordinatorFinishesRow.holds Try.pinned (OpenSpec.ofChange coordinatorFinishesSpec)

/-- ITS FALSE NEIGHBOUR: 'it returns false'. Refute it at one input. -/
def coordinatorFinishesWrong : ChangeSpec := { name := "coordinatorFinishes", fn := fun _ => fun
  | [d1, d2] => { results := [.lit (.bool false)], args := [d1, d2] }
  | _ => none }
def CoordinatorFinishesWrongFalsely : Prop := coordinatorFinishesRow.holds Try.pinned (OpenSpec.ofChange coordinatorFinishesWrong)

/-- 'tidegatelaw54.CoordinatorResumes': WHATEVER THE INPUT: true; the input reads as it did. -/
def coordinatorResumesSpec : ChangeSpec := { name := "coordinatorResumes", fn := fun _ => fun
  | [d1, d2] => { results := [.lit (.bool true)], args := [d1, d2] }
  | _ => none }
def coordinatorResumesRow : OpenClaim := { program := "ytihbonndinnohaa", sum := "76cb50aa4e065c6f2fc8a950a2e7f247c997e2ce2d1df123f30991bdfec34b30", func := "tidegate/tidegatelaw54.CoordinatorResumes", spec := "coordinatorResumes", unfollowed := true, recurses := true, apart := false }
def CoordinatorResumesSaid : Prop := coordinatorResumesRow.holds Try.pinned (OpenSpec.ofChange coordinatorResumesSpec)

/-- ITS FALSE NEIGHBOUR: 'it returns false'. Refute it at one input. -/
def coordinatorResumesWrong : ChangeSpec := { name := "coordinatorResumes", fn := fun _ => fun
  | [d1, d2] => { results := [.lit (.bool false)], args := [d1, d2] }
  | _ => none }
def CoordinatorResumesWrongFalsely : Prop := coordinatorResumesRow.holds Try.pinned (OpenSpec.ofChange coordinatorResumesWrong)

/-- 'tidegatelaw54.CoordinatorPlays': WHATEVER THE INPUT: true; the input reads as it did. -/
def coordinatorPlaysSpec : ChangeSpec := { name := "coordinatorPlays", fn := fun _ => fun
  | [d1, d2] => { results := [.lit (.bool true)], args := [d1, d2] }
  | _ => none }
def coordinatorPlaysRow : OpenClaim := { program := "ytihbonndinnohaa", sum := "76cb50aa4e065c6f2fc8a950a2e7f247c997e2ce2d1df123f30991bdfec34b30", func := "tidegate/tidegatelaw54.CoordinatorPlays", spec := "coordinatorPlays", unfollowed := true, recurses := true, apart := false }
def CoordinatorPlaysSaid : Prop := coordinatorPlaysRow.holds Try.pinned (OpenSpec.ofChange coordinatorPlaysSpec)

/-- ITS FALSE NEIGHBOUR: 'it returns false'. Refute it at one input. -/
def coordinatorPlaysWrong : ChangeSpec := { name := "coordinatorPlays", fn := fun _ => fun
  | [d1, d2] => { results := [.lit (.bool false)], args := [d1, d2] }
  | _ => none }
def CoordinatorPlaysWrongFalsely : Prop := coordinatorPlaysRow.holds Try.pinned (OpenSpec.ofChange coordinatorPlaysWrong)

/- THE SECOND FORM. 'bulk': how many values and letters a reading holds, each counted each time it is reached (what is shared counts as often as it is met; a slice's spare places count too). A statement '..UptoSaid' is the law's where the arguments, and the package variables that the reading takes, are together of bulk at most 1048576: NARROWER than '..Said'. Prove '..Said' where nothing that the law and all that it calls make is longer than what came in: it says more and counts as full. Else prove '..UptoSaid'. A law counts once. -/
mutual
def uptoBulk {H : Type} : DataW H → Nat
  | .lit (.string bytes) => bytes.length + 1
  | .lit _ => 1
  | .nil => 1
  | .ptr d => uptoBulk d + 1
  | .slice elems spare => uptoBulkAll elems + uptoBulkAll spare + 1
  | .agg parts => uptoBulkAll parts + 1
  | .iface _ d => uptoBulk d + 1
  | .map entries => uptoBulkEntries entries + 1
  | .held _ => 1
def uptoBulkAll {H : Type} : List (DataW H) → Nat
  | [] => 0
  | d :: r => uptoBulk d + uptoBulkAll r
def uptoBulkEntries {H : Type} : List (Lit × DataW H) → Nat
  | [] => 0
  | x :: r => uptoBulkEntry x + uptoBulkEntries r
def uptoBulkEntry {H : Type} : Lit × DataW H → Nat
  | (.string bytes, d) => bytes.length + uptoBulk d + 1
  | (_, d) => uptoBulk d + 1
 end
def uptoSmall : (H : Type) → List (DataW H) → Bool := fun _ ds => decide (uptoBulkAll ds ≤ 1048576)
def OpenSpec.upto (s : _root_.Go.ChangeSpec) : _root_.Go.OpenSpec := { _root_.Go.OpenSpec.ofChange s with cond := some uptoSmall }

/-- 'tidegatelaw54.CoordinatorTriggers', WHERE WHAT IT READS IS OF BULK AT MOST 1048576: true; the input reads as it did. -/
def coordinatorTriggersUptoRow : OpenClaim := { program := "ytihbonndinnohaa", sum := "76cb50aa4e065c6f2fc8a950a2e7f247c997e2ce2d1df123f30991bdfec34b30", func := "tidegate/tidegatelaw54.CoordinatorTriggers", spec := "coordinatorTriggers", unfollowed := true, recurses := true, apart := false, narrowed := true }
def CoordinatorTriggersUptoSaid : Prop := coordinatorTriggersUptoRow.holds Try.pinned (OpenSpec.upto coordinatorTriggersSpec)

/-- 'tidegatelaw54.CoordinatorReports', WHERE WHAT IT READS IS OF BULK AT MOST 1048576: true; the input reads as it did. -/
def coordinatorReportsUptoRow : OpenClaim := { program := "ytihbonndinnohaa", sum := "76cb50aa4e065c6f2fc8a950a2e7f247c997e2ce2d1df123f30991bdfec34b30", func := "tidegate/tidegatelaw54.CoordinatorReports", spec := "coordinatorReports", unfollowed := true, recurses := true, apart := false, narrowed := true }
def CoordinatorReportsUptoSaid : Prop := coordinatorReportsUptoRow.holds Try.pinned (OpenSpec.upto coordinatorReportsSpec)

/-- 'tidegatelaw54.CoordinatorKeeps', WHERE WHAT IT READS IS OF BULK AT MOST 1048576: true; the input reads as it did. -/
def coordinatorKeepsUptoRow : OpenClaim := { program := "ytihbonndinnohaa", sum := "76cb50aa4e065c6f2fc8a950a2e7f247c997e2ce2d1df123f30991bdfec34b30", func := "tidegate/tidegatelaw54.CoordinatorKeeps", spec := "coordinatorKeeps", unfollowed := true, recurses := true, apart := false, narrowed := true }
def CoordinatorKeepsUptoSaid : Prop := coordinatorKeepsUptoRow.holds Try.pinned (OpenSpec.upto coordinatorKeepsSpec)

/-- 'tidegatelaw54.CoordinatorFinishes', WHERE WHAT IT READS IS OF BULK AT MOST 1048576: true; the input reads as it did. -/
def coordinatorFinishesUptoRow : OpenClaim := { program := "ytihbonndinnohaa", sum := "76cb50aa4e065c6f2fc8a950a2e7f247c997e2ce2d1df123f30991bdfec34b30", func := "tidegate/tidegatelaw54.CoordinatorFinishes", spec := "coordinatorFinishes", unfollowed := true, recurses := true, apart := false, narrowed := true }
def CoordinatorFinishesUptoSaid : Prop := coordinatorFinishesUptoRow.holds Try.pinned (OpenSpec.upto coordinatorFinishesSpec)

/-- 'tidegatelaw54.CoordinatorResumes', WHERE WHAT IT READS IS OF BULK AT MOST 1048576: true; the input reads as it did. -/
def coordinatorResumesUptoRow : OpenClaim := { program := "ytihbonndinnohaa", sum := "76cb50aa4e065c6f2fc8a950a2e7f247c997e2ce2d1df123f30991bdfec34b30", func := "tidegate/tidegatelaw54.CoordinatorResumes", spec := "coordinatorResumes", unfollowed := true, recurses := true, apart := false, narrowed := true }
def CoordinatorResumesUptoSaid : Prop := coordinatorResumesUptoRow.holds Try.pinned (OpenSpec.upto coordinatorResumesSpec)

/-- 'tidegatelaw54.CoordinatorPlays', WHERE WHAT IT READS IS OF BULK AT MOST 1048576: true; the input reads as it did. -/
def coordinatorPlaysUptoRow : OpenClaim := { program := "ytihbonndinnohaa", sum := "76cb50aa4e065c6f2fc8a950a2e7f247c997e2ce2d1df123f30991bdfec34b30", func := "tidegate/tidegatelaw54.CoordinatorPlays", spec := "coordinatorPlays", unfollowed := true, recurses := true, apart := false, narrowed := true }
def CoordinatorPlaysUptoSaid : Prop := coordinatorPlaysUptoRow.holds Try.pinned (OpenSpec.upto coordinatorPlaysSpec)

end Rows
end Go.Proofs.Ytihbonndinnohaa
