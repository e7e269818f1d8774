/-
  No cell of these rows narrows 'for every input' (looked for: loops, veiled, ifaces, maps, wideKeys, modest, calm, conditions, laid).
  DERIVED. THE GIVEN ROWS OF THIS SEAT. 6 by the template 'for every input the law returns true; each argument reads behind the call as it read before'; 0 by the template 'total and deterministic' (their statements: YtjahjefkfcifhaaTotals.lean).
  GIVEN WITH THE SEED: the statements are not yours to turn. If you find one false, say at which input.
  Laid BY PROGRAM, IN A SANDBOX (cutbox-rows.mjs): the forced cells as the released guide's own fill.sh prints them over the translation 54f094e598516259… (all of the seat's roots in one cut). By AI agents, Wed Nov 11 2026. No macro, syntax, notation, axiom, sorry.
-/
import Derived.Test.YtjahjefkfcifhaaChecked
import GoSem.Claim
import GoSem.ClaimJoined
import GoSem.ClaimMapViews
import Derived.JoinedTies
import Derived.KernelRfl
namespace Go.Proofs.Ytjahjefkfcifhaa
/- THE CELL 'sum', in the pinned program and in every row, IS THE sha256 OF THE DUMP (.gsa) THAT YtjahjefkfcifhaaProg.lean LOADS. Nothing in Lean hashes anything: it is a label: what it is worth is what the hold of that sum in a sandbox is worth. -/
noncomputable def Try.pinned : Pinned := { name := "ytjahjefkfcifhaa", sum := "54f094e5985162591c906ee7341cd7faa3bf75f0a6f29bde612d6be8a67f279b", checked := Try.checked }
namespace Rows
def none {H : Type} : Left H := { results := [], args := [] }

/-- 'tidegatelaw48.BarrierChecks': WHATEVER THE INPUT: true; the input reads as it did. -/
def barrierChecksSpec : ChangeSpec := { name := "barrierChecks", fn := fun _ => fun
  | [d1, d2] => { results := [.lit (.bool true)], args := [d1, d2] }
  | _ => none }
def barrierChecksRow : OpenClaim := { program := "ytjahjefkfcifhaa", sum := "54f094e5985162591c906ee7341cd7faa3bf75f0a6f29bde612d6be8a67f279b", func := "tidegate/tidegatelaw48.BarrierChecks", spec := "barrierChecks", unfollowed := true, recurses := true, apart := false }
def BarrierChecksSaid : Prop := barrierChecksRow.holds Try.pinned (OpenSpec.ofChange barrierChecksSpec)

/-- ITS FALSE NEIGHBOUR: 'it returns false'. Refute it at one input. -/
def barrierChecksWrong : ChangeSpec := { name := "barrierChecks", fn := fun _ => fun
  | [d1, d2] => { results := [.lit (.bool false)], args := [d1, d2] }
  | _ => none }
def BarrierChecksWrongFalsely : Prop := barrierChecksRow.holds Try.pinned (OpenSpec.ofChange barrierChecksWrong)

/-- 'tidegatelaw48.BarrierTakes': WHATEVER THE INPUT: true; the input reads as it did. -/
def barrierTakesSpec : ChangeSpec := { name := "barrierTakes", fn := fun _ => fun
  | [d1, d2, d3] => { results := [.lit (.bool true)], args := [d1, d2, d3] }
  | _ => none }
def barrierTakesRow : OpenClaim := { program := "ytjahjefkfcifhaa", sum := "54f094e5985162591c906ee7341cd7faa3bf75f0a6f29bde612d6be8a67f279b", func := "tidegate/tidegatelaw48.BarrierTakes", spec := "barrierTakes", unfollowed := true, recurses := true, apart := false }
def BarrierTakesSaid : Prop := barrierTakesRow.holds Try.pinned (OpenSpec.ofChange barrierTakesSpec)

/-- ITS FALSE NEIGHBOUR: 'it returns false'. Refute it at one input. -/
def barrierTakesWrong : ChangeSpec := { name := "barrierTakes", fn := fun _ => fun
  | [d1, d2, d3] => { results := [.lit (.bool false)], args := [d1, d2, d3] }
  | _ => none }
def BarrierTakesWrongFalsely : Prop := barrierTakesRow.holds Try.pinned (OpenSpec.ofChange barrierTakesWrong)

/-- 'tidegatelaw48.BarrierSingle': WHATEVER THE INPUT: true; the input reads as it did. -/
def barrierSingleSpec : ChangeSpec := { name := "barrierSingle", fn := fun _ => fun
  | [d] => { results := [.lit (.bool true)], args := [d] }
  | _ => none }
def barrierSingleRow : OpenClaim := { program := "ytjahjefkfcifhaa", sum := "54f094e5985162591c906ee7341cd7faa3bf75f0a6f29bde612d6be8a67f279b", func := "tidegate/tidegatelaw48.BarrierSingle", spec := "barrierSingle", unfollowed := true, recurses := true, apart := false }
def BarrierSingleSaid : Prop := barrierSingleRow.holds Try.pinned (OpenSpec.ofChange barrierSingleSpec)

/-- ITS FALSE NEIGHBOUR: 'it returns false'. Refute it at one input. -/
def barrierSingleWrong : ChangeSpec := { name := "barrierSingle", fn := fun _ => fun
  | [d] => { results := [.lit (.bool false)], args := [d] }
  | _ => none }
def BarrierSingleWrongFalsely : Prop := barrierSingleRow.holds Try.pinned (OpenSpec.ofChange barrierSingleWrong)

/-- 'tidegatelaw48.BarrierCollects': WHATEVER THE INPUT: true; the input reads as it did. -/
def barrierCollectsSpec : ChangeSpec := { name := "barrierCollects", fn := fun _ => fun
  | [d1, d2] => { results := [.lit (.bool true)], args := [d1, d2] }
  | _ => none }
def barrierCollectsRow : OpenClaim := { program := "ytjahjefkfcifhaa", sum := "54f094e5985162591c906ee7341cd7faa3bf75f0a6f29bde612d6be8a67f279b", func := "tidegate/tidegatelaw48.BarrierCollects", spec := "barrierCollects", unfollowed := true, recurses := true, apart := false }
def BarrierCollectsSaid : Prop := barrierCollectsRow.holds Try.pinned (OpenSpec.ofChange barrierCollectsSpec)

/-- ITS FALSE NEIGHBOUR: 'it returns false'. Refute it at one input. -/
def barrierCollectsWrong : ChangeSpec := { name := "barrierCollects", fn := fun _ => fun
  | [d1, d2] => { results := [.lit (.bool false)], args := [d1, d2] }
  | _ => none }
def BarrierCollectsWrongFalsely : Prop := barrierCollectsRow.holds Try.pinned (OpenSpec.ofChange barrierCollectsWrong)

/-- 'tidegatelaw48.BarrierRemains': WHATEVER THE INPUT: true; the input reads as it did. -/
def barrierRemainsSpec : ChangeSpec := { name := "barrierRemains", fn := fun _ => fun
  | [d1, d2] => { results := [.lit (.bool true)], args := [d1, d2] }
  | _ => none }
def barrierRemainsRow : OpenClaim := { program := "ytjahjefkfcifhaa", sum := "54f094e5985162591c906ee7341cd7faa3bf75f0a6f29bde612d6be8a67f279b", func := "tidegate/tidegatelaw48.BarrierRemains", spec := "barrierRemains", unfollowed := true, recurses := true, apart := false }
def BarrierRemainsSaid : Prop := barrierRemainsRow.holds Try.pinned (OpenSpec.ofChange barrierRemainsSpec)

/-- ITS FALSE NEIGHBOUR: 'it returns false'. Refute it at one input. -/
def barrierRemainsWrong : ChangeSpec := { name := "barrierRemains", fn := fun _ => fun
  | [d1, d2] => { results := [.lit (.bool false)], args := [d1, d2] }
  | _ => none }
def BarrierRemainsWrongFalsely : Prop := barrierRemainsRow.holds Try.pinned (OpenSpec.ofChange barrierRemainsWrong)

/-- 'tidegatelaw48.BarrierShows': WHATEVER THE INPUT: true; the input reads as it did. -/
def barrierShowsSpec : ChangeSpec := { name := "barrierShows", fn := fun _ => fun
  | [d1, d2] => { results := [.lit (.bool true)], args := [d1, d2] }
  | _ => none }
def barrierShowsRow : OpenClaim := { program := "ytjahjefkfcifhaa", sum := "54f094e5985162591c906ee7341cd7faa3bf75f0a6f29bde612d6be8a67f279b", func := "tidegate/tidegatelaw48.BarrierShows", spec := "barrierShows", unfollowed := true, recurses := true, apart := false }
def BarrierShowsSaid : Prop := barrierShowsRow.holds Try.pinned (OpenSpec.ofChange barrierShowsSpec)

/-- ITS FALSE NEIGHBOUR: 'it returns false'. Refute it at one input. -/
def barrierShowsWrong : ChangeSpec := { name := "barrierShows", fn := fun _ => fun
  | [d1, d2] => { results := [.lit (.bool false)], args := [d1, d2] }
  | _ => none }
def BarrierShowsWrongFalsely : Prop := barrierShowsRow.holds Try.pinned (OpenSpec.ofChange barrierShowsWrong)

/- THE SECOND FORM. 'bulk': how many values and letters a reading holds, each counted each time it is reached (what is shared counts as often as it is met; a slice's spare places count too). A statement '..UptoSaid' is the law's where the arguments, and the package variables that the reading takes, are together of bulk at most 1048576: NARROWER than '..Said'. Prove '..Said' where nothing that the law and all that it calls make is longer than what came in: it says more and counts as full. Else prove '..UptoSaid'. A law counts once. -/
mutual
def uptoBulk {H : Type} : DataW H → Nat
  | .lit (.string bytes) => bytes.length + 1
  | .lit _ => 1
  | .nil => 1
  | .ptr d => uptoBulk d + 1
  | .slice elems spare => uptoBulkAll elems + uptoBulkAll spare + 1
  | .agg parts => uptoBulkAll parts + 1
  | .iface _ d => uptoBulk d + 1
  | .map entries => uptoBulkEntries entries + 1
  | .held _ => 1
def uptoBulkAll {H : Type} : List (DataW H) → Nat
  | [] => 0
  | d :: r => uptoBulk d + uptoBulkAll r
def uptoBulkEntries {H : Type} : List (Lit × DataW H) → Nat
  | [] => 0
  | x :: r => uptoBulkEntry x + uptoBulkEntries r
def uptoBulkEntry {H : Type} : Lit × DataW H → Nat
  | (.string bytes, d) => bytes.length + uptoBulk d + 1
  | (_, d) => uptoBulk d + 1
 end
def uptoSmall : (H : Type) → List (DataW H) → Bool := fun _ ds => decide (uptoBulkAll ds ≤ 1048576)
def OpenSpec.upto (s : _root_.Go.ChangeSpec) : _root_.Go.OpenSpec := { _root_.Go.OpenSpec.ofChange s with cond := some uptoSmall }

/-- 'tidegatelaw48.BarrierChecks', WHERE WHAT IT READS IS OF BULK AT MOST 1048576: true; the input reads as it did. -/
def barrierChecksUptoRow : OpenClaim := { program := "ytjahjefkfcifhaa", sum := "54f094e5985162591c906ee7341cd7faa3bf75f0a6f29bde612d6be8a67f279b", func := "tidegate/tidegatelaw48.BarrierChecks", spec := "barrierChecks", unfollowed := true, recurses := true, apart := false, narrowed := true }
def BarrierChecksUptoSaid : Prop := barrierChecksUptoRow.holds Try.pinned (OpenSpec.upto barrierChecksSpec)

/-- 'tidegatelaw48.BarrierTakes', WHERE WHAT IT READS IS OF BULK AT MOST 1048576: true; the input reads as it did. -/
def barrierTakesUptoRow : OpenClaim := { program := "ytjahjefkfcifhaa", sum := "54f094e5985162591c906ee7341cd7faa3bf75f0a6f29bde612d6be8a67f279b", func := "tidegate/tidegatelaw48.BarrierTakes", spec := "barrierTakes", unfollowed := true, recurses := true, apart := false, narrowed := true }
def BarrierTakesUptoSaid : Prop := barrierTakesUptoRow.holds Try.pinned (OpenSpec.upto barrierTakesSpec)

/-- 'tidegatelaw48.BarrierSingle', WHERE WHAT IT READS IS OF BULK AT MOST 1048576: true; the input reads as it did. -/
def barrierSingleUptoRow : OpenClaim := { program := "ytjahjefkfcifhaa", sum := "54f094e5985162591c906ee7341cd7faa3bf75f0a6f29bde612d6be8a67f279b", func := "tidegate/tidegatelaw48.BarrierSingle", spec := "barrierSingle", unfollowed := true, recurses := true, apart := false, narrowed := true }
def BarrierSingleUptoSaid : Prop := barrierSingleUptoRow.holds Try.pinned (OpenSpec.upto barrierSingleSpec)

/-- 'tidegatelaw48.BarrierCollects', WHERE WHAT IT READS IS OF BULK AT MOST 1048576: true; the input reads as it did. -/
def barrierCollectsUptoRow : OpenClaim := { program := "ytjahjefkfcifhaa", sum := "54f094e5985162591c906ee7341cd7faa3bf75f0a6f29bde612d6be8a67f279b", func := "tidegate/tidegatelaw48.BarrierCollects", spec := "barrierCollects", unfollowed := true, recurses := true, apart := false, narrowed := true }
def BarrierCollectsUptoSaid : Prop := barrierCollectsUptoRow.holds Try.pinned (OpenSpec.upto barrierCollectsSpec)

/-- 'tidegatelaw48.BarrierRemains', WHERE WHAT IT READS IS OF BULK AT MOST 1048576: true; the input reads as it did. -/
def barrierRemainsUptoRow : OpenClaim := { program := "ytjahjefkfcifhaa", sum := "54f094e5985162591c906ee7341cd7faa3bf75f0a6f29bde612d6be8a67f279b", func := "tidegate/tidegatelaw48.BarrierRemains", spec := "barrierRemains", unfollowed := true, recurses := true, apart := false, narrowed := true }
def BarrierRemainsUptoSaid : Prop := barrierRemainsUptoRow.holds Try.pinned (OpenSpec.upto barrierRemainsSpec)

/-- 'tidegatelaw48.BarrierShows', WHERE WHAT IT READS IS OF BULK AT MOST 1048576: true; the input reads as it did. -/
def barrierShowsUptoRow : OpenClaim := { program := "ytjahjefkfcifhaa", sum := "54f094e5985162591c906ee7341cd7faa3bf75f0a6f29bde612d6be8a67f279b", func := "tidegate/tidegatelaw48.BarrierShows", spec := "barrierShows", unfollowed := true, recurses := true, apart := false, narrowed := true }
def BarrierShowsUptoSaid : Prop := barrierShowsUptoRow.holds Try.pinned (OpenSpec.upto barrierShowsSpec)

end Rows
end Go.Proofs.Ytjahjefkfcifhaa
