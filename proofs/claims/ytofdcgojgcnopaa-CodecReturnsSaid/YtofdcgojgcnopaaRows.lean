/-
  No cell of these rows narrows 'for every input' (looked for: loops, veiled, ifaces, maps, wideKeys, modest, calm, conditions, laid).
  DERIVED. THE GIVEN ROWS OF THIS SEAT. 6 by the template 'for every input the law returns true; each argument reads behind the call as it read before'; 0 by the template 'total and deterministic' (their statements: YtofdcgojgcnopaaTotals.lean).
  GIVEN WITH THE SEED: the statements are not yours to turn. If you find one false, say at which input.
  Laid BY PROGRAM, IN A SANDBOX (cutbox-rows.mjs): the forced cells as the released guide's own fill.sh prints them over the translation f797358e8424095c… (all of the seat's roots in one cut). By AI agents, Wed Nov 11 2026. No macro, syntax, notation, axiom, sorry.
-/
import Derived.Test.YtofdcgojgcnopaaChecked
import GoSem.Claim
import GoSem.ClaimJoined
import GoSem.ClaimMapViews
import Derived.JoinedTies
import Derived.KernelRfl
namespace Go.Proofs.Ytofdcgojgcnopaa
/- THE CELL 'sum', in the pinned program and in every row, IS THE sha256 OF THE DUMP (.gsa) THAT YtofdcgojgcnopaaProg.lean LOADS. Nothing in Lean hashes anything: it is a label: what it is worth is what the hold of that sum in a sandbox is worth. -/
noncomputable def Try.pinned : Pinned := { name := "ytofdcgojgcnopaa", sum := "f797358e8424095ce1cf3774c349eea4a37cd24f49127eceab06283435479ff8", checked := Try.checked }
namespace Rows
def none {H : Type} : Left H := { results := [], args := [] }

/-- 'tidegatelaw43.CodecDiffers': WHATEVER THE INPUT: true; the input reads as it did. -/
def codecDiffersSpec : ChangeSpec := { name := "codecDiffers", fn := fun _ => fun
  | [d1, d2] => { results := [.lit (.bool true)], args := [d1, d2] }
  | _ => none }
def codecDiffersRow : OpenClaim := { program := "ytofdcgojgcnopaa", sum := "f797358e8424095ce1cf3774c349eea4a37cd24f49127eceab06283435479ff8", func := "tidegate/tidegatelaw43.CodecDiffers", spec := "codecDiffers", unfollowed := true, recurses := true, apart := false }
def CodecDiffersSaid : Prop := codecDiffersRow.holds Try.pinned (OpenSpec.ofChange codecDiffersSpec)

/-- ITS FALSE NEIGHBOUR: 'it returns false'. Refute it at one input. -/
def codecDiffersWrong : ChangeSpec := { name := "codecDiffers", fn := fun _ => fun
  | [d1, d2] => { results := [.lit (.bool false)], args := [d1, d2] }
  | _ => none }
def CodecDiffersWrongFalsely : Prop := codecDiffersRow.holds Try.pinned (OpenSpec.ofChange codecDiffersWrong)

/-- 'tidegatelaw43.CodecValues': WHATEVER THE INPUT: true; the input reads as it did. -/
def codecValuesSpec : ChangeSpec := { name := "codecValues", fn := fun _ => fun
  | [d1, d2] => { results := [.lit (.bool true)], args := [d1, d2] }
  | _ => none }
def codecValuesRow : OpenClaim := { program := "ytofdcgojgcnopaa", sum := "f797358e8424095ce1cf3774c349eea4a37cd24f49127eceab06283435479ff8", func := "tidegate/tidegatelaw43.CodecValues", spec := "codecValues", unfollowed := true, recurses := true, apart := false }
def CodecValuesSaid : Prop := codecValuesRow.holds Try.pinned (OpenSpec.ofChange codecValuesSpec)

/-- ITS FALSE NEIGHBOUR: 'it returns false'. Refute it at one input. -/
def codecValuesWrong : ChangeSpec := { name := "codecValues", fn := fun _ => fun
  | [d1, d2] => { results := [.lit (.bool false)], args := [d1, d2] }
  | _ => none }
def CodecValuesWrongFalsely : Prop := codecValuesRow.holds Try.pinned (OpenSpec.ofChange codecValuesWrong)

/-- 'tidegatelaw43.CodecEvents': WHATEVER THE INPUT: true; the input reads as it did. -/
def codecEventsSpec : ChangeSpec := { name := "codecEvents", fn := fun _ => fun
  | [d1, d2] => { results := [.lit (.bool true)], args := [d1, d2] }
  | _ => none }
def codecEventsRow : OpenClaim := { program := "ytofdcgojgcnopaa", sum := "f797358e8424095ce1cf3774c349eea4a37cd24f49127eceab06283435479ff8", func := "tidegate/tidegatelaw43.CodecEvents", spec := "codecEvents", unfollowed := true, recurses := true, apart := false }
def CodecEventsSaid : Prop := codecEventsRow.holds Try.pinned (OpenSpec.ofChange codecEventsSpec)

/-- ITS FALSE NEIGHBOUR: 'it returns false'. Refute it at one input. -/
def codecEventsWrong : ChangeSpec := { name := "codecEvents", fn := fun _ => fun
  | [d1, d2] => { results := [.lit (.bool false)], args := [d1, d2] }
  | _ => none }
def CodecEventsWrongFalsely : Prop := codecEventsRow.holds Try.pinned (OpenSpec.ofChange codecEventsWrong)

/-- 'tidegatelaw43.CodecEngines': WHATEVER THE INPUT: true; the input reads as it did. -/
def codecEnginesSpec : ChangeSpec := { name := "codecEngines", fn := fun _ => fun
  | [d1, d2] => { results := [.lit (.bool true)], args := [d1, d2] }
  | _ => none }
def codecEnginesRow : OpenClaim := { program := "ytofdcgojgcnopaa", sum := "f797358e8424095ce1cf3774c349eea4a37cd24f49127eceab06283435479ff8", func := "tidegate/tidegatelaw43.CodecEngines", spec := "codecEngines", unfollowed := true, recurses := true, apart := false }
def CodecEnginesSaid : Prop := codecEnginesRow.holds Try.pinned (OpenSpec.ofChange codecEnginesSpec)

/-- ITS FALSE NEIGHBOUR: 'it returns false'. Refute it at one input. -/
def codecEnginesWrong : ChangeSpec := { name := "codecEngines", fn := fun _ => fun
  | [d1, d2] => { results := [.lit (.bool false)], args := [d1, d2] }
  | _ => none }
def CodecEnginesWrongFalsely : Prop := codecEnginesRow.holds Try.pinned (OpenSpec.ofChange codecEnginesWrong)

/-- 'tidegatelaw43.CodecDamages': WHATEVER THE INPUT: true; the input reads as it did. -/
def codecDamagesSpec : ChangeSpec := { name := "codecDamages", fn := fun _ => fun
  | [d1, d2, d3] => { results := [.lit (.bool true)], args := [d1, d2, d3] }
  | _ => none }
def codecDamagesRow : OpenClaim := { program := "ytofdcgojgcnopaa", sum := "f797358e8424095ce1cf3774c349eea4a37cd24f49127eceab06283435479ff8", func := "tidegate/tidegatelaw43.CodecDamages", spec := "codecDamages", unfollowed := true, recurses := true, apart := false }
def CodecDamagesSaid : Prop := codecDamagesRow.holds Try.pinned (OpenSpec.ofChange codecDamagesSpec)

/-- ITS FALSE NEIGHBOUR: 'it returns false'. Refute it at one input. -/
def codecDamagesWrong : ChangeSpec := { name := "codecDamages", fn := fun _ => fun
  | [d1, d2, d3] => { results := [.lit (.bool false)], args := [d1, d2, d3] }
  | _ => none }
def CodecDamagesWrongFalsely : Prop := codecDamagesRow.holds Try.pinned (OpenSpec.ofChange codecDamagesWrong)

/-- 'tidegatelaw43.CodecReturns': WHATEVER THE INPUT: true; the input reads as it did. -/
def codecReturnsSpec : ChangeSpec := { name := "codecReturns", fn := fun _ => fun
  | [d] => { results := [.lit (.bool true)], args := [d] }
  | _ => none }
def codecReturnsRow : OpenClaim := { program := "ytofdcgojgcnopaa", sum := "f797358e8424095ce1cf3774c349eea4a37cd24f49127eceab06283435479ff8", func := "tidegate/tidegatelaw43.CodecReturns", spec := "codecReturns", unfollowed := true, recurses := true, apart := false }
def CodecReturnsSaid : Prop := codecReturnsRow.holds Try.pinned (OpenSpec.ofChange codecReturnsSpec)

/-- ITS FALSE NEIGHBOUR: 'it returns false'. Refute it at one input. -/
def codecReturnsWrong : ChangeSpec := { name := "codecReturns", fn := fun _ => fun
  | [d] => { results := [.lit (.bool false)], args := [d] }
  | _ => none }
def CodecReturnsWrongFalsely : Prop := codecReturnsRow.holds Try.pinned (OpenSpec.ofChange codecReturnsWrong)

/- THE SECOND FORM. 'bulk': how many values and letters a reading holds, each counted each time it is reached (what is shared counts as often as it is met; a slice's spare places count too). A statement '..UptoSaid' is the law's where the arguments, and the package variables that the reading takes, are together of bulk at most 1048576: NARROWER than '..Said'. Prove '..Said' where nothing that the law and all that it calls make is longer than what came in: it says more and counts as full. Else prove '..UptoSaid'. A law counts once. -/
mutual
def uptoBulk {H : Type} : DataW H → Nat
  | .lit (.string bytes) => bytes.length + 1
  | .lit _ => 1
  | .nil => 1
  | .ptr d => uptoBulk d + 1
  | .slice elems spare => uptoBulkAll elems + uptoBulkAll spare + 1
  | .agg parts => uptoBulkAll parts + 1
  | .iface _ d => uptoBulk d + 1
  | .map entries => uptoBulkEntries entries + 1
  | .held _ => 1
def uptoBulkAll {H : Type} : List (DataW H) → Nat
  | [] => 0
  | d :: r => uptoBulk d + uptoBulkAll r
def uptoBulkEntries {H : Type} : List (Lit × DataW H) → Nat
  | [] => 0
  | x :: r => uptoBulkEntry x + uptoBulkEntries r
def uptoBulkEntry {H : Type} : Lit × DataW H → Nat
  | (.string bytes, d) => bytes.length + uptoBulk d + 1
  | (_, d) => uptoBulk d + 1
 end
def uptoSmall : (H : Type) → List (DataW H) → Bool := fun _ ds => decide (uptoBulkAll ds ≤ 1048576)
def OpenSpec.upto (s : _root_.Go.ChangeSpec) : _root_.Go.OpenSpec := { _root_.Go.OpenSpec.ofChange s with cond := some uptoSmall }

/-- 'tidegatelaw43.CodecDiffers', WHERE WHAT IT READS IS OF BULK AT MOST 1048576: true; the input reads as it did. -/
def codecDiffersUptoRow : OpenClaim := { program := "ytofdcgojgcnopaa", sum := "f797358e8424095ce1cf3774c349eea4a37cd24f49127eceab06283435479ff8", func := "tidegate/tidegatelaw43.CodecDiffers", spec := "codecDiffers", unfollowed := true, recurses := true, apart := false, narrowed := true }
def CodecDiffersUptoSaid : Prop := codecDiffersUptoRow.holds Try.pinned (OpenSpec.upto codecDiffersSpec)

/-- 'tidegatelaw43.CodecValues', WHERE WHAT IT READS IS OF BULK AT MOST 1048576: true; the input reads as it did. -/
def codecValuesUptoRow : OpenClaim := { program := "ytofdcgojgcnopaa", sum := "f797358e8424095ce1cf3774c349eea4a37cd24f49127eceab06283435479ff8", func := "tidegate/tidegatelaw43.CodecValues", spec := "codecValues", unfollowed := true, recurses := true, apart := false, narrowed := true }
def CodecValuesUptoSaid : Prop := codecValuesUptoRow.holds Try.pinned (OpenSpec.upto codecValuesSpec)

/-- 'tidegatelaw43.CodecEvents', WHERE WHAT IT READS IS OF BULK AT MOST 1048576: true; the input reads as it did. -/
def codecEventsUptoRow : OpenClaim := { program := "ytofdcgojgcnopaa", sum := "f797358e8424095ce1cf3774c349eea4a37cd24f49127eceab06283435479ff8", func := "tidegate/tidegatelaw43.CodecEvents", spec := "codecEvents", unfollowed := true, recurses := true, apart := false, narrowed := true }
def CodecEventsUptoSaid : Prop := codecEventsUptoRow.holds Try.pinned (OpenSpec.upto codecEventsSpec)

/-- 'tidegatelaw43.CodecEngines', WHERE WHAT IT READS IS OF BULK AT MOST 1048576: true; the input reads as it did. -/
def codecEnginesUptoRow : OpenClaim := { program := "ytofdcgojgcnopaa", sum := "f797358e8424095ce1cf3774c349eea4a37cd24f49127eceab06283435479ff8", func := "tidegate/tidegatelaw43.CodecEngines", spec := "codecEngines", unfollowed := true, recurses := true, apart := false, narrowed := true }
def CodecEnginesUptoSaid : Prop := codecEnginesUptoRow.holds Try.pinned (OpenSpec.upto codecEnginesSpec)

/-- 'tidegatelaw43.CodecDamages', WHERE WHAT IT READS IS OF BULK AT MOST 1048576: true; the input reads as it did. -/
def codecDamagesUptoRow : OpenClaim := { program := "ytofdcgojgcnopaa", sum := "f797358e8424095ce1cf3774c349eea4a37cd24f49127eceab06283435479ff8", func := "tidegate/tidegatelaw43.CodecDamages", spec := "codecDamages", unfollowed := true, recurses := true, apart := false, narrowed := true }
def CodecDamagesUptoSaid : Prop := codecDamagesUptoRow.holds Try.pinned (OpenSpec.upto codecDamagesSpec)

/-- 'tidegatelaw43.CodecReturns', WHERE WHAT IT READS IS OF BULK AT MOST 1048576: true; the input reads as it did. -/
def codecReturnsUptoRow : OpenClaim := { program := "ytofdcgojgcnopaa", sum := "f797358e8424095ce1cf3774c349eea4a37cd24f49127eceab06283435479ff8", func := "tidegate/tidegatelaw43.CodecReturns", spec := "codecReturns", unfollowed := true, recurses := true, apart := false, narrowed := true }
def CodecReturnsUptoSaid : Prop := codecReturnsUptoRow.holds Try.pinned (OpenSpec.upto codecReturnsSpec)

end Rows
end Go.Proofs.Ytofdcgojgcnopaa
