/- Decode of events: the program's. -/
import Derived.Test.YtofdcgojgcnopaaDOpL
namespace Go.Proofs.Ytofdcgojgcnopaa
open Go.RowKit
set_option linter.unusedVariables false
set_option linter.unusedSimpArgs false
section
variable (s : ByteArray) (w : World)
set_option maxRecDepth 100000 in
set_option maxHeartbeats 4000000 in
theorem decL_any (hs : s.size ≤ 9223372036854775807) : Calls Try.prog 20 #[.string s] w (Opd (pL pEv) ROL (.slice none 0 0) s.data.toList w) := by
  have HO := hide (fun w => openedL_any s w hs)
  obtain ⟨r, hr⟩ : ∃ r, openE (pL pEv) s.data.toList = r := ⟨_, rfl⟩
  refine calls_opd' hr ?_
  unfold Opd at HO
  rw [hr] at HO
  clear hr hs
  go_enter Try.func20, Try.ntmps20
  go_wp2_with fail
  refine (HO.out _).mono ?_
  rintro en w1 ⟨v, rfl, hb, ho⟩
  have HB := hide hb
  clear hb
  cases r with
  | error c =>
    obtain rfl : v = .slice none 0 0 := ho
    have tc : codE (.error c : Ex (List Evt)) = c := rfl
    rw [tc]
    go_wp2
    go_ret2
    exact RetO.err rfl HB.out
  | ok x =>
    obtain ⟨hlst, hl4⟩ := ho
    obtain ⟨A9, c9, rfl⟩ := hlst.form
    have HG := hide (And.intro hlst hl4)
    clear hlst hl4
    have tc : codE (.ok x : Ex (List Evt)) = 0 := rfl
    rw [tc]
    go_wp2
    go_ret2
    exact RetO.ok rfl HG.out HB.out
end
end Go.Proofs.Ytofdcgojgcnopaa
