/- Check of an expression that is an aggregate of a field: visit and Check. -/
import Derived.Test.YthngffceneemnaaEChk
namespace Go.Proofs.Ythngffceneemnaa
open Go.RowKit
set_option linter.unusedVariables false
set_option linter.unusedSimpArgs false
section
variable (k : Int) (o : V3) (w : World)
set_option maxHeartbeats 4000000 in
theorem evisit_any (h1 : 1 ≤ k) (h5 : k ≤ 5) (hs : o.s.size ≤ maxLen) (h : wrE k o.q o.n o.s.size = 0) (hz : k = 1 → o = V3.z) : Calls Try.prog 28 #[.agg #[.int .i64 4, .slice none 0 0, .int .i64 0, .int .i64 0, .int .i64 k, .int .i64 o.q, .int .i64 o.n, .string o.s], .func (.func 29) #[] #[]] w (Ret (.int .i64 0) w) := by
  have HN := hide (fun w => enode_any k o w h1 h5 hs h hz)
  have HB := hide (BoxE.new w k o)
  clear h1 h5 hs h hz
  go_enter Try.func28, Try.ntmps28
  go_wp2_with fail
  refine (HN.out _).mono ?_
  rintro e w1 ⟨rfl, hb⟩
  have HW := hide (bthen (below_laid _) hb)
  have HB := hide (HB.out.keep hb)
  clear hb
  obtain ⟨a0, a1, a2, a3, a4, a5, a6, a7⟩ := HB.out
  go_wp2_with fail
  go_loopw [18] (fun i wr => i = .int .i64 0 ∧ Below w.heap.size w wr) (fun _ _ => 0)
  case atStart => exact ⟨rfl, HW.out⟩
  case round =>
    obtain ⟨rfl, hb⟩ := hrel
    go_wp2
    go_ret
    exact ⟨rfl, hb⟩
set_option maxHeartbeats 4000000 in
theorem echeck_any (h1 : 1 ≤ k) (h5 : k ≤ 5) (hs : o.s.size ≤ maxLen) (h : wrE k o.q o.n o.s.size = 0) (hz : k = 1 → o = V3.z) : Calls Try.prog 21 #[.agg #[.int .i64 4, .slice none 0 0, .int .i64 0, .int .i64 0, .int .i64 k, .int .i64 o.q, .int .i64 o.n, .string o.s]] w (Ret (.int .i64 0) w) := by
  have HV := hide (fun w => evisit_any k o w h1 h5 hs h hz)
  have HS := hide (fun w => esize_any k o w)
  have HB := hide (BoxE.new w k o)
  clear h1 h5 hs h hz
  go_enter Try.func21, Try.ntmps21
  go_wp2_with fail
  refine (HS.out _).mono ?_
  rintro e w1 ⟨rfl, hb⟩
  have HW := hide (bthen (below_laid _) hb)
  have HB := hide (HB.out.keep hb)
  clear hb
  obtain ⟨a0, a1, a2, a3, a4, a5, a6, a7⟩ := HB.out
  go_wp2_with fail
  refine (HV.out _).mono ?_
  rintro e w2 ⟨rfl, hb⟩
  have HW := hide (bthen HW.out hb)
  clear hb
  go_wp2
  go_ret
  exact ⟨rfl, HW.out⟩
end
end Go.Proofs.Ythngffceneemnaa
