/- The walk of the law of Check and Begin. -/
import Derived.Test.YtgppohelgmadoaaALaws
import Derived.Deep.RegionHeld3
namespace Go.Proofs.Ytgppohelgmadoaa
open Go.RowKit
set_option linter.unusedVariables false
set_option linter.unusedSimpArgs false
section
variable (k c q n : Int) (s : ByteArray) (kind : Int) (w : World)
set_option maxRecDepth 100000 in
set_option maxHeartbeats 4000000 in
theorem checks_law (hs : s.size ≤ maxLen) :
    Calls Try.prog 7 #[.agg #[.int .i64 k, .int .i64 c, .int .i64 q, .int .i64 n, .string s], .int .i64 kind] w (Ret (.bool true) w) := by
  have HB1 := hide (abegin_any kind)
  have HB2 := hide (arbegin_any kind)
  have HC1 := hide (fun w => acheck_any k c q n s w hs)
  have HC2 := hide (fun w => archeck_any k c q n s w hs)
  generalize begV kind = bk at *
  generalize begE kind = be at *
  generalize accE k c q n s.size = ce at *
  have hA0 := Box5.new w ⟨k, c, q, n, s⟩ 25
  go_enter Try.func7, Try.ntmps7
  go_wp2_with fail
  refine (HB1.out _).mono ?_
  rintro e w1 ⟨rfl, hb⟩
  have hb9 := @below_laid w1 (.cells #[.int .i64 bk, .int .i64 0, .int .i64 0, .int .i64 0, .string ⟨#[]⟩] 25)
  have HA := hide ((hA0.keep hb).keep hb9)
  have HV := hide (Box5.new w1 ⟨bk, 0, 0, 0, ⟨#[]⟩⟩ 25)
  have HBW := hide (bthen (bel1 hb) hb9)
  clear hb hb9 hA0
  go_wp2_with fail
  refine (HB2.out _).mono ?_
  rintro e w2 ⟨rfl, hb⟩
  have hb9 := @below_laid w2 (.cells #[.int .i64 bk, .int .i64 0, .int .i64 0, .int .i64 0, .string ⟨#[]⟩] 25)
  have HA := hide ((HA.out.keep hb).keep hb9)
  have HV := hide ((HV.out.keep hb).keep hb9)
  have HU := hide (Box5.new w2 ⟨bk, 0, 0, 0, ⟨#[]⟩⟩ 25)
  have HBW := hide (bthen (bthen HBW.out hb) hb9)
  clear hb hb9
  go_wp2_with fail
  have HV2 : Hid (Box5 (w2.alloc (.cells #[.int .i64 bk, .int .i64 0, .int .i64 0, .int .i64 0, .string ⟨#[]⟩] 25)) w1.heap.size ⟨bk, 0, 0, 0, ⟨#[]⟩⟩) := HV
  have HU2 : Hid (Box5 (w2.alloc (.cells #[.int .i64 bk, .int .i64 0, .int .i64 0, .int .i64 0, .string ⟨#[]⟩] 25)) w2.heap.size ⟨bk, 0, 0, 0, ⟨#[]⟩⟩) := HU
  clear HV HU
  generalize w2.alloc (.cells #[.int .i64 bk, .int .i64 0, .int .i64 0, .int .i64 0, .string ⟨#[]⟩] 25) = W at *
  obtain ⟨⟨a0, a1, a2, a3, a4⟩, -⟩ := HA.out
  obtain ⟨⟨b0, b1, b2, b3, b4⟩, -⟩ := HV2.out
  obtain ⟨⟨c0, c1, c2, c3, c4⟩, -⟩ := HU2.out
  simp only at a0 a1 a2 a3 a4 b0 b1 b2 b3 b4 c0 c1 c2 c3 c4
  clear HA
  go_region_held3 (fun w' => w'.cell? ⟨w.heap.size, 0, none⟩ = some (.int .i64 k) ∧ w'.cell? ⟨w.heap.size, 1, none⟩ = some (.int .i64 c) ∧ w'.cell? ⟨w.heap.size, 2, none⟩ = some (.int .i64 q) ∧ w'.cell? ⟨w.heap.size, 3, none⟩ = some (.int .i64 n) ∧ w'.cell? ⟨w.heap.size, 4, none⟩ = some (.string s) ∧ w'.cell? ⟨w1.heap.size, 0, none⟩ = some (.int .i64 bk) ∧ w'.cell? ⟨w1.heap.size, 1, none⟩ = some (.int .i64 0) ∧ w'.cell? ⟨w1.heap.size, 2, none⟩ = some (.int .i64 0) ∧ w'.cell? ⟨w1.heap.size, 3, none⟩ = some (.int .i64 0) ∧ w'.cell? ⟨w1.heap.size, 4, none⟩ = some (.string ⟨#[]⟩) ∧ w'.cell? ⟨w2.heap.size, 0, none⟩ = some (.int .i64 bk) ∧ w'.cell? ⟨w2.heap.size, 1, none⟩ = some (.int .i64 0) ∧ w'.cell? ⟨w2.heap.size, 2, none⟩ = some (.int .i64 0) ∧ w'.cell? ⟨w2.heap.size, 3, none⟩ = some (.int .i64 0) ∧ w'.cell? ⟨w2.heap.size, 4, none⟩ = some (.string ⟨#[]⟩))
    (first
      | with_reducible exact ⟨keep1 hb3 a0, keep1 hb3 a1, keep1 hb3 a2, keep1 hb3 a3, keep1 hb3 a4, keep1 hb3 b0, keep1 hb3 b1, keep1 hb3 b2, keep1 hb3 b3, keep1 hb3 b4, keep1 hb3 c0, keep1 hb3 c1, keep1 hb3 c2, keep1 hb3 c3, keep1 hb3 c4⟩
      | with_reducible exact ⟨keep1 hb4 a0, keep1 hb4 a1, keep1 hb4 a2, keep1 hb4 a3, keep1 hb4 a4, keep1 hb4 b0, keep1 hb4 b1, keep1 hb4 b2, keep1 hb4 b3, keep1 hb4 b4, keep1 hb4 c0, keep1 hb4 c1, keep1 hb4 c2, keep1 hb4 c3, keep1 hb4 c4⟩
      | with_reducible exact ⟨keep1 hb5 a0, keep1 hb5 a1, keep1 hb5 a2, keep1 hb5 a3, keep1 hb5 a4, keep1 hb5 b0, keep1 hb5 b1, keep1 hb5 b2, keep1 hb5 b3, keep1 hb5 b4, keep1 hb5 c0, keep1 hb5 c1, keep1 hb5 c2, keep1 hb5 c3, keep1 hb5 c4⟩
      | (go_keep; done))
    (first
      | (go_at_call 13; refine (awake_any _).mono ?_; rintro e w3 ⟨rfl, hb'⟩; have hb3 : Below W.heap.size W w3 := below_undrew hb')
      | (go_at_call 22; refine (HC1.out _).mono ?_; rintro e w4 ⟨rfl, hb4'⟩; have hb4 := bthen hb3 hb4')
      | (go_at_call 23; refine (HC2.out _).mono ?_; rintro e w5 ⟨rfl, hb5'⟩; have hb5 := bthen hb4 hb5'))
  have HF := hide (bthen HBW.out hb5)
  clear hb3 hb4 hb5 hb' hb4' hb5'
  go_wp2
  go_ret
  exact Ret.bool rfl HF.out
end
end Go.Proofs.Ytgppohelgmadoaa
