/- The examples of the chapter. -/
import Derived.Test.YtjahjefkfcifhaaBPTake2
namespace Go.Proofs.Ytjahjefkfcifhaa
open Go.RowKit
set_option linter.unusedVariables false
set_option linter.unusedSimpArgs false

theorem ab_beg : begL 2 = [false, false] ∧ begE 2 = 0 := by decide +kernel
theorem ab_t1 : takN 0 [false, false] 1 1 = 0 ∧ takL 0 [false, false] 1 1 = [false, true] ∧ takA 0 [false, false] 1 1 = false ∧ takE 0 [false, false] 1 1 = 0 := by decide +kernel
theorem ab_in : insL 0 [false, true] = [0] ∧ chk 0 [false, true] = 0 := by decide +kernel
theorem ab_t2 : takN 0 [false, true] 0 1 = 1 ∧ takL 0 [false, true] 0 1 = [false, false] ∧ takA 0 [false, true] 0 1 = true ∧ takE 0 [false, true] 0 1 = 0 := by decide +kernel
theorem ab_t3 : takN 0 [false, true] 1 2 = 0 ∧ takL 0 [false, true] 1 2 = [] ∧ takA 0 [false, true] 1 2 = false ∧ takE 0 [false, true] 1 2 = 21 := by decide +kernel
theorem ab_t4 : takN 0 [false, true] 0 2 = 0 ∧ takL 0 [false, true] 0 2 = [] ∧ takA 0 [false, true] 0 2 = false ∧ takE 0 [false, true] 0 2 = 22 := by decide +kernel

theorem lit_one (w : World) (o : Obj) (t : TypeId) : Row ((w.alloc o).alloc (.cells #[.int .i64 0] t)) ((w.alloc o).alloc (.cells #[.int .i64 0] t)).heap.size 1 (.slice (some ⟨w.heap.size + 1, 0, none⟩) 1 1) [(0 : Int)].length (ints [0]) := by
  have h := Row.of_own (own_lit (w.alloc o) [.int .i64 0] t 0 1 1 (by omega) rfl (by decide))
  rw [World.size_alloc (w := w)] at h
  exact h

set_option maxRecDepth 100000 in
set_option maxHeartbeats 1000000 in
theorem awake_any (w : World) : Calls Try.prog 10 #[] w (Ret (.bool true) w) := by
  go_enter Try.func10, Try.ntmps10
  go_wp2_with fail
  refine (begin_any 2 _).mono ?_
  rw [ab_beg.1, ab_beg.2]
  rintro e w1 ⟨va, rfl, hRa, hB1⟩
  simp only [List.append_toArray, List.cons_append, List.nil_append]
  obtain ⟨A, cap, rfl⟩ := hRa.form
  have HA := hide (hRa.laid (.cells #[.int .i64 0, .slice A 2 cap] 24))
  have HB1 := hide hB1
  clear hRa hB1
  go_wp2_with fail
  refine (take_any _ _ [false, false] _ _ _ (by decide) HA.out).mono ?_
  unfold RetTak
  rw [ab_t1.1, ab_t1.2.1, ab_t1.2.2.1, ab_t1.2.2.2]
  rintro e w2 ⟨vb, rfl, hRb, hB2⟩
  simp only [List.append_toArray, List.cons_append, List.nil_append]
  obtain ⟨B, capb, rfl⟩ := hRb.form
  have HR := hide hRb
  have HB2 := hide (bthen HB1.out (step_box [.int .i64 0, .slice A 2 cap] hB2).1)
  clear hRb hB2 HA
  go_wp2_with fail
  refine (inputs_any _ _ [false, true] _ (by decide) (HR.out.laid _)).mono ?_
  rw [ab_in.1, ab_in.2]
  rintro e w3 ⟨vl, rfl, hRl, hB3⟩
  obtain ⟨hb3, hz3, hx3⟩ := step_box [.int .i64 0, .slice B 2 capb] hB3
  have x0 := hx3 0 _ rfl
  have x1 := hx3 1 _ rfl
  obtain ⟨C, capc, rfl⟩ := hRl.form
  have HL := hide hRl
  have HR3 := hide (HR.out.grow hb3)
  have HB3 := hide (bthen HB2.out hb3)
  clear hRl hb3 hB3 hx3
  go_wp2_with fail
  refine (take_any _ _ [false, true] _ _ _ (by decide) HR3.out).mono ?_
  unfold RetTak
  rw [ab_t2.1, ab_t2.2.1, ab_t2.2.2.1, ab_t2.2.2.2]
  rintro e w4 ⟨vc, rfl, hRc, hB4⟩
  simp only [List.append_toArray, List.cons_append, List.nil_append]
  obtain ⟨D, capd, rfl⟩ := hRc.form
  have HC := hide (hRc.laid (.cells #[.int .i64 1, .slice D 2 capd] 24))
  have y0 := ((bcell hB4).1 _ 0 hz3).trans x0
  have y1 := ((bcell hB4).1 _ 1 hz3).trans x1
  have hz4 : w2.heap.size < w4.heap.size := by have := hB4.size; omega
  have HB4 := hide (bthen HB3.out hB4)
  have HR4 := hide ((HR3.out.grow hB4).laid (.cells #[.int .i64 1, .slice D 2 capd] 24))
  have HL4 := hide ((HL.out.grow hB4).laid (.cells #[.int .i64 1, .slice D 2 capd] 24))
  clear hRc hB4 x0 x1 HL HR3
  go_wp2_with fail
  refine (take_any _ _ [false, true] _ _ _ (by decide) HR4.out).mono ?_
  unfold RetTak
  rw [ab_t3.1, ab_t3.2.1, ab_t3.2.2.1, ab_t3.2.2.2]
  rintro e w5 ⟨vd, rfl, hRd, hB5⟩
  simp only [List.append_toArray, List.cons_append, List.nil_append]
  obtain ⟨hb5, hz5, hx5⟩ := step_box [.int .i64 1, .slice D 2 capd] hB5
  have c0 := hx5 0 _ rfl
  have c1 := hx5 1 _ rfl
  have b0 := ((bcell hb5).1 _ 0 hz4).trans y0
  have b1 := ((bcell hb5).1 _ 1 hz4).trans y1
  have hz25 : w2.heap.size < w5.heap.size := by omega
  have HB5 := hide ((bthen HB4.out hb5).alloc (by have := (bthen HB4.out hb5).size; omega) (.cells #[.int .i64 0, vd] 24))
  obtain ⟨Ad, capd', rfl⟩ := hRd.form
  have HC5 := hide ((HC.out.grow hB5).laid (.cells #[.int .i64 0, .slice Ad 0 capd'] 24))
  have HR5 := hide ((HR4.out.grow hB5).laid (.cells #[.int .i64 0, .slice Ad 0 capd'] 24))
  have HL5 := hide ((HL4.out.grow hB5).laid (.cells #[.int .i64 0, .slice Ad 0 capd'] 24))
  clear hRd hB5 hb5 hx5 y0 y1 HC HR4 HL4
  go_wp2_with fail
  refine (take_any _ _ [false, true] _ _ _ (by decide) HR5.out).mono ?_
  unfold RetTak
  rw [ab_t4.1, ab_t4.2.1, ab_t4.2.2.1, ab_t4.2.2.2]
  rintro e w6 ⟨ve, rfl, hRe, hB6⟩
  simp only [List.append_toArray, List.cons_append, List.nil_append]
  obtain ⟨Ae, cape, rfl⟩ := hRe.form
  have hB56 := (step_box [.int .i64 0, .slice Ad 0 capd'] hB6).1
  have d0 := ((bcell hB56).1 _ 0 hz5).trans c0
  have d1 := ((bcell hB56).1 _ 1 hz5).trans c1
  have HB6 := hide (bthen HB5.out hB6)
  have HC6 := hide ((HC5.out.grow hB6).laid (.cells #[.int .i64 0, .slice Ae 0 cape] 24))
  have HL6 := hide ((HL5.out.grow hB6).laid (.cells #[.int .i64 0, .slice Ae 0 cape] 24))
  have hz6 : w4.heap.size < w6.heap.size := by have := hB56.size; omega
  clear hRe hB6 hB56 c0 c1 b0 b1 HC5 HR5 HL5
  go_wp2_with fail
  have HE1 := hide ((Below.refl w6.heap.size w6).alloc (Nat.le_refl _) (.cells #[.int .i64 0, .slice Ae 0 cape] 24))
  refine (equal_int _ _ [0] _ (by decide) (HL6.out.laid _) (lit_one w6 _ _)).mono ?_
  rintro e w7 ⟨rfl, hB7⟩
  have hB67 := bthen HE1.out (step_box [.int .i64 0] hB7).1
  have e0 := ((bcell hB67).1 _ 0 hz6).trans d0
  have e1 := ((bcell hB67).1 _ 1 hz6).trans d1
  have HB7 := hide (bthen HB6.out hB67)
  have HC7 := hide (HC6.out.grow (step_box [.int .i64 0] hB7).1)
  have hz7 : w4.heap.size < w7.heap.size := by have := hB67.size; omega
  clear hB7 hB67 d0 d1 HC6 HL6 HE1
  go_wp2_with fail
  refine (same_any 1 _ _ [false, false] _ (by decide) (HC7.out.laid _) (Row.of_own (own_lit w7 [.bool false, .bool false] 4 0 1 2 (by omega) rfl (by decide)))).mono ?_
  rintro e w8 ⟨rfl, hB8⟩
  have HB8 := hide (bthen HB7.out (step_box [.bool false, .bool false] hB8).1)
  clear hB8
  go_wp2
  go_ret
  exact Ret.bool rfl HB8.out
end Go.Proofs.Ytjahjefkfcifhaa
