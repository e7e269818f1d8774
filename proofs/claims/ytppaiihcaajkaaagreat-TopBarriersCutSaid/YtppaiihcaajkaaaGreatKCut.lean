/- tryCut: the fixed example. -/
import Derived.Test.YtppaiihcaajkaaaGreatKExeM
import Derived.Test.YtppaiihcaajkaaaGreatKStart
namespace Go.Proofs.YtppaiihcaajkaaaGreat
open Go.RowKit
set_option linter.unusedVariables false
set_option linter.unusedSimpArgs false
theorem lst_two {α : Type} {R : World → (Nat → Prop) → List Value → α → Prop} {w : World} {Z : Nat → Prop} {g n : Nat} {ys zs : List Value} {y z : α} (h : Bl w g (ys ++ zs)) (hl : ys.length = n) (hl' : zs.length = n) (hR : R w Z ys y) (hR' : R w Z zs z) (hZ : Z g) : Lst w Z n R (.slice (some ⟨g, 0, none⟩) 2 2) [y, z] := by
  refine ⟨⟨_, _, rfl, Nat.le_refl _, by unfold maxLen; simp⟩, fun j hj => ?_⟩
  have hc : j = 0 ∨ j = 1 := by simp at hj; omega
  rcases hc with rfl | rfl
  · refine ⟨g, 0, 2, ys, rfl, hZ, hl, fun c u hu => ?_, hR⟩
    have hlt := (List.getElem?_eq_some_iff.1 hu).1
    rw [show 0 + 0 * n + c = c by omega]
    exact h.c c u (by rw [List.getElem?_append_left hlt]; exact hu)
  · refine ⟨g, 0, 2, zs, rfl, hZ, hl', fun c u hu => ?_, hR'⟩
    rw [show 0 + 1 * n + c = ys.length + c by omega]
    exact h.c _ u (by rw [List.getElem?_append_right (by omega), Nat.add_sub_cancel_left]; exact hu)
section
variable (w : World)
set_option maxRecDepth 100000 in
set_option maxHeartbeats 16000000 in
theorem tcut_any : Calls Tryz.prog 4 #[] w (Ret (.bool true) w) := by
  have HK0 := hide (fun (w1 : World) => tkeyed_any w1 0 1 ⟨#[97]⟩ (by decide))
  have HK1 := hide (fun (w1 : World) => tkeyed_any w1 1 2 ⟨#[]⟩ (by decide))
  go_enter Tryz.func4, Tryz.ntmps4
  have HK01 := hide (HK0.out w)
  go_wp2_with fail
  refine HK01.out.mono ?_
  rintro e1 w1 ⟨A1, c1, rfl, hl1, hb1⟩
  obtain ⟨W1, hW1⟩ : ∃ W1, w1.alloc (.cells #[.int .i64 0, .int .i64 0, .int .i64 0, .int .i64 1, .slice A1 1 c1] 51) = W1 := ⟨_, rfl⟩
  have HX1 := hide (show Bl W1 w1.heap.size [.int .i64 0, .int .i64 0, .int .i64 0, .int .i64 1, .slice A1 1 c1] by rw [← hW1]; exact Bl.new w1 _ _)
  have HB1 := hide (show Below w.heap.size w W1 by rw [← hW1]; exact bthen hb1 (below_laid _))
  have HV1 := hide (show Lst W1 (· < W1.heap.size) 3 RV0 (.slice A1 1 c1) [⟨2, 0, ⟨#[97]⟩⟩] by rw [← hW1]; exact hl1.below rd_V0 (below_laid _))
  clear hl1 hb1 HK01 HK0
  go_upto_region 2 with (fail)
  try rw [hW1]
  clear hW1
  have x0 := HX1.out.c 0 _ rfl
  have x1 := HX1.out.c 1 _ rfl
  have x2 := HX1.out.c 2 _ rfl
  have x3 := HX1.out.c 3 _ rfl
  have x4 := HX1.out.c 4 _ rfl
  go_region_held3 (fun w' => w'.cell? ⟨w1.heap.size, 0, none⟩ = some (.int .i64 0) ∧ w'.cell? ⟨w1.heap.size, 1, none⟩ = some (.int .i64 0) ∧ w'.cell? ⟨w1.heap.size, 2, none⟩ = some (.int .i64 0) ∧ w'.cell? ⟨w1.heap.size, 3, none⟩ = some (.int .i64 1) ∧ w'.cell? ⟨w1.heap.size, 4, none⟩ = some (.slice A1 1 c1))
    (first | with_reducible exact ⟨keep1 hk9 x0, keep1 hk9 x1, keep1 hk9 x2, keep1 hk9 x3, keep1 hk9 x4⟩ | with_reducible exact ⟨keep1 (hold_alloc hk9 _) x0, keep1 (hold_alloc hk9 _) x1, keep1 (hold_alloc hk9 _) x2, keep1 (hold_alloc hk9 _) x3, keep1 (hold_alloc hk9 _) x4⟩ | (go_keep; done))
    ((go_at_call 9; refine (HK1.out _).mono ?_; rintro e2 w2 ⟨A2, c2, rfl, hl2, hb2⟩; have hk9 : Below W1.heap.size W1 w2 := (by first | exact below_undrew hb2 | exact hb2); have HK2 := hide hk9; have HV2 := hide hl2; clear hb2 hl2))
  obtain ⟨W3, hW3⟩ : ∃ W3, w2.alloc (.cells #[.int .i64 0, .int .i64 0, .int .i64 0, .int .i64 0, .int .i64 1, .slice A1 1 c1, .int .i64 0, .int .i64 0, .int .i64 0, .int .i64 0, .int .i64 0, .int .i64 1, .int .i64 0, .int .i64 2, .slice A2 1 c2, .int .i64 0, .int .i64 0, .int .i64 0] 54) = W3 := ⟨_, rfl⟩
  have hb23 : Below w2.heap.size w2 W3 := by rw [← hW3]; exact below_laid _
  have HB3 := hide (bthen HB1.out (bthen HK2.out hb23))
  have HX3 := hide (HX1.out.keep (bthen HK2.out hb23))
  have HV3 := hide (show Lst W3 (· < W3.heap.size) 3 RV0 (.slice A1 1 c1) [⟨2, 0, ⟨#[97]⟩⟩] from HV1.out.below rd_V0 (bthen HK2.out hb23))
  have HU3 := hide (show Lst W3 (· < W3.heap.size) 3 RV0 (.slice A2 1 c2) [⟨2, 0, ⟨#[]⟩⟩] from HV2.out.below rd_V0 hb23)
  have hl3 : Lst W3 (· < W3.heap.size) 9 (RMs W3) (.slice (some ⟨w2.heap.size, 0, none⟩) 2 2) (LX 0) := by
    have hbl : Bl W3 w2.heap.size ([.int .i64 0, .int .i64 0, .int .i64 0, .int .i64 0, .int .i64 1, .slice A1 1 c1, .int .i64 0, .int .i64 0, .int .i64 0] ++ [.int .i64 0, .int .i64 0, .int .i64 1, .int .i64 0, .int .i64 2, .slice A2 1 c2, .int .i64 0, .int .i64 0, .int .i64 0]) := by rw [← hW3]; exact Bl.new w2 _ _
    have hz : ∀ n : Int, 0 ≤ n ∧ n ≤ 1000 → inI n := fun n h => inI_lit h
    exact lst_two (n := 9) (y := (⟨0, xA, 0, 0, 0⟩ : Msg)) (z := (⟨0, xB, 0, 0, 0⟩ : Msg)) hbl rfl rfl ⟨A1, c1, rfl, HV3.out, ⟨hz 0 (by decide), ⟨hz 0 (by decide), hz 0 (by decide), hz 0 (by decide), hz 1 (by decide)⟩, hz 0 (by decide), hz 0 (by decide), hz 0 (by decide)⟩⟩
      ⟨A2, c2, rfl, HU3.out, ⟨hz 0 (by decide), ⟨hz 0 (by decide), hz 1 (by decide), hz 0 (by decide), hz 2 (by decide)⟩, hz 0 (by decide), hz 0 (by decide), hz 0 (by decide)⟩⟩ hbl.lt
  have HST := hide (tstart_any W3 W3 (Below.refl _ _) LX (.slice (some ⟨w2.heap.size, 0, none⟩) 2 2) (.slice none 0 0) hl3 Lst.nil)
  rw [hW3]
  have hlt3 := HX3.out.lt
  clear hW3 hb23 hl3 x0 x1 x2 x3 x4 HX1 HV1 HV2 HU3 HK2 hk9 HK1 HB1
  go_wp2_with fail
  refine HST.out.mono ?_
  rintro e4 w4 ⟨b, f4, rfl, hJ4, hb4⟩
  have HJ4 := hide hJ4
  have HB4 := hide (bthen HB3.out hb4)
  have HI4 := hide (show JInv (fun i => (LX i).length) sl0 job0 from job0_inv fun i hi => by
    have hc : i = 0 ∨ i = 1 := by omega
    rcases hc with rfl | rfl <;> decide)
  have HRD := hide (show Calls Tryz.prog 10 #[.pointer (some ⟨b, 0, none⟩), .int .i64 0] w4 (RetRJ W3 LX b f4 job0 0 w4) from jread_any w4 W3 LX b f4 job0 hJ4 HI4.out 0 (by omega))
  clear hJ4 hb4 HST
  go_wp2_with fail
  refine HRD.out.mono ?_
  rintro e5 w5 ⟨J5, hr5, rfl, f5, hJ5, -⟩
  have HJ5 := hide hJ5
  have HR5 := hide hr5
  have HI5 := hide ((hr5.step).inv (by omega) HI4.out).1
  have HIN := hide (show Calls Tryz.prog 11 #[.pointer (some ⟨b, 0, none⟩), .int .i64 0] w5 (RetJ W3 LX b f5 (insJ J5 0) w5) from insert_any w5 W3 LX b f5 J5 hJ5 HI5.out 0 (by omega))
  clear hJ5 hr5 HRD
  go_wp2_with fail
  refine HIN.out.mono ?_
  rintro e6 w6 ⟨rfl, f6, hJ6, -⟩
  have HI6 := hide (insJ_inv HI5.out (i := 0) (by omega))
  have HEX := hide (show Calls Tryz.prog 7 #[.pointer (some ⟨b, 0, none⟩), .slice none 0 0] w6 (RetEx W3 LX b QC) from texec_any w6 W3 LX b f6 (insJ J5 0) QC qc_keep hJ6 HI6.out (qc_start HR5.out) [] none 0 Lst.nil)
  clear hJ6 HIN
  go_wp2_with fail
  refine HEX.out.mono ?_
  rintro e7 w7 ⟨rfl, f7, J7, hJ7, hR7, hQ7⟩
  obtain ⟨n0, n1, t0, t1, l0, l1⟩ := qc_end hR7 hQ7
  have HJ7 := hide hJ7
  have HBL := hide hJ7.bl
  have HB7 := hide (bthen HB3.out hJ7.hw)
  have g2 := hJ7.rows 2 (by omega)
  have g3 := hJ7.rows 3 (by omega)
  have g4 := hJ7.rows 4 (by omega)
  have g5 := hJ7.rows 5 (by omega)
  rw [show rowJ J7 2 = [] by unfold rowJ; simp [t0]] at g2
  rw [show rowJ J7 3 = [iA] by unfold rowJ; simp [t1]] at g3
  rw [show rowJ J7 4 = J7.later 0 by unfold rowJ; simp] at g4
  rw [show rowJ J7 5 = J7.later 1 by unfold rowJ; simp] at g5
  have l3 := g3.lst rd_It (by decide) (by unfold maxLen; simp)
  obtain ⟨A2', c2', e2⟩ := g2.form
  obtain ⟨A3, c3, e3⟩ := g3.form
  obtain ⟨A4, c4, e4⟩ := g4.form
  obtain ⟨A5, c5, e5⟩ := g5.form
  rw [l0] at e4
  rw [l1] at e5
  rw [e3] at l3
  obtain ⟨gi, oi, xs, eA, -, hxl, hc, hR⟩ := l3.at_ (j := 0) (by simp)
  obtain ⟨E, ce, rfl, hE, -⟩ := hR
  subst eA
  have k0 : w7.cell? ⟨gi, oi, none⟩ = some (.int .i64 0) := by have h := hc 0 _ rfl; rw [show oi + 0 * 7 + 0 = oi by omega] at h; exact h
  have k1 : w7.cell? ⟨gi, oi + 1, none⟩ = some (.int .i64 0) := by have h := hc 1 _ rfl; rw [show oi + 0 * 7 + 1 = oi + 1 by omega] at h; exact h
  have k2 : w7.cell? ⟨gi, oi + 2, none⟩ = some (.int .i64 0) := by have h := hc 2 _ rfl; rw [show oi + 0 * 7 + 2 = oi + 2 by omega] at h; exact h
  have k3 : w7.cell? ⟨gi, oi + 3, none⟩ = some (.int .i64 0) := by have h := hc 3 _ rfl; rw [show oi + 0 * 7 + 3 = oi + 3 by omega] at h; exact h
  have k4 : w7.cell? ⟨gi, oi + 4, none⟩ = some (.int .i64 1) := by have h := hc 4 _ rfl; rw [show oi + 0 * 7 + 4 = oi + 4 by omega] at h; exact h
  have k5 : w7.cell? ⟨gi, oi + 5, none⟩ = some (.slice E 1 ce) := by have h := hc 5 _ rfl; rw [show oi + 0 * 7 + 5 = oi + 5 by omega] at h; exact h
  have k6 : w7.cell? ⟨gi, oi + 6, none⟩ = some (.int .i64 0) := by have h := hc 6 _ rfl; rw [show oi + 0 * 7 + 6 = oi + 6 by omega] at h; exact h
  have hE' : Lst w7 (· < w7.heap.size) 3 RV0 (.slice E 1 ce) xA.vs := (Lst.keep rd_V0 (Kp.of_below hJ7.hw) hE).more rd_V0 fun k hk => Nat.lt_of_lt_of_le hk hJ7.hw.size
  have hV' : Lst w7 (· < w7.heap.size) 3 RV0 (.slice A1 1 c1) xA.vs := (Lst.keep rd_V0 (Kp.of_below hJ7.hw) HV3.out).more rd_V0 fun k hk => Nat.lt_of_lt_of_le hk hJ7.hw.size
  have HSM := hide (fun (w8 : World) (hb8 : Below w7.heap.size w7 w8) => show Calls Tryz.prog 12 #[.agg #[.int .i64 0, .int .i64 0, .int .i64 0, .int .i64 0, .int .i64 1, .slice E 1 ce, .int .i64 0], .agg #[.int .i64 0, .int .i64 0, .int .i64 0, .int .i64 0, .int .i64 1, .slice A1 1 c1, .int .i64 0]] w8 (RetIff (iA = iA) w8) from same_any w8 iA iA E A1 ce c1 (hE'.below rd_V0 hb8) (hV'.below rd_V0 hb8) (fun k hk => hk) (fun k hk => hk))
  have HX7 := hide (HX3.out.keep hJ7.hw)
  have k27 : w7.cell? ⟨b, 27, none⟩ = some (.bool true) := by rw [← hJ7.ok]; exact hJ7.bl.c 27 (by omega)
  have k24 : w7.cell? ⟨b, 24, none⟩ = some (.slice (some ⟨gi, oi, none⟩) 1 c3) := by rw [hJ7.bl.c 24 (by omega), show (24 : Nat) = 21 + 3 from rfl, e3]; rfl
  have e15 : f7 15 = .int .i64 1 := by have h := (hJ7.al 0 (by omega)).1; rw [n0] at h; exact h
  have e17 : f7 17 = .int .i64 1 := by have h := (hJ7.al 1 (by omega)).1; rw [n1] at h; exact h
  have HC := hide (show ∀ w8, Below w7.heap.size w7 w8 → (w8.cell? ⟨b, 23, none⟩ = some (.slice A2' 0 c2') ∧ w8.cell? ⟨b, 25, none⟩ = some (.slice A4 1 c4) ∧ w8.cell? ⟨b, 26, none⟩ = some (.slice A5 0 c5) ∧ w8.cell? ⟨b, 15, none⟩ = some (.int .i64 1) ∧ w8.cell? ⟨b, 17, none⟩ = some (.int .i64 1)) from fun w8 hb => by
    have hB := HBL.out.keep hb
    refine ⟨?_, ?_, ?_, ?_, ?_⟩
    · rw [hB.c 23 (by omega), show (23 : Nat) = 21 + 2 from rfl, e2]; rfl
    · rw [hB.c 25 (by omega), show (25 : Nat) = 21 + 4 from rfl, e4]
    · rw [hB.c 26 (by omega), show (26 : Nat) = 21 + 5 from rfl, e5]
    · rw [hB.c 15 (by omega), e15]
    · rw [hB.c 17 (by omega), e17])
  have x0 := HX7.out.c 0 _ rfl
  have x1 := HX7.out.c 1 _ rfl
  have x2 := HX7.out.c 2 _ rfl
  have x3 := HX7.out.c 3 _ rfl
  have x4 := HX7.out.c 4 _ rfl
  clear hJ7 hR7 hQ7 hE hE' hV' g2 g3 g4 g5 l3 hc hxl e2 e3 e4 e5 e15 e17 n0 n1 t0 t1 l0 l1 HEX HI6 HR5 HI5
  obtain ⟨k23, k25, k26, k15, k17⟩ := HC.out w7 (Below.refl _ _)
  clear HC
  go_upto_region 7 with (fail)
  simp only [List.append_eq, List.cons_append, List.nil_append]
  go_region_held3 (fun w' => w'.cell? ⟨b, 27, none⟩ = some (.bool true) ∧ w'.cell? ⟨b, 24, none⟩ = some (.slice (some ⟨gi, oi, none⟩) 1 c3) ∧ w'.cell? ⟨gi, oi, none⟩ = some (.int .i64 0) ∧ w'.cell? ⟨gi, oi + 1, none⟩ = some (.int .i64 0) ∧ w'.cell? ⟨gi, oi + 2, none⟩ = some (.int .i64 0) ∧ w'.cell? ⟨gi, oi + 3, none⟩ = some (.int .i64 0) ∧ w'.cell? ⟨gi, oi + 4, none⟩ = some (.int .i64 1) ∧ w'.cell? ⟨gi, oi + 5, none⟩ = some (.slice E 1 ce) ∧ w'.cell? ⟨gi, oi + 6, none⟩ = some (.int .i64 0) ∧ w'.cell? ⟨w1.heap.size, 0, none⟩ = some (.int .i64 0) ∧ w'.cell? ⟨w1.heap.size, 1, none⟩ = some (.int .i64 0) ∧ w'.cell? ⟨w1.heap.size, 2, none⟩ = some (.int .i64 0) ∧ w'.cell? ⟨w1.heap.size, 3, none⟩ = some (.int .i64 1) ∧ w'.cell? ⟨w1.heap.size, 4, none⟩ = some (.slice A1 1 c1) ∧ w'.cell? ⟨b, 23, none⟩ = some (.slice A2' 0 c2') ∧ w'.cell? ⟨b, 25, none⟩ = some (.slice A4 1 c4) ∧ w'.cell? ⟨b, 26, none⟩ = some (.slice A5 0 c5) ∧ w'.cell? ⟨b, 15, none⟩ = some (.int .i64 1) ∧ w'.cell? ⟨b, 17, none⟩ = some (.int .i64 1))
    (first | with_reducible exact ⟨keep1 hk9 k27, keep1 hk9 k24, keep1 hk9 k0, keep1 hk9 k1, keep1 hk9 k2, keep1 hk9 k3, keep1 hk9 k4, keep1 hk9 k5, keep1 hk9 k6, keep1 hk9 x0, keep1 hk9 x1, keep1 hk9 x2, keep1 hk9 x3, keep1 hk9 x4, keep1 hk9 k23, keep1 hk9 k25, keep1 hk9 k26, keep1 hk9 k15, keep1 hk9 k17⟩ | (go_keep; done))
    ((go_at_call 12; refine (HSM.out _ (by first | exact (Below.refl _ _).drew | exact Below.refl _ _)).mono ?_; rintro e8 w8 ⟨d, hd, rfl, hb8⟩; obtain rfl : d = true := (by first | exact hd.2 rfl | exact hd.2 trivial); have hk9 : Below w7.heap.size w7 w8 := (by first | exact below_undrew hb8 | exact hb8); have HB8 := hide hk9; clear hd hb8))
  go_wp2_with fail
  go_ret
  exact ⟨rfl, bthen HB7.out HB8.out⟩
end
end Go.Proofs.YtppaiihcaajkaaaGreat
