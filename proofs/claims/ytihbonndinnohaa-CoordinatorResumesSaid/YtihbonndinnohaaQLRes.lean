/- The law's function CoordinatorResumes returns true. -/
import Derived.Test.YtihbonndinnohaaQPl
namespace Go.Proofs.Ytihbonndinnohaa
open Go.RowKit
set_option linter.unusedVariables false
set_option linter.unusedSimpArgs false

theorem rd0_lst (w : World) (t : TypeId) : Lq (w.alloc (.cells #[.int .i64 0, .int .i64 0, .int .i64 0, .slice none 0 0, .slice none 0 0, .int .i64 0] t)) 6 RRq (.slice (some ⟨w.heap.size, 0, none⟩) 1 1) [⟨0, 0⟩] := by
  refine ⟨⟨_, 1, rfl, Nat.le_refl _, by simp [maxLen]⟩, fun j hj => ?_⟩
  have hj0 : j = 0 := by simp at hj; omega
  subst hj0
  refine ⟨w.heap.size, 0, 1, [.int .i64 0, .int .i64 0, .int .i64 0, .slice none 0 0, .slice none 0 0, .int .i64 0], rfl, by simp, rfl, fun c u hu => ?_, 0, 0, none, none, 0, 0, 0, 0, rfl⟩
  have := cells_lit w [.int .i64 0, .int .i64 0, .int .i64 0, .slice none 0 0, .slice none 0 0, .int .i64 0] t c u hu
  simpa using this
section
variable (w : World) (c : Cq)
set_option maxRecDepth 100000 in
set_option maxHeartbeats 16000000 in
theorem resumes_few (v : Value) (num : Int) (h : CoV w v c) (hf : fewQ c = false) : Calls Try.prog 7 #[v, .int .i64 num] w (Ret (.bool true) w) := by
  obtain ⟨A, cap, rfl⟩ := coz_form h.z
  obtain ⟨w0, hw0⟩ : ∃ x, w.alloc (.cells #[.int .i64 c.next, .slice A c.atts.length cap, .int .i64 c.dur] 24) = x := ⟨_, rfl⟩
  have HC0 := hide (h.laid (.cells #[.int .i64 c.next, .slice A c.atts.length cap, .int .i64 c.dur] 24))
  have HX0 := hide (Bl.new w [.int .i64 c.next, .slice A c.atts.length cap, .int .i64 c.dur] 24)
  have HB0 := hide (below_laid (w := w) (.cells #[.int .i64 c.next, .slice A c.atts.length cap, .int .i64 c.dur] 24))
  rw [hw0] at HC0 HX0 HB0
  have HP := hide (fun w' (h : Below w0.heap.size w0 w') => And.intro (HX0.out.keep h) (And.intro (HC0.out.grow h) (bthen HB0.out h)))
  have HF := hide (fewc_any w0 c _ (HP.out w0 (Below.refl _ _)).2.1)
  rw [hf] at HF
  clear hf h HC0 HX0 HB0
  obtain ⟨⟨yy, ff, zzx⟩, -⟩ := HP.out w0 (Below.refl _ _)
  have x0 := yy 0 _ rfl
  have x1 := yy 1 _ rfl
  have x2 := yy 2 _ rfl
  clear yy ff
  go_enter Try.func7, Try.ntmps7
  go_wp2_with fail
  clear hw0
  have HS := hide (HF.out)
  go_wp2_with fail
  refine HS.out.mono ?_
  rintro e w1 ⟨rfl, hb⟩
  clear x0 x1 x2 zzx
  clear HS
  replace HP := hide (fun w' (h : Below w1.heap.size w1 w') => HP.out w' (bthen hb h))
  clear hb
  clear HF
  have HS := hide (awake_any w1)
  go_wp2_with fail
  refine HS.out.mono ?_
  rintro e w2 ⟨rfl, hb⟩
  clear HS
  replace HP := hide (fun w' (h : Below w2.heap.size w2 w') => HP.out w' (bthen hb h))
  clear hb
  go_wp2
  go_ret
  exact Ret.bool rfl (HP.out _ (Below.refl _ _)).2.2
set_option maxRecDepth 100000 in
set_option maxHeartbeats 16000000 in
theorem resumes_bad (v : Value) (num : Int) (h : CoV w v c) (hf : fewQ c = true) (hc : chkQ c ≠ 0) : Calls Try.prog 7 #[v, .int .i64 num] w (Ret (.bool true) w) := by
  obtain ⟨A, cap, rfl⟩ := coz_form h.z
  obtain ⟨w0, hw0⟩ : ∃ x, w.alloc (.cells #[.int .i64 c.next, .slice A c.atts.length cap, .int .i64 c.dur] 24) = x := ⟨_, rfl⟩
  have HC0 := hide (h.laid (.cells #[.int .i64 c.next, .slice A c.atts.length cap, .int .i64 c.dur] 24))
  have HX0 := hide (Bl.new w [.int .i64 c.next, .slice A c.atts.length cap, .int .i64 c.dur] 24)
  have HB0 := hide (below_laid (w := w) (.cells #[.int .i64 c.next, .slice A c.atts.length cap, .int .i64 c.dur] 24))
  rw [hw0] at HC0 HX0 HB0
  have HP := hide (fun w' (h : Below w0.heap.size w0 w') => And.intro (HX0.out.keep h) (And.intro (HC0.out.grow h) (bthen HB0.out h)))
  have HF := hide (fewc_any w0 c _ (HP.out w0 (Below.refl _ _)).2.1)
  rw [hf] at HF
  obtain ⟨E, hE⟩ : ∃ x, chkQ c = x := ⟨_, rfl⟩
  have HE := hide hE
  rw [hE] at hc
  have te : (E != 0) = true := by rw [bne_iff_ne]; exact hc
  clear hE hc
  clear hf h HC0 HX0 HB0
  obtain ⟨⟨yy, ff, zzx⟩, -⟩ := HP.out w0 (Below.refl _ _)
  have x0 := yy 0 _ rfl
  have x1 := yy 1 _ rfl
  have x2 := yy 2 _ rfl
  clear yy ff
  go_enter Try.func7, Try.ntmps7
  go_wp2_with fail
  clear hw0
  have HS := hide (HF.out)
  go_wp2_with fail
  refine HS.out.mono ?_
  rintro e w1 ⟨rfl, hb⟩
  clear x0 x1 x2 zzx
  clear HS
  replace HP := hide (fun w' (h : Below w1.heap.size w1 w') => HP.out w' (bthen hb h))
  clear hb
  clear HF
  obtain ⟨⟨yy, ff, zzx⟩, -⟩ := HP.out w1 (Below.refl _ _)
  have x0 := yy 0 _ rfl
  have x1 := yy 1 _ rfl
  have x2 := yy 2 _ rfl
  clear yy ff
  obtain ⟨-, hcx, -⟩ := HP.out w1 (Below.refl _ _)
  have HS2 := hide (chk_any w1 _ c hcx)
  clear hcx
  rw [HE.out] at HS2
  have HS := hide (HS2.out)
  go_wp2_with fail
  refine HS.out.mono ?_
  rintro e w2 ⟨rfl, hb⟩
  clear x0 x1 x2 zzx
  clear HS
  replace HP := hide (fun w' (h : Below w2.heap.size w2 w') => HP.out w' (bthen hb h))
  clear hb
  clear HS2
  have HS := hide (awake_any w2)
  go_wp2_with fail
  refine HS.out.mono ?_
  rintro e w3 ⟨rfl, hb⟩
  clear HS
  replace HP := hide (fun w' (h : Below w3.heap.size w3 w') => HP.out w' (bthen hb h))
  clear hb
  go_wp2
  go_ret
  exact Ret.bool rfl (HP.out _ (Below.refl _ _)).2.2
set_option maxRecDepth 100000 in
set_option maxHeartbeats 16000000 in
theorem resumes_neg (v : Value) (num : Int) (h : CoV w v c) (hf : fewQ c = true) (hc : chkQ c = 0) (hr : num < 0) : Calls Try.prog 7 #[v, .int .i64 num] w (Ret (.bool true) w) := by
  obtain ⟨A, cap, rfl⟩ := coz_form h.z
  obtain ⟨w0, hw0⟩ : ∃ x, w.alloc (.cells #[.int .i64 c.next, .slice A c.atts.length cap, .int .i64 c.dur] 24) = x := ⟨_, rfl⟩
  have HC0 := hide (h.laid (.cells #[.int .i64 c.next, .slice A c.atts.length cap, .int .i64 c.dur] 24))
  have HX0 := hide (Bl.new w [.int .i64 c.next, .slice A c.atts.length cap, .int .i64 c.dur] 24)
  have HB0 := hide (below_laid (w := w) (.cells #[.int .i64 c.next, .slice A c.atts.length cap, .int .i64 c.dur] 24))
  rw [hw0] at HC0 HX0 HB0
  have HP := hide (fun w' (h : Below w0.heap.size w0 w') => And.intro (HX0.out.keep h) (And.intro (HC0.out.grow h) (bthen HB0.out h)))
  have HF := hide (fewc_any w0 c _ (HP.out w0 (Below.refl _ _)).2.1)
  rw [hf] at HF
  obtain ⟨d1, d2, d3, d4, -⟩ := chk0 hc
  have HCH := hide hc
  have HCAN : Hid (canC c = ⟨c.dur + 1, [], c.dur⟩) := hide (by unfold canC; rw [if_pos hc])
  have hrE : resE c num = if num < 0 ∨ 1099511627776 ≤ num then 2 else 0 := by unfold resE; rw [if_neg (by simp [hc])]
  have HCB := hide (chk_bare (n := c.dur + 1) (d := c.dur) (by omega) (by omega) (by omega) (by omega))
  have HRE : Hid (resE c num = 2) := hide (by rw [hrE, if_pos (by omega)])
  have HRC : Hid (resC c num = ⟨0, [], 0⟩) := hide (by unfold resC; rw [HRE.out]; rfl)
  have t1 : decide (num < 0) = true := decide_eq_true hr
  clear hrE hc
  clear hf h HC0 HX0 HB0
  obtain ⟨⟨yy, ff, zzx⟩, -⟩ := HP.out w0 (Below.refl _ _)
  have x0 := yy 0 _ rfl
  have x1 := yy 1 _ rfl
  have x2 := yy 2 _ rfl
  clear yy ff
  go_enter Try.func7, Try.ntmps7
  go_wp2_with fail
  clear hw0
  have HS := hide (HF.out)
  go_wp2_with fail
  refine HS.out.mono ?_
  rintro e w1 ⟨rfl, hb⟩
  clear x0 x1 x2 zzx
  clear HS
  replace HP := hide (fun w' (h : Below w1.heap.size w1 w') => HP.out w' (bthen hb h))
  clear hb
  clear HF
  obtain ⟨⟨yy, ff, zzx⟩, -⟩ := HP.out w1 (Below.refl _ _)
  have x0 := yy 0 _ rfl
  have x1 := yy 1 _ rfl
  have x2 := yy 2 _ rfl
  clear yy ff
  obtain ⟨-, hcx, -⟩ := HP.out w1 (Below.refl _ _)
  have HS2 := hide (chk_any w1 _ c hcx)
  clear hcx
  rw [HCH.out] at HS2
  have HS := hide (HS2.out)
  go_wp2_with fail
  refine HS.out.mono ?_
  rintro e w2 ⟨rfl, hb⟩
  clear x0 x1 x2 zzx
  clear HS
  replace HP := hide (fun w' (h : Below w2.heap.size w2 w') => HP.out w' (bthen hb h))
  clear hb
  clear HS2
  obtain ⟨⟨yy, ff, zzx⟩, -⟩ := HP.out w2 (Below.refl _ _)
  have x0 := yy 0 _ rfl
  have x1 := yy 1 _ rfl
  have x2 := yy 2 _ rfl
  clear yy ff
  obtain ⟨-, hcx, -⟩ := HP.out w2 (Below.refl _ _)
  have HS2 := hide (cancel_any w2 c _ hcx)
  rw [HCAN.out, HCH.out] at HS2
  clear hcx
  have HS := hide (HS2.out)
  go_wp2_with fail
  refine HS.out.mono ?_
  rintro e w3 ⟨V, rfl, hV, hb⟩
  clear x0 x1 x2 zzx
  clear HS
  replace HP := hide (fun w' (h : Below w3.heap.size w3 w') => HP.out w' (bthen hb h))
  clear hb
  obtain ⟨Ap, qp, hVV⟩ := coz_form hV.z
  subst hVV
  have HV := hide hV
  clear hV
  replace HP := hide (fun w' (h : Below w3.heap.size w3 w') => And.intro (HV.out.grow h) (HP.out w' h))
  clear HV
  have HN := hide (Bl.new w3 [.int .i64 (c.dur + 1), .slice Ap 0 qp, .int .i64 (c.dur)] 24)
  replace HP := hide (fun w' (h : Below (w3.alloc (.cells #[.int .i64 (c.dur + 1), .slice Ap 0 qp, .int .i64 (c.dur)] 24)).heap.size (w3.alloc (.cells #[.int .i64 (c.dur + 1), .slice Ap 0 qp, .int .i64 (c.dur)] 24)) w') => And.intro (HN.out.keep h) (HP.out w' (bthen (below_laid _) h)))
  go_upto_region 4 with (fail)
  obtain ⟨byp, hbyp⟩ : ∃ b, w3.heap.size = b := ⟨_, rfl⟩
  obtain ⟨w4, hw⟩ : ∃ x, w3.alloc (.cells #[.int .i64 (c.dur + 1), .slice Ap 0 qp, .int .i64 (c.dur)] 24) = x := ⟨_, rfl⟩
  rw [hw, hbyp] at HP
  rw [hw, hbyp]
  clear hw hbyp HN
  clear HS2
  obtain ⟨-, -, ⟨yy, ff, zzx⟩, -⟩ := HP.out w4 (Below.refl _ _)
  have x0 := yy 0 _ rfl
  have x1 := yy 1 _ rfl
  have x2 := yy 2 _ rfl
  clear yy ff
  obtain ⟨-, -, -, hcx, -⟩ := HP.out w4 (Below.refl _ _)
  have HS2 := hide (resume_any w4 c _ num hcx)
  rw [HRC.out, HRE.out] at HS2
  clear hcx
  have HS := hide (HS2.out)
  go_wp2_with fail
  refine HS.out.mono ?_
  rintro e w5 ⟨V, rfl, hV, hb⟩
  clear x0 x1 x2 zzx
  clear HS
  replace HP := hide (fun w' (h : Below w5.heap.size w5 w') => HP.out w' (bthen hb h))
  clear hb
  obtain ⟨Au, qu, hVV⟩ := coz_form hV.z
  subst hVV
  have HV := hide hV
  clear hV
  replace HP := hide (fun w' (h : Below w5.heap.size w5 w') => And.intro (HV.out.grow h) (HP.out w' h))
  clear HV
  have HN := hide (Bl.new w5 [.int .i64 (0), .slice Au 0 qu, .int .i64 (0)] 24)
  replace HP := hide (fun w' (h : Below (w5.alloc (.cells #[.int .i64 (0), .slice Au 0 qu, .int .i64 (0)] 24)).heap.size (w5.alloc (.cells #[.int .i64 (0), .slice Au 0 qu, .int .i64 (0)] 24)) w') => And.intro (HN.out.keep h) (HP.out w' (bthen (below_laid _) h)))
  go_upto_region 5 with (fail)
  obtain ⟨byu, hbyu⟩ : ∃ b, w5.heap.size = b := ⟨_, rfl⟩
  obtain ⟨w6, hw⟩ : ∃ x, w5.alloc (.cells #[.int .i64 (0), .slice Au 0 qu, .int .i64 (0)] 24) = x := ⟨_, rfl⟩
  rw [hw, hbyu] at HP
  rw [hw, hbyu]
  clear hw hbyu HN
  clear HS2
  obtain ⟨-, -, ⟨yy, ff, zzyp⟩, -⟩ := HP.out w6 (Below.refl _ _)
  have yp0 := yy 0 _ rfl
  have yp1 := yy 1 _ rfl
  have yp2 := yy 2 _ rfl
  clear yy ff
  obtain ⟨-, -, -, -, ⟨yy, ff, zzx⟩, -⟩ := HP.out w6 (Below.refl _ _)
  have x0 := yy 0 _ rfl
  have x1 := yy 1 _ rfl
  have x2 := yy 2 _ rfl
  clear yy ff
  obtain ⟨-, -, -, hcp, -⟩ := HP.out w6 (Below.refl _ _)
  have HS2 := hide (chk_any w6 _ _ hcp)
  rw [HCB.out] at HS2
  clear hcp
  have HS := hide (HS2.out)
  go_wp2_with fail
  refine HS.out.mono ?_
  rintro e w7 ⟨rfl, hb⟩
  clear yp0 yp1 yp2 zzyp x0 x1 x2 zzx
  clear HS
  replace HP := hide (fun w' (h : Below w7.heap.size w7 w') => HP.out w' (bthen hb h))
  clear hb
  clear HS2
  obtain ⟨-, -, ⟨yy, ff, zzyp⟩, -⟩ := HP.out w7 (Below.refl _ _)
  have yp0 := yy 0 _ rfl
  have yp1 := yy 1 _ rfl
  have yp2 := yy 2 _ rfl
  clear yy ff
  obtain ⟨⟨yy, ff, zzyu⟩, -⟩ := HP.out w7 (Below.refl _ _)
  have yu0 := yy 0 _ rfl
  have yu1 := yy 1 _ rfl
  have yu2 := yy 2 _ rfl
  clear yy ff
  obtain ⟨-, -, -, -, ⟨yy, ff, zzx⟩, -⟩ := HP.out w7 (Below.refl _ _)
  have x0 := yy 0 _ rfl
  have x1 := yy 1 _ rfl
  have x2 := yy 2 _ rfl
  clear yy ff
  have HS2 := hide (awake_any w7)
  have HS := hide (HS2.out)
  go_wp2_with fail
  refine HS.out.mono ?_
  rintro e w8 ⟨rfl, hb⟩
  clear yp0 yp1 yp2 zzyp yu0 yu1 yu2 zzyu x0 x1 x2 zzx
  clear HS
  replace HP := hide (fun w' (h : Below w8.heap.size w8 w') => HP.out w' (bthen hb h))
  clear hb
  clear HS2
  go_wp2
  go_ret
  exact Ret.bool rfl (HP.out _ (Below.refl _ _)).2.2.2.2.2.2
set_option maxRecDepth 100000 in
set_option maxHeartbeats 16000000 in
theorem resumes_far (v : Value) (num : Int) (h : CoV w v c) (hf : fewQ c = true) (hc : chkQ c = 0) (hr : 1099511627776 ≤ num) : Calls Try.prog 7 #[v, .int .i64 num] w (Ret (.bool true) w) := by
  obtain ⟨A, cap, rfl⟩ := coz_form h.z
  obtain ⟨w0, hw0⟩ : ∃ x, w.alloc (.cells #[.int .i64 c.next, .slice A c.atts.length cap, .int .i64 c.dur] 24) = x := ⟨_, rfl⟩
  have HC0 := hide (h.laid (.cells #[.int .i64 c.next, .slice A c.atts.length cap, .int .i64 c.dur] 24))
  have HX0 := hide (Bl.new w [.int .i64 c.next, .slice A c.atts.length cap, .int .i64 c.dur] 24)
  have HB0 := hide (below_laid (w := w) (.cells #[.int .i64 c.next, .slice A c.atts.length cap, .int .i64 c.dur] 24))
  rw [hw0] at HC0 HX0 HB0
  have HP := hide (fun w' (h : Below w0.heap.size w0 w') => And.intro (HX0.out.keep h) (And.intro (HC0.out.grow h) (bthen HB0.out h)))
  have HF := hide (fewc_any w0 c _ (HP.out w0 (Below.refl _ _)).2.1)
  rw [hf] at HF
  obtain ⟨d1, d2, d3, d4, -⟩ := chk0 hc
  have HCH := hide hc
  have HCAN : Hid (canC c = ⟨c.dur + 1, [], c.dur⟩) := hide (by unfold canC; rw [if_pos hc])
  have hrE : resE c num = if num < 0 ∨ 1099511627776 ≤ num then 2 else 0 := by unfold resE; rw [if_neg (by simp [hc])]
  have HCB := hide (chk_bare (n := c.dur + 1) (d := c.dur) (by omega) (by omega) (by omega) (by omega))
  have HRE : Hid (resE c num = 2) := hide (by rw [hrE, if_pos (by omega)])
  have HRC : Hid (resC c num = ⟨0, [], 0⟩) := hide (by unfold resC; rw [HRE.out]; rfl)
  have t1 : decide (num < 0) = false := decide_eq_false (by omega)
  have t2 : decide (1099511627776 ≤ num) = true := decide_eq_true hr
  clear hrE hc
  clear hf h HC0 HX0 HB0
  obtain ⟨⟨yy, ff, zzx⟩, -⟩ := HP.out w0 (Below.refl _ _)
  have x0 := yy 0 _ rfl
  have x1 := yy 1 _ rfl
  have x2 := yy 2 _ rfl
  clear yy ff
  go_enter Try.func7, Try.ntmps7
  go_wp2_with fail
  clear hw0
  have HS := hide (HF.out)
  go_wp2_with fail
  refine HS.out.mono ?_
  rintro e w1 ⟨rfl, hb⟩
  clear x0 x1 x2 zzx
  clear HS
  replace HP := hide (fun w' (h : Below w1.heap.size w1 w') => HP.out w' (bthen hb h))
  clear hb
  clear HF
  obtain ⟨⟨yy, ff, zzx⟩, -⟩ := HP.out w1 (Below.refl _ _)
  have x0 := yy 0 _ rfl
  have x1 := yy 1 _ rfl
  have x2 := yy 2 _ rfl
  clear yy ff
  obtain ⟨-, hcx, -⟩ := HP.out w1 (Below.refl _ _)
  have HS2 := hide (chk_any w1 _ c hcx)
  clear hcx
  rw [HCH.out] at HS2
  have HS := hide (HS2.out)
  go_wp2_with fail
  refine HS.out.mono ?_
  rintro e w2 ⟨rfl, hb⟩
  clear x0 x1 x2 zzx
  clear HS
  replace HP := hide (fun w' (h : Below w2.heap.size w2 w') => HP.out w' (bthen hb h))
  clear hb
  clear HS2
  obtain ⟨⟨yy, ff, zzx⟩, -⟩ := HP.out w2 (Below.refl _ _)
  have x0 := yy 0 _ rfl
  have x1 := yy 1 _ rfl
  have x2 := yy 2 _ rfl
  clear yy ff
  obtain ⟨-, hcx, -⟩ := HP.out w2 (Below.refl _ _)
  have HS2 := hide (cancel_any w2 c _ hcx)
  rw [HCAN.out, HCH.out] at HS2
  clear hcx
  have HS := hide (HS2.out)
  go_wp2_with fail
  refine HS.out.mono ?_
  rintro e w3 ⟨V, rfl, hV, hb⟩
  clear x0 x1 x2 zzx
  clear HS
  replace HP := hide (fun w' (h : Below w3.heap.size w3 w') => HP.out w' (bthen hb h))
  clear hb
  obtain ⟨Ap, qp, hVV⟩ := coz_form hV.z
  subst hVV
  have HV := hide hV
  clear hV
  replace HP := hide (fun w' (h : Below w3.heap.size w3 w') => And.intro (HV.out.grow h) (HP.out w' h))
  clear HV
  have HN := hide (Bl.new w3 [.int .i64 (c.dur + 1), .slice Ap 0 qp, .int .i64 (c.dur)] 24)
  replace HP := hide (fun w' (h : Below (w3.alloc (.cells #[.int .i64 (c.dur + 1), .slice Ap 0 qp, .int .i64 (c.dur)] 24)).heap.size (w3.alloc (.cells #[.int .i64 (c.dur + 1), .slice Ap 0 qp, .int .i64 (c.dur)] 24)) w') => And.intro (HN.out.keep h) (HP.out w' (bthen (below_laid _) h)))
  go_upto_region 4 with (fail)
  obtain ⟨byp, hbyp⟩ : ∃ b, w3.heap.size = b := ⟨_, rfl⟩
  obtain ⟨w4, hw⟩ : ∃ x, w3.alloc (.cells #[.int .i64 (c.dur + 1), .slice Ap 0 qp, .int .i64 (c.dur)] 24) = x := ⟨_, rfl⟩
  rw [hw, hbyp] at HP
  rw [hw, hbyp]
  clear hw hbyp HN
  clear HS2
  obtain ⟨-, -, ⟨yy, ff, zzx⟩, -⟩ := HP.out w4 (Below.refl _ _)
  have x0 := yy 0 _ rfl
  have x1 := yy 1 _ rfl
  have x2 := yy 2 _ rfl
  clear yy ff
  obtain ⟨-, -, -, hcx, -⟩ := HP.out w4 (Below.refl _ _)
  have HS2 := hide (resume_any w4 c _ num hcx)
  rw [HRC.out, HRE.out] at HS2
  clear hcx
  have HS := hide (HS2.out)
  go_wp2_with fail
  refine HS.out.mono ?_
  rintro e w5 ⟨V, rfl, hV, hb⟩
  clear x0 x1 x2 zzx
  clear HS
  replace HP := hide (fun w' (h : Below w5.heap.size w5 w') => HP.out w' (bthen hb h))
  clear hb
  obtain ⟨Au, qu, hVV⟩ := coz_form hV.z
  subst hVV
  have HV := hide hV
  clear hV
  replace HP := hide (fun w' (h : Below w5.heap.size w5 w') => And.intro (HV.out.grow h) (HP.out w' h))
  clear HV
  have HN := hide (Bl.new w5 [.int .i64 (0), .slice Au 0 qu, .int .i64 (0)] 24)
  replace HP := hide (fun w' (h : Below (w5.alloc (.cells #[.int .i64 (0), .slice Au 0 qu, .int .i64 (0)] 24)).heap.size (w5.alloc (.cells #[.int .i64 (0), .slice Au 0 qu, .int .i64 (0)] 24)) w') => And.intro (HN.out.keep h) (HP.out w' (bthen (below_laid _) h)))
  go_upto_region 5 with (fail)
  obtain ⟨byu, hbyu⟩ : ∃ b, w5.heap.size = b := ⟨_, rfl⟩
  obtain ⟨w6, hw⟩ : ∃ x, w5.alloc (.cells #[.int .i64 (0), .slice Au 0 qu, .int .i64 (0)] 24) = x := ⟨_, rfl⟩
  rw [hw, hbyu] at HP
  rw [hw, hbyu]
  clear hw hbyu HN
  clear HS2
  obtain ⟨-, -, ⟨yy, ff, zzyp⟩, -⟩ := HP.out w6 (Below.refl _ _)
  have yp0 := yy 0 _ rfl
  have yp1 := yy 1 _ rfl
  have yp2 := yy 2 _ rfl
  clear yy ff
  obtain ⟨-, -, -, -, ⟨yy, ff, zzx⟩, -⟩ := HP.out w6 (Below.refl _ _)
  have x0 := yy 0 _ rfl
  have x1 := yy 1 _ rfl
  have x2 := yy 2 _ rfl
  clear yy ff
  obtain ⟨-, -, -, hcp, -⟩ := HP.out w6 (Below.refl _ _)
  have HS2 := hide (chk_any w6 _ _ hcp)
  rw [HCB.out] at HS2
  clear hcp
  have HS := hide (HS2.out)
  go_wp2_with fail
  refine HS.out.mono ?_
  rintro e w7 ⟨rfl, hb⟩
  clear yp0 yp1 yp2 zzyp x0 x1 x2 zzx
  clear HS
  replace HP := hide (fun w' (h : Below w7.heap.size w7 w') => HP.out w' (bthen hb h))
  clear hb
  clear HS2
  obtain ⟨-, -, ⟨yy, ff, zzyp⟩, -⟩ := HP.out w7 (Below.refl _ _)
  have yp0 := yy 0 _ rfl
  have yp1 := yy 1 _ rfl
  have yp2 := yy 2 _ rfl
  clear yy ff
  obtain ⟨⟨yy, ff, zzyu⟩, -⟩ := HP.out w7 (Below.refl _ _)
  have yu0 := yy 0 _ rfl
  have yu1 := yy 1 _ rfl
  have yu2 := yy 2 _ rfl
  clear yy ff
  obtain ⟨-, -, -, -, ⟨yy, ff, zzx⟩, -⟩ := HP.out w7 (Below.refl _ _)
  have x0 := yy 0 _ rfl
  have x1 := yy 1 _ rfl
  have x2 := yy 2 _ rfl
  clear yy ff
  have HS2 := hide (awake_any w7)
  have HS := hide (HS2.out)
  go_wp2_with fail
  refine HS.out.mono ?_
  rintro e w8 ⟨rfl, hb⟩
  clear yp0 yp1 yp2 zzyp yu0 yu1 yu2 zzyu x0 x1 x2 zzx
  clear HS
  replace HP := hide (fun w' (h : Below w8.heap.size w8 w') => HP.out w' (bthen hb h))
  clear hb
  clear HS2
  go_wp2
  go_ret
  exact Ret.bool rfl (HP.out _ (Below.refl _ _)).2.2.2.2.2.2
set_option maxRecDepth 100000 in
set_option maxHeartbeats 16000000 in
theorem resumes_good (v : Value) (num : Int) (h : CoV w v c) (hf : fewQ c = true) (hc : chkQ c = 0) (hr : 0 ≤ num) (hr2 : num + 1 < 1099511627776) : Calls Try.prog 7 #[v, .int .i64 num] w (Ret (.bool true) w) := by
  obtain ⟨A, cap, rfl⟩ := coz_form h.z
  obtain ⟨w0, hw0⟩ : ∃ x, w.alloc (.cells #[.int .i64 c.next, .slice A c.atts.length cap, .int .i64 c.dur] 24) = x := ⟨_, rfl⟩
  have HC0 := hide (h.laid (.cells #[.int .i64 c.next, .slice A c.atts.length cap, .int .i64 c.dur] 24))
  have HX0 := hide (Bl.new w [.int .i64 c.next, .slice A c.atts.length cap, .int .i64 c.dur] 24)
  have HB0 := hide (below_laid (w := w) (.cells #[.int .i64 c.next, .slice A c.atts.length cap, .int .i64 c.dur] 24))
  rw [hw0] at HC0 HX0 HB0
  have HP := hide (fun w' (h : Below w0.heap.size w0 w') => And.intro (HX0.out.keep h) (And.intro (HC0.out.grow h) (bthen HB0.out h)))
  have HF := hide (fewc_any w0 c _ (HP.out w0 (Below.refl _ _)).2.1)
  rw [hf] at HF
  obtain ⟨d1, d2, d3, d4, -⟩ := chk0 hc
  have HCH := hide hc
  have HCAN : Hid (canC c = ⟨c.dur + 1, [], c.dur⟩) := hide (by unfold canC; rw [if_pos hc])
  have hrE : resE c num = if num < 0 ∨ 1099511627776 ≤ num then 2 else 0 := by unfold resE; rw [if_neg (by simp [hc])]
  have HCB := hide (chk_bare (n := c.dur + 1) (d := c.dur) (by omega) (by omega) (by omega) (by omega))
  have hr0 : 0 ≤ num := by omega
  have hr9 : num + 1 ≤ 1099511627776 := by omega
  have HRE : Hid (resE c num = 0) := hide (by rw [hrE, if_neg (by omega)])
  have HRC : Hid (resC c num = ⟨num + 1, [], num⟩) := hide (by unfold resC; rw [if_pos HRE.out])
  have HCY := hide (chk_bare (n := num + 1) (d := num) (by omega) (by omega) (by omega) (by omega))
  have HTE : Hid (trigE ⟨num + 1, [], num⟩ ([⟨0, 0⟩] : List Rq).length 1 = 0) := hide (by unfold trigE fitQ; rw [if_neg (by simp [HCY.out]), if_neg (by simp), if_neg (by simp), if_neg (by simp)]; rw [if_neg (by show ¬ num + 1 = _; omega)])
  have HTC : Hid (trigC ⟨num + 1, [], num⟩ [⟨0, 0⟩] 1 = ⟨num + 1 + 1, [newA ⟨num + 1, [], num⟩ [⟨0, 0⟩] 1], num⟩) := hide (by unfold trigC; rw [if_pos HTE.out]; rfl)
  have HTN : Hid (trigN ⟨num + 1, [], num⟩ ([⟨0, 0⟩] : List Rq).length 1 = num + 1) := hide (by unfold trigN; rw [if_pos HTE.out])
  have HCZ := hide (chk_trig HTE.out)
  rw [HTC.out] at HCZ
  clear hrE hc
  clear hf h HC0 HX0 HB0
  obtain ⟨⟨yy, ff, zzx⟩, -⟩ := HP.out w0 (Below.refl _ _)
  have x0 := yy 0 _ rfl
  have x1 := yy 1 _ rfl
  have x2 := yy 2 _ rfl
  clear yy ff
  go_enter Try.func7, Try.ntmps7
  go_wp2_with fail
  clear hw0
  have HS := hide (HF.out)
  go_wp2_with fail
  refine HS.out.mono ?_
  rintro e w1 ⟨rfl, hb⟩
  clear x0 x1 x2 zzx
  clear HS
  replace HP := hide (fun w' (h : Below w1.heap.size w1 w') => HP.out w' (bthen hb h))
  clear hb
  clear HF
  obtain ⟨⟨yy, ff, zzx⟩, -⟩ := HP.out w1 (Below.refl _ _)
  have x0 := yy 0 _ rfl
  have x1 := yy 1 _ rfl
  have x2 := yy 2 _ rfl
  clear yy ff
  obtain ⟨-, hcx, -⟩ := HP.out w1 (Below.refl _ _)
  have HS2 := hide (chk_any w1 _ c hcx)
  clear hcx
  rw [HCH.out] at HS2
  have HS := hide (HS2.out)
  go_wp2_with fail
  refine HS.out.mono ?_
  rintro e w2 ⟨rfl, hb⟩
  clear x0 x1 x2 zzx
  clear HS
  replace HP := hide (fun w' (h : Below w2.heap.size w2 w') => HP.out w' (bthen hb h))
  clear hb
  clear HS2
  obtain ⟨⟨yy, ff, zzx⟩, -⟩ := HP.out w2 (Below.refl _ _)
  have x0 := yy 0 _ rfl
  have x1 := yy 1 _ rfl
  have x2 := yy 2 _ rfl
  clear yy ff
  obtain ⟨-, hcx, -⟩ := HP.out w2 (Below.refl _ _)
  have HS2 := hide (cancel_any w2 c _ hcx)
  rw [HCAN.out, HCH.out] at HS2
  clear hcx
  have HS := hide (HS2.out)
  go_wp2_with fail
  refine HS.out.mono ?_
  rintro e w3 ⟨V, rfl, hV, hb⟩
  clear x0 x1 x2 zzx
  clear HS
  replace HP := hide (fun w' (h : Below w3.heap.size w3 w') => HP.out w' (bthen hb h))
  clear hb
  obtain ⟨Ap, qp, hVV⟩ := coz_form hV.z
  subst hVV
  have HV := hide hV
  clear hV
  replace HP := hide (fun w' (h : Below w3.heap.size w3 w') => And.intro (HV.out.grow h) (HP.out w' h))
  clear HV
  have HN := hide (Bl.new w3 [.int .i64 (c.dur + 1), .slice Ap 0 qp, .int .i64 (c.dur)] 24)
  replace HP := hide (fun w' (h : Below (w3.alloc (.cells #[.int .i64 (c.dur + 1), .slice Ap 0 qp, .int .i64 (c.dur)] 24)).heap.size (w3.alloc (.cells #[.int .i64 (c.dur + 1), .slice Ap 0 qp, .int .i64 (c.dur)] 24)) w') => And.intro (HN.out.keep h) (HP.out w' (bthen (below_laid _) h)))
  go_upto_region 4 with (fail)
  obtain ⟨byp, hbyp⟩ : ∃ b, w3.heap.size = b := ⟨_, rfl⟩
  obtain ⟨w4, hw⟩ : ∃ x, w3.alloc (.cells #[.int .i64 (c.dur + 1), .slice Ap 0 qp, .int .i64 (c.dur)] 24) = x := ⟨_, rfl⟩
  rw [hw, hbyp] at HP
  rw [hw, hbyp]
  clear hw hbyp HN
  clear HS2
  obtain ⟨-, -, ⟨yy, ff, zzx⟩, -⟩ := HP.out w4 (Below.refl _ _)
  have x0 := yy 0 _ rfl
  have x1 := yy 1 _ rfl
  have x2 := yy 2 _ rfl
  clear yy ff
  obtain ⟨-, -, -, hcx, -⟩ := HP.out w4 (Below.refl _ _)
  have HS2 := hide (resume_any w4 c _ num hcx)
  rw [HRC.out, HRE.out] at HS2
  clear hcx
  have HS := hide (HS2.out)
  go_wp2_with fail
  refine HS.out.mono ?_
  rintro e w5 ⟨V, rfl, hV, hb⟩
  clear x0 x1 x2 zzx
  clear HS
  replace HP := hide (fun w' (h : Below w5.heap.size w5 w') => HP.out w' (bthen hb h))
  clear hb
  obtain ⟨Au, qu, hVV⟩ := coz_form hV.z
  subst hVV
  have HV := hide hV
  clear hV
  replace HP := hide (fun w' (h : Below w5.heap.size w5 w') => And.intro (HV.out.grow h) (HP.out w' h))
  clear HV
  have HN := hide (Bl.new w5 [.int .i64 (num + 1), .slice Au 0 qu, .int .i64 (num)] 24)
  replace HP := hide (fun w' (h : Below (w5.alloc (.cells #[.int .i64 (num + 1), .slice Au 0 qu, .int .i64 (num)] 24)).heap.size (w5.alloc (.cells #[.int .i64 (num + 1), .slice Au 0 qu, .int .i64 (num)] 24)) w') => And.intro (HN.out.keep h) (HP.out w' (bthen (below_laid _) h)))
  go_upto_region 5 with (fail)
  obtain ⟨byu, hbyu⟩ : ∃ b, w5.heap.size = b := ⟨_, rfl⟩
  obtain ⟨w6, hw⟩ : ∃ x, w5.alloc (.cells #[.int .i64 (num + 1), .slice Au 0 qu, .int .i64 (num)] 24) = x := ⟨_, rfl⟩
  rw [hw, hbyu] at HP
  rw [hw, hbyu]
  clear hw hbyu HN
  clear HS2
  obtain ⟨-, -, ⟨yy, ff, zzyp⟩, -⟩ := HP.out w6 (Below.refl _ _)
  have yp0 := yy 0 _ rfl
  have yp1 := yy 1 _ rfl
  have yp2 := yy 2 _ rfl
  clear yy ff
  obtain ⟨-, -, -, -, ⟨yy, ff, zzx⟩, -⟩ := HP.out w6 (Below.refl _ _)
  have x0 := yy 0 _ rfl
  have x1 := yy 1 _ rfl
  have x2 := yy 2 _ rfl
  clear yy ff
  obtain ⟨-, -, -, hcp, -⟩ := HP.out w6 (Below.refl _ _)
  have HS2 := hide (chk_any w6 _ _ hcp)
  rw [HCB.out] at HS2
  clear hcp
  have HS := hide (HS2.out)
  go_wp2_with fail
  refine HS.out.mono ?_
  rintro e w7 ⟨rfl, hb⟩
  clear yp0 yp1 yp2 zzyp x0 x1 x2 zzx
  clear HS
  replace HP := hide (fun w' (h : Below w7.heap.size w7 w') => HP.out w' (bthen hb h))
  clear hb
  clear HS2
  obtain ⟨-, -, ⟨yy, ff, zzyp⟩, -⟩ := HP.out w7 (Below.refl _ _)
  have yp0 := yy 0 _ rfl
  have yp1 := yy 1 _ rfl
  have yp2 := yy 2 _ rfl
  clear yy ff
  obtain ⟨⟨yy, ff, zzyu⟩, -⟩ := HP.out w7 (Below.refl _ _)
  have yu0 := yy 0 _ rfl
  have yu1 := yy 1 _ rfl
  have yu2 := yy 2 _ rfl
  clear yy ff
  obtain ⟨-, -, -, -, ⟨yy, ff, zzx⟩, -⟩ := HP.out w7 (Below.refl _ _)
  have x0 := yy 0 _ rfl
  have x1 := yy 1 _ rfl
  have x2 := yy 2 _ rfl
  clear yy ff
  obtain ⟨-, hcu, -⟩ := HP.out w7 (Below.refl _ _)
  have HS2 := hide (trig_any (w7.alloc (.cells #[.int .i64 0, .int .i64 0, .int .i64 0, .slice none 0 0, .slice none 0 0, .int .i64 0] 68)) _ _ _ [⟨0, 0⟩] 1 (hcu.grow (below_laid _)) (rd0_lst w7 _))
  rw [HTC.out, HTN.out, HTE.out] at HS2
  clear hcu
  replace HP := hide (fun w' (h : Below (w7.alloc (.cells #[.int .i64 0, .int .i64 0, .int .i64 0, .slice none 0 0, .slice none 0 0, .int .i64 0] 68)).heap.size (w7.alloc (.cells #[.int .i64 0, .int .i64 0, .int .i64 0, .slice none 0 0, .slice none 0 0, .int .i64 0] 68)) w') => HP.out w' (bthen (below_laid _) h))
  have HS := hide (HS2.out)
  go_wp2_with fail
  refine HS.out.mono ?_
  rintro e w8 ⟨V, rfl, hV, hb⟩
  clear yp0 yp1 yp2 zzyp yu0 yu1 yu2 zzyu x0 x1 x2 zzx
  clear HS
  replace HP := hide (fun w' (h : Below w8.heap.size w8 w') => HP.out w' (bthen hb h))
  clear hb
  obtain ⟨Az, qz, hVV⟩ := coz_form hV.z
  subst hVV
  have HV := hide hV
  clear hV
  replace HP := hide (fun w' (h : Below w8.heap.size w8 w') => And.intro (HV.out.grow h) (HP.out w' h))
  clear HV
  have HN := hide (Bl.new w8 [.int .i64 (num + 1 + 1), .slice Az 1 qz, .int .i64 (num)] 24)
  replace HP := hide (fun w' (h : Below (w8.alloc (.cells #[.int .i64 (num + 1 + 1), .slice Az 1 qz, .int .i64 (num)] 24)).heap.size (w8.alloc (.cells #[.int .i64 (num + 1 + 1), .slice Az 1 qz, .int .i64 (num)] 24)) w') => And.intro (HN.out.keep h) (HP.out w' (bthen (below_laid _) h)))
  go_upto_region 10 with (fail)
  obtain ⟨byz, hbyz⟩ : ∃ b, w8.heap.size = b := ⟨_, rfl⟩
  obtain ⟨w9, hw⟩ : ∃ x, w8.alloc (.cells #[.int .i64 (num + 1 + 1), .slice Az 1 qz, .int .i64 (num)] 24) = x := ⟨_, rfl⟩
  rw [hw, hbyz] at HP
  rw [hw, hbyz]
  clear hw hbyz HN
  clear HS2
  have HS2 := hide (awake_any w9)
  have HS := hide (HS2.out)
  go_wp2_with fail
  refine HS.out.mono ?_
  rintro e wa ⟨rfl, hb⟩
  clear HS
  replace HP := hide (fun w' (h : Below wa.heap.size wa w') => HP.out w' (bthen hb h))
  clear hb
  clear HS2
  obtain ⟨-, -, ⟨yy, ff, zzyu⟩, -⟩ := HP.out wa (Below.refl _ _)
  have yu0 := yy 0 _ rfl
  have yu1 := yy 1 _ rfl
  have yu2 := yy 2 _ rfl
  clear yy ff
  obtain ⟨⟨yy, ff, zzyz⟩, -⟩ := HP.out wa (Below.refl _ _)
  have yz0 := yy 0 _ rfl
  have yz1 := yy 1 _ rfl
  have yz2 := yy 2 _ rfl
  clear yy ff
  obtain ⟨-, -, -, hcu, -⟩ := HP.out wa (Below.refl _ _)
  have HS2 := hide (chk_any wa _ _ hcu)
  rw [HCY.out] at HS2
  clear hcu
  have HS := hide (HS2.out)
  go_wp2_with fail
  refine HS.out.mono ?_
  rintro e wb ⟨rfl, hb⟩
  clear yu0 yu1 yu2 zzyu yz0 yz1 yz2 zzyz
  clear HS
  replace HP := hide (fun w' (h : Below wb.heap.size wb w') => HP.out w' (bthen hb h))
  clear hb
  clear HS2
  obtain ⟨-, -, ⟨yy, ff, zzyu⟩, -⟩ := HP.out wb (Below.refl _ _)
  have yu0 := yy 0 _ rfl
  have yu1 := yy 1 _ rfl
  have yu2 := yy 2 _ rfl
  clear yy ff
  obtain ⟨⟨yy, ff, zzyz⟩, -⟩ := HP.out wb (Below.refl _ _)
  have yz0 := yy 0 _ rfl
  have yz1 := yy 1 _ rfl
  have yz2 := yy 2 _ rfl
  clear yy ff
  obtain ⟨-, hcz, -⟩ := HP.out wb (Below.refl _ _)
  have HS2 := hide (chk_any wb _ _ hcz)
  rw [HCZ.out] at HS2
  clear hcz
  have HS := hide (HS2.out)
  go_wp2_with fail
  refine HS.out.mono ?_
  rintro e wc ⟨rfl, hb⟩
  clear yu0 yu1 yu2 zzyu yz0 yz1 yz2 zzyz
  clear HS
  replace HP := hide (fun w' (h : Below wc.heap.size wc w') => HP.out w' (bthen hb h))
  clear hb
  clear HS2
  obtain ⟨-, -, ⟨yy, ff, zzyu⟩, -⟩ := HP.out wc (Below.refl _ _)
  have yu0 := yy 0 _ rfl
  have yu1 := yy 1 _ rfl
  have yu2 := yy 2 _ rfl
  clear yy ff
  obtain ⟨⟨yy, ff, zzyz⟩, -⟩ := HP.out wc (Below.refl _ _)
  have yz0 := yy 0 _ rfl
  have yz1 := yy 1 _ rfl
  have yz2 := yy 2 _ rfl
  clear yy ff
  go_wp2
  go_ret
  exact Ret.bool rfl (HP.out _ (Below.refl _ _)).2.2.2.2.2.2.2.2
set_option maxRecDepth 100000 in
set_option maxHeartbeats 16000000 in
theorem resumes_last (v : Value) (num : Int) (h : CoV w v c) (hf : fewQ c = true) (hc : chkQ c = 0) (hr : num + 1 = 1099511627776) : Calls Try.prog 7 #[v, .int .i64 num] w (Ret (.bool true) w) := by
  obtain ⟨A, cap, rfl⟩ := coz_form h.z
  obtain ⟨w0, hw0⟩ : ∃ x, w.alloc (.cells #[.int .i64 c.next, .slice A c.atts.length cap, .int .i64 c.dur] 24) = x := ⟨_, rfl⟩
  have HC0 := hide (h.laid (.cells #[.int .i64 c.next, .slice A c.atts.length cap, .int .i64 c.dur] 24))
  have HX0 := hide (Bl.new w [.int .i64 c.next, .slice A c.atts.length cap, .int .i64 c.dur] 24)
  have HB0 := hide (below_laid (w := w) (.cells #[.int .i64 c.next, .slice A c.atts.length cap, .int .i64 c.dur] 24))
  rw [hw0] at HC0 HX0 HB0
  have HP := hide (fun w' (h : Below w0.heap.size w0 w') => And.intro (HX0.out.keep h) (And.intro (HC0.out.grow h) (bthen HB0.out h)))
  have HF := hide (fewc_any w0 c _ (HP.out w0 (Below.refl _ _)).2.1)
  rw [hf] at HF
  obtain ⟨d1, d2, d3, d4, -⟩ := chk0 hc
  have HCH := hide hc
  have HCAN : Hid (canC c = ⟨c.dur + 1, [], c.dur⟩) := hide (by unfold canC; rw [if_pos hc])
  have hrE : resE c num = if num < 0 ∨ 1099511627776 ≤ num then 2 else 0 := by unfold resE; rw [if_neg (by simp [hc])]
  have HCB := hide (chk_bare (n := c.dur + 1) (d := c.dur) (by omega) (by omega) (by omega) (by omega))
  have hr0 : 0 ≤ num := by omega
  have hr9 : num + 1 ≤ 1099511627776 := by omega
  have HRE : Hid (resE c num = 0) := hide (by rw [hrE, if_neg (by omega)])
  have HRC : Hid (resC c num = ⟨num + 1, [], num⟩) := hide (by unfold resC; rw [if_pos HRE.out])
  have HCY := hide (chk_bare (n := num + 1) (d := num) (by omega) (by omega) (by omega) (by omega))
  have HTE : Hid (trigE ⟨num + 1, [], num⟩ ([⟨0, 0⟩] : List Rq).length 1 = 17) := hide (by unfold trigE fitQ; rw [if_neg (by simp [HCY.out]), if_neg (by simp), if_neg (by simp), if_neg (by simp)]; rw [if_pos hr])
  have HTC : Hid (trigC ⟨num + 1, [], num⟩ [⟨0, 0⟩] 1 = ⟨0, [], 0⟩) := hide (by unfold trigC; rw [if_neg (by rw [HTE.out]; decide)]; rfl)
  have HTN : Hid (trigN ⟨num + 1, [], num⟩ ([⟨0, 0⟩] : List Rq).length 1 = 0) := hide (by unfold trigN; rw [if_neg (by rw [HTE.out]; decide)])
  clear hrE hc hr
  clear hf h HC0 HX0 HB0
  obtain ⟨⟨yy, ff, zzx⟩, -⟩ := HP.out w0 (Below.refl _ _)
  have x0 := yy 0 _ rfl
  have x1 := yy 1 _ rfl
  have x2 := yy 2 _ rfl
  clear yy ff
  go_enter Try.func7, Try.ntmps7
  go_wp2_with fail
  clear hw0
  have HS := hide (HF.out)
  go_wp2_with fail
  refine HS.out.mono ?_
  rintro e w1 ⟨rfl, hb⟩
  clear x0 x1 x2 zzx
  clear HS
  replace HP := hide (fun w' (h : Below w1.heap.size w1 w') => HP.out w' (bthen hb h))
  clear hb
  clear HF
  obtain ⟨⟨yy, ff, zzx⟩, -⟩ := HP.out w1 (Below.refl _ _)
  have x0 := yy 0 _ rfl
  have x1 := yy 1 _ rfl
  have x2 := yy 2 _ rfl
  clear yy ff
  obtain ⟨-, hcx, -⟩ := HP.out w1 (Below.refl _ _)
  have HS2 := hide (chk_any w1 _ c hcx)
  clear hcx
  rw [HCH.out] at HS2
  have HS := hide (HS2.out)
  go_wp2_with fail
  refine HS.out.mono ?_
  rintro e w2 ⟨rfl, hb⟩
  clear x0 x1 x2 zzx
  clear HS
  replace HP := hide (fun w' (h : Below w2.heap.size w2 w') => HP.out w' (bthen hb h))
  clear hb
  clear HS2
  obtain ⟨⟨yy, ff, zzx⟩, -⟩ := HP.out w2 (Below.refl _ _)
  have x0 := yy 0 _ rfl
  have x1 := yy 1 _ rfl
  have x2 := yy 2 _ rfl
  clear yy ff
  obtain ⟨-, hcx, -⟩ := HP.out w2 (Below.refl _ _)
  have HS2 := hide (cancel_any w2 c _ hcx)
  rw [HCAN.out, HCH.out] at HS2
  clear hcx
  have HS := hide (HS2.out)
  go_wp2_with fail
  refine HS.out.mono ?_
  rintro e w3 ⟨V, rfl, hV, hb⟩
  clear x0 x1 x2 zzx
  clear HS
  replace HP := hide (fun w' (h : Below w3.heap.size w3 w') => HP.out w' (bthen hb h))
  clear hb
  obtain ⟨Ap, qp, hVV⟩ := coz_form hV.z
  subst hVV
  have HV := hide hV
  clear hV
  replace HP := hide (fun w' (h : Below w3.heap.size w3 w') => And.intro (HV.out.grow h) (HP.out w' h))
  clear HV
  have HN := hide (Bl.new w3 [.int .i64 (c.dur + 1), .slice Ap 0 qp, .int .i64 (c.dur)] 24)
  replace HP := hide (fun w' (h : Below (w3.alloc (.cells #[.int .i64 (c.dur + 1), .slice Ap 0 qp, .int .i64 (c.dur)] 24)).heap.size (w3.alloc (.cells #[.int .i64 (c.dur + 1), .slice Ap 0 qp, .int .i64 (c.dur)] 24)) w') => And.intro (HN.out.keep h) (HP.out w' (bthen (below_laid _) h)))
  go_upto_region 4 with (fail)
  obtain ⟨byp, hbyp⟩ : ∃ b, w3.heap.size = b := ⟨_, rfl⟩
  obtain ⟨w4, hw⟩ : ∃ x, w3.alloc (.cells #[.int .i64 (c.dur + 1), .slice Ap 0 qp, .int .i64 (c.dur)] 24) = x := ⟨_, rfl⟩
  rw [hw, hbyp] at HP
  rw [hw, hbyp]
  clear hw hbyp HN
  clear HS2
  obtain ⟨-, -, ⟨yy, ff, zzx⟩, -⟩ := HP.out w4 (Below.refl _ _)
  have x0 := yy 0 _ rfl
  have x1 := yy 1 _ rfl
  have x2 := yy 2 _ rfl
  clear yy ff
  obtain ⟨-, -, -, hcx, -⟩ := HP.out w4 (Below.refl _ _)
  have HS2 := hide (resume_any w4 c _ num hcx)
  rw [HRC.out, HRE.out] at HS2
  clear hcx
  have HS := hide (HS2.out)
  go_wp2_with fail
  refine HS.out.mono ?_
  rintro e w5 ⟨V, rfl, hV, hb⟩
  clear x0 x1 x2 zzx
  clear HS
  replace HP := hide (fun w' (h : Below w5.heap.size w5 w') => HP.out w' (bthen hb h))
  clear hb
  obtain ⟨Au, qu, hVV⟩ := coz_form hV.z
  subst hVV
  have HV := hide hV
  clear hV
  replace HP := hide (fun w' (h : Below w5.heap.size w5 w') => And.intro (HV.out.grow h) (HP.out w' h))
  clear HV
  have HN := hide (Bl.new w5 [.int .i64 (num + 1), .slice Au 0 qu, .int .i64 (num)] 24)
  replace HP := hide (fun w' (h : Below (w5.alloc (.cells #[.int .i64 (num + 1), .slice Au 0 qu, .int .i64 (num)] 24)).heap.size (w5.alloc (.cells #[.int .i64 (num + 1), .slice Au 0 qu, .int .i64 (num)] 24)) w') => And.intro (HN.out.keep h) (HP.out w' (bthen (below_laid _) h)))
  go_upto_region 5 with (fail)
  obtain ⟨byu, hbyu⟩ : ∃ b, w5.heap.size = b := ⟨_, rfl⟩
  obtain ⟨w6, hw⟩ : ∃ x, w5.alloc (.cells #[.int .i64 (num + 1), .slice Au 0 qu, .int .i64 (num)] 24) = x := ⟨_, rfl⟩
  rw [hw, hbyu] at HP
  rw [hw, hbyu]
  clear hw hbyu HN
  clear HS2
  obtain ⟨-, -, ⟨yy, ff, zzyp⟩, -⟩ := HP.out w6 (Below.refl _ _)
  have yp0 := yy 0 _ rfl
  have yp1 := yy 1 _ rfl
  have yp2 := yy 2 _ rfl
  clear yy ff
  obtain ⟨-, -, -, -, ⟨yy, ff, zzx⟩, -⟩ := HP.out w6 (Below.refl _ _)
  have x0 := yy 0 _ rfl
  have x1 := yy 1 _ rfl
  have x2 := yy 2 _ rfl
  clear yy ff
  obtain ⟨-, -, -, hcp, -⟩ := HP.out w6 (Below.refl _ _)
  have HS2 := hide (chk_any w6 _ _ hcp)
  rw [HCB.out] at HS2
  clear hcp
  have HS := hide (HS2.out)
  go_wp2_with fail
  refine HS.out.mono ?_
  rintro e w7 ⟨rfl, hb⟩
  clear yp0 yp1 yp2 zzyp x0 x1 x2 zzx
  clear HS
  replace HP := hide (fun w' (h : Below w7.heap.size w7 w') => HP.out w' (bthen hb h))
  clear hb
  clear HS2
  obtain ⟨-, -, ⟨yy, ff, zzyp⟩, -⟩ := HP.out w7 (Below.refl _ _)
  have yp0 := yy 0 _ rfl
  have yp1 := yy 1 _ rfl
  have yp2 := yy 2 _ rfl
  clear yy ff
  obtain ⟨⟨yy, ff, zzyu⟩, -⟩ := HP.out w7 (Below.refl _ _)
  have yu0 := yy 0 _ rfl
  have yu1 := yy 1 _ rfl
  have yu2 := yy 2 _ rfl
  clear yy ff
  obtain ⟨-, -, -, -, ⟨yy, ff, zzx⟩, -⟩ := HP.out w7 (Below.refl _ _)
  have x0 := yy 0 _ rfl
  have x1 := yy 1 _ rfl
  have x2 := yy 2 _ rfl
  clear yy ff
  obtain ⟨-, hcu, -⟩ := HP.out w7 (Below.refl _ _)
  have HS2 := hide (trig_any (w7.alloc (.cells #[.int .i64 0, .int .i64 0, .int .i64 0, .slice none 0 0, .slice none 0 0, .int .i64 0] 68)) _ _ _ [⟨0, 0⟩] 1 (hcu.grow (below_laid _)) (rd0_lst w7 _))
  rw [HTC.out, HTN.out, HTE.out] at HS2
  clear hcu
  replace HP := hide (fun w' (h : Below (w7.alloc (.cells #[.int .i64 0, .int .i64 0, .int .i64 0, .slice none 0 0, .slice none 0 0, .int .i64 0] 68)).heap.size (w7.alloc (.cells #[.int .i64 0, .int .i64 0, .int .i64 0, .slice none 0 0, .slice none 0 0, .int .i64 0] 68)) w') => HP.out w' (bthen (below_laid _) h))
  have HS := hide (HS2.out)
  go_wp2_with fail
  refine HS.out.mono ?_
  rintro e w8 ⟨V, rfl, hV, hb⟩
  clear yp0 yp1 yp2 zzyp yu0 yu1 yu2 zzyu x0 x1 x2 zzx
  clear HS
  replace HP := hide (fun w' (h : Below w8.heap.size w8 w') => HP.out w' (bthen hb h))
  clear hb
  obtain ⟨Az, qz, hVV⟩ := coz_form hV.z
  subst hVV
  have HV := hide hV
  clear hV
  replace HP := hide (fun w' (h : Below w8.heap.size w8 w') => And.intro (HV.out.grow h) (HP.out w' h))
  clear HV
  have HN := hide (Bl.new w8 [.int .i64 (0), .slice Az 0 qz, .int .i64 (0)] 24)
  replace HP := hide (fun w' (h : Below (w8.alloc (.cells #[.int .i64 (0), .slice Az 0 qz, .int .i64 (0)] 24)).heap.size (w8.alloc (.cells #[.int .i64 (0), .slice Az 0 qz, .int .i64 (0)] 24)) w') => And.intro (HN.out.keep h) (HP.out w' (bthen (below_laid _) h)))
  go_upto_region 10 with (fail)
  obtain ⟨byz, hbyz⟩ : ∃ b, w8.heap.size = b := ⟨_, rfl⟩
  obtain ⟨w9, hw⟩ : ∃ x, w8.alloc (.cells #[.int .i64 (0), .slice Az 0 qz, .int .i64 (0)] 24) = x := ⟨_, rfl⟩
  rw [hw, hbyz] at HP
  rw [hw, hbyz]
  clear hw hbyz HN
  clear HS2
  have HS2 := hide (awake_any w9)
  have HS := hide (HS2.out)
  go_wp2_with fail
  refine HS.out.mono ?_
  rintro e wa ⟨rfl, hb⟩
  clear HS
  replace HP := hide (fun w' (h : Below wa.heap.size wa w') => HP.out w' (bthen hb h))
  clear hb
  clear HS2
  obtain ⟨-, -, ⟨yy, ff, zzyu⟩, -⟩ := HP.out wa (Below.refl _ _)
  have yu0 := yy 0 _ rfl
  have yu1 := yy 1 _ rfl
  have yu2 := yy 2 _ rfl
  clear yy ff
  obtain ⟨⟨yy, ff, zzyz⟩, -⟩ := HP.out wa (Below.refl _ _)
  have yz0 := yy 0 _ rfl
  have yz1 := yy 1 _ rfl
  have yz2 := yy 2 _ rfl
  clear yy ff
  obtain ⟨-, -, -, hcu, -⟩ := HP.out wa (Below.refl _ _)
  have HS2 := hide (chk_any wa _ _ hcu)
  rw [HCY.out] at HS2
  clear hcu
  have HS := hide (HS2.out)
  go_wp2_with fail
  refine HS.out.mono ?_
  rintro e wb ⟨rfl, hb⟩
  clear yu0 yu1 yu2 zzyu yz0 yz1 yz2 zzyz
  clear HS
  replace HP := hide (fun w' (h : Below wb.heap.size wb w') => HP.out w' (bthen hb h))
  clear hb
  clear HS2
  obtain ⟨-, -, ⟨yy, ff, zzyu⟩, -⟩ := HP.out wb (Below.refl _ _)
  have yu0 := yy 0 _ rfl
  have yu1 := yy 1 _ rfl
  have yu2 := yy 2 _ rfl
  clear yy ff
  obtain ⟨⟨yy, ff, zzyz⟩, -⟩ := HP.out wb (Below.refl _ _)
  have yz0 := yy 0 _ rfl
  have yz1 := yy 1 _ rfl
  have yz2 := yy 2 _ rfl
  clear yy ff
  go_wp2
  go_ret
  exact Ret.bool rfl (HP.out _ (Below.refl _ _)).2.2.2.2.2.2.2.2
theorem resumes_law (v : Value) (num : Int) (h : CoV w v c) : Calls Try.prog 7 #[v, .int .i64 num] w (Ret (.bool true) w) := by
  cases hf : fewQ c with
  | false => exact resumes_few w c v num h hf
  | true =>
    by_cases hc : chkQ c = 0
    · by_cases h1 : num < 0
      · exact resumes_neg w c v num h hf hc h1
      · by_cases h2 : 1099511627776 ≤ num
        · exact resumes_far w c v num h hf hc h2
        · by_cases h3 : num + 1 = 1099511627776
          · exact resumes_last w c v num h hf hc h3
          · exact resumes_good w c v num h hf hc (by omega) (by omega)
    · exact resumes_bad w c v num h hf hc
end
end Go.Proofs.Ytihbonndinnohaa
