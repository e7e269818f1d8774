/- The law's function CoordinatorFinishes returns true. -/
import Derived.Test.YtihbonndinnohaaQLWds
namespace Go.Proofs.Ytihbonndinnohaa
open Go.RowKit
set_option linter.unusedVariables false
set_option linter.unusedSimpArgs false

section
variable (w : World) (c : Cq)
set_option maxRecDepth 100000 in
set_option maxHeartbeats 16000000 in
theorem finishes_law (v : Value) (num : Int) (h : CoV w v c) (hnum : inQ num) : Calls Try.prog 6 #[v, .int .i64 num] w (Ret (.bool true) w) := by
  obtain ⟨A, cap, rfl⟩ := coz_form h.z
  obtain ⟨w0, hw0⟩ : ∃ x, w.alloc (.cells #[.int .i64 c.next, .slice A c.atts.length cap, .int .i64 c.dur] 24) = x := ⟨_, rfl⟩
  have HC0 := hide (h.laid (.cells #[.int .i64 c.next, .slice A c.atts.length cap, .int .i64 c.dur] 24))
  have HX0 := hide (Bl.new w [.int .i64 c.next, .slice A c.atts.length cap, .int .i64 c.dur] 24)
  have HB0 := hide (below_laid (w := w) (.cells #[.int .i64 c.next, .slice A c.atts.length cap, .int .i64 c.dur] 24))
  rw [hw0] at HC0 HX0 HB0
  have HP := hide (fun w' (h : Below w0.heap.size w0 w') => And.intro (HX0.out.keep h) (And.intro (HC0.out.grow h) (bthen HB0.out h)))
  have HNM := hide hnum
  obtain ⟨RN, RB, RS, OS, HRD⟩ := rdy_both c
  obtain ⟨EC, hEC⟩ : ∃ x, chkQ c = x := ⟨_, rfl⟩
  have HEC := hide hEC
  rw [hEC] at HRD
  have HRDH := hide HRD
  clear hnum HRD hEC HC0 HX0 HB0 h
  cases hf : fewQ c
  · skip
    have HF := hide (fewc_any w0 c _ (HP.out w0 (Below.refl _ _)).2.1)
    rw [hf] at HF
    clear hf
    obtain ⟨⟨yy, ff, zzx⟩, -⟩ := HP.out w0 (Below.refl _ _)
    have x0 := yy 0 _ rfl
    have x1 := yy 1 _ rfl
    have x2 := yy 2 _ rfl
    clear yy ff
    go_enter Try.func6, Try.ntmps6
    go_wp2_with fail
    clear hw0
    have HS := hide (HF.out)
    go_wp2_with fail
    refine HS.out.mono ?_
    rintro e w1 ⟨rfl, hb⟩
    clear x0 x1 x2 zzx
    clear HS
    replace HP := hide (fun w' (h : Below w1.heap.size w1 w') => HP.out w' (bthen hb h))
    clear hb
    have HS := hide (awake_any w1)
    go_wp2_with fail
    refine HS.out.mono ?_
    rintro e w2 ⟨rfl, hb⟩
    clear HS
    replace HP := hide (fun w' (h : Below w2.heap.size w2 w') => HP.out w' (bthen hb h))
    clear hb
    go_wp2
    go_ret
    exact Ret.bool rfl (HP.out _ (Below.refl _ _)).2.2
  · skip
    have HF := hide (fewc_any w0 c _ (HP.out w0 (Below.refl _ _)).2.1)
    rw [hf] at HF
    clear hf
    obtain ⟨⟨yy, ff, zzx⟩, -⟩ := HP.out w0 (Below.refl _ _)
    have x0 := yy 0 _ rfl
    have x1 := yy 1 _ rfl
    have x2 := yy 2 _ rfl
    clear yy ff
    go_enter Try.func6, Try.ntmps6
    go_wp2_with fail
    clear hw0
    have HS := hide (HF.out)
    go_wp2_with fail
    refine HS.out.mono ?_
    rintro e w1 ⟨rfl, hb⟩
    clear x0 x1 x2 zzx
    clear HS
    replace HP := hide (fun w' (h : Below w1.heap.size w1 w') => HP.out w' (bthen hb h))
    clear hb
    obtain ⟨⟨yy, ff, zzx⟩, -⟩ := HP.out w1 (Below.refl _ _)
    have x0 := yy 0 _ rfl
    have x1 := yy 1 _ rfl
    have x2 := yy 2 _ rfl
    clear yy ff
    have HS := hide (HRDH.out.1 w1 _ (HP.out w1 (Below.refl _ _)).2.1)
    go_wp2_with fail
    refine HS.out.mono ?_
    rintro e w2 ⟨v2, u2, rfl, l1, l2, hb⟩
    clear x0 x1 x2 zzx
    clear HS
    replace HP := hide (fun w' (h : Below w2.heap.size w2 w') => HP.out w' (bthen hb h))
    clear hb
    obtain ⟨R1, r1, rfl⟩ := l1.form
    obtain ⟨O1, o1, rfl⟩ := l2.form
    have HV1 := hide l1
    have HV2 := hide l2
    clear l1 l2
    replace HP := hide (fun w' (h : Below w2.heap.size w2 w') => And.intro (HV1.out.grow rd_Rq h) (HP.out w' h))
    replace HP := hide (fun w' (h : Below w2.heap.size w2 w') => And.intro (HV2.out.grow rd_Oq h) (HP.out w' h))
    clear HV1 HV2
    have HN := hide (Bl.new w2 [.int .i64 RN, .slice R1 RS.length r1, .slice O1 OS.length o1] 54)
    replace HP := hide (fun w' (h : Below (w2.alloc (.cells #[.int .i64 RN, .slice R1 RS.length r1, .slice O1 OS.length o1] 54)).heap.size (w2.alloc (.cells #[.int .i64 RN, .slice R1 RS.length r1, .slice O1 OS.length o1] 54)) w') => And.intro (HN.out.keep h) (HP.out w' (bthen (below_laid _) h)))
    go_upto_region 4 with (fail)
    obtain ⟨bs1, hbs1⟩ : ∃ b, w2.heap.size = b := ⟨_, rfl⟩
    obtain ⟨w3, hw⟩ : ∃ x, w2.alloc (.cells #[.int .i64 RN, .slice R1 RS.length r1, .slice O1 OS.length o1] 54) = x := ⟨_, rfl⟩
    rw [hw, hbs1] at HP
    rw [hw, hbs1]
    clear hw hbs1 HN
    obtain ⟨-, -, -, ⟨yy, ff, zzx⟩, -⟩ := HP.out w3 (Below.refl _ _)
    have x0 := yy 0 _ rfl
    have x1 := yy 1 _ rfl
    have x2 := yy 2 _ rfl
    clear yy ff
    obtain ⟨-, -, -, -, hcx, -⟩ := HP.out w3 (Below.refl _ _)
    have HS2 := hide (HRDH.out.2 w3 _ hcx)
    clear hcx
    have HS := hide (HS2.out)
    go_wp2_with fail
    refine HS.out.mono ?_
    rintro e w4 ⟨v2, u2, rfl, l1, l2, hb⟩
    clear x0 x1 x2 zzx
    clear HS
    replace HP := hide (fun w' (h : Below w4.heap.size w4 w') => HP.out w' (bthen hb h))
    clear hb
    clear HS2
    obtain ⟨R2, r2, rfl⟩ := l1.form
    obtain ⟨O2, o2, rfl⟩ := l2.form
    have HV1 := hide l1
    have HV2 := hide l2
    clear l1 l2
    replace HP := hide (fun w' (h : Below w4.heap.size w4 w') => And.intro (HV1.out.grow rd_Rq h) (HP.out w' h))
    replace HP := hide (fun w' (h : Below w4.heap.size w4 w') => And.intro (HV2.out.grow rd_Oq h) (HP.out w' h))
    clear HV1 HV2
    have HN := hide (Bl.new w4 [.int .i64 RN, .slice R2 RS.length r2, .slice O2 OS.length o2] 54)
    replace HP := hide (fun w' (h : Below (w4.alloc (.cells #[.int .i64 RN, .slice R2 RS.length r2, .slice O2 OS.length o2] 54)).heap.size (w4.alloc (.cells #[.int .i64 RN, .slice R2 RS.length r2, .slice O2 OS.length o2] 54)) w') => And.intro (HN.out.keep h) (HP.out w' (bthen (below_laid _) h)))
    go_upto_region 5 with (fail)
    obtain ⟨bs2, hbs2⟩ : ∃ b, w4.heap.size = b := ⟨_, rfl⟩
    obtain ⟨w5, hw⟩ : ∃ x, w4.alloc (.cells #[.int .i64 RN, .slice R2 RS.length r2, .slice O2 OS.length o2] 54) = x := ⟨_, rfl⟩
    rw [hw, hbs2] at HP
    rw [hw, hbs2]
    clear hw hbs2 HN
    obtain ⟨-, -, -, ⟨yy, ff, zzs1⟩, -⟩ := HP.out w5 (Below.refl _ _)
    have s10 := yy 0 _ rfl
    have s11 := yy 1 _ rfl
    have s12 := yy 2 _ rfl
    clear yy ff
    obtain ⟨⟨yy, ff, zzs2⟩, -⟩ := HP.out w5 (Below.refl _ _)
    have s20 := yy 0 _ rfl
    have s21 := yy 1 _ rfl
    have s22 := yy 2 _ rfl
    clear yy ff
    obtain ⟨-, k4, k3, -, k2, k1, -⟩ := HP.out w5 (Below.refl _ _)
    have HS2 := hide (smp_any w5 RS OS _ _ _ _ k1 k3 k2 k4)
    clear k1 k2 k3 k4
    have HS := hide (HS2.out)
    go_wp2_with fail
    refine HS.out.mono ?_
    rintro e w6 ⟨rfl, hb⟩
    clear s10 s11 s12 zzs1 s20 s21 s22 zzs2
    clear HS
    replace HP := hide (fun w' (h : Below w6.heap.size w6 w') => HP.out w' (bthen hb h))
    clear hb
    clear HS2
    obtain ⟨-, -, -, -, -, -, ⟨yy, ff, zzx⟩, -⟩ := HP.out w6 (Below.refl _ _)
    have x0 := yy 0 _ rfl
    have x1 := yy 1 _ rfl
    have x2 := yy 2 _ rfl
    clear yy ff
    obtain ⟨-, -, -, -, -, -, -, hcx, -⟩ := HP.out w6 (Below.refl _ _)
    have HS2 := hide (finish_any w6 c _ num hcx HNM.out)
    clear hcx
    have HS := hide (HS2.out)
    go_wp2_with fail
    refine HS.out.mono ?_
    rintro e w7 ⟨V, rfl, hV, hb⟩
    clear x0 x1 x2 zzx
    clear HS
    replace HP := hide (fun w' (h : Below w7.heap.size w7 w') => HP.out w' (bthen hb h))
    clear hb
    obtain ⟨Aa, qa, rfl⟩ := coz_form hV.z
    have HV := hide hV
    clear hV
    replace HP := hide (fun w' (h : Below w7.heap.size w7 w') => And.intro (HV.out.grow h) (HP.out w' h))
    clear HV
    have HN := hide (Bl.new w7 [.int .i64 (finC c num).next, .slice Aa (finC c num).atts.length qa, .int .i64 (finC c num).dur] 24)
    replace HP := hide (fun w' (h : Below (w7.alloc (.cells #[.int .i64 (finC c num).next, .slice Aa (finC c num).atts.length qa, .int .i64 (finC c num).dur] 24)).heap.size (w7.alloc (.cells #[.int .i64 (finC c num).next, .slice Aa (finC c num).atts.length qa, .int .i64 (finC c num).dur] 24)) w') => And.intro (HN.out.keep h) (HP.out w' (bthen (below_laid _) h)))
    go_upto_region 8 with (fail)
    obtain ⟨bya, hbya⟩ : ∃ b, w7.heap.size = b := ⟨_, rfl⟩
    obtain ⟨w8, hw⟩ : ∃ x, w7.alloc (.cells #[.int .i64 (finC c num).next, .slice Aa (finC c num).atts.length qa, .int .i64 (finC c num).dur] 24) = x := ⟨_, rfl⟩
    rw [hw, hbya] at HP
    rw [hw, hbya]
    clear hw hbya HN
    clear HS2
    obtain ⟨-, -, -, -, -, -, -, -, ⟨yy, ff, zzx⟩, -⟩ := HP.out w8 (Below.refl _ _)
    have x0 := yy 0 _ rfl
    have x1 := yy 1 _ rfl
    have x2 := yy 2 _ rfl
    clear yy ff
    obtain ⟨-, -, -, -, -, -, -, -, -, hcx, -⟩ := HP.out w8 (Below.refl _ _)
    have HS2 := hide (rfinish_any w8 c _ num hcx HNM.out)
    clear hcx
    have HS := hide (HS2.out)
    go_wp2_with fail
    refine HS.out.mono ?_
    rintro e w9 ⟨V, rfl, hV, hb⟩
    clear x0 x1 x2 zzx
    clear HS
    replace HP := hide (fun w' (h : Below w9.heap.size w9 w') => HP.out w' (bthen hb h))
    clear hb
    obtain ⟨Ab, qb, rfl⟩ := coz_form hV.z
    have HV := hide hV
    clear hV
    replace HP := hide (fun w' (h : Below w9.heap.size w9 w') => And.intro (HV.out.grow h) (HP.out w' h))
    clear HV
    have HN := hide (Bl.new w9 [.int .i64 (finC c num).next, .slice Ab (finC c num).atts.length qb, .int .i64 (finC c num).dur] 24)
    replace HP := hide (fun w' (h : Below (w9.alloc (.cells #[.int .i64 (finC c num).next, .slice Ab (finC c num).atts.length qb, .int .i64 (finC c num).dur] 24)).heap.size (w9.alloc (.cells #[.int .i64 (finC c num).next, .slice Ab (finC c num).atts.length qb, .int .i64 (finC c num).dur] 24)) w') => And.intro (HN.out.keep h) (HP.out w' (bthen (below_laid _) h)))
    go_upto_region 9 with (fail)
    obtain ⟨byb, hbyb⟩ : ∃ b, w9.heap.size = b := ⟨_, rfl⟩
    obtain ⟨w10, hw⟩ : ∃ x, w9.alloc (.cells #[.int .i64 (finC c num).next, .slice Ab (finC c num).atts.length qb, .int .i64 (finC c num).dur] 24) = x := ⟨_, rfl⟩
    rw [hw, hbyb] at HP
    rw [hw, hbyb]
    clear hw hbyb HN
    clear HS2
    obtain ⟨-, -, -, -, -, -, -, -, -, -, ⟨yy, ff, zzx⟩, -⟩ := HP.out w10 (Below.refl _ _)
    have x0 := yy 0 _ rfl
    have x1 := yy 1 _ rfl
    have x2 := yy 2 _ rfl
    clear yy ff
    obtain ⟨-, -, -, -, -, -, -, -, -, -, -, hcx, -⟩ := HP.out w10 (Below.refl _ _)
    have HS2 := hide (cancel_any w10 c _ hcx)
    clear hcx
    have HS := hide (HS2.out)
    go_wp2_with fail
    refine HS.out.mono ?_
    rintro e w11 ⟨V, rfl, hV, hb⟩
    clear x0 x1 x2 zzx
    clear HS
    replace HP := hide (fun w' (h : Below w11.heap.size w11 w') => HP.out w' (bthen hb h))
    clear hb
    obtain ⟨Ap, qp, rfl⟩ := coz_form hV.z
    have HV := hide hV
    clear hV
    replace HP := hide (fun w' (h : Below w11.heap.size w11 w') => And.intro (HV.out.grow h) (HP.out w' h))
    clear HV
    have HN := hide (Bl.new w11 [.int .i64 (canC c).next, .slice Ap (canC c).atts.length qp, .int .i64 (canC c).dur] 24)
    replace HP := hide (fun w' (h : Below (w11.alloc (.cells #[.int .i64 (canC c).next, .slice Ap (canC c).atts.length qp, .int .i64 (canC c).dur] 24)).heap.size (w11.alloc (.cells #[.int .i64 (canC c).next, .slice Ap (canC c).atts.length qp, .int .i64 (canC c).dur] 24)) w') => And.intro (HN.out.keep h) (HP.out w' (bthen (below_laid _) h)))
    go_upto_region 10 with (fail)
    obtain ⟨byp, hbyp⟩ : ∃ b, w11.heap.size = b := ⟨_, rfl⟩
    obtain ⟨w12, hw⟩ : ∃ x, w11.alloc (.cells #[.int .i64 (canC c).next, .slice Ap (canC c).atts.length qp, .int .i64 (canC c).dur] 24) = x := ⟨_, rfl⟩
    rw [hw, hbyp] at HP
    rw [hw, hbyp]
    clear hw hbyp HN
    clear HS2
    obtain ⟨-, -, -, -, -, -, -, -, -, -, -, -, ⟨yy, ff, zzx⟩, -⟩ := HP.out w12 (Below.refl _ _)
    have x0 := yy 0 _ rfl
    have x1 := yy 1 _ rfl
    have x2 := yy 2 _ rfl
    clear yy ff
    obtain ⟨-, -, -, -, -, -, -, -, -, -, -, -, -, hcx, -⟩ := HP.out w12 (Below.refl _ _)
    have HS2 := hide (rcancel_any w12 c _ hcx)
    clear hcx
    have HS := hide (HS2.out)
    go_wp2_with fail
    refine HS.out.mono ?_
    rintro e w13 ⟨V, rfl, hV, hb⟩
    clear x0 x1 x2 zzx
    clear HS
    replace HP := hide (fun w' (h : Below w13.heap.size w13 w') => HP.out w' (bthen hb h))
    clear hb
    obtain ⟨Aq, qq, rfl⟩ := coz_form hV.z
    have HV := hide hV
    clear hV
    replace HP := hide (fun w' (h : Below w13.heap.size w13 w') => And.intro (HV.out.grow h) (HP.out w' h))
    clear HV
    have HN := hide (Bl.new w13 [.int .i64 (canC c).next, .slice Aq (canC c).atts.length qq, .int .i64 (canC c).dur] 24)
    replace HP := hide (fun w' (h : Below (w13.alloc (.cells #[.int .i64 (canC c).next, .slice Aq (canC c).atts.length qq, .int .i64 (canC c).dur] 24)).heap.size (w13.alloc (.cells #[.int .i64 (canC c).next, .slice Aq (canC c).atts.length qq, .int .i64 (canC c).dur] 24)) w') => And.intro (HN.out.keep h) (HP.out w' (bthen (below_laid _) h)))
    go_upto_region 11 with (fail)
    obtain ⟨byq, hbyq⟩ : ∃ b, w13.heap.size = b := ⟨_, rfl⟩
    obtain ⟨w14, hw⟩ : ∃ x, w13.alloc (.cells #[.int .i64 (canC c).next, .slice Aq (canC c).atts.length qq, .int .i64 (canC c).dur] 24) = x := ⟨_, rfl⟩
    rw [hw, hbyq] at HP
    rw [hw, hbyq]
    clear hw hbyq HN
    clear HS2
    obtain ⟨-, -, -, -, -, -, -, -, -, -, -, -, -, -, ⟨yy, ff, zzx⟩, -⟩ := HP.out w14 (Below.refl _ _)
    have x0 := yy 0 _ rfl
    have x1 := yy 1 _ rfl
    have x2 := yy 2 _ rfl
    clear yy ff
    obtain ⟨-, -, -, -, -, -, -, -, -, -, -, -, -, -, -, hcx, -⟩ := HP.out w14 (Below.refl _ _)
    have HS2 := hide (resume_any w14 c _ num hcx)
    clear hcx
    have HS := hide (HS2.out)
    go_wp2_with fail
    refine HS.out.mono ?_
    rintro e w15 ⟨V, rfl, hV, hb⟩
    clear x0 x1 x2 zzx
    clear HS
    replace HP := hide (fun w' (h : Below w15.heap.size w15 w') => HP.out w' (bthen hb h))
    clear hb
    obtain ⟨Au, qu, rfl⟩ := coz_form hV.z
    have HV := hide hV
    clear hV
    replace HP := hide (fun w' (h : Below w15.heap.size w15 w') => And.intro (HV.out.grow h) (HP.out w' h))
    clear HV
    have HN := hide (Bl.new w15 [.int .i64 (resC c num).next, .slice Au (resC c num).atts.length qu, .int .i64 (resC c num).dur] 24)
    replace HP := hide (fun w' (h : Below (w15.alloc (.cells #[.int .i64 (resC c num).next, .slice Au (resC c num).atts.length qu, .int .i64 (resC c num).dur] 24)).heap.size (w15.alloc (.cells #[.int .i64 (resC c num).next, .slice Au (resC c num).atts.length qu, .int .i64 (resC c num).dur] 24)) w') => And.intro (HN.out.keep h) (HP.out w' (bthen (below_laid _) h)))
    go_upto_region 12 with (fail)
    obtain ⟨byu, hbyu⟩ : ∃ b, w15.heap.size = b := ⟨_, rfl⟩
    obtain ⟨w16, hw⟩ : ∃ x, w15.alloc (.cells #[.int .i64 (resC c num).next, .slice Au (resC c num).atts.length qu, .int .i64 (resC c num).dur] 24) = x := ⟨_, rfl⟩
    rw [hw, hbyu] at HP
    rw [hw, hbyu]
    clear hw hbyu HN
    clear HS2
    obtain ⟨-, -, -, -, -, -, -, -, -, -, -, -, -, -, -, -, ⟨yy, ff, zzx⟩, -⟩ := HP.out w16 (Below.refl _ _)
    have x0 := yy 0 _ rfl
    have x1 := yy 1 _ rfl
    have x2 := yy 2 _ rfl
    clear yy ff
    obtain ⟨-, -, -, -, -, -, -, -, -, -, -, -, -, -, -, -, -, hcx, -⟩ := HP.out w16 (Below.refl _ _)
    have HS2 := hide (rresume_any w16 c _ num hcx)
    clear hcx
    have HS := hide (HS2.out)
    go_wp2_with fail
    refine HS.out.mono ?_
    rintro e w17 ⟨V, rfl, hV, hb⟩
    clear x0 x1 x2 zzx
    clear HS
    replace HP := hide (fun w' (h : Below w17.heap.size w17 w') => HP.out w' (bthen hb h))
    clear hb
    obtain ⟨Av, qv, rfl⟩ := coz_form hV.z
    have HV := hide hV
    clear hV
    replace HP := hide (fun w' (h : Below w17.heap.size w17 w') => And.intro (HV.out.grow h) (HP.out w' h))
    clear HV
    have HN := hide (Bl.new w17 [.int .i64 (resC c num).next, .slice Av (resC c num).atts.length qv, .int .i64 (resC c num).dur] 24)
    replace HP := hide (fun w' (h : Below (w17.alloc (.cells #[.int .i64 (resC c num).next, .slice Av (resC c num).atts.length qv, .int .i64 (resC c num).dur] 24)).heap.size (w17.alloc (.cells #[.int .i64 (resC c num).next, .slice Av (resC c num).atts.length qv, .int .i64 (resC c num).dur] 24)) w') => And.intro (HN.out.keep h) (HP.out w' (bthen (below_laid _) h)))
    go_upto_region 13 with (fail)
    obtain ⟨byv, hbyv⟩ : ∃ b, w17.heap.size = b := ⟨_, rfl⟩
    obtain ⟨w18, hw⟩ : ∃ x, w17.alloc (.cells #[.int .i64 (resC c num).next, .slice Av (resC c num).atts.length qv, .int .i64 (resC c num).dur] 24) = x := ⟨_, rfl⟩
    rw [hw, hbyv] at HP
    rw [hw, hbyv]
    clear hw hbyv HN
    clear HS2
    have HS := hide (awake_any w18)
    go_wp2_with fail
    refine HS.out.mono ?_
    rintro e w19 ⟨rfl, hb⟩
    clear HS
    replace HP := hide (fun w' (h : Below w19.heap.size w19 w') => HP.out w' (bthen hb h))
    clear hb
    obtain ⟨-, -, -, -, -, -, -, -, -, -, ⟨yy, ff, zzya⟩, -⟩ := HP.out w19 (Below.refl _ _)
    have ya0 := yy 0 _ rfl
    have ya1 := yy 1 _ rfl
    have ya2 := yy 2 _ rfl
    clear yy ff
    obtain ⟨-, -, -, -, -, -, -, -, ⟨yy, ff, zzyb⟩, -⟩ := HP.out w19 (Below.refl _ _)
    have yb0 := yy 0 _ rfl
    have yb1 := yy 1 _ rfl
    have yb2 := yy 2 _ rfl
    clear yy ff
    obtain ⟨-, -, -, -, -, -, ⟨yy, ff, zzyp⟩, -⟩ := HP.out w19 (Below.refl _ _)
    have yp0 := yy 0 _ rfl
    have yp1 := yy 1 _ rfl
    have yp2 := yy 2 _ rfl
    clear yy ff
    obtain ⟨-, -, -, -, ⟨yy, ff, zzyq⟩, -⟩ := HP.out w19 (Below.refl _ _)
    have yq0 := yy 0 _ rfl
    have yq1 := yy 1 _ rfl
    have yq2 := yy 2 _ rfl
    clear yy ff
    obtain ⟨-, -, ⟨yy, ff, zzyu⟩, -⟩ := HP.out w19 (Below.refl _ _)
    have yu0 := yy 0 _ rfl
    have yu1 := yy 1 _ rfl
    have yu2 := yy 2 _ rfl
    clear yy ff
    obtain ⟨⟨yy, ff, zzyv⟩, -⟩ := HP.out w19 (Below.refl _ _)
    have yv0 := yy 0 _ rfl
    have yv1 := yy 1 _ rfl
    have yv2 := yy 2 _ rfl
    clear yy ff
    obtain ⟨-, -, -, -, -, -, -, -, -, h2, -, h1, -⟩ := HP.out w19 (Below.refl _ _)
    have HS2 := hide (same_any w19 (finC c num) _ _ h1 h2)
    clear h1 h2
    have HS := hide (HS2.out)
    go_wp2_with fail
    refine HS.out.mono ?_
    rintro e w20 ⟨rfl, hb⟩
    clear ya0 ya1 ya2 zzya yb0 yb1 yb2 zzyb yp0 yp1 yp2 zzyp yq0 yq1 yq2 zzyq yu0 yu1 yu2 zzyu yv0 yv1 yv2 zzyv
    clear HS
    replace HP := hide (fun w' (h : Below w20.heap.size w20 w') => HP.out w' (bthen hb h))
    clear hb
    clear HS2
    obtain ⟨-, -, -, -, -, -, -, -, -, -, ⟨yy, ff, zzya⟩, -⟩ := HP.out w20 (Below.refl _ _)
    have ya0 := yy 0 _ rfl
    have ya1 := yy 1 _ rfl
    have ya2 := yy 2 _ rfl
    clear yy ff
    obtain ⟨-, -, -, -, -, -, -, -, ⟨yy, ff, zzyb⟩, -⟩ := HP.out w20 (Below.refl _ _)
    have yb0 := yy 0 _ rfl
    have yb1 := yy 1 _ rfl
    have yb2 := yy 2 _ rfl
    clear yy ff
    obtain ⟨-, -, -, -, -, -, ⟨yy, ff, zzyp⟩, -⟩ := HP.out w20 (Below.refl _ _)
    have yp0 := yy 0 _ rfl
    have yp1 := yy 1 _ rfl
    have yp2 := yy 2 _ rfl
    clear yy ff
    obtain ⟨-, -, -, -, ⟨yy, ff, zzyq⟩, -⟩ := HP.out w20 (Below.refl _ _)
    have yq0 := yy 0 _ rfl
    have yq1 := yy 1 _ rfl
    have yq2 := yy 2 _ rfl
    clear yy ff
    obtain ⟨-, -, ⟨yy, ff, zzyu⟩, -⟩ := HP.out w20 (Below.refl _ _)
    have yu0 := yy 0 _ rfl
    have yu1 := yy 1 _ rfl
    have yu2 := yy 2 _ rfl
    clear yy ff
    obtain ⟨⟨yy, ff, zzyv⟩, -⟩ := HP.out w20 (Below.refl _ _)
    have yv0 := yy 0 _ rfl
    have yv1 := yy 1 _ rfl
    have yv2 := yy 2 _ rfl
    clear yy ff
    obtain ⟨-, -, -, -, -, h2, -, h1, -⟩ := HP.out w20 (Below.refl _ _)
    have HS2 := hide (same_any w20 (canC c) _ _ h1 h2)
    clear h1 h2
    have HS := hide (HS2.out)
    go_wp2_with fail
    refine HS.out.mono ?_
    rintro e w21 ⟨rfl, hb⟩
    clear ya0 ya1 ya2 zzya yb0 yb1 yb2 zzyb yp0 yp1 yp2 zzyp yq0 yq1 yq2 zzyq yu0 yu1 yu2 zzyu yv0 yv1 yv2 zzyv
    clear HS
    replace HP := hide (fun w' (h : Below w21.heap.size w21 w') => HP.out w' (bthen hb h))
    clear hb
    clear HS2
    obtain ⟨-, -, -, -, -, -, -, -, -, -, ⟨yy, ff, zzya⟩, -⟩ := HP.out w21 (Below.refl _ _)
    have ya0 := yy 0 _ rfl
    have ya1 := yy 1 _ rfl
    have ya2 := yy 2 _ rfl
    clear yy ff
    obtain ⟨-, -, -, -, -, -, -, -, ⟨yy, ff, zzyb⟩, -⟩ := HP.out w21 (Below.refl _ _)
    have yb0 := yy 0 _ rfl
    have yb1 := yy 1 _ rfl
    have yb2 := yy 2 _ rfl
    clear yy ff
    obtain ⟨-, -, -, -, -, -, ⟨yy, ff, zzyp⟩, -⟩ := HP.out w21 (Below.refl _ _)
    have yp0 := yy 0 _ rfl
    have yp1 := yy 1 _ rfl
    have yp2 := yy 2 _ rfl
    clear yy ff
    obtain ⟨-, -, -, -, ⟨yy, ff, zzyq⟩, -⟩ := HP.out w21 (Below.refl _ _)
    have yq0 := yy 0 _ rfl
    have yq1 := yy 1 _ rfl
    have yq2 := yy 2 _ rfl
    clear yy ff
    obtain ⟨-, -, ⟨yy, ff, zzyu⟩, -⟩ := HP.out w21 (Below.refl _ _)
    have yu0 := yy 0 _ rfl
    have yu1 := yy 1 _ rfl
    have yu2 := yy 2 _ rfl
    clear yy ff
    obtain ⟨⟨yy, ff, zzyv⟩, -⟩ := HP.out w21 (Below.refl _ _)
    have yv0 := yy 0 _ rfl
    have yv1 := yy 1 _ rfl
    have yv2 := yy 2 _ rfl
    clear yy ff
    obtain ⟨-, h2, -, h1, -⟩ := HP.out w21 (Below.refl _ _)
    have HS2 := hide (same_any w21 (resC c num) _ _ h1 h2)
    clear h1 h2
    have HS := hide (HS2.out)
    go_wp2_with fail
    refine HS.out.mono ?_
    rintro e w22 ⟨rfl, hb⟩
    clear ya0 ya1 ya2 zzya yb0 yb1 yb2 zzyb yp0 yp1 yp2 zzyp yq0 yq1 yq2 zzyq yu0 yu1 yu2 zzyu yv0 yv1 yv2 zzyv
    clear HS
    replace HP := hide (fun w' (h : Below w22.heap.size w22 w') => HP.out w' (bthen hb h))
    clear hb
    clear HS2
    obtain ⟨-, -, -, -, -, -, -, -, -, -, ⟨yy, ff, zzya⟩, -⟩ := HP.out w22 (Below.refl _ _)
    have ya0 := yy 0 _ rfl
    have ya1 := yy 1 _ rfl
    have ya2 := yy 2 _ rfl
    clear yy ff
    obtain ⟨-, -, -, -, -, -, -, -, ⟨yy, ff, zzyb⟩, -⟩ := HP.out w22 (Below.refl _ _)
    have yb0 := yy 0 _ rfl
    have yb1 := yy 1 _ rfl
    have yb2 := yy 2 _ rfl
    clear yy ff
    obtain ⟨-, -, -, -, -, -, ⟨yy, ff, zzyp⟩, -⟩ := HP.out w22 (Below.refl _ _)
    have yp0 := yy 0 _ rfl
    have yp1 := yy 1 _ rfl
    have yp2 := yy 2 _ rfl
    clear yy ff
    obtain ⟨-, -, -, -, ⟨yy, ff, zzyq⟩, -⟩ := HP.out w22 (Below.refl _ _)
    have yq0 := yy 0 _ rfl
    have yq1 := yy 1 _ rfl
    have yq2 := yy 2 _ rfl
    clear yy ff
    obtain ⟨-, -, ⟨yy, ff, zzyu⟩, -⟩ := HP.out w22 (Below.refl _ _)
    have yu0 := yy 0 _ rfl
    have yu1 := yy 1 _ rfl
    have yu2 := yy 2 _ rfl
    clear yy ff
    obtain ⟨⟨yy, ff, zzyv⟩, -⟩ := HP.out w22 (Below.refl _ _)
    have yv0 := yy 0 _ rfl
    have yv1 := yy 1 _ rfl
    have yv2 := yy 2 _ rfl
    clear yy ff
    go_wp2
    go_ret
    exact Ret.bool rfl (HP.out _ (Below.refl _ _)).2.2.2.2.2.2.2.2.2.2.2.2.2.2.2.2.2.2.2.2
end
end Go.Proofs.Ytihbonndinnohaa
