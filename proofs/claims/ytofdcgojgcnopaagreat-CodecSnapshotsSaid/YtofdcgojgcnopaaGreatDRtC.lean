/- The reference's takeIntegers. The reference's takeTracker. The reference's takeSnapshot. Decode of a snapshot: the reference's. -/
import Derived.Test.YtofdcgojgcnopaaGreatDRtA
import Derived.Test.YtofdcgojgcnopaaGreatDRel
import Derived.Test.YtofdcgojgcnopaaGreatDRVal
import Derived.Test.YtofdcgojgcnopaaGreatDRtB
import Derived.Test.YtofdcgojgcnopaaGreatTrk0
import Derived.Test.YtofdcgojgcnopaaGreatDEnd
namespace Go.Proofs.YtofdcgojgcnopaaGreat
open Go.RowKit
set_option linter.unusedVariables false
set_option linter.unusedSimpArgs false
section
variable (F : Nat) (s : Bs) (e : Int) (w : World)
set_option maxRecDepth 100000 in
set_option maxHeartbeats 16000000 in
theorem rtI_any (hs : s.length ≤ 100000000) (h : Rw w F s e) : Calls Tryz.prog 57 #[.pointer (some ⟨F, 0, none⟩)] w (Rds F (pL pnum) (RLs 1 RIn w.heap.size) s e w) := by
  have HI := hide (rcount_any F s e w hs h)
  have hF := h.lt
  obtain ⟨i0I, hi0I, hz0I, hz1I, hz2I⟩ := info_parts info_int
  clear h
  go_enter Tryz.func57, Tryz.ntmps57
  go_wp2_with fail
  refine HI.out.mono ?_
  rintro en w2 ⟨_, n, sA, eA, rfl, ⟨rfl, hn0, hn1⟩, hd, hw, ht⟩
  have HD := hide hd
  have HW := hide hw
  have HT := hide ht
  have hl := hd.1
  clear hd hw ht HI
  go_wp2
  go_loopw [3, 5] (fun v i wr => ∃ j : Nat, i = .int .i64 j ∧ Hid (∃ l s' e', Rw wr F s' e' ∧ Rt F w wr ∧ Grw wr w.heap.size 3 1 RIn v l ∧ De (pMany pnum j) sA eA l s' e' ∧ l.length = j ∧ (j : Int) ≤ n ∧ s'.length ≤ s.length)) (fun _ i _ => (n - intOf i).toNat)
  case atStart => exact ⟨0, rfl, hide ⟨[], sA, eA, HW.out, HT.out, Grw.nil, De.nil (Nat.le_refl _) (fun _ => rfl), rfl, by omega, by omega⟩⟩
  case round =>
    clear HW HT
    obtain ⟨jo, rfl, HR⟩ := hrel
    obtain ⟨lo, so, eo, hw, ht, hg, hd, hj, hjn, hsl⟩ := HR.out
    obtain ⟨wo, rfl⟩ : ∃ wo : World, wo = wr := ⟨_, rfl⟩
    have HWo := hide hw
    have HTo := hide ht
    have HGo := hide hg
    have HDEo := hide hd
    have HJo := hide hj
    have hjn2 := hjn
    have hslo := hsl
    have c1 := hw.c1
    have hwo : w.heap.size ≤ wo.heap.size := ht.kp.1
    have hFo : F < wo.heap.size := hw.lt
    clear hw ht hg hd hj HR hjn hsl
    by_cases hlt : (jo : Int) < n
    · by_cases he : eo = 0
      · subst he
        have hlow := HGo.out.low
        have HLOWo := hide hlow
        have hleno : lo.length < 1099511627776 := by have := HJo.out; omega
        clear hlow
        have HCL := hide (rtake_any F so 0 wo (by omega) HWo.out)
        go_wp2_with fail
        refine HCL.out.mono ?_
        rintro en w1 ⟨_, x1, s1, e1, rfl, ⟨rfl, hg⟩, hd, hw, ht⟩
        have HD1 := hide hd
        have hl1 : s1.length ≤ so.length := hd.1
        have HQ1 := hide hg
        have HT := hide ht
        have HW := hide hw
        clear hd hw ht hg HCL c1
        have HX : Hid (RIn w1 (wo.heap.size ≤ ·) [.int .i64 x1] x1) := hide ⟨rfl, HQ1.out⟩
        have HRTo := hide (HT.out)
        have hwr := HRTo.out.kp.1
        have HG3 := hide (HGo.out.keep rd_In HRTo.out (by omega))
        go_wp2_with (go_loud (at_builtin; refine wpList_append_grw rd_In rl_In rfl _ _ 39 rfl w.heap.size 3 i0I _ 8 Tryz.underlying39 hi0I hz0I [.int .i64 x1] hz1I hz2I rfl (by simp) u3 _ rfl HG3.out _ rfl (by simp [Value.oneCell']) x1 HX.out (by exact hwo) HLOWo.out hleno (by decide) ?c3 ?_; (case c3 => exact Nat.le_trans hwo hwr); intro v2 w9 hg9 hb9 hs9))
        have HR2 : Hid (∃ l s' e', Rw w9 F s' e' ∧ Rt F w w9 ∧ Grw w9 w.heap.size 3 1 RIn v2 l ∧ De (pMany pnum (jo + 1)) sA eA l s' e' ∧ l.length = jo + 1 ∧ ((jo + 1 : Nat) : Int) ≤ n ∧ s'.length ≤ s.length) :=
          hide ⟨lo ++ [x1], _, _, HW.out.low hb9 (by omega), (HTo.out.trans HRTo.out).below hb9 (by omega), hg9, HDEo.out.snoc (show De pnum _ _ _ _ _ from HD1.out), by rw [List.length_append, HJo.out]; rfl, by omega, by omega⟩
        clear hg9 hb9 hs9 HX HG3
        go_wp2
        go_roundw
        case rel => exact ⟨jo + 1, by go_num, HR2⟩
        case measure => simp [intOf]; omega
      · have te : (eo == 0) = false := beq_eq_false_iff_ne.2 he
        go_wp2
        go_ret
        exact ⟨_, lo, so, eo, rfl, ⟨HGo.out.lst rd_In (by decide) (by have := HJo.out; unfold maxLen; omega), by have := HJo.out; omega⟩, HD.out.counted HDEo.out hjn2 (.inr he), HWo.out, HTo.out⟩
    · skip
      go_wp2
      go_ret
      exact ⟨_, lo, so, eo, rfl, ⟨HGo.out.lst rd_In (by decide) (by have := HJo.out; unfold maxLen; omega), by have := HJo.out; omega⟩, HD.out.counted HDEo.out hjn2 (.inl (by omega)), HWo.out, HTo.out⟩
end
end Go.Proofs.YtofdcgojgcnopaaGreat

namespace Go.Proofs.YtofdcgojgcnopaaGreat
open Go.RowKit
set_option linter.unusedVariables false
set_option linter.unusedSimpArgs false
section
variable (F : Nat) (s : Bs) (e : Int) (w : World)
set_option maxRecDepth 100000 in
set_option maxHeartbeats 16000000 in
theorem rtTr_any (hs : s.length ≤ 100000000) (h : Rw w F s e) : Calls Tryz.prog 56 #[.pointer (some ⟨F, 0, none⟩)] w (Rds F pTrk (RA RTr w.heap.size) s e w) := by
  have hF := h.lt
  obtain ⟨i0Pn, hi0Pn, hz0Pn, hz1Pn, hz2Pn⟩ := info_parts info_point
  have HT := hide (Rt.laid h (.cells #[.int .i64 0, .slice none 0 0, .slice none 0 0, .int .i64 0] 42))
  have HR := hide (Bo.new hF [.int .i64 0, .slice none 0 0, .slice none 0 0, .int .i64 0] 42)
  have HW := hide (h.laid (.cells #[.int .i64 0, .slice none 0 0, .slice none 0 0, .int .i64 0] 42))
  clear h
  go_enter Tryz.func56, Tryz.ntmps56
  have HCL := hide (rtake_any F s e (w.alloc (.cells #[.int .i64 0, .slice none 0 0, .slice none 0 0, .int .i64 0] 42)) (by omega) HW.out)
  go_wp2_with fail
  refine HCL.out.mono ?_
  rintro en w1 ⟨_, x1, s1, e1, rfl, ⟨rfl, hg⟩, hd, hw, ht⟩
  have HD1 := hide hd
  have hl1 : s1.length ≤ s.length := hd.1
  have HG1 := hide hg
  have hz1 : w.heap.size + 1 ≤ w1.heap.size := by have := ht.kp.1; simpa using this
  replace HT := hide (HT.out.trans ht)
  replace HR := hide (HR.out.keep ht)
  replace HW := hide hw
  clear hd hw ht HCL hg
  have HCL := hide (rtI_any F s1 e1 w1 (by omega) HW.out)
  go_wp2_with fail
  refine HCL.out.mono ?_
  rintro en w2 ⟨_, x2, s2, e2, rfl, ⟨hlst, hlq⟩, hd, hw, ht⟩
  have HD2 := hide hd
  have hl2 : s2.length ≤ s1.length := hd.1
  obtain ⟨A2, c2, rfl⟩ := hlst.form
  have HQ2 := hide hlq
  have hz2 : w1.heap.size ≤ w2.heap.size := by have := ht.kp.1; simpa using this
  replace HT := hide (HT.out.trans ht)
  replace HR := hide (HR.out.keep ht)
  have HL2 : Hid (Lst w2 (fun x => w1.heap.size ≤ x ∧ x < w2.heap.size) _ _ _ _) := hide (lst_win rd_In rl_In (sz := 1) (by decide) (by first | exact Nat.le_refl _ | simp) hlst)
  replace HW := hide hw
  clear hd hw ht HCL hlst hlq
  have hwl := HW.out.lt
  have HB := hide (Bo.new hwl [.int .i64 x1, .slice A2 x2.length c2, .slice none 0 0, .int .i64 0] 42)
  replace HT := hide (HT.out.trans (Rt.laid HW.out (.cells #[.int .i64 x1, .slice A2 x2.length c2, .slice none 0 0, .int .i64 0] 42)))
  replace HR := hide (HR.out.laid (.cells #[.int .i64 x1, .slice A2 x2.length c2, .slice none 0 0, .int .i64 0] 42))
  replace HL2 := hide (HL2.out.keep rd_In (Kp.alloc (.cells #[.int .i64 x1, .slice A2 x2.length c2, .slice none 0 0, .int .i64 0] 42)))
  replace HW := hide (HW.out.laid (.cells #[.int .i64 x1, .slice A2 x2.length c2, .slice none 0 0, .int .i64 0] 42))
  have HCL := hide (rcount_any F s2 e2 (w2.alloc (.cells #[.int .i64 x1, .slice A2 x2.length c2, .slice none 0 0, .int .i64 0] 42)) (by omega) HW.out)
  go_wp2_with fail
  refine HCL.out.mono ?_
  rintro en w3 ⟨_, m3, s3, e3, rfl, ⟨rfl, hm0, hm1⟩, hd, hw, ht⟩
  have HD3 := hide hd
  have hl3 : s3.length ≤ s2.length := hd.1
  have hz3 : w2.heap.size + 1 ≤ w3.heap.size := by have := ht.kp.1; simpa using this
  replace HT := hide (HT.out.trans ht)
  replace HR := hide (HR.out.keep ht)
  replace HB := hide (HB.out.keep ht)
  replace HL2 := hide (HL2.out.keep rd_In (ht.kp.less fun x hx => (by omega : x ≠ F)))
  replace HW := hide hw
  clear hd hw ht HCL
  have hwb : w2.heap.size < w3.heap.size := HB.out.lt
  go_wp2
  go_loopw [5] (fun i wr => ∃ j : Nat, i = .int .i64 j ∧ Hid (∃ u l s' e', Rw wr F s' e' ∧ Rt2 F w2.heap.size w3 wr ∧ Bo F wr w2.heap.size [.int .i64 x1, .slice A2 x2.length c2, u, .int .i64 0] ∧ Grw wr w3.heap.size 124 2 RPn u l ∧ De (pMany pPnt j) s3 e3 l s' e' ∧ l.length = j ∧ (j : Int) ≤ m3 ∧ s'.length ≤ s3.length)) (fun i _ => (m3 - intOf i).toNat)
  case atStart => exact ⟨0, rfl, hide ⟨_, [], s3, e3, HW.out, Rt2.refl, HB.out, Grw.nil, De.nil (Nat.le_refl _) (fun _ => rfl), rfl, by omega, Nat.le_refl _⟩⟩
  case round =>
    have HWo := HW
    have HTo := HT
    have HBo := HB
    clear HW HT HB
    obtain ⟨j, rfl, HR⟩ := hrel
    obtain ⟨u, l, s', e', hw, ht, hb, hg, hd, hj, hjn, hsl⟩ := HR.out
    obtain ⟨A, cp, rfl⟩ := hg.form
    have HW := hide hw
    have HT2 := hide ht
    have HB := hide hb
    have HG := hide hg
    have HDE := hide hd
    have HJ := hide hj
    have c1 := hw.c1
    have hwF : F < wr.heap.size := hw.lt
    have hcw : w3.heap.size ≤ wr.heap.size := ht.kp.1
    have hbl : w2.heap.size < w3.heap.size := HBo.out.lt
    have hFc : F < w3.heap.size := HWo.out.lt
    clear hw ht hg hd hj hb HR
    by_cases hlt : (j : Int) < m3
    · by_cases he : e' = 0
      · subst he
        have hlow := HG.out.low
        have HLOW := hide hlow
        have hlen : l.length < 1099511627776 := by have := HJ.out; omega
        have bq := HB.out.2.1 2 _ rfl
        have fq := HB.out.2.2 2 (by simp)
        have tok1 : True := trivial
        have tok2 : True := trivial
        clear hlow
        go_wp2_with fail
        go_region_law (first | (refine step_append_grw rd_Pn rl_Pn rfl _ _ 40 rfl w3.heap.size 124 i0Pn _ 16 Tryz.underlying40 hi0Pn hz0Pn [.int .i64 y1, .int .i64 y2] hz1Pn hz2Pn rfl (by simp) (.slice A l.length cp) _ (by rfl) (HG.out.keep rd_Pn (ht1.trans ht2) hFc) _ (by rfl) (by simp [Value.oneCell']) (⟨y1, y2⟩ : Pnt) (show RPn wa2 (wr.heap.size ≤ ·) [.int .i64 y1, .int .i64 y2] (⟨y1, y2⟩ : Pnt) from ⟨rfl, hg1, hg2⟩) hcw HLOW.out hlen (by decide) (Nat.le_trans hcw (ht1.trans ht2).kp.1) ?_; intro v2 w9 hg9 hb9 hs9; obtain ⟨A9, c9, hv9⟩ := hg9.form; simp only [List.length_append, List.length_cons, List.length_nil, Nat.zero_add] at hv9; subst hv9; have bx9 := bx2.low hb9 (by omega); have bq9 := bx9.2.1 2 _ rfl; have fq9 := bx9.2.2 2 (by simp)) | (go_simp; go_at_call 54; have _t := tok1; refine (rtake_any F s' 0 _ (by omega) HW.out.drew).mono ?_; rintro en wa1 ⟨_, y1, sa1, ea1, rfl, ⟨rfl, hg1⟩, hd1, hw1, ht1'⟩; have ht1 := ht1'.undrew; clear tok1; have bx1 := HB.out.keep ht1; have bq1 := bx1.2.1 2 _ rfl; have hbz1 := bx1.lt; have hsl1 := hd1.1) | (go_simp; go_at_call 54; have _t := tok2; refine (rtake_any F sa1 ea1 _ (by omega) hw1).mono ?_; rintro en wa2 ⟨_, y2, sa2, ea2, rfl, ⟨rfl, hg2⟩, hd2, hw2, ht2'⟩; have ht2 := ht2'; clear tok2; have bx2 := bx1.keep ht2; have bq2 := bx2.2.1 2 _ rfl; have hbz2 := bx2.lt; have hsl2 := hd2.1))
        all_goals
          have HR2 : Hid (∃ u k s' e', Rw (w9.setCell ⟨w2.heap.size, 2, none⟩ (.slice A9 (l.length + 1) c9)) F s' e' ∧ Rt2 F w2.heap.size w3 (w9.setCell ⟨w2.heap.size, 2, none⟩ (.slice A9 (l.length + 1) c9)) ∧ Bo F (w9.setCell ⟨w2.heap.size, 2, none⟩ (.slice A9 (l.length + 1) c9)) w2.heap.size [.int .i64 x1, .slice A2 x2.length c2, u, .int .i64 0] ∧ Grw (w9.setCell ⟨w2.heap.size, 2, none⟩ (.slice A9 (l.length + 1) c9)) w3.heap.size 124 2 RPn u k ∧ De (pMany pPnt (j + 1)) s3 e3 k s' e' ∧ k.length = j + 1 ∧ ((j + 1 : Nat) : Int) ≤ m3 ∧ s'.length ≤ s3.length) :=
            hide ⟨_, l ++ [(⟨y1, y2⟩ : Pnt)], _, _, (hw2.low hb9 hFc).far (b := w2.heap.size) (by omega) 2 _, ((HT2.out.trans (Rt2.of (ht1.trans ht2))).below hb9 (Nat.le_of_lt hFc)).set (by omega) 2 _, bx9.set (c := 2) (by simp) _, hg9.set rd_Pn hbl 2 _, HDE.out.snoc (show De pPnt _ _ _ _ _ by unfold pPnt; exact (hd1.bind (hd2.bind (De.ret _)))), by rw [List.length_append, HJ.out]; rfl, by omega, by omega⟩
          clear bq fq hg9 hb9 hs9 bx9 bq9 fq9 HLOW
          go_wp2
          go_roundw
          case rel => exact ⟨j + 1, by go_num, HR2⟩
          case measure => simp [intOf]; omega
      · have te : (e' == 0) = false := beq_eq_false_iff_ne.2 he
        have HDL4 : Hid (De (pL pPnt) s2 e2 l s' e') := hide (HD3.out.counted HDE.out hjn (.inr he))
        have hl4 : s'.length ≤ s2.length := HDL4.out.1
        have HL4 : Hid (Lst wr (fun x => w3.heap.size ≤ x ∧ x < wr.heap.size) _ _ _ _) := hide (lst_win rd_Pn rl_Pn (sz := 2) (by decide) (Nat.le_refl _) (HG.out.lst rd_Pn (by decide) (by have := HJ.out; unfold maxLen; omega)))
        have HQ4 : Hid (l.length ≤ 4096) := hide (by have := HJ.out; omega)
        have HT := hide (HTo.out.then2 (by omega) HT2.out)
        replace HR := hide (HR.out.keep2 (by omega) HT2.out)
        have hz4 : w3.heap.size ≤ wr.heap.size := HT2.out.kp.1
        replace HL2 := hide (lst_keep2 rd_In HL2.out HT2.out (by omega) (by omega))
        clear HWo HTo HBo HT2 HG HDE HJ hjn hsl hwF hcw hbl hFc hm0 hm1 hwb
        obtain ⟨w4, rfl⟩ : ∃ z : World, z = wr := ⟨_, rfl⟩
        obtain ⟨s4, rfl⟩ : ∃ z : Bs, z = s' := ⟨_, rfl⟩
        obtain ⟨e4, rfl⟩ : ∃ z : Int, z = e' := ⟨_, rfl⟩
        obtain ⟨x4, rfl⟩ : ∃ z, z = l := ⟨_, rfl⟩
        obtain ⟨A4, rfl⟩ : ∃ z, z = A := ⟨_, rfl⟩
        obtain ⟨c4, rfl⟩ : ∃ z, z = cp := ⟨_, rfl⟩
        have HCL := hide (rtake_any F s4 e4 w4 (by omega) HW.out)
        go_wp2_with fail
        refine HCL.out.mono ?_
        rintro en w5 ⟨_, x5, s5, e5, rfl, ⟨rfl, hg⟩, hd, hw, ht⟩
        have HD5 := hide hd
        have hl5 : s5.length ≤ s4.length := hd.1
        have HG5 := hide hg
        have hz5 : w4.heap.size ≤ w5.heap.size := by have := ht.kp.1; simpa using this
        replace HT := hide (HT.out.trans ht)
        replace HR := hide (HR.out.keep ht)
        replace HB := hide (HB.out.keep ht)
        replace HL2 := hide (HL2.out.keep rd_In (ht.kp.less fun x hx => (by omega : x ≠ F)))
        replace HL4 := hide (HL4.out.keep rd_Pn (ht.kp.less fun x hx => (by omega : x ≠ F)))
        replace HW := hide hw
        clear hd hw ht HCL hg
        obtain ⟨-, bb, bf⟩ := HB.out
        have b3 := bb 3 _ rfl
        have f3 := bf 3 (by simp)
        clear bb bf
        replace HW := hide (HW.out.far (b := w2.heap.size) (by omega) 3 (.int .i64 x5))
        replace HT := hide (HT.out.own (b := w2.heap.size) (by omega) hF 3 (.int .i64 x5))
        replace HR := hide (HR.out.far (b' := w2.heap.size) (by omega) 3 (.int .i64 x5))
        replace HB := hide (HB.out.set (c := 3) (by simp) (.int .i64 x5))
        replace HL2 := hide (HL2.out.keep rd_In (Kp.set ⟨w2.heap.size, 3, none⟩ (.int .i64 x5) (fun x hx => (by omega : x ≠ w2.heap.size))))
        replace HL4 := hide (HL4.out.keep rd_Pn (Kp.set ⟨w2.heap.size, 3, none⟩ (.int .i64 x5) (fun x hx => (by omega : x ≠ w2.heap.size))))
        obtain ⟨-, bb, bf⟩ := HB.out
        have b0 := bb 0 _ rfl
        have b1 := bb 1 _ rfl
        have b2 := bb 2 _ rfl
        have b3 := bb 3 _ rfl
        obtain ⟨-, rr, rf⟩ := HR.out
        have r0 := rr 0 _ rfl
        have g0 := rf 0 (by simp)
        have r1 := rr 1 _ rfl
        have g1 := rf 1 (by simp)
        have r2 := rr 2 _ rfl
        have g2 := rf 2 (by simp)
        have r3 := rr 3 _ rfl
        have g3 := rf 3 (by simp)
        clear bb bf rr rf
        have hrk : w.heap.size < w5.heap.size := by omega
        have hbk : w2.heap.size < w5.heap.size := by omega
        go_wp2
        refine bodyPost_ret (v := .agg #[.int .i64 x1, .slice A2 x2.length c2, .slice A4 x4.length c4, .int .i64 x5]) (by rw [results_c rfl]; go_simp) rfl ?_
        exact ⟨_, ⟨x1, x2, x4, x5⟩, s5, e5, rfl, ⟨_, rfl, ⟨_, _, rfl, (lst_out rd_In HL2.out (by exact ((((Kp.set ⟨w.heap.size, 0, none⟩ _ (fun (x : Nat) (hx : w1.heap.size ≤ x ∧ x < w2.heap.size) => (by omega : x ≠ w.heap.size))).trans (Kp.set ⟨w.heap.size, 1, none⟩ _ (fun (x : Nat) (hx : w1.heap.size ≤ x ∧ x < w2.heap.size) => (by omega : x ≠ w.heap.size)))).trans (Kp.set ⟨w.heap.size, 2, none⟩ _ (fun (x : Nat) (hx : w1.heap.size ≤ x ∧ x < w2.heap.size) => (by omega : x ≠ w.heap.size)))).trans (Kp.set ⟨w.heap.size, 3, none⟩ _ (fun (x : Nat) (hx : w1.heap.size ≤ x ∧ x < w2.heap.size) => (by omega : x ≠ w.heap.size))))) (by omega)), (lst_out rd_Pn HL4.out (by exact ((((Kp.set ⟨w.heap.size, 0, none⟩ _ (fun (x : Nat) (hx : w3.heap.size ≤ x ∧ x < w4.heap.size) => (by omega : x ≠ w.heap.size))).trans (Kp.set ⟨w.heap.size, 1, none⟩ _ (fun (x : Nat) (hx : w3.heap.size ≤ x ∧ x < w4.heap.size) => (by omega : x ≠ w.heap.size)))).trans (Kp.set ⟨w.heap.size, 2, none⟩ _ (fun (x : Nat) (hx : w3.heap.size ≤ x ∧ x < w4.heap.size) => (by omega : x ≠ w.heap.size)))).trans (Kp.set ⟨w.heap.size, 3, none⟩ _ (fun (x : Nat) (hx : w3.heap.size ≤ x ∧ x < w4.heap.size) => (by omega : x ≠ w.heap.size))))) (by omega)), HG1.out, HG5.out⟩⟩, by unfold pTrk; exact (HD1.out.bind (HD2.out.bind (HDL4.out.bind (HD5.out.bind (De.ret _))))), ((((HW.out.far (b := w.heap.size) (by omega) 0 _).far (b := w.heap.size) (by omega) 1 _).far (b := w.heap.size) (by omega) 2 _).far (b := w.heap.size) (by omega) 3 _), ((((HT.out.own (b := w.heap.size) (Nat.le_refl _) hF 0 _).own (b := w.heap.size) (Nat.le_refl _) hF 1 _).own (b := w.heap.size) (Nat.le_refl _) hF 2 _).own (b := w.heap.size) (Nat.le_refl _) hF 3 _)⟩
    · skip
      have HDL4 : Hid (De (pL pPnt) s2 e2 l s' e') := hide (HD3.out.counted HDE.out hjn (.inl (by omega)))
      have hl4 : s'.length ≤ s2.length := HDL4.out.1
      have HL4 : Hid (Lst wr (fun x => w3.heap.size ≤ x ∧ x < wr.heap.size) _ _ _ _) := hide (lst_win rd_Pn rl_Pn (sz := 2) (by decide) (Nat.le_refl _) (HG.out.lst rd_Pn (by decide) (by have := HJ.out; unfold maxLen; omega)))
      have HQ4 : Hid (l.length ≤ 4096) := hide (by have := HJ.out; omega)
      have HT := hide (HTo.out.then2 (by omega) HT2.out)
      replace HR := hide (HR.out.keep2 (by omega) HT2.out)
      have hz4 : w3.heap.size ≤ wr.heap.size := HT2.out.kp.1
      replace HL2 := hide (lst_keep2 rd_In HL2.out HT2.out (by omega) (by omega))
      clear HWo HTo HBo HT2 HG HDE HJ hjn hsl hwF hcw hbl hFc hm0 hm1 hwb
      obtain ⟨w4, rfl⟩ : ∃ z : World, z = wr := ⟨_, rfl⟩
      obtain ⟨s4, rfl⟩ : ∃ z : Bs, z = s' := ⟨_, rfl⟩
      obtain ⟨e4, rfl⟩ : ∃ z : Int, z = e' := ⟨_, rfl⟩
      obtain ⟨x4, rfl⟩ : ∃ z, z = l := ⟨_, rfl⟩
      obtain ⟨A4, rfl⟩ : ∃ z, z = A := ⟨_, rfl⟩
      obtain ⟨c4, rfl⟩ : ∃ z, z = cp := ⟨_, rfl⟩
      have HCL := hide (rtake_any F s4 e4 w4 (by omega) HW.out)
      go_wp2_with fail
      refine HCL.out.mono ?_
      rintro en w5 ⟨_, x5, s5, e5, rfl, ⟨rfl, hg⟩, hd, hw, ht⟩
      have HD5 := hide hd
      have hl5 : s5.length ≤ s4.length := hd.1
      have HG5 := hide hg
      have hz5 : w4.heap.size ≤ w5.heap.size := by have := ht.kp.1; simpa using this
      replace HT := hide (HT.out.trans ht)
      replace HR := hide (HR.out.keep ht)
      replace HB := hide (HB.out.keep ht)
      replace HL2 := hide (HL2.out.keep rd_In (ht.kp.less fun x hx => (by omega : x ≠ F)))
      replace HL4 := hide (HL4.out.keep rd_Pn (ht.kp.less fun x hx => (by omega : x ≠ F)))
      replace HW := hide hw
      clear hd hw ht HCL hg
      obtain ⟨-, bb, bf⟩ := HB.out
      have b3 := bb 3 _ rfl
      have f3 := bf 3 (by simp)
      clear bb bf
      replace HW := hide (HW.out.far (b := w2.heap.size) (by omega) 3 (.int .i64 x5))
      replace HT := hide (HT.out.own (b := w2.heap.size) (by omega) hF 3 (.int .i64 x5))
      replace HR := hide (HR.out.far (b' := w2.heap.size) (by omega) 3 (.int .i64 x5))
      replace HB := hide (HB.out.set (c := 3) (by simp) (.int .i64 x5))
      replace HL2 := hide (HL2.out.keep rd_In (Kp.set ⟨w2.heap.size, 3, none⟩ (.int .i64 x5) (fun x hx => (by omega : x ≠ w2.heap.size))))
      replace HL4 := hide (HL4.out.keep rd_Pn (Kp.set ⟨w2.heap.size, 3, none⟩ (.int .i64 x5) (fun x hx => (by omega : x ≠ w2.heap.size))))
      obtain ⟨-, bb, bf⟩ := HB.out
      have b0 := bb 0 _ rfl
      have b1 := bb 1 _ rfl
      have b2 := bb 2 _ rfl
      have b3 := bb 3 _ rfl
      obtain ⟨-, rr, rf⟩ := HR.out
      have r0 := rr 0 _ rfl
      have g0 := rf 0 (by simp)
      have r1 := rr 1 _ rfl
      have g1 := rf 1 (by simp)
      have r2 := rr 2 _ rfl
      have g2 := rf 2 (by simp)
      have r3 := rr 3 _ rfl
      have g3 := rf 3 (by simp)
      clear bb bf rr rf
      have hrk : w.heap.size < w5.heap.size := by omega
      have hbk : w2.heap.size < w5.heap.size := by omega
      go_wp2
      refine bodyPost_ret (v := .agg #[.int .i64 x1, .slice A2 x2.length c2, .slice A4 x4.length c4, .int .i64 x5]) (by rw [results_c rfl]; go_simp) rfl ?_
      exact ⟨_, ⟨x1, x2, x4, x5⟩, s5, e5, rfl, ⟨_, rfl, ⟨_, _, rfl, (lst_out rd_In HL2.out (by exact ((((Kp.set ⟨w.heap.size, 0, none⟩ _ (fun (x : Nat) (hx : w1.heap.size ≤ x ∧ x < w2.heap.size) => (by omega : x ≠ w.heap.size))).trans (Kp.set ⟨w.heap.size, 1, none⟩ _ (fun (x : Nat) (hx : w1.heap.size ≤ x ∧ x < w2.heap.size) => (by omega : x ≠ w.heap.size)))).trans (Kp.set ⟨w.heap.size, 2, none⟩ _ (fun (x : Nat) (hx : w1.heap.size ≤ x ∧ x < w2.heap.size) => (by omega : x ≠ w.heap.size)))).trans (Kp.set ⟨w.heap.size, 3, none⟩ _ (fun (x : Nat) (hx : w1.heap.size ≤ x ∧ x < w2.heap.size) => (by omega : x ≠ w.heap.size))))) (by omega)), (lst_out rd_Pn HL4.out (by exact ((((Kp.set ⟨w.heap.size, 0, none⟩ _ (fun (x : Nat) (hx : w3.heap.size ≤ x ∧ x < w4.heap.size) => (by omega : x ≠ w.heap.size))).trans (Kp.set ⟨w.heap.size, 1, none⟩ _ (fun (x : Nat) (hx : w3.heap.size ≤ x ∧ x < w4.heap.size) => (by omega : x ≠ w.heap.size)))).trans (Kp.set ⟨w.heap.size, 2, none⟩ _ (fun (x : Nat) (hx : w3.heap.size ≤ x ∧ x < w4.heap.size) => (by omega : x ≠ w.heap.size)))).trans (Kp.set ⟨w.heap.size, 3, none⟩ _ (fun (x : Nat) (hx : w3.heap.size ≤ x ∧ x < w4.heap.size) => (by omega : x ≠ w.heap.size))))) (by omega)), HG1.out, HG5.out⟩⟩, by unfold pTrk; exact (HD1.out.bind (HD2.out.bind (HDL4.out.bind (HD5.out.bind (De.ret _))))), ((((HW.out.far (b := w.heap.size) (by omega) 0 _).far (b := w.heap.size) (by omega) 1 _).far (b := w.heap.size) (by omega) 2 _).far (b := w.heap.size) (by omega) 3 _), ((((HT.out.own (b := w.heap.size) (Nat.le_refl _) hF 0 _).own (b := w.heap.size) (Nat.le_refl _) hF 1 _).own (b := w.heap.size) (Nat.le_refl _) hF 2 _).own (b := w.heap.size) (Nat.le_refl _) hF 3 _)⟩
end
end Go.Proofs.YtofdcgojgcnopaaGreat

namespace Go.Proofs.YtofdcgojgcnopaaGreat
open Go.RowKit
set_option linter.unusedVariables false
set_option linter.unusedSimpArgs false
section
variable (F : Nat) (s : Bs) (e : Int) (w : World)
set_option maxRecDepth 100000 in
set_option maxHeartbeats 16000000 in
theorem rtSn_any (hs : s.length ≤ 100000000) (h : Rw w F s e) : Calls Tryz.prog 24 #[.pointer (some ⟨F, 0, none⟩)] w (Rds F pSnp (RA RSn w.heap.size) s e w) := by
  have hF := h.lt
  obtain ⟨i0Rd, hi0Rd, hz0Rd, hz1Rd, hz2Rd⟩ := info_parts info_reader
  obtain ⟨i0Ky, hi0Ky, hz0Ky, hz1Ky, hz2Ky⟩ := info_parts info_keyed
  obtain ⟨i0Op, hi0Op, hz0Op, hz1Op, hz2Op⟩ := info_parts info_operator
  have HT := hide (Rt.laid h (.cells #[.int .i64 0, .slice none 0 0, .slice none 0 0] 25))
  have HR := hide (Bo.new hF [.int .i64 0, .slice none 0 0, .slice none 0 0] 25)
  have HW := hide (h.laid (.cells #[.int .i64 0, .slice none 0 0, .slice none 0 0] 25))
  clear h
  go_enter Tryz.func24, Tryz.ntmps24
  have HCL := hide (rtake_any F s e (w.alloc (.cells #[.int .i64 0, .slice none 0 0, .slice none 0 0] 25)) (by omega) HW.out)
  go_wp2_with fail
  refine HCL.out.mono ?_
  rintro en w1 ⟨_, x1, s1, e1, rfl, ⟨rfl, hg⟩, hd, hw, ht⟩
  have HD1 := hide hd
  have hl1 : s1.length ≤ s.length := hd.1
  have HG1 := hide hg
  have hz1 : w.heap.size + 1 ≤ w1.heap.size := by have := ht.kp.1; simpa using this
  replace HT := hide (HT.out.trans ht)
  replace HR := hide (HR.out.keep ht)
  replace HW := hide hw
  clear hd hw ht HCL hg
  have hwl := HW.out.lt
  have HB := hide (Bo.new hwl [.int .i64 x1, .slice none 0 0, .slice none 0 0] 25)
  replace HT := hide (HT.out.trans (Rt.laid HW.out (.cells #[.int .i64 x1, .slice none 0 0, .slice none 0 0] 25)))
  replace HR := hide (HR.out.laid (.cells #[.int .i64 x1, .slice none 0 0, .slice none 0 0] 25))
  replace HW := hide (HW.out.laid (.cells #[.int .i64 x1, .slice none 0 0, .slice none 0 0] 25))
  have HCL := hide (rcount_any F s1 e1 (w1.alloc (.cells #[.int .i64 x1, .slice none 0 0, .slice none 0 0] 25)) (by omega) HW.out)
  go_wp2_with fail
  refine HCL.out.mono ?_
  rintro en w2 ⟨_, m2, s2, e2, rfl, ⟨rfl, hm0, hm1⟩, hd, hw, ht⟩
  have HD2 := hide hd
  have hl2 : s2.length ≤ s1.length := hd.1
  have hz2 : w1.heap.size + 1 ≤ w2.heap.size := by have := ht.kp.1; simpa using this
  replace HT := hide (HT.out.trans ht)
  replace HR := hide (HR.out.keep ht)
  replace HB := hide (HB.out.keep ht)
  replace HW := hide hw
  clear hd hw ht HCL
  have hwb : w1.heap.size < w2.heap.size := HB.out.lt
  go_wp2
  go_loopw [5] (fun i wr => ∃ j : Nat, i = .int .i64 j ∧ Hid (∃ u l s' e', Rw wr F s' e' ∧ Rt2 F w1.heap.size w2 wr ∧ Bo F wr w1.heap.size [.int .i64 x1, u, .slice none 0 0] ∧ Grw wr w2.heap.size 44 6 RRd u l ∧ De (pMany pRdr j) s2 e2 l s' e' ∧ l.length = j ∧ (j : Int) ≤ m2 ∧ s'.length ≤ s2.length)) (fun i _ => (m2 - intOf i).toNat)
  case atStart => exact ⟨0, rfl, hide ⟨_, [], s2, e2, HW.out, Rt2.refl, HB.out, Grw.nil, De.nil (Nat.le_refl _) (fun _ => rfl), rfl, by omega, Nat.le_refl _⟩⟩
  case round =>
    have HWo := HW
    have HTo := HT
    have HBo := HB
    clear HW HT HB
    obtain ⟨j, rfl, HR⟩ := hrel
    obtain ⟨u, l, s', e', hw, ht, hb, hg, hd, hj, hjn, hsl⟩ := HR.out
    obtain ⟨A, cp, rfl⟩ := hg.form
    have HW := hide hw
    have HT2 := hide ht
    have HB := hide hb
    have HG := hide hg
    have HDE := hide hd
    have HJ := hide hj
    have c1 := hw.c1
    have hwF : F < wr.heap.size := hw.lt
    have hcw : w2.heap.size ≤ wr.heap.size := ht.kp.1
    have hbl : w1.heap.size < w2.heap.size := HBo.out.lt
    have hFc : F < w2.heap.size := HWo.out.lt
    clear hw ht hg hd hj hb HR
    by_cases hlt : (j : Int) < m2
    · by_cases he : e' = 0
      · subst he
        have hlow := HG.out.low
        have HLOW := hide hlow
        have hlen : l.length < 1099511627776 := by have := HJ.out; omega
        have bq := HB.out.2.1 1 _ rfl
        have fq := HB.out.2.2 1 (by simp)
        have tok1 : True := trivial
        have tok2 : True := trivial
        have tok3 : True := trivial
        clear hlow
        go_wp2_with fail
        go_region_law (first | (refine step_append_grw rd_Rd rl_Rd rfl _ _ 22 rfl w2.heap.size 44 i0Rd _ 80 Tryz.underlying22 hi0Rd hz0Rd [.int .i64 y1, .int .i64 y2, .int .i64 y3.next, .slice Aa3 y3.beyond.length ca3, .slice Ab3 y3.points.length cb3, .int .i64 y3.mark] hz1Rd hz2Rd rfl (by simp) (.slice A l.length cp) _ (by rfl) (HG.out.keep rd_Rd ((ht1.trans ht2).trans ht3) hFc) _ (by rfl) (by simp [Value.oneCell']) (⟨y1, y2, y3.next, y3.beyond, y3.points, y3.mark⟩ : Rdr) (show RRd wa3 (wr.heap.size ≤ ·) [.int .i64 y1, .int .i64 y2, .int .i64 y3.next, .slice Aa3 y3.beyond.length ca3, .slice Ab3 y3.points.length cb3, .int .i64 y3.mark] (⟨y1, y2, y3.next, y3.beyond, y3.points, y3.mark⟩ : Rdr) from ⟨_, _, rfl, hla3.more rd_In (fun b hb => Nat.le_trans (Nat.le_trans ht1.kp.1 ht2.kp.1) hb), hlb3.more rd_Pn (fun b hb => Nat.le_trans (Nat.le_trans ht1.kp.1 ht2.kp.1) hb), hg1, hg2, hg3.1, hg3.2⟩) hcw HLOW.out hlen (by decide) (Nat.le_trans hcw ((ht1.trans ht2).trans ht3).kp.1) ?_; intro v2 w9 hg9 hb9 hs9; obtain ⟨A9, c9, hv9⟩ := hg9.form; simp only [List.length_append, List.length_cons, List.length_nil, Nat.zero_add] at hv9; subst hv9; have bx9 := bx3.low hb9 (by omega); have bq9 := bx9.2.1 1 _ rfl; have fq9 := bx9.2.2 1 (by simp)) | (go_simp; go_at_call 54; have _t := tok1; refine (rtake_any F s' 0 _ (by omega) HW.out.drew).mono ?_; rintro en wa1 ⟨_, y1, sa1, ea1, rfl, ⟨rfl, hg1⟩, hd1, hw1, ht1'⟩; have ht1 := ht1'.undrew; clear tok1; have bx1 := HB.out.keep ht1; have bq1 := bx1.2.1 1 _ rfl; have hbz1 := bx1.lt; have hsl1 := hd1.1) | (go_simp; go_at_call 54; have _t := tok2; refine (rtake_any F sa1 ea1 _ (by omega) hw1).mono ?_; rintro en wa2 ⟨_, y2, sa2, ea2, rfl, ⟨rfl, hg2⟩, hd2, hw2, ht2'⟩; have ht2 := ht2'; clear tok2; have bx2 := bx1.keep ht2; have bq2 := bx2.2.1 1 _ rfl; have hbz2 := bx2.lt; have hsl2 := hd2.1) | (go_simp; go_at_call 56; have _t := tok3; refine (rtTr_any F sa2 ea2 _ (by omega) hw2).mono ?_; rintro en wa3 ⟨_, y3, sa3, ea3, rfl, ⟨_, rfl, va3, vb3, rfl, hla3, hlb3, hg3⟩, hd3, hw3, ht3'⟩; have ht3 := ht3'; obtain ⟨Aa3, ca3, rfl⟩ := hla3.form; obtain ⟨Ab3, cb3, rfl⟩ := hlb3.form; clear tok3; have bx3 := bx2.keep ht3; have bq3 := bx3.2.1 1 _ rfl; have hbz3 := bx3.lt; have hsl3 := hd3.1))
        all_goals
          have HR2 : Hid (∃ u k s' e', Rw (w9.setCell ⟨w1.heap.size, 1, none⟩ (.slice A9 (l.length + 1) c9)) F s' e' ∧ Rt2 F w1.heap.size w2 (w9.setCell ⟨w1.heap.size, 1, none⟩ (.slice A9 (l.length + 1) c9)) ∧ Bo F (w9.setCell ⟨w1.heap.size, 1, none⟩ (.slice A9 (l.length + 1) c9)) w1.heap.size [.int .i64 x1, u, .slice none 0 0] ∧ Grw (w9.setCell ⟨w1.heap.size, 1, none⟩ (.slice A9 (l.length + 1) c9)) w2.heap.size 44 6 RRd u k ∧ De (pMany pRdr (j + 1)) s2 e2 k s' e' ∧ k.length = j + 1 ∧ ((j + 1 : Nat) : Int) ≤ m2 ∧ s'.length ≤ s2.length) :=
            hide ⟨_, l ++ [(⟨y1, y2, y3.next, y3.beyond, y3.points, y3.mark⟩ : Rdr)], _, _, (hw3.low hb9 hFc).far (b := w1.heap.size) (by omega) 1 _, ((HT2.out.trans (Rt2.of ((ht1.trans ht2).trans ht3))).below hb9 (Nat.le_of_lt hFc)).set (by omega) 1 _, bx9.set (c := 1) (by simp) _, hg9.set rd_Rd hbl 1 _, HDE.out.snoc (show De pRdr _ _ _ _ _ by rw [pRdr_eq]; exact (hd1.bind (hd2.bind (hd3.bind (De.ret _))))), by rw [List.length_append, HJ.out]; rfl, by omega, by omega⟩
          clear bq fq hg9 hb9 hs9 bx9 bq9 fq9 HLOW
          go_wp2
          go_roundw
          case rel => exact ⟨j + 1, by go_num, HR2⟩
          case measure => simp [intOf]; omega
      · have te : (e' == 0) = false := beq_eq_false_iff_ne.2 he
        have HDL3 : Hid (De (pL pRdr) s1 e1 l s' e') := hide (HD2.out.counted HDE.out hjn (.inr he))
        have hl3 : s'.length ≤ s1.length := HDL3.out.1
        have HL3 : Hid (Lst wr (fun x => w2.heap.size ≤ x ∧ x < wr.heap.size) _ _ _ _) := hide (lst_win rd_Rd rl_Rd (sz := 6) (by decide) (Nat.le_refl _) (HG.out.lst rd_Rd (by decide) (by have := HJ.out; unfold maxLen; omega)))
        have HQ3 : Hid (l.length ≤ 4096) := hide (by have := HJ.out; omega)
        have HT := hide (HTo.out.then2 (by omega) HT2.out)
        replace HR := hide (HR.out.keep2 (by omega) HT2.out)
        have hz3 : w2.heap.size ≤ wr.heap.size := HT2.out.kp.1
        clear HWo HTo HBo HT2 HG HDE HJ hjn hsl hwF hcw hbl hFc hm0 hm1 hwb
        obtain ⟨w3, rfl⟩ : ∃ z : World, z = wr := ⟨_, rfl⟩
        obtain ⟨s3, rfl⟩ : ∃ z : Bs, z = s' := ⟨_, rfl⟩
        obtain ⟨e3, rfl⟩ : ∃ z : Int, z = e' := ⟨_, rfl⟩
        obtain ⟨x3, rfl⟩ : ∃ z, z = l := ⟨_, rfl⟩
        obtain ⟨A3, rfl⟩ : ∃ z, z = A := ⟨_, rfl⟩
        obtain ⟨c3, rfl⟩ : ∃ z, z = cp := ⟨_, rfl⟩
        have HCL := hide (rcount_any F s3 e3 w3 (by omega) HW.out)
        go_wp2_with fail
        refine HCL.out.mono ?_
        rintro en w4 ⟨_, m4, s4, e4, rfl, ⟨rfl, hm0, hm1⟩, hd, hw, ht⟩
        have HD4 := hide hd
        have hl4 : s4.length ≤ s3.length := hd.1
        have hz4 : w3.heap.size ≤ w4.heap.size := by have := ht.kp.1; simpa using this
        replace HT := hide (HT.out.trans ht)
        replace HR := hide (HR.out.keep ht)
        replace HB := hide (HB.out.keep ht)
        replace HL3 := hide (HL3.out.keep rd_Rd (ht.kp.less fun x hx => (by omega : x ≠ F)))
        replace HW := hide hw
        clear hd hw ht HCL
        have hwb : w1.heap.size < w4.heap.size := HB.out.lt
        go_wp2
        go_loopw [7] (fun i wr => ∃ j : Nat, i = .int .i64 j ∧ Hid (∃ u l s' e', Rw wr F s' e' ∧ Rt2 F w1.heap.size w4 wr ∧ Bo F wr w1.heap.size [.int .i64 x1, .slice A3 x3.length c3, u] ∧ Grw wr w4.heap.size 47 2 ROp u l ∧ De (pMany pOpr j) s4 e4 l s' e' ∧ l.length = j ∧ (j : Int) ≤ m4 ∧ s'.length ≤ s4.length)) (fun i _ => (m4 - intOf i).toNat)
        case atStart => exact ⟨0, rfl, hide ⟨_, [], s4, e4, HW.out, Rt2.refl, HB.out, Grw.nil, De.nil (Nat.le_refl _) (fun _ => rfl), rfl, by omega, Nat.le_refl _⟩⟩
        case round =>
          have HWo := HW
          have HTo := HT
          have HBo := HB
          have HRo := HR
          clear HW HT HB HR
          obtain ⟨j, rfl, HR⟩ := hrel
          obtain ⟨u, l, s', e', hw, ht, hb, hg, hd, hj, hjn, hsl⟩ := HR.out
          obtain ⟨A, cp, rfl⟩ := hg.form
          have HW := hide hw
          have HT2 := hide ht
          have HB := hide hb
          have HG := hide hg
          have HDE := hide hd
          have HJ := hide hj
          have c1 := hw.c1
          have hwF : F < wr.heap.size := hw.lt
          have hcw : w4.heap.size ≤ wr.heap.size := ht.kp.1
          have hbl : w1.heap.size < w4.heap.size := HBo.out.lt
          have hFc : F < w4.heap.size := HWo.out.lt
          clear hw ht hg hd hj hb HR
          by_cases hlt : (j : Int) < m4
          · by_cases he : e' = 0
            · subst he
              have hlow := HG.out.low
              have HLOWo := hide hlow
              have hlen : l.length < 1099511627776 := by have := HJ.out; omega
              have HT2o := HT2
              have HR := HB
              have HGo := HG
              have HDEo := HDE
              have HJo := HJ
              have hjno := hjn
              have hslo := hsl
              have hcwo := hcw
              have hblo := hbl
              have hFco := hFc
              obtain ⟨wo, rfl⟩ : ∃ z : World, z = wr := ⟨_, rfl⟩
              obtain ⟨so, rfl⟩ : ∃ z : Bs, z = s' := ⟨_, rfl⟩
              obtain ⟨lo, rfl⟩ : ∃ z, z = l := ⟨_, rfl⟩
              obtain ⟨Ao, rfl⟩ : ∃ z, z = A := ⟨_, rfl⟩
              obtain ⟨cpo, rfl⟩ : ∃ z, z = cp := ⟨_, rfl⟩
              obtain ⟨jo, rfl⟩ : ∃ z : Nat, z = j := ⟨_, rfl⟩
              have HT : Hid (Rt F wo wo) := hide Rt.refl
              clear HT2 HB HG HDE HJ hjn hsl hcw hbl hFc hlow HTo HRo HBo HWo
              have HCL := hide (rtI_any F so 0 wo (by omega) HW.out)
              go_wp2_with fail
              refine HCL.out.mono ?_
              rintro en w21 ⟨_, x21, s21, e21, rfl, ⟨hlst, hlq⟩, hd, hw, ht⟩
              have HD21 := hide hd
              have hl21 : s21.length ≤ so.length := hd.1
              obtain ⟨A21, c21, rfl⟩ := hlst.form
              have HQ21 := hide hlq
              have hz21 : wo.heap.size ≤ w21.heap.size := by have := ht.kp.1; simpa using this
              replace HT := hide (HT.out.trans ht)
              replace HR := hide (HR.out.keep ht)
              have HL21 : Hid (Lst w21 (fun x => wo.heap.size ≤ x ∧ x < w21.heap.size) _ _ _ _) := hide (lst_win rd_In rl_In (sz := 1) (by decide) (by first | exact Nat.le_refl _ | simp) hlst)
              replace HW := hide hw
              clear hd hw ht HCL hlst hlq
              have hwl := HW.out.lt
              have HB := hide (Bo.new hwl [.slice A21 x21.length c21, .slice none 0 0] 47)
              replace HT := hide (HT.out.trans (Rt.laid HW.out (.cells #[.slice A21 x21.length c21, .slice none 0 0] 47)))
              replace HR := hide (HR.out.laid (.cells #[.slice A21 x21.length c21, .slice none 0 0] 47))
              replace HL21 := hide (HL21.out.keep rd_In (Kp.alloc (.cells #[.slice A21 x21.length c21, .slice none 0 0] 47)))
              replace HW := hide (HW.out.laid (.cells #[.slice A21 x21.length c21, .slice none 0 0] 47))
              have HCL := hide (rcount_any F s21 e21 (w21.alloc (.cells #[.slice A21 x21.length c21, .slice none 0 0] 47)) (by omega) HW.out)
              go_wp2_with fail
              refine HCL.out.mono ?_
              rintro en w22 ⟨_, m22, s22, e22, rfl, ⟨rfl, hm0, hm1⟩, hd, hw, ht⟩
              have HD22 := hide hd
              have hl22 : s22.length ≤ s21.length := hd.1
              have hz22 : w21.heap.size + 1 ≤ w22.heap.size := by have := ht.kp.1; simpa using this
              replace HT := hide (HT.out.trans ht)
              replace HR := hide (HR.out.keep ht)
              replace HB := hide (HB.out.keep ht)
              replace HL21 := hide (HL21.out.keep rd_In (ht.kp.less fun x hx => (by omega : x ≠ F)))
              replace HW := hide hw
              clear hd hw ht HCL
              have hwb : w21.heap.size < w22.heap.size := HB.out.lt
              go_wp2
              go_loopw [10] (fun i wr => ∃ j : Nat, i = .int .i64 j ∧ Hid (∃ u l s' e', Rw wr F s' e' ∧ Rt2 F w21.heap.size w22 wr ∧ Bo F wr w21.heap.size [.slice A21 x21.length c21, u] ∧ Grw wr w22.heap.size 55 8 RKy u l ∧ De (pMany pKyd j) s22 e22 l s' e' ∧ l.length = j ∧ (j : Int) ≤ m22 ∧ s'.length ≤ s22.length)) (fun i _ => (m22 - intOf i).toNat)
              case atStart => exact ⟨0, rfl, hide ⟨_, [], s22, e22, HW.out, Rt2.refl, HB.out, Grw.nil, De.nil (Nat.le_refl _) (fun _ => rfl), rfl, by omega, Nat.le_refl _⟩⟩
              case round =>
                have HWi := HW
                have HTi := HT
                have HBi := HB
                clear HW HT HB
                obtain ⟨j, rfl, HR⟩ := hrel
                obtain ⟨u, l, s', e', hw, ht, hb, hg, hd, hj, hjn, hsl⟩ := HR.out
                obtain ⟨A, cp, rfl⟩ := hg.form
                have HW := hide hw
                have HT2 := hide ht
                have HB := hide hb
                have HG := hide hg
                have HDE := hide hd
                have HJ := hide hj
                have c1 := hw.c1
                have hwF : F < wr.heap.size := hw.lt
                have hcw : w22.heap.size ≤ wr.heap.size := ht.kp.1
                have hbl : w21.heap.size < w22.heap.size := HBi.out.lt
                have hFc : F < w22.heap.size := HWi.out.lt
                clear hw ht hg hd hj hb HR
                by_cases hlt : (j : Int) < m22
                · by_cases he : e' = 0
                  · subst he
                    have hlow := HG.out.low
                    have HLOW := hide hlow
                    have hlen : l.length < 1099511627776 := by have := HJ.out; omega
                    have bq := HB.out.2.1 1 _ rfl
                    have fq := HB.out.2.2 1 (by simp)
                    have tok1 : True := trivial
                    have tok2 : True := trivial
                    have tok3 : True := trivial
                    clear hlow
                    go_wp2_with fail
                    go_region_law (first | (refine step_append_grw rd_Ky rl_Ky rfl _ _ 45 rfl w22.heap.size 55 i0Ky _ 120 Tryz.underlying45 hi0Ky hz0Ky [.int .i64 y1, .int .i64 y2.q, .int .i64 y2.n, .string y2.s, .int .i64 y3.mark, .slice Aa3 y3.wait.length ca3, .slice Ab3 y3.runs.length cb3, .slice Ac3 y3.held.length cc3] hz1Ky hz2Ky rfl (by simp) (.slice A l.length cp) _ (by rfl) (HG.out.keep rd_Ky ((ht1.trans ht2).trans ht3) hFc) _ (by rfl) (by simp [Value.oneCell']) (⟨y1, ⟨y2.q, y2.n, y2.s⟩, y3⟩ : Kyd) (show RKy wa3 (wr.heap.size ≤ ·) [.int .i64 y1, .int .i64 y2.q, .int .i64 y2.n, .string y2.s, .int .i64 y3.mark, .slice Aa3 y3.wait.length ca3, .slice Ab3 y3.runs.length cb3, .slice Ac3 y3.held.length cc3] (⟨y1, ⟨y2.q, y2.n, y2.s⟩, y3⟩ : Kyd) from ⟨_, _, _, rfl, hla3.more rd_Ev0 (fun b hb => Nat.le_trans (Nat.le_trans ht1.kp.1 ht2.kp.1) hb), hlb3.more rd_Cf (fun b hb => Nat.le_trans (Nat.le_trans ht1.kp.1 ht2.kp.1) hb), hlc3.more rd_Ev0 (fun b hb => Nat.le_trans (Nat.le_trans ht1.kp.1 ht2.kp.1) hb), hg1, hg2, Nat.le_trans hxz2 (by decide), hg3⟩) hcw HLOW.out hlen (by decide) (Nat.le_trans hcw ((ht1.trans ht2).trans ht3).kp.1) ?_; intro v2 w9 hg9 hb9 hs9; obtain ⟨A9, c9, hv9⟩ := hg9.form; simp only [List.length_append, List.length_cons, List.length_nil, Nat.zero_add] at hv9; subst hv9; have bx9 := bx3.low hb9 (by omega); have bq9 := bx9.2.1 1 _ rfl; have fq9 := bx9.2.2 1 (by simp)) | (go_simp; go_at_call 54; have _t := tok1; refine (rtake_any F s' 0 _ (by omega) HW.out.drew).mono ?_; rintro en wa1 ⟨_, y1, sa1, ea1, rfl, ⟨rfl, hg1⟩, hd1, hw1, ht1'⟩; have ht1 := ht1'.undrew; clear tok1; have bx1 := HB.out.keep ht1; have bq1 := bx1.2.1 1 _ rfl; have hbz1 := bx1.lt; have hsl1 := hd1.1) | (go_simp; go_at_call 58; have _t := tok2; refine (rtv_any F sa1 ea1 _ (by omega) hw1).mono ?_; rintro en wa2 ⟨_, y2, sa2, ea2, rfl, ⟨rfl, hg2, hxz2⟩, hd2, hw2, ht2'⟩; have ht2 := ht2'; clear tok2; have bx2 := bx1.keep ht2; have bq2 := bx2.2.1 1 _ rfl; have hbz2 := bx2.lt; have hsl2 := hd2.1) | (go_simp; go_at_call 59; have _t := tok3; refine (rtEn_any F sa2 ea2 _ (by omega) hw2).mono ?_; rintro en wa3 ⟨_, y3, sa3, ea3, rfl, ⟨_, rfl, va3, vb3, vc3, rfl, hla3, hlb3, hlc3, hg3⟩, hd3, hw3, ht3'⟩; have ht3 := ht3'; obtain ⟨Aa3, ca3, rfl⟩ := hla3.form; obtain ⟨Ab3, cb3, rfl⟩ := hlb3.form; obtain ⟨Ac3, cc3, rfl⟩ := hlc3.form; clear tok3; have bx3 := bx2.keep ht3; have bq3 := bx3.2.1 1 _ rfl; have hbz3 := bx3.lt; have hsl3 := hd3.1))
                    all_goals
                      have HR2 : Hid (∃ u k s' e', Rw (w9.setCell ⟨w21.heap.size, 1, none⟩ (.slice A9 (l.length + 1) c9)) F s' e' ∧ Rt2 F w21.heap.size w22 (w9.setCell ⟨w21.heap.size, 1, none⟩ (.slice A9 (l.length + 1) c9)) ∧ Bo F (w9.setCell ⟨w21.heap.size, 1, none⟩ (.slice A9 (l.length + 1) c9)) w21.heap.size [.slice A21 x21.length c21, u] ∧ Grw (w9.setCell ⟨w21.heap.size, 1, none⟩ (.slice A9 (l.length + 1) c9)) w22.heap.size 55 8 RKy u k ∧ De (pMany pKyd (j + 1)) s22 e22 k s' e' ∧ k.length = j + 1 ∧ ((j + 1 : Nat) : Int) ≤ m22 ∧ s'.length ≤ s22.length) :=
                        hide ⟨_, l ++ [(⟨y1, ⟨y2.q, y2.n, y2.s⟩, y3⟩ : Kyd)], _, _, (hw3.low hb9 hFc).far (b := w21.heap.size) (by omega) 1 _, ((HT2.out.trans (Rt2.of ((ht1.trans ht2).trans ht3))).below hb9 (Nat.le_of_lt hFc)).set (by omega) 1 _, bx9.set (c := 1) (by simp) _, hg9.set rd_Ky hbl 1 _, HDE.out.snoc (show De pKyd _ _ _ _ _ by unfold pKyd; exact (hd1.bind (hd2.bind (hd3.bind (De.ret _))))), by rw [List.length_append, HJ.out]; rfl, by omega, by omega⟩
                      clear bq fq hg9 hb9 hs9 bx9 bq9 fq9 HLOW
                      go_wp2
                      go_roundw
                      case rel => exact ⟨j + 1, by go_num, HR2⟩
                      case measure => simp [intOf]; omega
                  · have te : (e' == 0) = false := beq_eq_false_iff_ne.2 he
                    have HDL23 : Hid (De (pL pKyd) s21 e21 l s' e') := hide (HD22.out.counted HDE.out hjn (.inr he))
                    have hl23 : s'.length ≤ s21.length := HDL23.out.1
                    have HL23 : Hid (Lst wr (fun x => w22.heap.size ≤ x ∧ x < wr.heap.size) _ _ _ _) := hide (lst_win rd_Ky rl_Ky (sz := 8) (by decide) (Nat.le_refl _) (HG.out.lst rd_Ky (by decide) (by have := HJ.out; unfold maxLen; omega)))
                    have HQ23 : Hid (l.length ≤ 4096) := hide (by have := HJ.out; omega)
                    have HT := hide (HTi.out.then2 (by omega) HT2.out)
                    replace HR := hide (HR.out.keep2 (by omega) HT2.out)
                    have hz23 : w22.heap.size ≤ wr.heap.size := HT2.out.kp.1
                    replace HL21 := hide (lst_keep2 rd_In HL21.out HT2.out (by omega) (by omega))
                    clear HWi HTi HBi HT2 HG HDE HJ hjn hsl hwF hcw hbl hFc hm0 hm1 hwb
                    obtain ⟨w23, rfl⟩ : ∃ z : World, z = wr := ⟨_, rfl⟩
                    obtain ⟨s23, rfl⟩ : ∃ z : Bs, z = s' := ⟨_, rfl⟩
                    obtain ⟨e23, rfl⟩ : ∃ z : Int, z = e' := ⟨_, rfl⟩
                    obtain ⟨x23, rfl⟩ : ∃ z, z = l := ⟨_, rfl⟩
                    obtain ⟨A23, rfl⟩ : ∃ z, z = A := ⟨_, rfl⟩
                    obtain ⟨c23, rfl⟩ : ∃ z, z = cp := ⟨_, rfl⟩
                    obtain ⟨-, bb, bf⟩ := HB.out
                    have b0 := bb 0 _ rfl
                    have b1 := bb 1 _ rfl
                    obtain ⟨-, rr, rf⟩ := HR.out
                    have bq := rr 2 _ rfl
                    have fq := rf 2 (by simp)
                    clear bb bf rr rf
                    have hrk := HR.out.lt
                    have hbk := HB.out.lt
                    have HX : Hid (ROp w23 (wo.heap.size ≤ ·) [.slice A21 x21.length c21, .slice A23 x23.length c23] (⟨x21, x23⟩ : Opr)) := hide ⟨_, _, rfl, (lst_out rd_In HL21.out Kp.refl (by omega)), (lst_out rd_Ky HL23.out Kp.refl (by omega))⟩
                    have HG3 := hide (HGo.out.keep rd_Op HT.out hFco)
                    have hszo := HT.out.kp.1
                    have hFx := HW.out.lt
                    go_wp2_with (go_loud (at_builtin; refine wpList_append_grw rd_Op rl_Op rfl _ _ 23 rfl w4.heap.size 47 i0Op _ 48 Tryz.underlying23 hi0Op hz0Op [.slice A21 x21.length c21, .slice A23 x23.length c23] hz1Op hz2Op rfl (by simp) (.slice Ao lo.length cpo) _ rfl HG3.out _ rfl (by simp [Value.oneCell']) (⟨x21, x23⟩ : Opr) HX.out hcwo HLOWo.out hlen (by decide) (Nat.le_trans hcwo hszo) ?_; intro v2 w9 hg9 hb9 hs9; obtain ⟨A9, c9, hv9⟩ := hg9.form; simp only [List.length_append, List.length_cons, List.length_nil, Nat.zero_add] at hv9; subst hv9; have bx9 := HR.out.low hb9 (by omega); have bq9 := bx9.2.1 2 _ rfl; have fq9 := bx9.2.2 2 (by simp)))
                    have HR2 : Hid (∃ u k s' e', Rw (w9.setCell ⟨w1.heap.size, 2, none⟩ (.slice A9 (lo.length + 1) c9)) F s' e' ∧ Rt2 F w1.heap.size w4 (w9.setCell ⟨w1.heap.size, 2, none⟩ (.slice A9 (lo.length + 1) c9)) ∧ Bo F (w9.setCell ⟨w1.heap.size, 2, none⟩ (.slice A9 (lo.length + 1) c9)) w1.heap.size [.int .i64 x1, .slice A3 x3.length c3, u] ∧ Grw (w9.setCell ⟨w1.heap.size, 2, none⟩ (.slice A9 (lo.length + 1) c9)) w4.heap.size 47 2 ROp u k ∧ De (pMany pOpr (jo + 1)) s4 e4 k s' e' ∧ k.length = jo + 1 ∧ ((jo + 1 : Nat) : Int) ≤ m4 ∧ s'.length ≤ s4.length) :=
                      hide ⟨_, lo ++ [(⟨x21, x23⟩ : Opr)], _, _, (HW.out.low hb9 hFco).far (b := w1.heap.size) (by omega) 2 _, ((HT2o.out.trans (Rt2.of HT.out)).below hb9 (Nat.le_of_lt hFco)).set (by omega) 2 _, bx9.set (c := 2) (by simp) _, hg9.set rd_Op hblo 2 _, HDEo.out.snoc (show De pOpr _ _ _ _ _ by unfold pOpr; exact (HD21.out.bind (HDL23.out.bind (De.ret _)))), by rw [List.length_append, HJo.out]; rfl, by omega, by omega⟩
                    clear hg9 hb9 hs9 HX HG3 bq fq bx9 bq9 fq9
                    go_wp2
                    go_roundw
                    case rel => exact ⟨jo + 1, by go_num, HR2⟩
                    case measure => simp [intOf]; omega
                · skip
                  have HDL23 : Hid (De (pL pKyd) s21 e21 l s' e') := hide (HD22.out.counted HDE.out hjn (.inl (by omega)))
                  have hl23 : s'.length ≤ s21.length := HDL23.out.1
                  have HL23 : Hid (Lst wr (fun x => w22.heap.size ≤ x ∧ x < wr.heap.size) _ _ _ _) := hide (lst_win rd_Ky rl_Ky (sz := 8) (by decide) (Nat.le_refl _) (HG.out.lst rd_Ky (by decide) (by have := HJ.out; unfold maxLen; omega)))
                  have HQ23 : Hid (l.length ≤ 4096) := hide (by have := HJ.out; omega)
                  have HT := hide (HTi.out.then2 (by omega) HT2.out)
                  replace HR := hide (HR.out.keep2 (by omega) HT2.out)
                  have hz23 : w22.heap.size ≤ wr.heap.size := HT2.out.kp.1
                  replace HL21 := hide (lst_keep2 rd_In HL21.out HT2.out (by omega) (by omega))
                  clear HWi HTi HBi HT2 HG HDE HJ hjn hsl hwF hcw hbl hFc hm0 hm1 hwb
                  obtain ⟨w23, rfl⟩ : ∃ z : World, z = wr := ⟨_, rfl⟩
                  obtain ⟨s23, rfl⟩ : ∃ z : Bs, z = s' := ⟨_, rfl⟩
                  obtain ⟨e23, rfl⟩ : ∃ z : Int, z = e' := ⟨_, rfl⟩
                  obtain ⟨x23, rfl⟩ : ∃ z, z = l := ⟨_, rfl⟩
                  obtain ⟨A23, rfl⟩ : ∃ z, z = A := ⟨_, rfl⟩
                  obtain ⟨c23, rfl⟩ : ∃ z, z = cp := ⟨_, rfl⟩
                  obtain ⟨-, bb, bf⟩ := HB.out
                  have b0 := bb 0 _ rfl
                  have b1 := bb 1 _ rfl
                  obtain ⟨-, rr, rf⟩ := HR.out
                  have bq := rr 2 _ rfl
                  have fq := rf 2 (by simp)
                  clear bb bf rr rf
                  have hrk := HR.out.lt
                  have hbk := HB.out.lt
                  have HX : Hid (ROp w23 (wo.heap.size ≤ ·) [.slice A21 x21.length c21, .slice A23 x23.length c23] (⟨x21, x23⟩ : Opr)) := hide ⟨_, _, rfl, (lst_out rd_In HL21.out Kp.refl (by omega)), (lst_out rd_Ky HL23.out Kp.refl (by omega))⟩
                  have HG3 := hide (HGo.out.keep rd_Op HT.out hFco)
                  have hszo := HT.out.kp.1
                  have hFx := HW.out.lt
                  go_wp2_with (go_loud (at_builtin; refine wpList_append_grw rd_Op rl_Op rfl _ _ 23 rfl w4.heap.size 47 i0Op _ 48 Tryz.underlying23 hi0Op hz0Op [.slice A21 x21.length c21, .slice A23 x23.length c23] hz1Op hz2Op rfl (by simp) (.slice Ao lo.length cpo) _ rfl HG3.out _ rfl (by simp [Value.oneCell']) (⟨x21, x23⟩ : Opr) HX.out hcwo HLOWo.out hlen (by decide) (Nat.le_trans hcwo hszo) ?_; intro v2 w9 hg9 hb9 hs9; obtain ⟨A9, c9, hv9⟩ := hg9.form; simp only [List.length_append, List.length_cons, List.length_nil, Nat.zero_add] at hv9; subst hv9; have bx9 := HR.out.low hb9 (by omega); have bq9 := bx9.2.1 2 _ rfl; have fq9 := bx9.2.2 2 (by simp)))
                  have HR2 : Hid (∃ u k s' e', Rw (w9.setCell ⟨w1.heap.size, 2, none⟩ (.slice A9 (lo.length + 1) c9)) F s' e' ∧ Rt2 F w1.heap.size w4 (w9.setCell ⟨w1.heap.size, 2, none⟩ (.slice A9 (lo.length + 1) c9)) ∧ Bo F (w9.setCell ⟨w1.heap.size, 2, none⟩ (.slice A9 (lo.length + 1) c9)) w1.heap.size [.int .i64 x1, .slice A3 x3.length c3, u] ∧ Grw (w9.setCell ⟨w1.heap.size, 2, none⟩ (.slice A9 (lo.length + 1) c9)) w4.heap.size 47 2 ROp u k ∧ De (pMany pOpr (jo + 1)) s4 e4 k s' e' ∧ k.length = jo + 1 ∧ ((jo + 1 : Nat) : Int) ≤ m4 ∧ s'.length ≤ s4.length) :=
                    hide ⟨_, lo ++ [(⟨x21, x23⟩ : Opr)], _, _, (HW.out.low hb9 hFco).far (b := w1.heap.size) (by omega) 2 _, ((HT2o.out.trans (Rt2.of HT.out)).below hb9 (Nat.le_of_lt hFco)).set (by omega) 2 _, bx9.set (c := 2) (by simp) _, hg9.set rd_Op hblo 2 _, HDEo.out.snoc (show De pOpr _ _ _ _ _ by unfold pOpr; exact (HD21.out.bind (HDL23.out.bind (De.ret _)))), by rw [List.length_append, HJo.out]; rfl, by omega, by omega⟩
                  clear hg9 hb9 hs9 HX HG3 bq fq bx9 bq9 fq9
                  go_wp2
                  go_roundw
                  case rel => exact ⟨jo + 1, by go_num, HR2⟩
                  case measure => simp [intOf]; omega
            · have te : (e' == 0) = false := beq_eq_false_iff_ne.2 he
              have HR := HRo
              have HDL5 : Hid (De (pL pOpr) s3 e3 l s' e') := hide (HD4.out.counted HDE.out hjn (.inr he))
              have hl5 : s'.length ≤ s3.length := HDL5.out.1
              have HL5 : Hid (Lst wr (fun x => w4.heap.size ≤ x ∧ x < wr.heap.size) _ _ _ _) := hide (lst_win rd_Op rl_Op (sz := 2) (by decide) (Nat.le_refl _) (HG.out.lst rd_Op (by decide) (by have := HJ.out; unfold maxLen; omega)))
              have HQ5 : Hid (l.length ≤ 4096) := hide (by have := HJ.out; omega)
              have HT := hide (HTo.out.then2 (by omega) HT2.out)
              replace HR := hide (HR.out.keep2 (by omega) HT2.out)
              have hz5 : w4.heap.size ≤ wr.heap.size := HT2.out.kp.1
              replace HL3 := hide (lst_keep2 rd_Rd HL3.out HT2.out (by omega) (by omega))
              clear HWo HTo HBo HRo HT2 HG HDE HJ hjn hsl hwF hcw hbl hFc hm0 hm1 hwb
              obtain ⟨w5, rfl⟩ : ∃ z : World, z = wr := ⟨_, rfl⟩
              obtain ⟨s5, rfl⟩ : ∃ z : Bs, z = s' := ⟨_, rfl⟩
              obtain ⟨e5, rfl⟩ : ∃ z : Int, z = e' := ⟨_, rfl⟩
              obtain ⟨x5, rfl⟩ : ∃ z, z = l := ⟨_, rfl⟩
              obtain ⟨A5, rfl⟩ : ∃ z, z = A := ⟨_, rfl⟩
              obtain ⟨c5, rfl⟩ : ∃ z, z = cp := ⟨_, rfl⟩
              obtain ⟨-, bb, bf⟩ := HB.out
              have b0 := bb 0 _ rfl
              have b1 := bb 1 _ rfl
              have b2 := bb 2 _ rfl
              obtain ⟨-, rr, rf⟩ := HR.out
              have r0 := rr 0 _ rfl
              have g0 := rf 0 (by simp)
              have r1 := rr 1 _ rfl
              have g1 := rf 1 (by simp)
              have r2 := rr 2 _ rfl
              have g2 := rf 2 (by simp)
              clear bb bf rr rf
              have hrk : w.heap.size < w5.heap.size := by omega
              have hbk : w1.heap.size < w5.heap.size := by omega
              go_wp2
              refine bodyPost_ret (v := .agg #[.int .i64 x1, .slice A3 x3.length c3, .slice A5 x5.length c5]) (by rw [results_c rfl]; go_simp) rfl ?_
              exact ⟨_, ⟨x1, x3, x5⟩, s5, e5, rfl, ⟨_, rfl, ⟨_, _, rfl, (lst_out rd_Rd HL3.out (by exact (((Kp.set ⟨w.heap.size, 0, none⟩ _ (fun (x : Nat) (hx : w2.heap.size ≤ x ∧ x < w3.heap.size) => (by omega : x ≠ w.heap.size))).trans (Kp.set ⟨w.heap.size, 1, none⟩ _ (fun (x : Nat) (hx : w2.heap.size ≤ x ∧ x < w3.heap.size) => (by omega : x ≠ w.heap.size)))).trans (Kp.set ⟨w.heap.size, 2, none⟩ _ (fun (x : Nat) (hx : w2.heap.size ≤ x ∧ x < w3.heap.size) => (by omega : x ≠ w.heap.size))))) (by omega)), (lst_out rd_Op HL5.out (by exact (((Kp.set ⟨w.heap.size, 0, none⟩ _ (fun (x : Nat) (hx : w4.heap.size ≤ x ∧ x < w5.heap.size) => (by omega : x ≠ w.heap.size))).trans (Kp.set ⟨w.heap.size, 1, none⟩ _ (fun (x : Nat) (hx : w4.heap.size ≤ x ∧ x < w5.heap.size) => (by omega : x ≠ w.heap.size)))).trans (Kp.set ⟨w.heap.size, 2, none⟩ _ (fun (x : Nat) (hx : w4.heap.size ≤ x ∧ x < w5.heap.size) => (by omega : x ≠ w.heap.size))))) (by omega)), HG1.out⟩⟩, by unfold pSnp; exact (HD1.out.bind (HDL3.out.bind (HDL5.out.bind (De.ret _)))), (((HW.out.far (b := w.heap.size) (by omega) 0 _).far (b := w.heap.size) (by omega) 1 _).far (b := w.heap.size) (by omega) 2 _), (((HT.out.own (b := w.heap.size) (Nat.le_refl _) hF 0 _).own (b := w.heap.size) (Nat.le_refl _) hF 1 _).own (b := w.heap.size) (Nat.le_refl _) hF 2 _)⟩
          · skip
            have HR := HRo
            have HDL5 : Hid (De (pL pOpr) s3 e3 l s' e') := hide (HD4.out.counted HDE.out hjn (.inl (by omega)))
            have hl5 : s'.length ≤ s3.length := HDL5.out.1
            have HL5 : Hid (Lst wr (fun x => w4.heap.size ≤ x ∧ x < wr.heap.size) _ _ _ _) := hide (lst_win rd_Op rl_Op (sz := 2) (by decide) (Nat.le_refl _) (HG.out.lst rd_Op (by decide) (by have := HJ.out; unfold maxLen; omega)))
            have HQ5 : Hid (l.length ≤ 4096) := hide (by have := HJ.out; omega)
            have HT := hide (HTo.out.then2 (by omega) HT2.out)
            replace HR := hide (HR.out.keep2 (by omega) HT2.out)
            have hz5 : w4.heap.size ≤ wr.heap.size := HT2.out.kp.1
            replace HL3 := hide (lst_keep2 rd_Rd HL3.out HT2.out (by omega) (by omega))
            clear HWo HTo HBo HRo HT2 HG HDE HJ hjn hsl hwF hcw hbl hFc hm0 hm1 hwb
            obtain ⟨w5, rfl⟩ : ∃ z : World, z = wr := ⟨_, rfl⟩
            obtain ⟨s5, rfl⟩ : ∃ z : Bs, z = s' := ⟨_, rfl⟩
            obtain ⟨e5, rfl⟩ : ∃ z : Int, z = e' := ⟨_, rfl⟩
            obtain ⟨x5, rfl⟩ : ∃ z, z = l := ⟨_, rfl⟩
            obtain ⟨A5, rfl⟩ : ∃ z, z = A := ⟨_, rfl⟩
            obtain ⟨c5, rfl⟩ : ∃ z, z = cp := ⟨_, rfl⟩
            obtain ⟨-, bb, bf⟩ := HB.out
            have b0 := bb 0 _ rfl
            have b1 := bb 1 _ rfl
            have b2 := bb 2 _ rfl
            obtain ⟨-, rr, rf⟩ := HR.out
            have r0 := rr 0 _ rfl
            have g0 := rf 0 (by simp)
            have r1 := rr 1 _ rfl
            have g1 := rf 1 (by simp)
            have r2 := rr 2 _ rfl
            have g2 := rf 2 (by simp)
            clear bb bf rr rf
            have hrk : w.heap.size < w5.heap.size := by omega
            have hbk : w1.heap.size < w5.heap.size := by omega
            go_wp2
            refine bodyPost_ret (v := .agg #[.int .i64 x1, .slice A3 x3.length c3, .slice A5 x5.length c5]) (by rw [results_c rfl]; go_simp) rfl ?_
            exact ⟨_, ⟨x1, x3, x5⟩, s5, e5, rfl, ⟨_, rfl, ⟨_, _, rfl, (lst_out rd_Rd HL3.out (by exact (((Kp.set ⟨w.heap.size, 0, none⟩ _ (fun (x : Nat) (hx : w2.heap.size ≤ x ∧ x < w3.heap.size) => (by omega : x ≠ w.heap.size))).trans (Kp.set ⟨w.heap.size, 1, none⟩ _ (fun (x : Nat) (hx : w2.heap.size ≤ x ∧ x < w3.heap.size) => (by omega : x ≠ w.heap.size)))).trans (Kp.set ⟨w.heap.size, 2, none⟩ _ (fun (x : Nat) (hx : w2.heap.size ≤ x ∧ x < w3.heap.size) => (by omega : x ≠ w.heap.size))))) (by omega)), (lst_out rd_Op HL5.out (by exact (((Kp.set ⟨w.heap.size, 0, none⟩ _ (fun (x : Nat) (hx : w4.heap.size ≤ x ∧ x < w5.heap.size) => (by omega : x ≠ w.heap.size))).trans (Kp.set ⟨w.heap.size, 1, none⟩ _ (fun (x : Nat) (hx : w4.heap.size ≤ x ∧ x < w5.heap.size) => (by omega : x ≠ w.heap.size)))).trans (Kp.set ⟨w.heap.size, 2, none⟩ _ (fun (x : Nat) (hx : w4.heap.size ≤ x ∧ x < w5.heap.size) => (by omega : x ≠ w.heap.size))))) (by omega)), HG1.out⟩⟩, by unfold pSnp; exact (HD1.out.bind (HDL3.out.bind (HDL5.out.bind (De.ret _)))), (((HW.out.far (b := w.heap.size) (by omega) 0 _).far (b := w.heap.size) (by omega) 1 _).far (b := w.heap.size) (by omega) 2 _), (((HT.out.own (b := w.heap.size) (Nat.le_refl _) hF 0 _).own (b := w.heap.size) (Nat.le_refl _) hF 1 _).own (b := w.heap.size) (Nat.le_refl _) hF 2 _)⟩
    · skip
      have HDL3 : Hid (De (pL pRdr) s1 e1 l s' e') := hide (HD2.out.counted HDE.out hjn (.inl (by omega)))
      have hl3 : s'.length ≤ s1.length := HDL3.out.1
      have HL3 : Hid (Lst wr (fun x => w2.heap.size ≤ x ∧ x < wr.heap.size) _ _ _ _) := hide (lst_win rd_Rd rl_Rd (sz := 6) (by decide) (Nat.le_refl _) (HG.out.lst rd_Rd (by decide) (by have := HJ.out; unfold maxLen; omega)))
      have HQ3 : Hid (l.length ≤ 4096) := hide (by have := HJ.out; omega)
      have HT := hide (HTo.out.then2 (by omega) HT2.out)
      replace HR := hide (HR.out.keep2 (by omega) HT2.out)
      have hz3 : w2.heap.size ≤ wr.heap.size := HT2.out.kp.1
      clear HWo HTo HBo HT2 HG HDE HJ hjn hsl hwF hcw hbl hFc hm0 hm1 hwb
      obtain ⟨w3, rfl⟩ : ∃ z : World, z = wr := ⟨_, rfl⟩
      obtain ⟨s3, rfl⟩ : ∃ z : Bs, z = s' := ⟨_, rfl⟩
      obtain ⟨e3, rfl⟩ : ∃ z : Int, z = e' := ⟨_, rfl⟩
      obtain ⟨x3, rfl⟩ : ∃ z, z = l := ⟨_, rfl⟩
      obtain ⟨A3, rfl⟩ : ∃ z, z = A := ⟨_, rfl⟩
      obtain ⟨c3, rfl⟩ : ∃ z, z = cp := ⟨_, rfl⟩
      have HCL := hide (rcount_any F s3 e3 w3 (by omega) HW.out)
      go_wp2_with fail
      refine HCL.out.mono ?_
      rintro en w4 ⟨_, m4, s4, e4, rfl, ⟨rfl, hm0, hm1⟩, hd, hw, ht⟩
      have HD4 := hide hd
      have hl4 : s4.length ≤ s3.length := hd.1
      have hz4 : w3.heap.size ≤ w4.heap.size := by have := ht.kp.1; simpa using this
      replace HT := hide (HT.out.trans ht)
      replace HR := hide (HR.out.keep ht)
      replace HB := hide (HB.out.keep ht)
      replace HL3 := hide (HL3.out.keep rd_Rd (ht.kp.less fun x hx => (by omega : x ≠ F)))
      replace HW := hide hw
      clear hd hw ht HCL
      have hwb : w1.heap.size < w4.heap.size := HB.out.lt
      go_wp2
      go_loopw [7] (fun i wr => ∃ j : Nat, i = .int .i64 j ∧ Hid (∃ u l s' e', Rw wr F s' e' ∧ Rt2 F w1.heap.size w4 wr ∧ Bo F wr w1.heap.size [.int .i64 x1, .slice A3 x3.length c3, u] ∧ Grw wr w4.heap.size 47 2 ROp u l ∧ De (pMany pOpr j) s4 e4 l s' e' ∧ l.length = j ∧ (j : Int) ≤ m4 ∧ s'.length ≤ s4.length)) (fun i _ => (m4 - intOf i).toNat)
      case atStart => exact ⟨0, rfl, hide ⟨_, [], s4, e4, HW.out, Rt2.refl, HB.out, Grw.nil, De.nil (Nat.le_refl _) (fun _ => rfl), rfl, by omega, Nat.le_refl _⟩⟩
      case round =>
        have HWo := HW
        have HTo := HT
        have HBo := HB
        have HRo := HR
        clear HW HT HB HR
        obtain ⟨j, rfl, HR⟩ := hrel
        obtain ⟨u, l, s', e', hw, ht, hb, hg, hd, hj, hjn, hsl⟩ := HR.out
        obtain ⟨A, cp, rfl⟩ := hg.form
        have HW := hide hw
        have HT2 := hide ht
        have HB := hide hb
        have HG := hide hg
        have HDE := hide hd
        have HJ := hide hj
        have c1 := hw.c1
        have hwF : F < wr.heap.size := hw.lt
        have hcw : w4.heap.size ≤ wr.heap.size := ht.kp.1
        have hbl : w1.heap.size < w4.heap.size := HBo.out.lt
        have hFc : F < w4.heap.size := HWo.out.lt
        clear hw ht hg hd hj hb HR
        by_cases hlt : (j : Int) < m4
        · by_cases he : e' = 0
          · subst he
            have hlow := HG.out.low
            have HLOWo := hide hlow
            have hlen : l.length < 1099511627776 := by have := HJ.out; omega
            have HT2o := HT2
            have HR := HB
            have HGo := HG
            have HDEo := HDE
            have HJo := HJ
            have hjno := hjn
            have hslo := hsl
            have hcwo := hcw
            have hblo := hbl
            have hFco := hFc
            obtain ⟨wo, rfl⟩ : ∃ z : World, z = wr := ⟨_, rfl⟩
            obtain ⟨so, rfl⟩ : ∃ z : Bs, z = s' := ⟨_, rfl⟩
            obtain ⟨lo, rfl⟩ : ∃ z, z = l := ⟨_, rfl⟩
            obtain ⟨Ao, rfl⟩ : ∃ z, z = A := ⟨_, rfl⟩
            obtain ⟨cpo, rfl⟩ : ∃ z, z = cp := ⟨_, rfl⟩
            obtain ⟨jo, rfl⟩ : ∃ z : Nat, z = j := ⟨_, rfl⟩
            have HT : Hid (Rt F wo wo) := hide Rt.refl
            clear HT2 HB HG HDE HJ hjn hsl hcw hbl hFc hlow HTo HRo HBo HWo
            have HCL := hide (rtI_any F so 0 wo (by omega) HW.out)
            go_wp2_with fail
            refine HCL.out.mono ?_
            rintro en w21 ⟨_, x21, s21, e21, rfl, ⟨hlst, hlq⟩, hd, hw, ht⟩
            have HD21 := hide hd
            have hl21 : s21.length ≤ so.length := hd.1
            obtain ⟨A21, c21, rfl⟩ := hlst.form
            have HQ21 := hide hlq
            have hz21 : wo.heap.size ≤ w21.heap.size := by have := ht.kp.1; simpa using this
            replace HT := hide (HT.out.trans ht)
            replace HR := hide (HR.out.keep ht)
            have HL21 : Hid (Lst w21 (fun x => wo.heap.size ≤ x ∧ x < w21.heap.size) _ _ _ _) := hide (lst_win rd_In rl_In (sz := 1) (by decide) (by first | exact Nat.le_refl _ | simp) hlst)
            replace HW := hide hw
            clear hd hw ht HCL hlst hlq
            have hwl := HW.out.lt
            have HB := hide (Bo.new hwl [.slice A21 x21.length c21, .slice none 0 0] 47)
            replace HT := hide (HT.out.trans (Rt.laid HW.out (.cells #[.slice A21 x21.length c21, .slice none 0 0] 47)))
            replace HR := hide (HR.out.laid (.cells #[.slice A21 x21.length c21, .slice none 0 0] 47))
            replace HL21 := hide (HL21.out.keep rd_In (Kp.alloc (.cells #[.slice A21 x21.length c21, .slice none 0 0] 47)))
            replace HW := hide (HW.out.laid (.cells #[.slice A21 x21.length c21, .slice none 0 0] 47))
            have HCL := hide (rcount_any F s21 e21 (w21.alloc (.cells #[.slice A21 x21.length c21, .slice none 0 0] 47)) (by omega) HW.out)
            go_wp2_with fail
            refine HCL.out.mono ?_
            rintro en w22 ⟨_, m22, s22, e22, rfl, ⟨rfl, hm0, hm1⟩, hd, hw, ht⟩
            have HD22 := hide hd
            have hl22 : s22.length ≤ s21.length := hd.1
            have hz22 : w21.heap.size + 1 ≤ w22.heap.size := by have := ht.kp.1; simpa using this
            replace HT := hide (HT.out.trans ht)
            replace HR := hide (HR.out.keep ht)
            replace HB := hide (HB.out.keep ht)
            replace HL21 := hide (HL21.out.keep rd_In (ht.kp.less fun x hx => (by omega : x ≠ F)))
            replace HW := hide hw
            clear hd hw ht HCL
            have hwb : w21.heap.size < w22.heap.size := HB.out.lt
            go_wp2
            go_loopw [10] (fun i wr => ∃ j : Nat, i = .int .i64 j ∧ Hid (∃ u l s' e', Rw wr F s' e' ∧ Rt2 F w21.heap.size w22 wr ∧ Bo F wr w21.heap.size [.slice A21 x21.length c21, u] ∧ Grw wr w22.heap.size 55 8 RKy u l ∧ De (pMany pKyd j) s22 e22 l s' e' ∧ l.length = j ∧ (j : Int) ≤ m22 ∧ s'.length ≤ s22.length)) (fun i _ => (m22 - intOf i).toNat)
            case atStart => exact ⟨0, rfl, hide ⟨_, [], s22, e22, HW.out, Rt2.refl, HB.out, Grw.nil, De.nil (Nat.le_refl _) (fun _ => rfl), rfl, by omega, Nat.le_refl _⟩⟩
            case round =>
              have HWi := HW
              have HTi := HT
              have HBi := HB
              clear HW HT HB
              obtain ⟨j, rfl, HR⟩ := hrel
              obtain ⟨u, l, s', e', hw, ht, hb, hg, hd, hj, hjn, hsl⟩ := HR.out
              obtain ⟨A, cp, rfl⟩ := hg.form
              have HW := hide hw
              have HT2 := hide ht
              have HB := hide hb
              have HG := hide hg
              have HDE := hide hd
              have HJ := hide hj
              have c1 := hw.c1
              have hwF : F < wr.heap.size := hw.lt
              have hcw : w22.heap.size ≤ wr.heap.size := ht.kp.1
              have hbl : w21.heap.size < w22.heap.size := HBi.out.lt
              have hFc : F < w22.heap.size := HWi.out.lt
              clear hw ht hg hd hj hb HR
              by_cases hlt : (j : Int) < m22
              · by_cases he : e' = 0
                · subst he
                  have hlow := HG.out.low
                  have HLOW := hide hlow
                  have hlen : l.length < 1099511627776 := by have := HJ.out; omega
                  have bq := HB.out.2.1 1 _ rfl
                  have fq := HB.out.2.2 1 (by simp)
                  have tok1 : True := trivial
                  have tok2 : True := trivial
                  have tok3 : True := trivial
                  clear hlow
                  go_wp2_with fail
                  go_region_law (first | (refine step_append_grw rd_Ky rl_Ky rfl _ _ 45 rfl w22.heap.size 55 i0Ky _ 120 Tryz.underlying45 hi0Ky hz0Ky [.int .i64 y1, .int .i64 y2.q, .int .i64 y2.n, .string y2.s, .int .i64 y3.mark, .slice Aa3 y3.wait.length ca3, .slice Ab3 y3.runs.length cb3, .slice Ac3 y3.held.length cc3] hz1Ky hz2Ky rfl (by simp) (.slice A l.length cp) _ (by rfl) (HG.out.keep rd_Ky ((ht1.trans ht2).trans ht3) hFc) _ (by rfl) (by simp [Value.oneCell']) (⟨y1, ⟨y2.q, y2.n, y2.s⟩, y3⟩ : Kyd) (show RKy wa3 (wr.heap.size ≤ ·) [.int .i64 y1, .int .i64 y2.q, .int .i64 y2.n, .string y2.s, .int .i64 y3.mark, .slice Aa3 y3.wait.length ca3, .slice Ab3 y3.runs.length cb3, .slice Ac3 y3.held.length cc3] (⟨y1, ⟨y2.q, y2.n, y2.s⟩, y3⟩ : Kyd) from ⟨_, _, _, rfl, hla3.more rd_Ev0 (fun b hb => Nat.le_trans (Nat.le_trans ht1.kp.1 ht2.kp.1) hb), hlb3.more rd_Cf (fun b hb => Nat.le_trans (Nat.le_trans ht1.kp.1 ht2.kp.1) hb), hlc3.more rd_Ev0 (fun b hb => Nat.le_trans (Nat.le_trans ht1.kp.1 ht2.kp.1) hb), hg1, hg2, Nat.le_trans hxz2 (by decide), hg3⟩) hcw HLOW.out hlen (by decide) (Nat.le_trans hcw ((ht1.trans ht2).trans ht3).kp.1) ?_; intro v2 w9 hg9 hb9 hs9; obtain ⟨A9, c9, hv9⟩ := hg9.form; simp only [List.length_append, List.length_cons, List.length_nil, Nat.zero_add] at hv9; subst hv9; have bx9 := bx3.low hb9 (by omega); have bq9 := bx9.2.1 1 _ rfl; have fq9 := bx9.2.2 1 (by simp)) | (go_simp; go_at_call 54; have _t := tok1; refine (rtake_any F s' 0 _ (by omega) HW.out.drew).mono ?_; rintro en wa1 ⟨_, y1, sa1, ea1, rfl, ⟨rfl, hg1⟩, hd1, hw1, ht1'⟩; have ht1 := ht1'.undrew; clear tok1; have bx1 := HB.out.keep ht1; have bq1 := bx1.2.1 1 _ rfl; have hbz1 := bx1.lt; have hsl1 := hd1.1) | (go_simp; go_at_call 58; have _t := tok2; refine (rtv_any F sa1 ea1 _ (by omega) hw1).mono ?_; rintro en wa2 ⟨_, y2, sa2, ea2, rfl, ⟨rfl, hg2, hxz2⟩, hd2, hw2, ht2'⟩; have ht2 := ht2'; clear tok2; have bx2 := bx1.keep ht2; have bq2 := bx2.2.1 1 _ rfl; have hbz2 := bx2.lt; have hsl2 := hd2.1) | (go_simp; go_at_call 59; have _t := tok3; refine (rtEn_any F sa2 ea2 _ (by omega) hw2).mono ?_; rintro en wa3 ⟨_, y3, sa3, ea3, rfl, ⟨_, rfl, va3, vb3, vc3, rfl, hla3, hlb3, hlc3, hg3⟩, hd3, hw3, ht3'⟩; have ht3 := ht3'; obtain ⟨Aa3, ca3, rfl⟩ := hla3.form; obtain ⟨Ab3, cb3, rfl⟩ := hlb3.form; obtain ⟨Ac3, cc3, rfl⟩ := hlc3.form; clear tok3; have bx3 := bx2.keep ht3; have bq3 := bx3.2.1 1 _ rfl; have hbz3 := bx3.lt; have hsl3 := hd3.1))
                  all_goals
                    have HR2 : Hid (∃ u k s' e', Rw (w9.setCell ⟨w21.heap.size, 1, none⟩ (.slice A9 (l.length + 1) c9)) F s' e' ∧ Rt2 F w21.heap.size w22 (w9.setCell ⟨w21.heap.size, 1, none⟩ (.slice A9 (l.length + 1) c9)) ∧ Bo F (w9.setCell ⟨w21.heap.size, 1, none⟩ (.slice A9 (l.length + 1) c9)) w21.heap.size [.slice A21 x21.length c21, u] ∧ Grw (w9.setCell ⟨w21.heap.size, 1, none⟩ (.slice A9 (l.length + 1) c9)) w22.heap.size 55 8 RKy u k ∧ De (pMany pKyd (j + 1)) s22 e22 k s' e' ∧ k.length = j + 1 ∧ ((j + 1 : Nat) : Int) ≤ m22 ∧ s'.length ≤ s22.length) :=
                      hide ⟨_, l ++ [(⟨y1, ⟨y2.q, y2.n, y2.s⟩, y3⟩ : Kyd)], _, _, (hw3.low hb9 hFc).far (b := w21.heap.size) (by omega) 1 _, ((HT2.out.trans (Rt2.of ((ht1.trans ht2).trans ht3))).below hb9 (Nat.le_of_lt hFc)).set (by omega) 1 _, bx9.set (c := 1) (by simp) _, hg9.set rd_Ky hbl 1 _, HDE.out.snoc (show De pKyd _ _ _ _ _ by unfold pKyd; exact (hd1.bind (hd2.bind (hd3.bind (De.ret _))))), by rw [List.length_append, HJ.out]; rfl, by omega, by omega⟩
                    clear bq fq hg9 hb9 hs9 bx9 bq9 fq9 HLOW
                    go_wp2
                    go_roundw
                    case rel => exact ⟨j + 1, by go_num, HR2⟩
                    case measure => simp [intOf]; omega
                · have te : (e' == 0) = false := beq_eq_false_iff_ne.2 he
                  have HDL23 : Hid (De (pL pKyd) s21 e21 l s' e') := hide (HD22.out.counted HDE.out hjn (.inr he))
                  have hl23 : s'.length ≤ s21.length := HDL23.out.1
                  have HL23 : Hid (Lst wr (fun x => w22.heap.size ≤ x ∧ x < wr.heap.size) _ _ _ _) := hide (lst_win rd_Ky rl_Ky (sz := 8) (by decide) (Nat.le_refl _) (HG.out.lst rd_Ky (by decide) (by have := HJ.out; unfold maxLen; omega)))
                  have HQ23 : Hid (l.length ≤ 4096) := hide (by have := HJ.out; omega)
                  have HT := hide (HTi.out.then2 (by omega) HT2.out)
                  replace HR := hide (HR.out.keep2 (by omega) HT2.out)
                  have hz23 : w22.heap.size ≤ wr.heap.size := HT2.out.kp.1
                  replace HL21 := hide (lst_keep2 rd_In HL21.out HT2.out (by omega) (by omega))
                  clear HWi HTi HBi HT2 HG HDE HJ hjn hsl hwF hcw hbl hFc hm0 hm1 hwb
                  obtain ⟨w23, rfl⟩ : ∃ z : World, z = wr := ⟨_, rfl⟩
                  obtain ⟨s23, rfl⟩ : ∃ z : Bs, z = s' := ⟨_, rfl⟩
                  obtain ⟨e23, rfl⟩ : ∃ z : Int, z = e' := ⟨_, rfl⟩
                  obtain ⟨x23, rfl⟩ : ∃ z, z = l := ⟨_, rfl⟩
                  obtain ⟨A23, rfl⟩ : ∃ z, z = A := ⟨_, rfl⟩
                  obtain ⟨c23, rfl⟩ : ∃ z, z = cp := ⟨_, rfl⟩
                  obtain ⟨-, bb, bf⟩ := HB.out
                  have b0 := bb 0 _ rfl
                  have b1 := bb 1 _ rfl
                  obtain ⟨-, rr, rf⟩ := HR.out
                  have bq := rr 2 _ rfl
                  have fq := rf 2 (by simp)
                  clear bb bf rr rf
                  have hrk := HR.out.lt
                  have hbk := HB.out.lt
                  have HX : Hid (ROp w23 (wo.heap.size ≤ ·) [.slice A21 x21.length c21, .slice A23 x23.length c23] (⟨x21, x23⟩ : Opr)) := hide ⟨_, _, rfl, (lst_out rd_In HL21.out Kp.refl (by omega)), (lst_out rd_Ky HL23.out Kp.refl (by omega))⟩
                  have HG3 := hide (HGo.out.keep rd_Op HT.out hFco)
                  have hszo := HT.out.kp.1
                  have hFx := HW.out.lt
                  go_wp2_with (go_loud (at_builtin; refine wpList_append_grw rd_Op rl_Op rfl _ _ 23 rfl w4.heap.size 47 i0Op _ 48 Tryz.underlying23 hi0Op hz0Op [.slice A21 x21.length c21, .slice A23 x23.length c23] hz1Op hz2Op rfl (by simp) (.slice Ao lo.length cpo) _ rfl HG3.out _ rfl (by simp [Value.oneCell']) (⟨x21, x23⟩ : Opr) HX.out hcwo HLOWo.out hlen (by decide) (Nat.le_trans hcwo hszo) ?_; intro v2 w9 hg9 hb9 hs9; obtain ⟨A9, c9, hv9⟩ := hg9.form; simp only [List.length_append, List.length_cons, List.length_nil, Nat.zero_add] at hv9; subst hv9; have bx9 := HR.out.low hb9 (by omega); have bq9 := bx9.2.1 2 _ rfl; have fq9 := bx9.2.2 2 (by simp)))
                  have HR2 : Hid (∃ u k s' e', Rw (w9.setCell ⟨w1.heap.size, 2, none⟩ (.slice A9 (lo.length + 1) c9)) F s' e' ∧ Rt2 F w1.heap.size w4 (w9.setCell ⟨w1.heap.size, 2, none⟩ (.slice A9 (lo.length + 1) c9)) ∧ Bo F (w9.setCell ⟨w1.heap.size, 2, none⟩ (.slice A9 (lo.length + 1) c9)) w1.heap.size [.int .i64 x1, .slice A3 x3.length c3, u] ∧ Grw (w9.setCell ⟨w1.heap.size, 2, none⟩ (.slice A9 (lo.length + 1) c9)) w4.heap.size 47 2 ROp u k ∧ De (pMany pOpr (jo + 1)) s4 e4 k s' e' ∧ k.length = jo + 1 ∧ ((jo + 1 : Nat) : Int) ≤ m4 ∧ s'.length ≤ s4.length) :=
                    hide ⟨_, lo ++ [(⟨x21, x23⟩ : Opr)], _, _, (HW.out.low hb9 hFco).far (b := w1.heap.size) (by omega) 2 _, ((HT2o.out.trans (Rt2.of HT.out)).below hb9 (Nat.le_of_lt hFco)).set (by omega) 2 _, bx9.set (c := 2) (by simp) _, hg9.set rd_Op hblo 2 _, HDEo.out.snoc (show De pOpr _ _ _ _ _ by unfold pOpr; exact (HD21.out.bind (HDL23.out.bind (De.ret _)))), by rw [List.length_append, HJo.out]; rfl, by omega, by omega⟩
                  clear hg9 hb9 hs9 HX HG3 bq fq bx9 bq9 fq9
                  go_wp2
                  go_roundw
                  case rel => exact ⟨jo + 1, by go_num, HR2⟩
                  case measure => simp [intOf]; omega
              · skip
                have HDL23 : Hid (De (pL pKyd) s21 e21 l s' e') := hide (HD22.out.counted HDE.out hjn (.inl (by omega)))
                have hl23 : s'.length ≤ s21.length := HDL23.out.1
                have HL23 : Hid (Lst wr (fun x => w22.heap.size ≤ x ∧ x < wr.heap.size) _ _ _ _) := hide (lst_win rd_Ky rl_Ky (sz := 8) (by decide) (Nat.le_refl _) (HG.out.lst rd_Ky (by decide) (by have := HJ.out; unfold maxLen; omega)))
                have HQ23 : Hid (l.length ≤ 4096) := hide (by have := HJ.out; omega)
                have HT := hide (HTi.out.then2 (by omega) HT2.out)
                replace HR := hide (HR.out.keep2 (by omega) HT2.out)
                have hz23 : w22.heap.size ≤ wr.heap.size := HT2.out.kp.1
                replace HL21 := hide (lst_keep2 rd_In HL21.out HT2.out (by omega) (by omega))
                clear HWi HTi HBi HT2 HG HDE HJ hjn hsl hwF hcw hbl hFc hm0 hm1 hwb
                obtain ⟨w23, rfl⟩ : ∃ z : World, z = wr := ⟨_, rfl⟩
                obtain ⟨s23, rfl⟩ : ∃ z : Bs, z = s' := ⟨_, rfl⟩
                obtain ⟨e23, rfl⟩ : ∃ z : Int, z = e' := ⟨_, rfl⟩
                obtain ⟨x23, rfl⟩ : ∃ z, z = l := ⟨_, rfl⟩
                obtain ⟨A23, rfl⟩ : ∃ z, z = A := ⟨_, rfl⟩
                obtain ⟨c23, rfl⟩ : ∃ z, z = cp := ⟨_, rfl⟩
                obtain ⟨-, bb, bf⟩ := HB.out
                have b0 := bb 0 _ rfl
                have b1 := bb 1 _ rfl
                obtain ⟨-, rr, rf⟩ := HR.out
                have bq := rr 2 _ rfl
                have fq := rf 2 (by simp)
                clear bb bf rr rf
                have hrk := HR.out.lt
                have hbk := HB.out.lt
                have HX : Hid (ROp w23 (wo.heap.size ≤ ·) [.slice A21 x21.length c21, .slice A23 x23.length c23] (⟨x21, x23⟩ : Opr)) := hide ⟨_, _, rfl, (lst_out rd_In HL21.out Kp.refl (by omega)), (lst_out rd_Ky HL23.out Kp.refl (by omega))⟩
                have HG3 := hide (HGo.out.keep rd_Op HT.out hFco)
                have hszo := HT.out.kp.1
                have hFx := HW.out.lt
                go_wp2_with (go_loud (at_builtin; refine wpList_append_grw rd_Op rl_Op rfl _ _ 23 rfl w4.heap.size 47 i0Op _ 48 Tryz.underlying23 hi0Op hz0Op [.slice A21 x21.length c21, .slice A23 x23.length c23] hz1Op hz2Op rfl (by simp) (.slice Ao lo.length cpo) _ rfl HG3.out _ rfl (by simp [Value.oneCell']) (⟨x21, x23⟩ : Opr) HX.out hcwo HLOWo.out hlen (by decide) (Nat.le_trans hcwo hszo) ?_; intro v2 w9 hg9 hb9 hs9; obtain ⟨A9, c9, hv9⟩ := hg9.form; simp only [List.length_append, List.length_cons, List.length_nil, Nat.zero_add] at hv9; subst hv9; have bx9 := HR.out.low hb9 (by omega); have bq9 := bx9.2.1 2 _ rfl; have fq9 := bx9.2.2 2 (by simp)))
                have HR2 : Hid (∃ u k s' e', Rw (w9.setCell ⟨w1.heap.size, 2, none⟩ (.slice A9 (lo.length + 1) c9)) F s' e' ∧ Rt2 F w1.heap.size w4 (w9.setCell ⟨w1.heap.size, 2, none⟩ (.slice A9 (lo.length + 1) c9)) ∧ Bo F (w9.setCell ⟨w1.heap.size, 2, none⟩ (.slice A9 (lo.length + 1) c9)) w1.heap.size [.int .i64 x1, .slice A3 x3.length c3, u] ∧ Grw (w9.setCell ⟨w1.heap.size, 2, none⟩ (.slice A9 (lo.length + 1) c9)) w4.heap.size 47 2 ROp u k ∧ De (pMany pOpr (jo + 1)) s4 e4 k s' e' ∧ k.length = jo + 1 ∧ ((jo + 1 : Nat) : Int) ≤ m4 ∧ s'.length ≤ s4.length) :=
                  hide ⟨_, lo ++ [(⟨x21, x23⟩ : Opr)], _, _, (HW.out.low hb9 hFco).far (b := w1.heap.size) (by omega) 2 _, ((HT2o.out.trans (Rt2.of HT.out)).below hb9 (Nat.le_of_lt hFco)).set (by omega) 2 _, bx9.set (c := 2) (by simp) _, hg9.set rd_Op hblo 2 _, HDEo.out.snoc (show De pOpr _ _ _ _ _ by unfold pOpr; exact (HD21.out.bind (HDL23.out.bind (De.ret _)))), by rw [List.length_append, HJo.out]; rfl, by omega, by omega⟩
                clear hg9 hb9 hs9 HX HG3 bq fq bx9 bq9 fq9
                go_wp2
                go_roundw
                case rel => exact ⟨jo + 1, by go_num, HR2⟩
                case measure => simp [intOf]; omega
          · have te : (e' == 0) = false := beq_eq_false_iff_ne.2 he
            have HR := HRo
            have HDL5 : Hid (De (pL pOpr) s3 e3 l s' e') := hide (HD4.out.counted HDE.out hjn (.inr he))
            have hl5 : s'.length ≤ s3.length := HDL5.out.1
            have HL5 : Hid (Lst wr (fun x => w4.heap.size ≤ x ∧ x < wr.heap.size) _ _ _ _) := hide (lst_win rd_Op rl_Op (sz := 2) (by decide) (Nat.le_refl _) (HG.out.lst rd_Op (by decide) (by have := HJ.out; unfold maxLen; omega)))
            have HQ5 : Hid (l.length ≤ 4096) := hide (by have := HJ.out; omega)
            have HT := hide (HTo.out.then2 (by omega) HT2.out)
            replace HR := hide (HR.out.keep2 (by omega) HT2.out)
            have hz5 : w4.heap.size ≤ wr.heap.size := HT2.out.kp.1
            replace HL3 := hide (lst_keep2 rd_Rd HL3.out HT2.out (by omega) (by omega))
            clear HWo HTo HBo HRo HT2 HG HDE HJ hjn hsl hwF hcw hbl hFc hm0 hm1 hwb
            obtain ⟨w5, rfl⟩ : ∃ z : World, z = wr := ⟨_, rfl⟩
            obtain ⟨s5, rfl⟩ : ∃ z : Bs, z = s' := ⟨_, rfl⟩
            obtain ⟨e5, rfl⟩ : ∃ z : Int, z = e' := ⟨_, rfl⟩
            obtain ⟨x5, rfl⟩ : ∃ z, z = l := ⟨_, rfl⟩
            obtain ⟨A5, rfl⟩ : ∃ z, z = A := ⟨_, rfl⟩
            obtain ⟨c5, rfl⟩ : ∃ z, z = cp := ⟨_, rfl⟩
            obtain ⟨-, bb, bf⟩ := HB.out
            have b0 := bb 0 _ rfl
            have b1 := bb 1 _ rfl
            have b2 := bb 2 _ rfl
            obtain ⟨-, rr, rf⟩ := HR.out
            have r0 := rr 0 _ rfl
            have g0 := rf 0 (by simp)
            have r1 := rr 1 _ rfl
            have g1 := rf 1 (by simp)
            have r2 := rr 2 _ rfl
            have g2 := rf 2 (by simp)
            clear bb bf rr rf
            have hrk : w.heap.size < w5.heap.size := by omega
            have hbk : w1.heap.size < w5.heap.size := by omega
            go_wp2
            refine bodyPost_ret (v := .agg #[.int .i64 x1, .slice A3 x3.length c3, .slice A5 x5.length c5]) (by rw [results_c rfl]; go_simp) rfl ?_
            exact ⟨_, ⟨x1, x3, x5⟩, s5, e5, rfl, ⟨_, rfl, ⟨_, _, rfl, (lst_out rd_Rd HL3.out (by exact (((Kp.set ⟨w.heap.size, 0, none⟩ _ (fun (x : Nat) (hx : w2.heap.size ≤ x ∧ x < w3.heap.size) => (by omega : x ≠ w.heap.size))).trans (Kp.set ⟨w.heap.size, 1, none⟩ _ (fun (x : Nat) (hx : w2.heap.size ≤ x ∧ x < w3.heap.size) => (by omega : x ≠ w.heap.size)))).trans (Kp.set ⟨w.heap.size, 2, none⟩ _ (fun (x : Nat) (hx : w2.heap.size ≤ x ∧ x < w3.heap.size) => (by omega : x ≠ w.heap.size))))) (by omega)), (lst_out rd_Op HL5.out (by exact (((Kp.set ⟨w.heap.size, 0, none⟩ _ (fun (x : Nat) (hx : w4.heap.size ≤ x ∧ x < w5.heap.size) => (by omega : x ≠ w.heap.size))).trans (Kp.set ⟨w.heap.size, 1, none⟩ _ (fun (x : Nat) (hx : w4.heap.size ≤ x ∧ x < w5.heap.size) => (by omega : x ≠ w.heap.size)))).trans (Kp.set ⟨w.heap.size, 2, none⟩ _ (fun (x : Nat) (hx : w4.heap.size ≤ x ∧ x < w5.heap.size) => (by omega : x ≠ w.heap.size))))) (by omega)), HG1.out⟩⟩, by unfold pSnp; exact (HD1.out.bind (HDL3.out.bind (HDL5.out.bind (De.ret _)))), (((HW.out.far (b := w.heap.size) (by omega) 0 _).far (b := w.heap.size) (by omega) 1 _).far (b := w.heap.size) (by omega) 2 _), (((HT.out.own (b := w.heap.size) (Nat.le_refl _) hF 0 _).own (b := w.heap.size) (Nat.le_refl _) hF 1 _).own (b := w.heap.size) (Nat.le_refl _) hF 2 _)⟩
        · skip
          have HR := HRo
          have HDL5 : Hid (De (pL pOpr) s3 e3 l s' e') := hide (HD4.out.counted HDE.out hjn (.inl (by omega)))
          have hl5 : s'.length ≤ s3.length := HDL5.out.1
          have HL5 : Hid (Lst wr (fun x => w4.heap.size ≤ x ∧ x < wr.heap.size) _ _ _ _) := hide (lst_win rd_Op rl_Op (sz := 2) (by decide) (Nat.le_refl _) (HG.out.lst rd_Op (by decide) (by have := HJ.out; unfold maxLen; omega)))
          have HQ5 : Hid (l.length ≤ 4096) := hide (by have := HJ.out; omega)
          have HT := hide (HTo.out.then2 (by omega) HT2.out)
          replace HR := hide (HR.out.keep2 (by omega) HT2.out)
          have hz5 : w4.heap.size ≤ wr.heap.size := HT2.out.kp.1
          replace HL3 := hide (lst_keep2 rd_Rd HL3.out HT2.out (by omega) (by omega))
          clear HWo HTo HBo HRo HT2 HG HDE HJ hjn hsl hwF hcw hbl hFc hm0 hm1 hwb
          obtain ⟨w5, rfl⟩ : ∃ z : World, z = wr := ⟨_, rfl⟩
          obtain ⟨s5, rfl⟩ : ∃ z : Bs, z = s' := ⟨_, rfl⟩
          obtain ⟨e5, rfl⟩ : ∃ z : Int, z = e' := ⟨_, rfl⟩
          obtain ⟨x5, rfl⟩ : ∃ z, z = l := ⟨_, rfl⟩
          obtain ⟨A5, rfl⟩ : ∃ z, z = A := ⟨_, rfl⟩
          obtain ⟨c5, rfl⟩ : ∃ z, z = cp := ⟨_, rfl⟩
          obtain ⟨-, bb, bf⟩ := HB.out
          have b0 := bb 0 _ rfl
          have b1 := bb 1 _ rfl
          have b2 := bb 2 _ rfl
          obtain ⟨-, rr, rf⟩ := HR.out
          have r0 := rr 0 _ rfl
          have g0 := rf 0 (by simp)
          have r1 := rr 1 _ rfl
          have g1 := rf 1 (by simp)
          have r2 := rr 2 _ rfl
          have g2 := rf 2 (by simp)
          clear bb bf rr rf
          have hrk : w.heap.size < w5.heap.size := by omega
          have hbk : w1.heap.size < w5.heap.size := by omega
          go_wp2
          refine bodyPost_ret (v := .agg #[.int .i64 x1, .slice A3 x3.length c3, .slice A5 x5.length c5]) (by rw [results_c rfl]; go_simp) rfl ?_
          exact ⟨_, ⟨x1, x3, x5⟩, s5, e5, rfl, ⟨_, rfl, ⟨_, _, rfl, (lst_out rd_Rd HL3.out (by exact (((Kp.set ⟨w.heap.size, 0, none⟩ _ (fun (x : Nat) (hx : w2.heap.size ≤ x ∧ x < w3.heap.size) => (by omega : x ≠ w.heap.size))).trans (Kp.set ⟨w.heap.size, 1, none⟩ _ (fun (x : Nat) (hx : w2.heap.size ≤ x ∧ x < w3.heap.size) => (by omega : x ≠ w.heap.size)))).trans (Kp.set ⟨w.heap.size, 2, none⟩ _ (fun (x : Nat) (hx : w2.heap.size ≤ x ∧ x < w3.heap.size) => (by omega : x ≠ w.heap.size))))) (by omega)), (lst_out rd_Op HL5.out (by exact (((Kp.set ⟨w.heap.size, 0, none⟩ _ (fun (x : Nat) (hx : w4.heap.size ≤ x ∧ x < w5.heap.size) => (by omega : x ≠ w.heap.size))).trans (Kp.set ⟨w.heap.size, 1, none⟩ _ (fun (x : Nat) (hx : w4.heap.size ≤ x ∧ x < w5.heap.size) => (by omega : x ≠ w.heap.size)))).trans (Kp.set ⟨w.heap.size, 2, none⟩ _ (fun (x : Nat) (hx : w4.heap.size ≤ x ∧ x < w5.heap.size) => (by omega : x ≠ w.heap.size))))) (by omega)), HG1.out⟩⟩, by unfold pSnp; exact (HD1.out.bind (HDL3.out.bind (HDL5.out.bind (De.ret _)))), (((HW.out.far (b := w.heap.size) (by omega) 0 _).far (b := w.heap.size) (by omega) 1 _).far (b := w.heap.size) (by omega) 2 _), (((HT.out.own (b := w.heap.size) (Nat.le_refl _) hF 0 _).own (b := w.heap.size) (Nat.le_refl _) hF 1 _).own (b := w.heap.size) (Nat.le_refl _) hF 2 _)⟩
end
end Go.Proofs.YtofdcgojgcnopaaGreat

namespace Go.Proofs.YtofdcgojgcnopaaGreat
open Go.RowKit
set_option linter.unusedVariables false
set_option linter.unusedSimpArgs false
section
variable (s : ByteArray) (w : World)
set_option maxRecDepth 100000 in
set_option maxHeartbeats 4000000 in
theorem rdecSn_any (hs : s.size ≤ 100000000) : Calls Tryz.prog 9 #[.string s] w (Opd pSnp (ROs RSn) (.agg #[.int .i64 0, .slice none 0 0, .slice none 0 0]) s.data.toList w) := by
  have HO := hide (fun w => ropen_any s w (by omega))
  have HL : Hid (s.data.toList.length ≤ 100000000) := hide (by have := data_len s; omega)
  obtain ⟨r, hr⟩ : ∃ r, openE pSnp s.data.toList = r := ⟨_, rfl⟩
  refine calls_opd' hr ?_
  have HRR := hide hr
  clear hr hs
  go_enter Tryz.func9, Tryz.ntmps9
  go_wp2_with fail
  refine (HO.out _).mono ?_
  rintro en w1 ⟨F, o, e, rfl, hF, hb, hw, hl, hop⟩
  have HOP := hide (fun x s' e' hd => HRR.out ▸ hop _ pSnp x s' e' hd)
  have HW := hide hw
  have HR0 := hide (rtSn_any F o e w1 (Nat.le_trans hl HL.out) hw)
  have HB := hide (bthen (below_laid (.cells #[.int .i64 0, .slice none 0 0, .slice none 0 0] 25)) hb)
  have HX := hide (Bo.under [.slice none 0 0, .slice none 0 0] 25 hF hb)
  have hF1 := hw.lt
  rw [World.size_alloc] at hF
  have HF1 := hide (show w.heap.size < w1.heap.size by omega)
  clear hw hb hl hop
  go_wp2_with fail
  refine HR0.out.mono ?_
  rintro en w2 ⟨_, x, s', e', rfl, ⟨_, rfl, u, v, rfl, hla, hlb, hg⟩, hd, hw, ht⟩
  obtain ⟨A0, k0, rfl⟩ := hla.form
  obtain ⟨A1, k1, rfl⟩ := hlb.form
  have HG : Hid (RSn w2 (fun b => w.heap.size < b) [.int .i64 x.number, .slice A0 x.rs.length k0, .slice A1 x.os.length k1] x) := hide (rd_Sn.more (fun b hb => by have := HF1.out; omega) ⟨_, _, rfl, hla, hlb, hg⟩)
  clear hla hlb hg
  have HX2 := hide (HX.out.keep ht)
  have HWL := hide hw
  have HD := hide hd
  have HB2 := hide (HB.out.trans (ht.low.mono (by omega)))
  have hF2 := hw.lt
  have HDN := hide (fun w (h : Rw w F s' e') => rdone_any F s' e' w h)
  have HWB := hide (hw.laid (.cells #[.int .i64 x.number, .slice A0 x.rs.length k0, .slice A1 x.os.length k1] 25))
  obtain ⟨c, hc⟩ : ∃ c, doneC s' e' = c := ⟨_, rfl⟩
  have HF := HOP.out x s' e' hd
  rw [hc] at HF HDN
  clear hc hw ht hd
  go_wp2_with fail
  refine (HDN.out _ HWB.out).mono ?_
  rintro en w3 ⟨rfl, rfl⟩
  have hr2 : w.heap.size < w2.heap.size := by omega
  obtain ⟨-, rr, rf⟩ := HX2.out
  have r0 := rr 0 _ rfl
  have g0 := rf 0 (by simp)
  have r1 := rr 1 _ rfl
  have g1 := rf 1 (by simp)
  have r2 := rr 2 _ rfl
  have g2 := rf 2 (by simp)
  clear rr rf
  rcases HF with ⟨hc, rfl⟩ | ⟨rfl, rfl⟩
  · have tc : (c != 0) = true := bne_iff_ne.2 hc
    go_wp2
    refine bodyPost_ret (v := .tuple #[.agg #[.int .i64 0, .slice none 0 0, .slice none 0 0], .int .i64 c]) (by rw [results_ct rfl]; go_simp) rfl ?_
    exact RetO.err rfl ((((HB2.out.setCell (p := ⟨w.heap.size, 0, none⟩) (Nat.le_refl _) _).setCell (p := ⟨w.heap.size, 1, none⟩) (Nat.le_refl _) _).setCell (p := ⟨w.heap.size, 2, none⟩) (Nat.le_refl _) _).alloc (by simp; omega) _)
  · go_wp2
    refine bodyPost_ret (v := .tuple #[.agg #[.int .i64 x.number, .slice A0 x.rs.length k0, .slice A1 x.os.length k1], .int .i64 0]) (by rw [results_ct rfl]; go_simp) rfl ?_
    exact RetO.ok rfl (ros_keep rd_Sn HG.out ((((kp_box 0 _).trans (kp_box 1 _)).trans (kp_box 2 _)).trans (Kp.alloc _))) ((((HB2.out.setCell (p := ⟨w.heap.size, 0, none⟩) (Nat.le_refl _) _).setCell (p := ⟨w.heap.size, 1, none⟩) (Nat.le_refl _) _).setCell (p := ⟨w.heap.size, 2, none⟩) (Nat.le_refl _) _).alloc (by simp; omega) _)
end
end Go.Proofs.YtofdcgojgcnopaaGreat
