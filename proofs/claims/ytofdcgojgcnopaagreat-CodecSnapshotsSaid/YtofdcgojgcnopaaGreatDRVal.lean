/- The reference's takeValue. -/
import Derived.Test.YtofdcgojgcnopaaGreatDVal
import Derived.Test.YtofdcgojgcnopaaGreatDTake
namespace Go.Proofs.YtofdcgojgcnopaaGreat
open Go.RowKit
set_option linter.unusedVariables false
set_option linter.unusedSimpArgs false
section
variable (F : Nat) (s : Bs) (e : Int) (w : World)
set_option maxRecDepth 100000 in
set_option maxHeartbeats 16000000 in
theorem rtv_any (hs : s.length ≤ 100000000) (h : Rw w F s e) : Calls Tryz.prog 58 #[.pointer (some ⟨F, 0, none⟩)] w (Rds F pV RV3 s e w) := by
  have HI := hide (fun ob => rtake_any F s e (w.alloc ob) hs (h.laid ob))
  have HH := hide h
  have hF := h.lt
  clear h
  go_enter Tryz.func58, Tryz.ntmps58
  go_wp2_with fail
  refine (HI.out _).mono ?_
  rintro en w1 ⟨_, k, s1, e1, rfl, ⟨rfl, hk⟩, hd, hw, ht⟩
  have HD := hide hd
  have HW := hide hw
  have hl := hd.1
  have HT := hide ((Rt.laid HH.out _).trans ht)
  have HR := hide ((Bo.new hF [.int .i64 0, .int .i64 0, .string ⟨#[]⟩] 49).keep ht)
  have hlt := hw.lt
  have hrl := HR.out.lt
  have hc1 := hw.c1
  have HK := hide hk
  unfold inI at hk
  clear hd hw ht
  by_cases he : e1 = 0
  · subst he
    by_cases hbad : k < 0 ∨ 2 < k
    · have HF := hide (fun ob => rfail_any F s1 0 (w1.alloc ob) 1 (HW.out.laid ob))
      rw [if_pos rfl] at HF
      have HDE := hide (HD.out.bind (De.errl (e := 0) (⟨0, 0, ⟨#[]⟩⟩ : V3) (Nat.le_refl _) (qV_bad hbad) (by decide : (1 : Int) ≠ 0)))
      rw [if_pos rfl] at HDE
      rcases hbad with hb1 | hb1
      all_goals
        go_wp2_with fail
        refine (HF.out _).mono ?_
        rintro en w2 ⟨rfl, hw, ht⟩
        have HB := hide ((Bo.new hlt [.int .i64 k, .int .i64 0, .string ⟨#[]⟩] 49).keep ht)
        have HRR := hide ((HR.out.keep (Rt.laid HW.out _)).keep ht)
        have HT2 := hide ((HT.out.trans (Rt.laid HW.out _)).trans ht)
        have HW2 := hide hw
        have c1 := hw.c1
        clear hw ht
        obtain ⟨⟨-, bb, bf⟩, ⟨hrF, rr, rf⟩⟩ := And.intro HB.out HRR.out
        have b0 := bb 0 _ rfl
        have b1 := bb 1 _ rfl
        have b2 := bb 2 _ rfl
        have f1 := bf 1 (by simp)
        have f2 := bf 2 (by simp)
        have r0 := rr 0 _ rfl
        have r1 := rr 1 _ rfl
        have r2 := rr 2 _ rfl
        have g0 := rf 0 (by simp)
        have g1 := rf 1 (by simp)
        have g2 := rf 2 (by simp)
        clear bb bf rr rf
        go_wp2
        refine bodyPost_ret (v := .agg #[.int .i64 0, .int .i64 0, .string ⟨#[]⟩]) (by rw [results_c rfl]; go_simp) rfl ?_
        exact Rds.fin (x := ⟨0, 0, ⟨#[]⟩⟩) ⟨by show inI 0; unfold inI; omega, by show inI 0; unfold inI; omega⟩ (Nat.zero_le _) HDE.out HW2.out HT2.out hF (Nat.le_refl _)
    · have hk1 : 0 ≤ k := by omega
      have hk2 : k ≤ 2 := by omega
      have HI2 := hide (fun ob => rtake_any F s1 0 (w1.alloc ob) (Nat.le_trans hl hs) (HW.out.laid ob))
      by_cases hk3 : k = 2
      · subst hk3
        go_wp2_with fail
        refine (HI2.out _).mono ?_
        rintro en w2 ⟨_, m, s2, e2, rfl, ⟨rfl, hn2⟩, hd, hw, ht⟩
        have HN2 := hide hn2
        have HD2 := hide hd
        have hl2 := hd.1
        have HW2 := hide hw
        have HT2 := hide ((HT.out.trans (Rt.laid HW.out _)).trans ht)
        have HB := hide ((Bo.new hlt [.int .i64 2, .int .i64 0, .string ⟨#[]⟩] 49).keep ht)
        have HRR := hide ((HR.out.keep (Rt.laid HW.out _)).keep ht)
        have hrb : w.heap.size < w1.heap.size := hrl
        have hbw2 : w1.heap.size < w2.heap.size := HB.out.lt
        obtain ⟨⟨-, bb, bf⟩, ⟨hrF, rr, rf⟩⟩ := And.intro HB.out HRR.out
        have b0 := bb 0 _ rfl
        have b1 := bb 1 _ rfl
        have b2 := bb 2 _ rfl
        have f1 := bf 1 (by simp)
        have f2 := bf 2 (by simp)
        have r0 := rr 0 _ rfl
        have r1 := rr 1 _ rfl
        have r2 := rr 2 _ rfl
        have g0 := rf 0 (by simp)
        have g1 := rf 1 (by simp)
        have g2 := rf 2 (by simp)
        have c1 := hw.c1
        have c0 := hw.c0
        have f0 := hw.f0
        unfold inI at hn2
        clear hd hw ht bb bf rr rf
        by_cases hm1 : m < 0 ∨ 64 < m
        · have HX := hide (HD2.out.bind (De.errs (p := pTake m) (e := e2) (⟨#[]⟩ : ByteArray) (if_pos hm1) (by decide : (13 : Int) ≠ 0)))
          have HF := hide (rfail_any F s2 e2 w2 13 HW2.out)
          obtain ⟨e3, he3⟩ : ∃ e3, (if e2 = 0 then 13 else e2) = e3 := ⟨_, rfl⟩
          have hne : e3 ≠ 0 := by rw [← he3]; split <;> omega
          rw [he3] at HF HX
          have t2 : (e3 == 0) = false := beq_eq_false_iff_ne.2 hne
          clear he3
          rcases hm1 with hm1 | hm1
          all_goals
            go_wp2_with fail
            refine HF.out.mono ?_
            rintro en w3 ⟨rfl, hw, ht⟩
            have HW3 := hide hw
            have HT3 := hide (HT2.out.trans ht)
            have HB3 := hide (HB.out.keep ht)
            have HR3 := hide (HRR.out.keep ht)
            clear hw ht b0 b1 b2 f1 f2 r0 r1 r2 g0 g1 g2 c1 c0 f0
            obtain ⟨⟨-, bb, bf⟩, ⟨hrF, rr, rf⟩⟩ := And.intro HB3.out HR3.out
            have b0 := bb 0 _ rfl
            have b1 := bb 1 _ rfl
            have b2 := bb 2 _ rfl
            have f1 := bf 1 (by simp)
            have f2 := bf 2 (by simp)
            have r0 := rr 0 _ rfl
            have r1 := rr 1 _ rfl
            have r2 := rr 2 _ rfl
            have g0 := rf 0 (by simp)
            have g1 := rf 1 (by simp)
            have g2 := rf 2 (by simp)
            have c1 := HW3.out.c1
            clear bb bf rr rf
            have HC := hide (fun w => rcheck_any 2 0 (⟨#[]⟩ : ByteArray) w (Nat.zero_le _))
            have HWa := hide HW3.out
            have HTa := hide HT3.out
            have HBa := hide HB3.out
            have HRa := hide HR3.out
            obtain ⟨ec, hec⟩ : ∃ ec, checkC 2 0 (⟨#[]⟩ : ByteArray).size = ec := ⟨_, rfl⟩
            rw [hec] at HC
            go_wp2_with fail
            refine (HC.out _).mono ?_
            rintro en w8 ⟨rfl, hb⟩
            replace HTa := hide (HTa.out.trans (Rt.of_below hb (Nat.le_of_lt HWa.out.lt)))
            replace HBa := hide (HBa.out.keep (Rt.of_below hb (Nat.le_of_lt HWa.out.lt)))
            replace HRa := hide (HRa.out.keep (Rt.of_below hb (Nat.le_of_lt HWa.out.lt)))
            replace HWa := hide (HWa.out.keep hb)
            clear hb b0 b1 b2 f1 f2 r0 r1 r2 g0 g1 g2 c1
            obtain ⟨⟨-, bb, bf⟩, ⟨hrF, rr, rf⟩⟩ := And.intro HBa.out HRa.out
            have b0 := bb 0 _ rfl
            have b1 := bb 1 _ rfl
            have b2 := bb 2 _ rfl
            have f1 := bf 1 (by simp)
            have f2 := bf 2 (by simp)
            have r0 := rr 0 _ rfl
            have r1 := rr 1 _ rfl
            have r2 := rr 2 _ rfl
            have g0 := rf 0 (by simp)
            have g1 := rf 1 (by simp)
            have g2 := rf 2 (by simp)
            have c1 := HWa.out.c1
            have hw8 : w1.heap.size < w8.heap.size := HBa.out.lt
            clear bb bf rr rf
            have t3 : (e3 == 0) = false := beq_eq_false_iff_ne.2 hne
            have HDE := hide (HD.out.bind (q := qV) (show De (qV 2) s1 0 ⟨2, 0, (⟨#[]⟩ : ByteArray)⟩ s2 e3 by rw [qV_two]; exact De.fail HX.out hne))
            clear hec
            go_wp2
            refine bodyPost_ret (v := .agg #[.int .i64 2, .int .i64 0, .string (⟨#[]⟩ : ByteArray)]) (by rw [results_c rfl]; go_simp) rfl ?_
            exact Rds.fin (x := ⟨2, 0, (⟨#[]⟩ : ByteArray)⟩) ⟨HK.out, by show inI 0; unfold inI; omega⟩ (Nat.zero_le _) HDE.out HWa.out HTa.out hF (Nat.le_refl _)
        · have hm3 : 0 ≤ m := by omega
          have hm4 : m ≤ 64 := by omega
          have hz := bstr_size s2
          by_cases hm2 : (s2.length : Int) < m
          · have HX := hide (HD2.out.bind (De.errs (p := pTake m) (e := e2) (⟨#[]⟩ : ByteArray) ((if_neg hm1).trans (if_pos hm2)) (by decide : (26 : Int) ≠ 0)))
            have HF := hide (rfail_any F s2 e2 w2 26 HW2.out)
            obtain ⟨e3, he3⟩ : ∃ e3, (if e2 = 0 then 26 else e2) = e3 := ⟨_, rfl⟩
            have hne : e3 ≠ 0 := by rw [← he3]; split <;> omega
            rw [he3] at HF HX
            have t2 : (e3 == 0) = false := beq_eq_false_iff_ne.2 hne
            clear he3
            go_wp2_with fail
            refine HF.out.mono ?_
            rintro en w3 ⟨rfl, hw, ht⟩
            have HW3 := hide hw
            have HT3 := hide (HT2.out.trans ht)
            have HB3 := hide (HB.out.keep ht)
            have HR3 := hide (HRR.out.keep ht)
            clear hw ht b0 b1 b2 f1 f2 r0 r1 r2 g0 g1 g2 c1 c0 f0
            obtain ⟨⟨-, bb, bf⟩, ⟨hrF, rr, rf⟩⟩ := And.intro HB3.out HR3.out
            have b0 := bb 0 _ rfl
            have b1 := bb 1 _ rfl
            have b2 := bb 2 _ rfl
            have f1 := bf 1 (by simp)
            have f2 := bf 2 (by simp)
            have r0 := rr 0 _ rfl
            have r1 := rr 1 _ rfl
            have r2 := rr 2 _ rfl
            have g0 := rf 0 (by simp)
            have g1 := rf 1 (by simp)
            have g2 := rf 2 (by simp)
            have c1 := HW3.out.c1
            clear bb bf rr rf
            have HC := hide (fun w => rcheck_any 2 0 (⟨#[]⟩ : ByteArray) w (Nat.zero_le _))
            have HWa := hide HW3.out
            have HTa := hide HT3.out
            have HBa := hide HB3.out
            have HRa := hide HR3.out
            obtain ⟨ec, hec⟩ : ∃ ec, checkC 2 0 (⟨#[]⟩ : ByteArray).size = ec := ⟨_, rfl⟩
            rw [hec] at HC
            go_wp2_with fail
            refine (HC.out _).mono ?_
            rintro en w8 ⟨rfl, hb⟩
            replace HTa := hide (HTa.out.trans (Rt.of_below hb (Nat.le_of_lt HWa.out.lt)))
            replace HBa := hide (HBa.out.keep (Rt.of_below hb (Nat.le_of_lt HWa.out.lt)))
            replace HRa := hide (HRa.out.keep (Rt.of_below hb (Nat.le_of_lt HWa.out.lt)))
            replace HWa := hide (HWa.out.keep hb)
            clear hb b0 b1 b2 f1 f2 r0 r1 r2 g0 g1 g2 c1
            obtain ⟨⟨-, bb, bf⟩, ⟨hrF, rr, rf⟩⟩ := And.intro HBa.out HRa.out
            have b0 := bb 0 _ rfl
            have b1 := bb 1 _ rfl
            have b2 := bb 2 _ rfl
            have f1 := bf 1 (by simp)
            have f2 := bf 2 (by simp)
            have r0 := rr 0 _ rfl
            have r1 := rr 1 _ rfl
            have r2 := rr 2 _ rfl
            have g0 := rf 0 (by simp)
            have g1 := rf 1 (by simp)
            have g2 := rf 2 (by simp)
            have c1 := HWa.out.c1
            have hw8 : w1.heap.size < w8.heap.size := HBa.out.lt
            clear bb bf rr rf
            have t3 : (e3 == 0) = false := beq_eq_false_iff_ne.2 hne
            have HDE := hide (HD.out.bind (q := qV) (show De (qV 2) s1 0 ⟨2, 0, (⟨#[]⟩ : ByteArray)⟩ s2 e3 by rw [qV_two]; exact De.fail HX.out hne))
            clear hec
            go_wp2
            refine bodyPost_ret (v := .agg #[.int .i64 2, .int .i64 0, .string (⟨#[]⟩ : ByteArray)]) (by rw [results_c rfl]; go_simp) rfl ?_
            exact Rds.fin (x := ⟨2, 0, (⟨#[]⟩ : ByteArray)⟩) ⟨HK.out, by show inI 0; unfold inI; omega⟩ (Nat.zero_le _) HDE.out HWa.out HTa.out hF (Nat.le_refl _)
          · by_cases hne : e2 = 0
            · subst hne
              obtain ⟨n, rfl⟩ : ∃ n : Nat, m = n := ⟨m.toNat, by omega⟩
              have HX := hide (HD2.out.bind (De.ok (p := pTake n) (s' := s2.drop n) (by rw [List.length_drop]; omega) ((if_neg hm1).trans (if_neg hm2))))
              have ha := bstr_take s2 n
              have hb := bstr_drop s2 n
              obtain ⟨S, hS⟩ : ∃ S, bstr s2 = S := ⟨_, rfl⟩
              rw [hS] at ha hb c0 hz
              rw [hz] at hb
              have hn1 : (n : Int) ≤ (s2.length : Int) := by omega
              have HST := hide ((HW2.out.far HB.out.1 2 (.string (bstr (s2.take n)))).set (s2.drop n))
              have hZ : (bstr (s2.take n)).size ≤ 64 := by rw [bstr_size, List.length_take]; omega
              have HZ := hide hZ
              have HXX : Hid (De pText s1 0 (bstr (s2.take n)) (s2.drop n) 0) := HX
              obtain ⟨tx, htx⟩ : ∃ tx, bstr (s2.take n) = tx := ⟨_, rfl⟩
              obtain ⟨s3, hs3⟩ : ∃ s3, s2.drop n = s3 := ⟨_, rfl⟩
              rw [htx] at ha HST HZ HXX
              rw [hs3] at hb HST HXX
              clear hS HX hm1 hm2 hZ htx hs3
              have HC := hide (fun w => rcheck_any 2 0 tx w (Nat.le_trans HZ.out (by decide)))
              have HWa := hide HST.out.1
              have HTa := hide ((HT2.out.own HT.out.kp.1 hF 2 (.string tx)).trans HST.out.2)
              have HBa := hide ((HB.out.set (c := 2) (by simp) (.string tx)).keep HST.out.2)
              have HRa := hide ((HRR.out.far (by omega : w.heap.size ≠ w1.heap.size) 2 (.string tx)).keep HST.out.2)
              obtain ⟨ec, hec⟩ : ∃ ec, checkC 2 0 tx.size = ec := ⟨_, rfl⟩
              rw [hec] at HC
              go_wp2_with fail
              refine (HC.out _).mono ?_
              rintro en w8 ⟨rfl, hb⟩
              replace HTa := hide (HTa.out.trans (Rt.of_below hb (Nat.le_of_lt HWa.out.lt)))
              replace HBa := hide (HBa.out.keep (Rt.of_below hb (Nat.le_of_lt HWa.out.lt)))
              replace HRa := hide (HRa.out.keep (Rt.of_below hb (Nat.le_of_lt HWa.out.lt)))
              replace HWa := hide (HWa.out.keep hb)
              clear hb b0 b1 b2 f1 f2 r0 r1 r2 g0 g1 g2 c1
              obtain ⟨⟨-, bb, bf⟩, ⟨hrF, rr, rf⟩⟩ := And.intro HBa.out HRa.out
              have b0 := bb 0 _ rfl
              have b1 := bb 1 _ rfl
              have b2 := bb 2 _ rfl
              have f1 := bf 1 (by simp)
              have f2 := bf 2 (by simp)
              have r0 := rr 0 _ rfl
              have r1 := rr 1 _ rfl
              have r2 := rr 2 _ rfl
              have g0 := rf 0 (by simp)
              have g1 := rf 1 (by simp)
              have g2 := rf 2 (by simp)
              have c1 := HWa.out.c1
              have hw8 : w1.heap.size < w8.heap.size := HBa.out.lt
              clear bb bf rr rf
              have HDE := hide (HD.out.bind (q := qV) (show De (qV 2) s1 0 _ _ _ by rw [qV_two]; exact HXX.out.bind (De.chk ⟨2, 0, tx⟩ s3)))
              simp only [hec] at HDE
              clear hec
              by_cases hc : ec = 0
              · subst hc
                go_wp2
                refine bodyPost_ret (v := .agg #[.int .i64 2, .int .i64 0, .string tx]) (by rw [results_c rfl]; go_simp) rfl ?_
                exact Rds.fin (x := ⟨2, 0, tx⟩) ⟨HK.out, by show inI 0; unfold inI; omega⟩ HZ.out HDE.out HWa.out HTa.out hF (Nat.le_refl _)
              · have t3 : (ec != 0) = true := bne_iff_ne.2 hc
                have HFL := hide (rfail_any F s3 0 w8 ec HWa.out)
                rw [if_pos rfl] at HFL
                go_wp2_with fail
                refine HFL.out.mono ?_
                rintro en w9 ⟨rfl, hw, ht⟩
                have HWb := hide hw
                have HTb := hide (HTa.out.trans ht)
                have hw9 : w1.heap.size < w9.heap.size := Nat.lt_of_lt_of_le hw8 ht.kp.1
                clear b0 b1 b2 f1 f2 r0 r1 r2 g0 g1 g2 c1
                obtain ⟨⟨-, bb, bf⟩, ⟨hrF, rr, rf⟩⟩ := And.intro (HBa.out.keep ht) (HRa.out.keep ht)
                have b0 := bb 0 _ rfl
                have b1 := bb 1 _ rfl
                have b2 := bb 2 _ rfl
                have f1 := bf 1 (by simp)
                have f2 := bf 2 (by simp)
                have r0 := rr 0 _ rfl
                have r1 := rr 1 _ rfl
                have r2 := rr 2 _ rfl
                have g0 := rf 0 (by simp)
                have g1 := rf 1 (by simp)
                have g2 := rf 2 (by simp)
                clear hw ht bb bf rr rf
                go_wp2
                refine bodyPost_ret (v := .agg #[.int .i64 2, .int .i64 0, .string tx]) (by rw [results_c rfl]; go_simp) rfl ?_
                exact Rds.fin (x := ⟨2, 0, tx⟩) ⟨HK.out, by show inI 0; unfold inI; omega⟩ HZ.out HDE.out HWb.out HTb.out hF (Nat.le_refl _)
            · have t2 : (e2 == 0) = false := beq_eq_false_iff_ne.2 hne
              have HC := hide (fun w => rcheck_any 2 0 (⟨#[]⟩ : ByteArray) w (Nat.zero_le _))
              have HWa := hide HW2.out
              have HTa := hide HT2.out
              have HBa := hide HB.out
              have HRa := hide HRR.out
              obtain ⟨ec, hec⟩ : ∃ ec, checkC 2 0 (⟨#[]⟩ : ByteArray).size = ec := ⟨_, rfl⟩
              rw [hec] at HC
              go_wp2_with fail
              refine (HC.out _).mono ?_
              rintro en w8 ⟨rfl, hb⟩
              replace HTa := hide (HTa.out.trans (Rt.of_below hb (Nat.le_of_lt HWa.out.lt)))
              replace HBa := hide (HBa.out.keep (Rt.of_below hb (Nat.le_of_lt HWa.out.lt)))
              replace HRa := hide (HRa.out.keep (Rt.of_below hb (Nat.le_of_lt HWa.out.lt)))
              replace HWa := hide (HWa.out.keep hb)
              clear hb b0 b1 b2 f1 f2 r0 r1 r2 g0 g1 g2 c1
              obtain ⟨⟨-, bb, bf⟩, ⟨hrF, rr, rf⟩⟩ := And.intro HBa.out HRa.out
              have b0 := bb 0 _ rfl
              have b1 := bb 1 _ rfl
              have b2 := bb 2 _ rfl
              have f1 := bf 1 (by simp)
              have f2 := bf 2 (by simp)
              have r0 := rr 0 _ rfl
              have r1 := rr 1 _ rfl
              have r2 := rr 2 _ rfl
              have g0 := rf 0 (by simp)
              have g1 := rf 1 (by simp)
              have g2 := rf 2 (by simp)
              have c1 := HWa.out.c1
              have hw8 : w1.heap.size < w8.heap.size := HBa.out.lt
              clear bb bf rr rf
              have t3 : (e2 == 0) = false := beq_eq_false_iff_ne.2 hne
              have HDE := hide (HD.out.bind (q := qV) (show De (qV 2) s1 0 ⟨2, 0, (⟨#[]⟩ : ByteArray)⟩ s2 e2 by rw [qV_two]; exact De.dead (p := pText) _ (HD2.out.fail (q := pTake) (y := (⟨#[]⟩ : ByteArray)) hne) hne (Nat.le_refl _)))
              clear hec
              go_wp2
              refine bodyPost_ret (v := .agg #[.int .i64 2, .int .i64 0, .string (⟨#[]⟩ : ByteArray)]) (by rw [results_c rfl]; go_simp) rfl ?_
              exact Rds.fin (x := ⟨2, 0, (⟨#[]⟩ : ByteArray)⟩) ⟨HK.out, by show inI 0; unfold inI; omega⟩ (Nat.zero_le _) HDE.out HWa.out HTa.out hF (Nat.le_refl _)
      · have tk : (k != 2) = true := bne_iff_ne.2 hk3
        have HGD := hide (qV_num hbad hk3)
        go_wp2_with fail
        refine (HI2.out _).mono ?_
        rintro en w2 ⟨_, n2, s2, e2, rfl, ⟨rfl, hn2⟩, hd, hw, ht⟩
        have HN2 := hide hn2
        have HD2 := hide hd
        have hl2 := hd.1
        have HW2 := hide hw
        have HT2 := hide ((HT.out.trans (Rt.laid HW.out _)).trans ht)
        have HB := hide ((Bo.new hlt [.int .i64 k, .int .i64 0, .string ⟨#[]⟩] 49).keep ht)
        have HRR := hide ((HR.out.keep (Rt.laid HW.out _)).keep ht)
        have hrb : w.heap.size < w1.heap.size := hrl
        have hbw2 : w1.heap.size < w2.heap.size := HB.out.lt
        obtain ⟨⟨-, bb, bf⟩, ⟨hrF, rr, rf⟩⟩ := And.intro HB.out HRR.out
        have b0 := bb 0 _ rfl
        have b1 := bb 1 _ rfl
        have b2 := bb 2 _ rfl
        have f1 := bf 1 (by simp)
        have f2 := bf 2 (by simp)
        have r0 := rr 0 _ rfl
        have r1 := rr 1 _ rfl
        have r2 := rr 2 _ rfl
        have g0 := rf 0 (by simp)
        have g1 := rf 1 (by simp)
        have g2 := rf 2 (by simp)
        have c1 := hw.c1
        have c0 := hw.c0
        have f0 := hw.f0
        unfold inI at hn2
        clear hd hw ht bb bf rr rf
        clear c0 f0
        have HC := hide (fun w => rcheck_any k n2 (⟨#[]⟩ : ByteArray) w (Nat.zero_le _))
        have HWa := hide (HW2.out.far HB.out.1 1 (.int .i64 n2))
        have HTa := hide (HT2.out.own HT.out.kp.1 hF 1 (.int .i64 n2))
        have HBa := hide (HB.out.set (c := 1) (by simp) (.int .i64 n2))
        have HRa := hide (HRR.out.far (by omega : w.heap.size ≠ w1.heap.size) 1 (.int .i64 n2))
        obtain ⟨ec, hec⟩ : ∃ ec, checkC k n2 (⟨#[]⟩ : ByteArray).size = ec := ⟨_, rfl⟩
        rw [hec] at HC
        go_wp2_with fail
        refine (HC.out _).mono ?_
        rintro en w8 ⟨rfl, hb⟩
        replace HTa := hide (HTa.out.trans (Rt.of_below hb (Nat.le_of_lt HWa.out.lt)))
        replace HBa := hide (HBa.out.keep (Rt.of_below hb (Nat.le_of_lt HWa.out.lt)))
        replace HRa := hide (HRa.out.keep (Rt.of_below hb (Nat.le_of_lt HWa.out.lt)))
        replace HWa := hide (HWa.out.keep hb)
        clear hb b0 b1 b2 f1 f2 r0 r1 r2 g0 g1 g2 c1
        obtain ⟨⟨-, bb, bf⟩, ⟨hrF, rr, rf⟩⟩ := And.intro HBa.out HRa.out
        have b0 := bb 0 _ rfl
        have b1 := bb 1 _ rfl
        have b2 := bb 2 _ rfl
        have f1 := bf 1 (by simp)
        have f2 := bf 2 (by simp)
        have r0 := rr 0 _ rfl
        have r1 := rr 1 _ rfl
        have r2 := rr 2 _ rfl
        have g0 := rf 0 (by simp)
        have g1 := rf 1 (by simp)
        have g2 := rf 2 (by simp)
        have c1 := HWa.out.c1
        have hw8 : w1.heap.size < w8.heap.size := HBa.out.lt
        clear bb bf rr rf
        by_cases hne : e2 = 0
        · subst hne
          have HDE := hide (HD.out.bind (q := qV) (show De (qV k) s1 0 _ _ _ by rw [HGD.out]; exact HD2.out.bind (De.chk ⟨k, n2, (⟨#[]⟩ : ByteArray)⟩ s2)))
          simp only [hec] at HDE
          clear hec
          by_cases hc : ec = 0
          · subst hc
            go_wp2
            refine bodyPost_ret (v := .agg #[.int .i64 k, .int .i64 n2, .string (⟨#[]⟩ : ByteArray)]) (by rw [results_c rfl]; go_simp) rfl ?_
            exact Rds.fin (x := ⟨k, n2, (⟨#[]⟩ : ByteArray)⟩) ⟨HK.out, HN2.out⟩ (Nat.zero_le _) HDE.out HWa.out HTa.out hF (Nat.le_refl _)
          · have t3 : (ec != 0) = true := bne_iff_ne.2 hc
            have HFL := hide (rfail_any F s2 0 w8 ec HWa.out)
            rw [if_pos rfl] at HFL
            go_wp2_with fail
            refine HFL.out.mono ?_
            rintro en w9 ⟨rfl, hw, ht⟩
            have HWb := hide hw
            have HTb := hide (HTa.out.trans ht)
            have hw9 : w1.heap.size < w9.heap.size := Nat.lt_of_lt_of_le hw8 ht.kp.1
            clear b0 b1 b2 f1 f2 r0 r1 r2 g0 g1 g2 c1
            obtain ⟨⟨-, bb, bf⟩, ⟨hrF, rr, rf⟩⟩ := And.intro (HBa.out.keep ht) (HRa.out.keep ht)
            have b0 := bb 0 _ rfl
            have b1 := bb 1 _ rfl
            have b2 := bb 2 _ rfl
            have f1 := bf 1 (by simp)
            have f2 := bf 2 (by simp)
            have r0 := rr 0 _ rfl
            have r1 := rr 1 _ rfl
            have r2 := rr 2 _ rfl
            have g0 := rf 0 (by simp)
            have g1 := rf 1 (by simp)
            have g2 := rf 2 (by simp)
            clear hw ht bb bf rr rf
            go_wp2
            refine bodyPost_ret (v := .agg #[.int .i64 k, .int .i64 n2, .string (⟨#[]⟩ : ByteArray)]) (by rw [results_c rfl]; go_simp) rfl ?_
            exact Rds.fin (x := ⟨k, n2, (⟨#[]⟩ : ByteArray)⟩) ⟨HK.out, HN2.out⟩ (Nat.zero_le _) HDE.out HWb.out HTb.out hF (Nat.le_refl _)
        · have t3 : (e2 == 0) = false := beq_eq_false_iff_ne.2 hne
          have HDE := hide (HD.out.bind (q := qV) (show De (qV k) s1 0 ⟨k, n2, (⟨#[]⟩ : ByteArray)⟩ s2 e2 by rw [HGD.out]; exact HD2.out.fail hne))
          clear hec
          go_wp2
          refine bodyPost_ret (v := .agg #[.int .i64 k, .int .i64 n2, .string (⟨#[]⟩ : ByteArray)]) (by rw [results_c rfl]; go_simp) rfl ?_
          exact Rds.fin (x := ⟨k, n2, (⟨#[]⟩ : ByteArray)⟩) ⟨HK.out, HN2.out⟩ (Nat.zero_le _) HDE.out HWa.out HTa.out hF (Nat.le_refl _)
  · have t1 : (e1 == 0) = false := beq_eq_false_iff_ne.2 he
    have t2 : (e1 != 0) = true := bne_iff_ne.2 he
    have HDE := hide (HD.out.dead (q := qV) (⟨0, 0, ⟨#[]⟩⟩ : V3) he (Nat.le_refl _))
    obtain ⟨hrF, rr, rf⟩ := HR.out
    have r0 := rr 0 _ rfl
    have r1 := rr 1 _ rfl
    have r2 := rr 2 _ rfl
    have g0 := rf 0 (by simp)
    have g1 := rf 1 (by simp)
    have g2 := rf 2 (by simp)
    clear rr rf
    go_wp2
    refine bodyPost_ret (v := .agg #[.int .i64 0, .int .i64 0, .string ⟨#[]⟩]) (by rw [results_c rfl]; go_simp) rfl ?_
    obtain ⟨v, x, s', e', q1, q2, q3, q4, q5⟩ := Rds.fin (x := ⟨0, 0, ⟨#[]⟩⟩) ⟨by show inI 0; unfold inI; omega, by show inI 0; unfold inI; omega⟩ (Nat.zero_le _) HDE.out HW.out HT.out hF (Nat.le_refl _)
    exact ⟨v, x, s', e', q1, q2, q3, q4.laid _, q5.trans (Rt.laid q4 _)⟩
end
end Go.Proofs.YtofdcgojgcnopaaGreat
