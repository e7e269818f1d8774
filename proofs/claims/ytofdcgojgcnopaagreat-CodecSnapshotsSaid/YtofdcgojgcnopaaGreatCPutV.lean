/- put, of a list of values. -/
import Derived.Test.YtofdcgojgcnopaaGreatCPut
namespace Go.Proofs.YtofdcgojgcnopaaGreat
open Go.RowKit
set_option linter.unusedVariables false
set_option linter.unusedSimpArgs false
section
variable (F : Nat) (o : Bs) (e : Int) (w : World)
set_option maxRecDepth 100000 in
set_option maxHeartbeats 4000000 in
theorem putV_any (v : Value) (l : List V3) (h : Wr w F o e) (hv : Lst w (· < F) 3 RV v l) (ho : o.length + (10 + wtS wtV l) ≤ 1000000000) :
    Calls Tryz.prog 64 #[.pointer (some ⟨F, 0, none⟩), v, .func (.func 33) #[.pointer (some ⟨F, 0, none⟩)] #[]] w (Wrs F (eL eV l) (10 + wtS wtV l) o e w) := by
  have HONE := hide (fun (w : World) (o : Bs) (e : Int) (x : V3) (xs : List Value) (hx : RV w (· < F) xs x) (h : Wr w F o e) (ho : o.length + wtV x ≤ 1000000000) =>
    show Calls Tryz.prog 33 #[.pointer (some ⟨F, 0, none⟩), .agg xs.toArray] w (Wrs F (eV x) (wtV x) o e w) from by
      rw [hx.1]
      exact wvalue_any F o e w x hx.2.1 hx.2.2 h (by unfold wtV at ho; omega))
  obtain ⟨A, cap, rfl⟩ := hv.form
  have HV := hide hv
  have hlen := hv.len
  unfold maxLen at hlen
  have HIN : Hid (inI (l.length : Int)) := hide (by unfold inI; omega)
  obtain ⟨m, hm⟩ : ∃ m, l.length = m := ⟨_, rfl⟩
  rw [hm] at HV hlen HIN ⊢
  have HM := hide hm
  have HW := hide h
  have HO := hide ho
  clear hm hv h ho
  by_cases hl : 4096 < m
  · have t1 : decide ((4096 : Int) < (m : Int)) = true := decide_eq_true (by omega)
    go_enter Tryz.func64, Tryz.ntmps64
    go_wp2_with fail
    refine (wfail_any F o e _ 5 HW.out).mono ?_
    rintro en w1 ⟨rfl, hr, ht⟩
    have HR := hide hr
    have HT := hide ht
    clear hr ht
    go_wp2_with fail
    refine (wint_ex F _ _ _ (m : Int) HIN.out HR.out (by have := HO.out; omega)).mono ?_
    rintro en w2 ⟨rfl, hr, ht⟩
    replace HR := hide hr
    replace HT := hide (HT.out.trans ht)
    clear hr ht
    obtain ⟨e1, he1⟩ : ∃ e1, (if e = 0 then 5 else e) = e1 := ⟨_, rfl⟩
    have he0 : e1 ≠ 0 := by rw [← he1]; split <;> omega
    have HE1 := hide he1
    rw [he1] at HR
    have t2 : (e1 != 0) = true := bne_iff_ne.2 he0
    obtain ⟨g, off, xs, e2, hg, hxl, hc, hR⟩ := HV.out.at_ (j := 0) (by rw [HM.out]; omega)
    cases e2
    obtain ⟨x, hx⟩ : ∃ x, l[0]'(by rw [HM.out]; omega) = x := ⟨_, rfl⟩
    rw [hx] at hR
    obtain ⟨rfl, hg1, hs1⟩ := hR
    clear hx
    have k0 := HT.out.kp.cell (p := ⟨g, _, none⟩) hg (hc 0 _ rfl)
    have k1 := HT.out.kp.cell (p := ⟨g, _, none⟩) hg (hc 1 _ rfl)
    have k2 := HT.out.kp.cell (p := ⟨g, _, none⟩) hg (hc 2 _ rfl)
    simp only [Nat.zero_mul, Nat.add_zero] at k0 k1 k2
    obtain ⟨vw, hvw⟩ := HR.out
    have b1 := hvw.c1
    have hF := hvw.lt
    have hu1 : (0 : Int) < (m : Int) := by omega
    clear he0 he1 hc hxl hvw
    go_wp2_with fail
    refine wp_loop_rounds 1 ?_
    rw [rounds_succ]
    go_wp2
    go_end0
    refine ⟨rfl, _, e1, ?_, HR.out.laid _, HT.out.trans (HR.out.wt_laid _)⟩
    rw [eL_long (by rw [HM.out]; exact hl), ← HE1.out]
    exact Wd.long (by have := num_len HIN.out; omega)
  · have t1 : decide ((4096 : Int) < (m : Int)) = false := decide_eq_false (by omega)
    go_enter Tryz.func64, Tryz.ntmps64
    go_wp2_with fail
    refine (wint_ex F _ _ _ (m : Int) HIN.out HW.out (by have := HO.out; omega)).mono ?_
    rintro en w1 ⟨rfl, hr, ht⟩
    have HP : Hid (PInv F eV wtV l o e w 0 w1) := hide (PInv.start (by rw [HM.out]; exact HIN.out) (by rw [HM.out]; exact hr) ht)
    clear hr ht
    go_wp2_with fail
    go_loopw [19] (fun i wr => ∃ j : Nat, j ≤ m ∧ i = .int .i64 j ∧ Hid (PInv F eV wtV l o e w j wr)) (fun i _ => m - (intOf i).toNat)
    case atStart => exact ⟨0, by omega, rfl, HP⟩
    case round =>
      obtain ⟨j, hj, rfl, HP⟩ := hrel
      obtain ⟨o1, e1, hd, hr, ht⟩ := HP.out
      have HD := hide hd
      have HR := hide hr
      have HT := hide ht
      clear hd hr ht
      by_cases hlt : j < m
      · have hjl : j < l.length := by rw [HM.out]; exact hlt
        obtain ⟨g, off, xs, e2, hg, hxl, hc, hR⟩ := HV.out.at_ hjl
        cases e2
        have HNX0 := hide (fun (w' : World) (o'' : Bs) (e'' : Int) h1 h2 h3 => PInv.next (F := F) (w := w) (w' := w') (wr := wr) (o'' := o'') (e'' := e'') hjl HD.out h1 h2 h3)
        have HLN0 : Hid (o1.length + wtV l[j] ≤ 1000000000) := hide (by
          have h1 := HD.out.2.2
          have h2 := wtS_le (wt := wtV) (l := l) (j + 1)
          rw [wtS_take hjl] at h2
          have := HO.out
          omega)
        obtain ⟨x, hx⟩ : ∃ x, l[j] = x := ⟨_, rfl⟩
        rw [hx] at hR HNX0 HLN0
        clear hx
        have HRX := hide hR
        obtain ⟨rfl, hg1, hs1⟩ := hR
        have k0 := HT.out.kp.cell (p := ⟨g, _, none⟩) hg (hc 0 _ rfl)
        have k1 := HT.out.kp.cell (p := ⟨g, _, none⟩) hg (hc 1 _ rfl)
        have k2 := HT.out.kp.cell (p := ⟨g, _, none⟩) hg (hc 2 _ rfl)
        simp only [Nat.add_zero] at k0 k1 k2
        have hgl := World.block_lt_of_cell? wr _ k0
        simp only at hgl
        obtain ⟨vw, hvw⟩ := HR.out
        have b1 := hvw.c1
        have hF := hvw.lt
        have hu0 : (0 : Int) ≤ (j : Int) := by omega
        have hu1 : (j : Int) < (m : Int) := by omega
        have HNX := hide HNX0.out
        have HR2 := hide (HR.out.laid (.cells #[.int .i64 x.q, .int .i64 x.n, .string x.s] 49))
        have HT2 := hide (HT.out.trans (HR.out.wt_laid (.cells #[.int .i64 x.q, .int .i64 x.n, .string x.s] 49)))
        have HLN := hide HLN0.out
        clear hc hxl hvw HNX0 HLN0
        by_cases he : e1 = 0
        · have t2 : (e1 != 0) = false := bne_eq_false_iff_eq.2 he
          have HRX2 : Hid (RV (wr.alloc (.cells #[.int .i64 x.q, .int .i64 x.n, .string x.s] 49)) (· < F) [.int .i64 x.q, .int .i64 x.n, .string x.s] x) := hide (rd_V.keep HT2.out.kp HRX.out)
          clear he
          go_wp2_with fail
          refine (HONE.out _ o1 e1 _ _ HRX2.out HR2.out HLN.out).mono ?_
          rintro en w2 ⟨rfl, o2, e2, hd, hr, ht⟩
          have HN2 := hide (HNX.out w2 o2 e2 hd hr (HT2.out.trans ht))
          clear hd hr ht
          go_wp2
          go_roundw
          case rel => exact ⟨j + 1, by omega, by go_num, HN2⟩
          case measure => simp [intOf]; omega
        · have t2 : (e1 != 0) = true := bne_iff_ne.2 he
          have HS := hide (PInv.stop (by rw [HM.out]; exact hl) he HD.out)
          clear he
          go_wp2
          go_end0
          exact ⟨rfl, _, _, HS.out, HR2.out, HT2.out⟩
      · obtain rfl : j = m := by omega
        have HS := hide (PInv.done (by rw [HM.out]; exact hl) (by rw [HM.out]; exact Nat.le_refl _) HD.out)
        go_wp2
        go_end0
        exact ⟨rfl, _, _, HS.out, HR.out, HT.out⟩
end
end Go.Proofs.YtofdcgojgcnopaaGreat
