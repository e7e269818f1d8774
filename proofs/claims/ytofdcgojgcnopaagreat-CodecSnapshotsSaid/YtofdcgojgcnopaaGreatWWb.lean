/- EncodeEngine of the program. put, of integers. The writer's function for points. put, of points. The writer's method reader. put, of readers. The writer's function for engines of keys. put, of engines of keys. The writer's method operator. put, of operators. The writer's method snapshot. Encode of the program. -/
import Derived.Test.YtofdcgojgcnopaaGreatWWa
import Derived.Test.YtofdcgojgcnopaaGreatCEnc
import Derived.Test.YtofdcgojgcnopaaGreatCPutE
import Derived.Test.YtofdcgojgcnopaaGreatWBase2
import Derived.Test.YtofdcgojgcnopaaGreatWBase
namespace Go.Proofs.YtofdcgojgcnopaaGreat
open Go.RowKit Go.Lib
set_option linter.unusedVariables false
set_option linter.unusedSimpArgs false
section
variable (w : World)
end
end Go.Proofs.YtofdcgojgcnopaaGreat

namespace Go.Proofs.YtofdcgojgcnopaaGreat
open Go.RowKit
set_option linter.unusedVariables false
set_option linter.unusedSimpArgs false
section
variable (F : Nat) (o : Bs) (e : Int) (w : World)
set_option maxRecDepth 100000 in
set_option maxHeartbeats 4000000 in
theorem putI_any (v : Value) (l : List Int) (h : Wr w F o e) (hv : Lst w (· < F) 1 RInX v l) (ho : o.length + (10 + wtS wtI l) ≤ 1000000000) :
    Calls Tryz.prog 66 #[.pointer (some ⟨F, 0, none⟩), v, .func (.func 36) #[.pointer (some ⟨F, 0, none⟩)] #[]] w (Wrs F (eL eN l) (10 + wtS wtI l) o e w) := by
  have HONE := hide (fun (w1 : World) (o : Bs) (e : Int) (x : Int) (xs : List Value) (hx : RInX w1 (· < F) xs x) (h : Wr w1 F o e) (ho : o.length + wtI x ≤ 1000000000) (_ : Wt F w w1) => wi_any F o e w1 x xs hx h ho)
  obtain ⟨A, cap, rfl⟩ := hv.form
  have HV := hide hv
  have hlen := hv.len
  unfold maxLen at hlen
  have HIN : Hid (inI (l.length : Int)) := hide (by unfold inI; omega)
  obtain ⟨m, hm⟩ : ∃ m, l.length = m := ⟨_, rfl⟩
  rw [hm] at HV hlen HIN ⊢
  have HM := hide hm
  have HW := hide h
  have HO := hide ho
  clear hm hv h ho
  by_cases hl : 4096 < m
  · have t1 : decide ((4096 : Int) < (m : Int)) = true := decide_eq_true (by omega)
    go_enter Tryz.func66, Tryz.ntmps66
    go_wp2_with fail
    refine (wfail_any F o e _ 5 HW.out).mono ?_
    rintro en w1 ⟨rfl, hr, ht⟩
    have HR := hide hr
    have HT := hide ht
    clear hr ht
    go_wp2_with fail
    refine (wint_ex F _ _ _ (m : Int) HIN.out HR.out (by have := HO.out; omega)).mono ?_
    rintro en w2 ⟨rfl, hr, ht⟩
    replace HR := hide hr
    replace HT := hide (HT.out.trans ht)
    clear hr ht
    obtain ⟨e1, he1⟩ : ∃ e1, (if e = 0 then 5 else e) = e1 := ⟨_, rfl⟩
    have he0 : e1 ≠ 0 := by rw [← he1]; split <;> omega
    have HE1 := hide he1
    rw [he1] at HR
    have t2 : (e1 != 0) = true := bne_iff_ne.2 he0
    obtain ⟨g, off, xs, e2, hg, hxl, hc, hR⟩ := HV.out.at_ (j := 0) (by rw [HM.out]; omega)
    cases e2
    obtain ⟨x, hx⟩ : ∃ x, l[0]'(by rw [HM.out]; omega) = x := ⟨_, rfl⟩
    rw [hx] at hR
    obtain ⟨rfl, hg1⟩ := hR
    clear hx
    have k0 := HT.out.kp.cell (p := ⟨g, _, none⟩) hg (hc 0 _ rfl)
    simp only [Nat.zero_mul, Nat.add_zero] at k0
    obtain ⟨vw, hvw⟩ := HR.out
    have b1 := hvw.c1
    have hF := hvw.lt
    have hu1 : (0 : Int) < (m : Int) := by omega
    clear he0 he1 hc hxl hvw
    go_wp2_with fail
    refine wp_loop_rounds 1 ?_
    rw [rounds_succ]
    go_wp2
    go_end0
    refine ⟨rfl, _, e1, ?_, HR.out, HT.out⟩
    rw [eL_long (by rw [HM.out]; exact hl), ← HE1.out]
    exact Wd.long (by have := num_len HIN.out; omega)
  · have t1 : decide ((4096 : Int) < (m : Int)) = false := decide_eq_false (by omega)
    go_enter Tryz.func66, Tryz.ntmps66
    go_wp2_with fail
    refine (wint_ex F _ _ _ (m : Int) HIN.out HW.out (by have := HO.out; omega)).mono ?_
    rintro en w1 ⟨rfl, hr, ht⟩
    have HP : Hid (PInv F eN wtI l o e w 0 w1) := hide (PInv.start (by rw [HM.out]; exact HIN.out) (by rw [HM.out]; exact hr) ht)
    clear hr ht
    go_wp2_with fail
    go_loopw [19] (fun i wr => ∃ j : Nat, j ≤ m ∧ i = .int .i64 j ∧ Hid (PInv F eN wtI l o e w j wr)) (fun i _ => m - (intOf i).toNat)
    case atStart => exact ⟨0, by omega, rfl, HP⟩
    case round =>
      obtain ⟨j, hj, rfl, HP⟩ := hrel
      obtain ⟨o1, e1, hd, hr, ht⟩ := HP.out
      have HD := hide hd
      have HR := hide hr
      have HT := hide ht
      clear hd hr ht
      by_cases hlt : j < m
      · have hjl : j < l.length := by rw [HM.out]; exact hlt
        obtain ⟨g, off, xs, e2, hg, hxl, hc, hR⟩ := HV.out.at_ hjl
        cases e2
        have HNX0 := hide (fun (w' : World) (o'' : Bs) (e'' : Int) h1 h2 h3 => PInv.next (F := F) (w := w) (w' := w') (wr := wr) (o'' := o'') (e'' := e'') hjl HD.out h1 h2 h3)
        have HLN0 : Hid (o1.length + wtI l[j] ≤ 1000000000) := hide (by
          have h1 := HD.out.2.2
          have h2 := wtS_le (wt := wtI) (l := l) (j + 1)
          rw [wtS_take hjl] at h2
          have := HO.out
          omega)
        obtain ⟨x, hx⟩ : ∃ x, l[j] = x := ⟨_, rfl⟩
        rw [hx] at hR HNX0 HLN0
        clear hx
        have HRX := hide hR
        obtain ⟨rfl, hg1⟩ := hR
        have k0 := HT.out.kp.cell (p := ⟨g, _, none⟩) hg (hc 0 _ rfl)
        simp only [Nat.add_zero, Nat.mul_one] at k0
        have hgl := World.block_lt_of_cell? wr _ k0
        simp only at hgl
        obtain ⟨vw, hvw⟩ := HR.out
        have b1 := hvw.c1
        have hF := hvw.lt
        have hu0 : (0 : Int) ≤ (j : Int) := by omega
        have hu1 : (j : Int) < (m : Int) := by omega
        have HNX := hide HNX0.out
        have HR2 := hide HR.out
        have HT2 := hide HT.out
        have HLN := hide HLN0.out
        clear hc hxl hvw HNX0 HLN0
        by_cases he : e1 = 0
        · have t2 : (e1 != 0) = false := bne_eq_false_iff_eq.2 he
          have HRX2 : Hid (RInX wr (· < F) [.int .i64 x] x) := hide HRX.out
          clear he
          go_wp2_with fail
          refine (HONE.out _ o1 e1 _ _ HRX2.out HR2.out HLN.out HT2.out).mono ?_
          rintro en w2 ⟨rfl, o2, e2, hd, hr, ht⟩
          have HN2 := hide (HNX.out w2 o2 e2 hd hr (HT2.out.trans ht))
          clear hd hr ht
          go_wp2
          go_roundw
          case rel => exact ⟨j + 1, by omega, by go_num, HN2⟩
          case measure => simp [intOf]; omega
        · have t2 : (e1 != 0) = true := bne_iff_ne.2 he
          have HS := hide (PInv.stop (by rw [HM.out]; exact hl) he HD.out)
          clear he
          go_wp2
          go_end0
          exact ⟨rfl, _, _, HS.out, HR2.out, HT2.out⟩
      · obtain rfl : j = m := by omega
        have HS := hide (PInv.done (by rw [HM.out]; exact hl) (by rw [HM.out]; exact Nat.le_refl _) HD.out)
        go_wp2
        go_end0
        exact ⟨rfl, _, _, HS.out, HR.out, HT.out⟩
end
end Go.Proofs.YtofdcgojgcnopaaGreat

namespace Go.Proofs.YtofdcgojgcnopaaGreat
open Go.RowKit
set_option linter.unusedVariables false
set_option linter.unusedSimpArgs false
section
variable (F : Nat) (o : Bs) (e : Int) (w : World)
set_option maxRecDepth 100000 in
set_option maxHeartbeats 4000000 in
theorem wpn_any (q : Nat) (x : Pnt) (xs : List Value) (hx : RPn w (· < F) xs x) (hq : Bx F w q [.pointer (some ⟨F, 0, none⟩)]) (h : Wr w F o e) (ho : o.length + wtPn x ≤ 1000000000) :
    Calls Tryz.prog 68 #[.agg xs.toArray, .pointer (some ⟨q, 0, none⟩)] w (Wrs F (ePnt x) (wtPn x) o e w) := by
  obtain ⟨rfl, g1, g2⟩ := hx
  unfold wtPn at ho
  have HO := hide ho
  have HQ := hide hq
  have HT := hide (Wt.laid h (.cells #[.int .i64 x.s, .int .i64 x.t] 124))
  have HB := hide (Bx.new h [.int .i64 x.s, .int .i64 x.t] 124)
  have HW := hide (h.laid (.cells #[.int .i64 x.s, .int .i64 x.t] 124))
  replace HQ := hide (HQ.out.keep (Wt.laid h (.cells #[.int .i64 x.s, .int .i64 x.t] 124)))
  clear h ho  hq
  go_enter Tryz.func68, Tryz.ntmps68
  obtain ⟨-, hx⟩ := HB.out
  have b0 := hx 0 _ rfl
  have b1 := hx 1 _ rfl
  clear hx
  have q0 := HQ.out.2 0 _ rfl
  have HG : Hid (∀ y ∈ ([x.s, x.t] : List Int), inI y) := hide (by intro y hy; simp at hy; rcases hy with rfl | rfl <;> assumption)
  have HLN := hide (raw_len HG.out)
  have HI := hide (Bx.new HW.out (ints [x.s, x.t]) 3)
  have HCL := hide (wints_any F o e ((w.alloc (.cells #[.int .i64 x.s, .int .i64 x.t] 124)).alloc (.cells (ints [x.s, x.t]).toArray 3)) [x.s, x.t] ((w.alloc (.cells #[.int .i64 x.s, .int .i64 x.t] 124)).heap.size) 2 HG.out HI.out (HW.out.laid _) (by simp) (by simp only [List.length_cons, List.length_nil]; have := HO.out; first | omega | (simp only [List.length_cons, List.length_nil] at *; omega)))
  simp only [World.size_alloc] at HCL
  replace HT := hide (HT.out.trans (Wt.laid HW.out (.cells (ints [x.s, x.t]).toArray 3)))
  replace HB := hide (HB.out.keep (Wt.laid HW.out (.cells (ints [x.s, x.t]).toArray 3)))
  replace HQ := hide (HQ.out.keep (Wt.laid HW.out (.cells (ints [x.s, x.t]).toArray 3)))
  go_wp2_with fail
  refine HCL.out.mono ?_
  rintro en w1 ⟨rfl, hr, ht⟩
  have HD1 := hide (Wd.raw HLN.out o e)
  clear HI
  replace HW := hide hr
  replace HB := hide (HB.out.keep ht)
  replace HT := hide (HT.out.trans ht)
  replace HQ := hide (HQ.out.keep ht)
  clear q0
  clear hr ht HCL b0 b1
  go_wp2
  go_end0
  refine ⟨rfl, _, _, ?_, HW.out, HT.out⟩
  rw [ePnt_raw]
  exact Wd.more HD1.out (by unfold wtPn; (try simp only [List.length_cons, List.length_nil]); omega)
end
end Go.Proofs.YtofdcgojgcnopaaGreat

namespace Go.Proofs.YtofdcgojgcnopaaGreat
open Go.RowKit
set_option linter.unusedVariables false
set_option linter.unusedSimpArgs false
section
variable (F : Nat) (o : Bs) (e : Int) (w : World)
set_option maxRecDepth 100000 in
set_option maxHeartbeats 4000000 in
theorem putPn_any (q : Nat) (hq : Bx F w q [.pointer (some ⟨F, 0, none⟩)]) (v : Value) (l : List Pnt) (h : Wr w F o e) (hv : Lst w (· < F) 2 RPn v l) (ho : o.length + (10 + wtS wtPn l) ≤ 1000000000) :
    Calls Tryz.prog 67 #[.pointer (some ⟨F, 0, none⟩), v, .func (.func 68) #[] #[.pointer (some ⟨q, 0, none⟩)]] w (Wrs F (eL ePnt l) (10 + wtS wtPn l) o e w) := by
  have HONE := hide (fun (w1 : World) (o : Bs) (e : Int) (x : Pnt) (xs : List Value) (hx : RPn w1 (· < F) xs x) (h : Wr w1 F o e) (ho : o.length + wtPn x ≤ 1000000000) (ht : Wt F w w1) => wpn_any F o e w1 q x xs hx (hq.keep ht) h ho)
  clear hq
  obtain ⟨A, cap, rfl⟩ := hv.form
  have HV := hide hv
  have hlen := hv.len
  unfold maxLen at hlen
  have HIN : Hid (inI (l.length : Int)) := hide (by unfold inI; omega)
  obtain ⟨m, hm⟩ : ∃ m, l.length = m := ⟨_, rfl⟩
  rw [hm] at HV hlen HIN ⊢
  have HM := hide hm
  have HW := hide h
  have HO := hide ho
  clear hm hv h ho
  by_cases hl : 4096 < m
  · have t1 : decide ((4096 : Int) < (m : Int)) = true := decide_eq_true (by omega)
    go_enter Tryz.func67, Tryz.ntmps67
    go_wp2_with fail
    refine (wfail_any F o e _ 5 HW.out).mono ?_
    rintro en w1 ⟨rfl, hr, ht⟩
    have HR := hide hr
    have HT := hide ht
    clear hr ht
    go_wp2_with fail
    refine (wint_ex F _ _ _ (m : Int) HIN.out HR.out (by have := HO.out; omega)).mono ?_
    rintro en w2 ⟨rfl, hr, ht⟩
    replace HR := hide hr
    replace HT := hide (HT.out.trans ht)
    clear hr ht
    obtain ⟨e1, he1⟩ : ∃ e1, (if e = 0 then 5 else e) = e1 := ⟨_, rfl⟩
    have he0 : e1 ≠ 0 := by rw [← he1]; split <;> omega
    have HE1 := hide he1
    rw [he1] at HR
    have t2 : (e1 != 0) = true := bne_iff_ne.2 he0
    obtain ⟨g, off, xs, e2, hg, hxl, hc, hR⟩ := HV.out.at_ (j := 0) (by rw [HM.out]; omega)
    cases e2
    obtain ⟨x, hx⟩ : ∃ x, l[0]'(by rw [HM.out]; omega) = x := ⟨_, rfl⟩
    rw [hx] at hR
    obtain ⟨rfl, hg1⟩ := hR
    clear hx
    have k0 := HT.out.kp.cell (p := ⟨g, _, none⟩) hg (hc 0 _ rfl)
    have k1 := HT.out.kp.cell (p := ⟨g, _, none⟩) hg (hc 1 _ rfl)
    simp only [Nat.zero_mul, Nat.add_zero] at k0 k1
    obtain ⟨vw, hvw⟩ := HR.out
    have b1 := hvw.c1
    have hF := hvw.lt
    have hu1 : (0 : Int) < (m : Int) := by omega
    clear he0 he1 hc hxl hvw
    go_wp2_with fail
    refine wp_loop_rounds 1 ?_
    rw [rounds_succ]
    go_wp2
    go_end0
    refine ⟨rfl, _, e1, ?_, HR.out.laid _, HT.out.trans (HR.out.wt_laid _)⟩
    rw [eL_long (by rw [HM.out]; exact hl), ← HE1.out]
    exact Wd.long (by have := num_len HIN.out; omega)
  · have t1 : decide ((4096 : Int) < (m : Int)) = false := decide_eq_false (by omega)
    go_enter Tryz.func67, Tryz.ntmps67
    go_wp2_with fail
    refine (wint_ex F _ _ _ (m : Int) HIN.out HW.out (by have := HO.out; omega)).mono ?_
    rintro en w1 ⟨rfl, hr, ht⟩
    have HP : Hid (PInv F ePnt wtPn l o e w 0 w1) := hide (PInv.start (by rw [HM.out]; exact HIN.out) (by rw [HM.out]; exact hr) ht)
    clear hr ht
    go_wp2_with fail
    go_loopw [19] (fun i wr => ∃ j : Nat, j ≤ m ∧ i = .int .i64 j ∧ Hid (PInv F ePnt wtPn l o e w j wr)) (fun i _ => m - (intOf i).toNat)
    case atStart => exact ⟨0, by omega, rfl, HP⟩
    case round =>
      obtain ⟨j, hj, rfl, HP⟩ := hrel
      obtain ⟨o1, e1, hd, hr, ht⟩ := HP.out
      have HD := hide hd
      have HR := hide hr
      have HT := hide ht
      clear hd hr ht
      by_cases hlt : j < m
      · have hjl : j < l.length := by rw [HM.out]; exact hlt
        obtain ⟨g, off, xs, e2, hg, hxl, hc, hR⟩ := HV.out.at_ hjl
        cases e2
        have HNX0 := hide (fun (w' : World) (o'' : Bs) (e'' : Int) h1 h2 h3 => PInv.next (F := F) (w := w) (w' := w') (wr := wr) (o'' := o'') (e'' := e'') hjl HD.out h1 h2 h3)
        have HLN0 : Hid (o1.length + wtPn l[j] ≤ 1000000000) := hide (by
          have h1 := HD.out.2.2
          have h2 := wtS_le (wt := wtPn) (l := l) (j + 1)
          rw [wtS_take hjl] at h2
          have := HO.out
          omega)
        obtain ⟨x, hx⟩ : ∃ x, l[j] = x := ⟨_, rfl⟩
        rw [hx] at hR HNX0 HLN0
        clear hx
        have HRX := hide hR
        obtain ⟨rfl, hg1⟩ := hR
        have k0 := HT.out.kp.cell (p := ⟨g, _, none⟩) hg (hc 0 _ rfl)
        have k1 := HT.out.kp.cell (p := ⟨g, _, none⟩) hg (hc 1 _ rfl)
        simp only [Nat.add_zero] at k0 k1
        have hgl := World.block_lt_of_cell? wr _ k0
        simp only at hgl
        obtain ⟨vw, hvw⟩ := HR.out
        have b1 := hvw.c1
        have hF := hvw.lt
        have hu0 : (0 : Int) ≤ (j : Int) := by omega
        have hu1 : (j : Int) < (m : Int) := by omega
        have HNX := hide HNX0.out
        have HR2 := hide (HR.out.laid (.cells #[.int .i64 x.s, .int .i64 x.t] 124))
        have HT2 := hide (HT.out.trans (HR.out.wt_laid (.cells #[.int .i64 x.s, .int .i64 x.t] 124)))
        have HLN := hide HLN0.out
        clear hc hxl hvw HNX0 HLN0
        by_cases he : e1 = 0
        · have t2 : (e1 != 0) = false := bne_eq_false_iff_eq.2 he
          have HRX2 : Hid (RPn (wr.alloc (.cells #[.int .i64 x.s, .int .i64 x.t] 124)) (· < F) [.int .i64 x.s, .int .i64 x.t] x) := hide (rd_Pn.keep HT2.out.kp HRX.out)
          clear he
          go_wp2_with fail
          refine (HONE.out _ o1 e1 _ _ HRX2.out HR2.out HLN.out HT2.out).mono ?_
          rintro en w2 ⟨rfl, o2, e2, hd, hr, ht⟩
          have HN2 := hide (HNX.out w2 o2 e2 hd hr (HT2.out.trans ht))
          clear hd hr ht
          go_wp2
          go_roundw
          case rel => exact ⟨j + 1, by omega, by go_num, HN2⟩
          case measure => simp [intOf]; omega
        · have t2 : (e1 != 0) = true := bne_iff_ne.2 he
          have HS := hide (PInv.stop (by rw [HM.out]; exact hl) he HD.out)
          clear he
          go_wp2
          go_end0
          exact ⟨rfl, _, _, HS.out, HR2.out, HT2.out⟩
      · obtain rfl : j = m := by omega
        have HS := hide (PInv.done (by rw [HM.out]; exact hl) (by rw [HM.out]; exact Nat.le_refl _) HD.out)
        go_wp2
        go_end0
        exact ⟨rfl, _, _, HS.out, HR.out, HT.out⟩
end
end Go.Proofs.YtofdcgojgcnopaaGreat

namespace Go.Proofs.YtofdcgojgcnopaaGreat
open Go.RowKit
set_option linter.unusedVariables false
set_option linter.unusedSimpArgs false
section
variable (F : Nat) (o : Bs) (e : Int) (w : World)
set_option maxRecDepth 100000 in
set_option maxHeartbeats 4000000 in
theorem wrd_any (x : Rdr) (xs : List Value) (hx : RRd w (· < F) xs x) (h : Wr w F o e) (ho : o.length + wtRd x ≤ 1000000000) :
    Calls Tryz.prog 38 #[.pointer (some ⟨F, 0, none⟩), .agg xs.toArray] w (Wrs F (eRdr x) (wtRd x) o e w) := by
  obtain ⟨u, v, rfl, hla, hlb, g1, g2, g3, g4⟩ := hx
  obtain ⟨A1, c1, rfl⟩ := hla.form
  obtain ⟨A2, c2, rfl⟩ := hlb.form
  unfold wtRd at ho
  have HO := hide ho
  have HT := hide ((Wt.laid h (.cells #[.pointer (some ⟨F, 0, none⟩)] 62)).trans (Wt.laid (h.laid (.cells #[.pointer (some ⟨F, 0, none⟩)] 62)) (.cells #[.int .i64 x.src, .int .i64 x.off, .int .i64 x.next, .slice A1 x.beyond.length c1, .slice A2 x.points.length c2, .int .i64 x.mark] 44)))
  have HQ := hide ((Bx.new h [.pointer (some ⟨F, 0, none⟩)] 62).keep (Wt.laid (h.laid _) (.cells #[.int .i64 x.src, .int .i64 x.off, .int .i64 x.next, .slice A1 x.beyond.length c1, .slice A2 x.points.length c2, .int .i64 x.mark] 44)))
  have HB := hide (Bx.new2 h (.cells #[.pointer (some ⟨F, 0, none⟩)] 62) [.int .i64 x.src, .int .i64 x.off, .int .i64 x.next, .slice A1 x.beyond.length c1, .slice A2 x.points.length c2, .int .i64 x.mark] 44)
  have HW := hide ((h.laid (.cells #[.pointer (some ⟨F, 0, none⟩)] 62)).laid (.cells #[.int .i64 x.src, .int .i64 x.off, .int .i64 x.next, .slice A1 x.beyond.length c1, .slice A2 x.points.length c2, .int .i64 x.mark] 44))
  have hbz : w.heap.size + 1 < ((w.alloc (.cells #[.pointer (some ⟨F, 0, none⟩)] 62)).alloc (.cells #[.int .i64 x.src, .int .i64 x.off, .int .i64 x.next, .slice A1 x.beyond.length c1, .slice A2 x.points.length c2, .int .i64 x.mark] 44)).heap.size := by simp
  have HHLA := hide hla
  have HHLB := hide hlb
  clear h ho hla hlb
  go_enter Tryz.func38, Tryz.ntmps38
  obtain ⟨-, hx⟩ := HB.out
  have b0 := hx 0 _ rfl
  have b1 := hx 1 _ rfl
  have b2 := hx 2 _ rfl
  clear hx
  have q0 := HQ.out.2 0 _ rfl
  have HG : Hid (∀ y ∈ ([x.src, x.off, x.next] : List Int), inI y) := hide (by intro y hy; simp at hy; rcases hy with rfl | rfl | rfl <;> assumption)
  have HLN := hide (raw_len HG.out)
  have HI := hide (Bx.new HW.out (ints [x.src, x.off, x.next]) 3)
  have HCL := hide (wints_any F o e (((w.alloc (.cells #[.pointer (some ⟨F, 0, none⟩)] 62)).alloc (.cells #[.int .i64 x.src, .int .i64 x.off, .int .i64 x.next, .slice A1 x.beyond.length c1, .slice A2 x.points.length c2, .int .i64 x.mark] 44)).alloc (.cells (ints [x.src, x.off, x.next]).toArray 3)) [x.src, x.off, x.next] (((w.alloc (.cells #[.pointer (some ⟨F, 0, none⟩)] 62)).alloc (.cells #[.int .i64 x.src, .int .i64 x.off, .int .i64 x.next, .slice A1 x.beyond.length c1, .slice A2 x.points.length c2, .int .i64 x.mark] 44)).heap.size) 3 HG.out HI.out (HW.out.laid _) (by simp) (by simp only [List.length_cons, List.length_nil]; have := HO.out; first | omega | (simp only [List.length_cons, List.length_nil] at *; omega)))
  simp only [World.size_alloc] at HCL
  replace HT := hide (HT.out.trans (Wt.laid HW.out (.cells (ints [x.src, x.off, x.next]).toArray 3)))
  replace HB := hide (HB.out.keep (Wt.laid HW.out (.cells (ints [x.src, x.off, x.next]).toArray 3)))
  replace HQ := hide (HQ.out.keep (Wt.laid HW.out (.cells (ints [x.src, x.off, x.next]).toArray 3)))
  go_wp2_with fail
  refine HCL.out.mono ?_
  rintro en w1 ⟨rfl, hr, ht⟩
  have HD1 := hide (Wd.raw HLN.out o e)
  clear HI
  replace HW := hide hr
  replace HB := hide (HB.out.keep ht)
  replace HT := hide (HT.out.trans ht)
  replace HQ := hide (HQ.out.keep ht)
  clear q0
  clear hr ht HCL b0 b1 b2
  obtain ⟨-, hx⟩ := HB.out
  have b3 := hx 3 _ rfl
  clear hx
  have q0 := HQ.out.2 0 _ rfl
  have HCL := hide (putI_any F (o ++ ([x.src, x.off, x.next] : List Int).flatMap num) e w1 _ _ HW.out (HHLA.out.keep rd_In HT.out.kp) (by have := HD1.out.2.2; have := HO.out; first | omega | (simp only [List.length_cons, List.length_nil] at *; omega)))
  go_wp2_with fail
  refine HCL.out.mono ?_
  rintro en w2 ⟨rfl, o2, e2, hd, hr, ht⟩
  have HD2 := hide hd
  clear hd
  replace HW := hide hr
  replace HB := hide (HB.out.keep ht)
  replace HT := hide (HT.out.trans ht)
  replace HQ := hide (HQ.out.keep ht)
  clear q0
  clear hr ht HCL b3
  obtain ⟨-, hx⟩ := HB.out
  have b4 := hx 4 _ rfl
  clear hx
  have q0 := HQ.out.2 0 _ rfl
  have HCL := hide (putPn_any F o2 e2 w2 _ HQ.out _ _ HW.out (HHLB.out.keep rd_Pn HT.out.kp) (by have := HD1.out.2.2; have := HD2.out.2.2; have := HO.out; first | omega | (simp only [List.length_cons, List.length_nil] at *; omega)))
  go_wp2_with fail
  refine HCL.out.mono ?_
  rintro en w3 ⟨rfl, o3, e3, hd, hr, ht⟩
  have HD3 := hide hd
  clear hd
  replace HW := hide hr
  replace HB := hide (HB.out.keep ht)
  replace HT := hide (HT.out.trans ht)
  replace HQ := hide (HQ.out.keep ht)
  clear q0
  clear hr ht HCL b4
  obtain ⟨-, hx⟩ := HB.out
  have b5 := hx 5 _ rfl
  clear hx
  have q0 := HQ.out.2 0 _ rfl
  have HCL := hide (wint_ex F o3 e3 w3 x.mark g4 HW.out (by have := HD1.out.2.2; have := HD2.out.2.2; have := HD3.out.2.2; have := HO.out; first | omega | (simp only [List.length_cons, List.length_nil] at *; omega)))
  go_wp2_with fail
  refine HCL.out.mono ?_
  rintro en w4 ⟨rfl, hr, ht⟩
  have HD4 := hide (Wd.num (n := x.mark) g4 o3 e3)
  replace HW := hide hr
  replace HB := hide (HB.out.keep ht)
  replace HT := hide (HT.out.trans ht)
  replace HQ := hide (HQ.out.keep ht)
  clear q0
  clear hr ht HCL b5
  go_wp2
  go_end0
  refine ⟨rfl, _, _, ?_, HW.out, HT.out⟩
  rw [eRdr_raw]
  exact Wd.more (HD1.out.and (HD2.out.and (HD3.out.and HD4.out))) (by unfold wtRd; (try simp only [List.length_cons, List.length_nil]); omega)
end
end Go.Proofs.YtofdcgojgcnopaaGreat

namespace Go.Proofs.YtofdcgojgcnopaaGreat
open Go.RowKit
set_option linter.unusedVariables false
set_option linter.unusedSimpArgs false
section
variable (F : Nat) (o : Bs) (e : Int) (w : World)
set_option maxRecDepth 100000 in
set_option maxHeartbeats 4000000 in
theorem putRd_any (v : Value) (l : List Rdr) (h : Wr w F o e) (hv : Lst w (· < F) 6 RRd v l) (ho : o.length + (10 + wtS wtRd l) ≤ 1000000000) :
    Calls Tryz.prog 37 #[.pointer (some ⟨F, 0, none⟩), v, .func (.func 38) #[.pointer (some ⟨F, 0, none⟩)] #[]] w (Wrs F (eL eRdr l) (10 + wtS wtRd l) o e w) := by
  have HONE := hide (fun (w1 : World) (o : Bs) (e : Int) (x : Rdr) (xs : List Value) (hx : RRd w1 (· < F) xs x) (h : Wr w1 F o e) (ho : o.length + wtRd x ≤ 1000000000) (_ : Wt F w w1) => wrd_any F o e w1 x xs hx h ho)
  obtain ⟨A, cap, rfl⟩ := hv.form
  have HV := hide hv
  have hlen := hv.len
  unfold maxLen at hlen
  have HIN : Hid (inI (l.length : Int)) := hide (by unfold inI; omega)
  obtain ⟨m, hm⟩ : ∃ m, l.length = m := ⟨_, rfl⟩
  rw [hm] at HV hlen HIN ⊢
  have HM := hide hm
  have HW := hide h
  have HO := hide ho
  clear hm hv h ho
  by_cases hl : 4096 < m
  · have t1 : decide ((4096 : Int) < (m : Int)) = true := decide_eq_true (by omega)
    go_enter Tryz.func37, Tryz.ntmps37
    go_wp2_with fail
    refine (wfail_any F o e _ 5 HW.out).mono ?_
    rintro en w1 ⟨rfl, hr, ht⟩
    have HR := hide hr
    have HT := hide ht
    clear hr ht
    go_wp2_with fail
    refine (wint_ex F _ _ _ (m : Int) HIN.out HR.out (by have := HO.out; omega)).mono ?_
    rintro en w2 ⟨rfl, hr, ht⟩
    replace HR := hide hr
    replace HT := hide (HT.out.trans ht)
    clear hr ht
    obtain ⟨e1, he1⟩ : ∃ e1, (if e = 0 then 5 else e) = e1 := ⟨_, rfl⟩
    have he0 : e1 ≠ 0 := by rw [← he1]; split <;> omega
    have HE1 := hide he1
    rw [he1] at HR
    have t2 : (e1 != 0) = true := bne_iff_ne.2 he0
    obtain ⟨g, off, xs, e2, hg, hxl, hc, hR⟩ := HV.out.at_ (j := 0) (by rw [HM.out]; omega)
    cases e2
    obtain ⟨x, hx⟩ : ∃ x, l[0]'(by rw [HM.out]; omega) = x := ⟨_, rfl⟩
    rw [hx] at hR
    obtain ⟨vv, vw, rfl, hvv, hvw2, hg1⟩ := hR; obtain ⟨A1, c1, rfl⟩ := hvv.form; obtain ⟨A2, c2, rfl⟩ := hvw2.form
    clear hx
    have k0 := HT.out.kp.cell (p := ⟨g, _, none⟩) hg (hc 0 _ rfl)
    have k1 := HT.out.kp.cell (p := ⟨g, _, none⟩) hg (hc 1 _ rfl)
    have k2 := HT.out.kp.cell (p := ⟨g, _, none⟩) hg (hc 2 _ rfl)
    have k3 := HT.out.kp.cell (p := ⟨g, _, none⟩) hg (hc 3 _ rfl)
    have k4 := HT.out.kp.cell (p := ⟨g, _, none⟩) hg (hc 4 _ rfl)
    have k5 := HT.out.kp.cell (p := ⟨g, _, none⟩) hg (hc 5 _ rfl)
    simp only [Nat.zero_mul, Nat.add_zero] at k0 k1 k2 k3 k4 k5
    obtain ⟨vw, hvw⟩ := HR.out
    have b1 := hvw.c1
    have hF := hvw.lt
    have hu1 : (0 : Int) < (m : Int) := by omega
    clear he0 he1 hc hxl hvw
    go_wp2_with fail
    refine wp_loop_rounds 1 ?_
    rw [rounds_succ]
    go_wp2
    go_end0
    refine ⟨rfl, _, e1, ?_, HR.out.laid _, HT.out.trans (HR.out.wt_laid _)⟩
    rw [eL_long (by rw [HM.out]; exact hl), ← HE1.out]
    exact Wd.long (by have := num_len HIN.out; omega)
  · have t1 : decide ((4096 : Int) < (m : Int)) = false := decide_eq_false (by omega)
    go_enter Tryz.func37, Tryz.ntmps37
    go_wp2_with fail
    refine (wint_ex F _ _ _ (m : Int) HIN.out HW.out (by have := HO.out; omega)).mono ?_
    rintro en w1 ⟨rfl, hr, ht⟩
    have HP : Hid (PInv F eRdr wtRd l o e w 0 w1) := hide (PInv.start (by rw [HM.out]; exact HIN.out) (by rw [HM.out]; exact hr) ht)
    clear hr ht
    go_wp2_with fail
    go_loopw [19] (fun i wr => ∃ j : Nat, j ≤ m ∧ i = .int .i64 j ∧ Hid (PInv F eRdr wtRd l o e w j wr)) (fun i _ => m - (intOf i).toNat)
    case atStart => exact ⟨0, by omega, rfl, HP⟩
    case round =>
      obtain ⟨j, hj, rfl, HP⟩ := hrel
      obtain ⟨o1, e1, hd, hr, ht⟩ := HP.out
      have HD := hide hd
      have HR := hide hr
      have HT := hide ht
      clear hd hr ht
      by_cases hlt : j < m
      · have hjl : j < l.length := by rw [HM.out]; exact hlt
        obtain ⟨g, off, xs, e2, hg, hxl, hc, hR⟩ := HV.out.at_ hjl
        cases e2
        have HNX0 := hide (fun (w' : World) (o'' : Bs) (e'' : Int) h1 h2 h3 => PInv.next (F := F) (w := w) (w' := w') (wr := wr) (o'' := o'') (e'' := e'') hjl HD.out h1 h2 h3)
        have HLN0 : Hid (o1.length + wtRd l[j] ≤ 1000000000) := hide (by
          have h1 := HD.out.2.2
          have h2 := wtS_le (wt := wtRd) (l := l) (j + 1)
          rw [wtS_take hjl] at h2
          have := HO.out
          omega)
        obtain ⟨x, hx⟩ : ∃ x, l[j] = x := ⟨_, rfl⟩
        rw [hx] at hR HNX0 HLN0
        clear hx
        have HRX := hide hR
        obtain ⟨vv, vw, rfl, hvv, hvw2, hg1⟩ := hR; obtain ⟨A1, c1, rfl⟩ := hvv.form; obtain ⟨A2, c2, rfl⟩ := hvw2.form
        have k0 := HT.out.kp.cell (p := ⟨g, _, none⟩) hg (hc 0 _ rfl)
        have k1 := HT.out.kp.cell (p := ⟨g, _, none⟩) hg (hc 1 _ rfl)
        have k2 := HT.out.kp.cell (p := ⟨g, _, none⟩) hg (hc 2 _ rfl)
        have k3 := HT.out.kp.cell (p := ⟨g, _, none⟩) hg (hc 3 _ rfl)
        have k4 := HT.out.kp.cell (p := ⟨g, _, none⟩) hg (hc 4 _ rfl)
        have k5 := HT.out.kp.cell (p := ⟨g, _, none⟩) hg (hc 5 _ rfl)
        simp only [Nat.add_zero] at k0 k1 k2 k3 k4 k5
        have hgl := World.block_lt_of_cell? wr _ k0
        simp only at hgl
        obtain ⟨vw, hvw⟩ := HR.out
        have b1 := hvw.c1
        have hF := hvw.lt
        have hu0 : (0 : Int) ≤ (j : Int) := by omega
        have hu1 : (j : Int) < (m : Int) := by omega
        have HNX := hide HNX0.out
        have HR2 := hide (HR.out.laid (.cells #[.int .i64 x.src, .int .i64 x.off, .int .i64 x.next, .slice A1 x.beyond.length c1, .slice A2 x.points.length c2, .int .i64 x.mark] 44))
        have HT2 := hide (HT.out.trans (HR.out.wt_laid (.cells #[.int .i64 x.src, .int .i64 x.off, .int .i64 x.next, .slice A1 x.beyond.length c1, .slice A2 x.points.length c2, .int .i64 x.mark] 44)))
        have HLN := hide HLN0.out
        clear hc hxl hvw HNX0 HLN0
        by_cases he : e1 = 0
        · have t2 : (e1 != 0) = false := bne_eq_false_iff_eq.2 he
          have HRX2 : Hid (RRd (wr.alloc (.cells #[.int .i64 x.src, .int .i64 x.off, .int .i64 x.next, .slice A1 x.beyond.length c1, .slice A2 x.points.length c2, .int .i64 x.mark] 44)) (· < F) [.int .i64 x.src, .int .i64 x.off, .int .i64 x.next, .slice A1 x.beyond.length c1, .slice A2 x.points.length c2, .int .i64 x.mark] x) := hide (rd_Rd.keep HT2.out.kp HRX.out)
          clear he
          go_wp2_with fail
          refine (HONE.out _ o1 e1 _ _ HRX2.out HR2.out HLN.out HT2.out).mono ?_
          rintro en w2 ⟨rfl, o2, e2, hd, hr, ht⟩
          have HN2 := hide (HNX.out w2 o2 e2 hd hr (HT2.out.trans ht))
          clear hd hr ht
          go_wp2
          go_roundw
          case rel => exact ⟨j + 1, by omega, by go_num, HN2⟩
          case measure => simp [intOf]; omega
        · have t2 : (e1 != 0) = true := bne_iff_ne.2 he
          have HS := hide (PInv.stop (by rw [HM.out]; exact hl) he HD.out)
          clear he
          go_wp2
          go_end0
          exact ⟨rfl, _, _, HS.out, HR2.out, HT2.out⟩
      · obtain rfl : j = m := by omega
        have HS := hide (PInv.done (by rw [HM.out]; exact hl) (by rw [HM.out]; exact Nat.le_refl _) HD.out)
        go_wp2
        go_end0
        exact ⟨rfl, _, _, HS.out, HR.out, HT.out⟩
end
end Go.Proofs.YtofdcgojgcnopaaGreat

namespace Go.Proofs.YtofdcgojgcnopaaGreat
open Go.RowKit
set_option linter.unusedVariables false
set_option linter.unusedSimpArgs false
section
variable (F : Nat) (o : Bs) (e : Int) (w : World)
set_option maxRecDepth 100000 in
set_option maxHeartbeats 4000000 in
theorem wky_any (q : Nat) (x : Kyd) (xs : List Value) (hx : RKyW w (· < F) xs x) (hq : Bx F w q [.pointer (some ⟨F, 0, none⟩)]) (h : Wr w F o e) (ho : o.length + wtKy x ≤ 1000000000) :
    Calls Tryz.prog 70 #[.agg xs.toArray, .pointer (some ⟨q, 0, none⟩)] w (Wrs F (eKyd x) (wtKy x) o e w) := by
  obtain ⟨u, v, t, rfl, hla, hlb, hlc, g1, g2, g3, g4⟩ := hx
  obtain ⟨A1, c1, rfl⟩ := hla.form
  obtain ⟨A2, c2, rfl⟩ := hlb.form
  obtain ⟨A3, c3, rfl⟩ := hlc.form
  unfold wtKy at ho
  have HO := hide ho
  have HQ := hide hq
  have HT := hide (Wt.laid h (.cells #[.int .i64 x.query, .int .i64 x.key.q, .int .i64 x.key.n, .string x.key.s, .int .i64 x.eng.mark, .slice A1 x.eng.wait.length c1, .slice A2 x.eng.runs.length c2, .slice A3 x.eng.held.length c3] 55))
  have HB := hide (Bx.new h [.int .i64 x.query, .int .i64 x.key.q, .int .i64 x.key.n, .string x.key.s, .int .i64 x.eng.mark, .slice A1 x.eng.wait.length c1, .slice A2 x.eng.runs.length c2, .slice A3 x.eng.held.length c3] 55)
  have HW := hide (h.laid (.cells #[.int .i64 x.query, .int .i64 x.key.q, .int .i64 x.key.n, .string x.key.s, .int .i64 x.eng.mark, .slice A1 x.eng.wait.length c1, .slice A2 x.eng.runs.length c2, .slice A3 x.eng.held.length c3] 55))
  replace HQ := hide (HQ.out.keep (Wt.laid h (.cells #[.int .i64 x.query, .int .i64 x.key.q, .int .i64 x.key.n, .string x.key.s, .int .i64 x.eng.mark, .slice A1 x.eng.wait.length c1, .slice A2 x.eng.runs.length c2, .slice A3 x.eng.held.length c3] 55)))
  have HHLA := hide hla
  have HHLB := hide hlb
  have HHLC := hide hlc
  clear h ho hla hlb hlc hq
  go_enter Tryz.func70, Tryz.ntmps70
  obtain ⟨-, hx⟩ := HB.out
  have b0 := hx 0 _ rfl
  clear hx
  have q0 := HQ.out.2 0 _ rfl
  have HCL := hide (wint_ex F o e (w.alloc (.cells #[.int .i64 x.query, .int .i64 x.key.q, .int .i64 x.key.n, .string x.key.s, .int .i64 x.eng.mark, .slice A1 x.eng.wait.length c1, .slice A2 x.eng.runs.length c2, .slice A3 x.eng.held.length c3] 55)) x.query g1 HW.out (by have := HO.out; first | omega | (simp only [List.length_cons, List.length_nil] at *; omega)))
  go_wp2_with fail
  refine HCL.out.mono ?_
  rintro en w1 ⟨rfl, hr, ht⟩
  have HD1 := hide (Wd.num (n := x.query) g1 o e)
  replace HW := hide hr
  replace HB := hide (HB.out.keep ht)
  replace HT := hide (HT.out.trans ht)
  replace HQ := hide (HQ.out.keep ht)
  clear q0
  clear hr ht HCL b0
  obtain ⟨-, hx⟩ := HB.out
  have b1 := hx 1 _ rfl
  have b2 := hx 2 _ rfl
  have b3 := hx 3 _ rfl
  clear hx
  have q0 := HQ.out.2 0 _ rfl
  have HCL := hide (wvalue_any F (o ++ num x.query) e w1 x.key g2 g3 HW.out (by have := HD1.out.2.2; have := HO.out; first | omega | (simp only [List.length_cons, List.length_nil] at *; omega)))
  go_wp2_with fail
  refine HCL.out.mono ?_
  rintro en w2 ⟨rfl, o2, e2, hd, hr, ht⟩
  have HD2 := hide hd
  clear hd
  replace HW := hide hr
  replace HB := hide (HB.out.keep ht)
  replace HT := hide (HT.out.trans ht)
  replace HQ := hide (HQ.out.keep ht)
  clear q0
  clear hr ht HCL b1 b2 b3
  obtain ⟨-, hx⟩ := HB.out
  have b4 := hx 4 _ rfl
  have b5 := hx 5 _ rfl
  have b6 := hx 6 _ rfl
  have b7 := hx 7 _ rfl
  clear hx
  have q0 := HQ.out.2 0 _ rfl
  have HCL := hide (wen_any F o2 e2 w2 x.eng _ ⟨_, _, _, rfl, HHLA.out.keep rd_Ev HT.out.kp, HHLB.out.keep rd_Cf HT.out.kp, HHLC.out.keep rd_Ev HT.out.kp, g4⟩ HW.out (by have := HD1.out.2.2; have := HD2.out.2.2; have := HO.out; first | omega | (simp only [List.length_cons, List.length_nil] at *; omega)))
  go_wp2_with fail
  refine HCL.out.mono ?_
  rintro en w3 ⟨rfl, o3, e3, hd, hr, ht⟩
  have HD3 := hide hd
  clear hd
  replace HW := hide hr
  replace HB := hide (HB.out.keep ht)
  replace HT := hide (HT.out.trans ht)
  replace HQ := hide (HQ.out.keep ht)
  clear q0
  clear hr ht HCL b4 b5 b6 b7
  go_wp2
  go_end0
  refine ⟨rfl, _, _, ?_, HW.out, HT.out⟩
  unfold eKyd
  exact Wd.more (HD1.out.and (HD2.out.and HD3.out)) (by unfold wtKy; (try simp only [List.length_cons, List.length_nil]); omega)
end
end Go.Proofs.YtofdcgojgcnopaaGreat

namespace Go.Proofs.YtofdcgojgcnopaaGreat
open Go.RowKit
set_option linter.unusedVariables false
set_option linter.unusedSimpArgs false
section
variable (F : Nat) (o : Bs) (e : Int) (w : World)
set_option maxRecDepth 100000 in
set_option maxHeartbeats 4000000 in
theorem putKy_any (q : Nat) (hq : Bx F w q [.pointer (some ⟨F, 0, none⟩)]) (v : Value) (l : List Kyd) (h : Wr w F o e) (hv : Lst w (· < F) 8 RKyW v l) (ho : o.length + (10 + wtS wtKy l) ≤ 1000000000) :
    Calls Tryz.prog 69 #[.pointer (some ⟨F, 0, none⟩), v, .func (.func 70) #[] #[.pointer (some ⟨q, 0, none⟩)]] w (Wrs F (eL eKyd l) (10 + wtS wtKy l) o e w) := by
  have HONE := hide (fun (w1 : World) (o : Bs) (e : Int) (x : Kyd) (xs : List Value) (hx : RKyW w1 (· < F) xs x) (h : Wr w1 F o e) (ho : o.length + wtKy x ≤ 1000000000) (ht : Wt F w w1) => wky_any F o e w1 q x xs hx (hq.keep ht) h ho)
  clear hq
  obtain ⟨A, cap, rfl⟩ := hv.form
  have HV := hide hv
  have hlen := hv.len
  unfold maxLen at hlen
  have HIN : Hid (inI (l.length : Int)) := hide (by unfold inI; omega)
  obtain ⟨m, hm⟩ : ∃ m, l.length = m := ⟨_, rfl⟩
  rw [hm] at HV hlen HIN ⊢
  have HM := hide hm
  have HW := hide h
  have HO := hide ho
  clear hm hv h ho
  by_cases hl : 4096 < m
  · have t1 : decide ((4096 : Int) < (m : Int)) = true := decide_eq_true (by omega)
    go_enter Tryz.func69, Tryz.ntmps69
    go_wp2_with fail
    refine (wfail_any F o e _ 5 HW.out).mono ?_
    rintro en w1 ⟨rfl, hr, ht⟩
    have HR := hide hr
    have HT := hide ht
    clear hr ht
    go_wp2_with fail
    refine (wint_ex F _ _ _ (m : Int) HIN.out HR.out (by have := HO.out; omega)).mono ?_
    rintro en w2 ⟨rfl, hr, ht⟩
    replace HR := hide hr
    replace HT := hide (HT.out.trans ht)
    clear hr ht
    obtain ⟨e1, he1⟩ : ∃ e1, (if e = 0 then 5 else e) = e1 := ⟨_, rfl⟩
    have he0 : e1 ≠ 0 := by rw [← he1]; split <;> omega
    have HE1 := hide he1
    rw [he1] at HR
    have t2 : (e1 != 0) = true := bne_iff_ne.2 he0
    obtain ⟨g, off, xs, e2, hg, hxl, hc, hR⟩ := HV.out.at_ (j := 0) (by rw [HM.out]; omega)
    cases e2
    obtain ⟨x, hx⟩ : ∃ x, l[0]'(by rw [HM.out]; omega) = x := ⟨_, rfl⟩
    rw [hx] at hR
    obtain ⟨vv, vw, vx, rfl, hvv, hvw2, hvx, hg1⟩ := hR; obtain ⟨A1, c1, rfl⟩ := hvv.form; obtain ⟨A2, c2, rfl⟩ := hvw2.form; obtain ⟨A3, c3, rfl⟩ := hvx.form
    clear hx
    have k0 := HT.out.kp.cell (p := ⟨g, _, none⟩) hg (hc 0 _ rfl)
    have k1 := HT.out.kp.cell (p := ⟨g, _, none⟩) hg (hc 1 _ rfl)
    have k2 := HT.out.kp.cell (p := ⟨g, _, none⟩) hg (hc 2 _ rfl)
    have k3 := HT.out.kp.cell (p := ⟨g, _, none⟩) hg (hc 3 _ rfl)
    have k4 := HT.out.kp.cell (p := ⟨g, _, none⟩) hg (hc 4 _ rfl)
    have k5 := HT.out.kp.cell (p := ⟨g, _, none⟩) hg (hc 5 _ rfl)
    have k6 := HT.out.kp.cell (p := ⟨g, _, none⟩) hg (hc 6 _ rfl)
    have k7 := HT.out.kp.cell (p := ⟨g, _, none⟩) hg (hc 7 _ rfl)
    simp only [Nat.zero_mul, Nat.add_zero] at k0 k1 k2 k3 k4 k5 k6 k7
    obtain ⟨vw, hvw⟩ := HR.out
    have b1 := hvw.c1
    have hF := hvw.lt
    have hu1 : (0 : Int) < (m : Int) := by omega
    clear he0 he1 hc hxl hvw
    go_wp2_with fail
    refine wp_loop_rounds 1 ?_
    rw [rounds_succ]
    go_wp2
    go_end0
    refine ⟨rfl, _, e1, ?_, HR.out.laid _, HT.out.trans (HR.out.wt_laid _)⟩
    rw [eL_long (by rw [HM.out]; exact hl), ← HE1.out]
    exact Wd.long (by have := num_len HIN.out; omega)
  · have t1 : decide ((4096 : Int) < (m : Int)) = false := decide_eq_false (by omega)
    go_enter Tryz.func69, Tryz.ntmps69
    go_wp2_with fail
    refine (wint_ex F _ _ _ (m : Int) HIN.out HW.out (by have := HO.out; omega)).mono ?_
    rintro en w1 ⟨rfl, hr, ht⟩
    have HP : Hid (PInv F eKyd wtKy l o e w 0 w1) := hide (PInv.start (by rw [HM.out]; exact HIN.out) (by rw [HM.out]; exact hr) ht)
    clear hr ht
    go_wp2_with fail
    go_loopw [19] (fun i wr => ∃ j : Nat, j ≤ m ∧ i = .int .i64 j ∧ Hid (PInv F eKyd wtKy l o e w j wr)) (fun i _ => m - (intOf i).toNat)
    case atStart => exact ⟨0, by omega, rfl, HP⟩
    case round =>
      obtain ⟨j, hj, rfl, HP⟩ := hrel
      obtain ⟨o1, e1, hd, hr, ht⟩ := HP.out
      have HD := hide hd
      have HR := hide hr
      have HT := hide ht
      clear hd hr ht
      by_cases hlt : j < m
      · have hjl : j < l.length := by rw [HM.out]; exact hlt
        obtain ⟨g, off, xs, e2, hg, hxl, hc, hR⟩ := HV.out.at_ hjl
        cases e2
        have HNX0 := hide (fun (w' : World) (o'' : Bs) (e'' : Int) h1 h2 h3 => PInv.next (F := F) (w := w) (w' := w') (wr := wr) (o'' := o'') (e'' := e'') hjl HD.out h1 h2 h3)
        have HLN0 : Hid (o1.length + wtKy l[j] ≤ 1000000000) := hide (by
          have h1 := HD.out.2.2
          have h2 := wtS_le (wt := wtKy) (l := l) (j + 1)
          rw [wtS_take hjl] at h2
          have := HO.out
          omega)
        obtain ⟨x, hx⟩ : ∃ x, l[j] = x := ⟨_, rfl⟩
        rw [hx] at hR HNX0 HLN0
        clear hx
        have HRX := hide hR
        obtain ⟨vv, vw, vx, rfl, hvv, hvw2, hvx, hg1⟩ := hR; obtain ⟨A1, c1, rfl⟩ := hvv.form; obtain ⟨A2, c2, rfl⟩ := hvw2.form; obtain ⟨A3, c3, rfl⟩ := hvx.form
        have k0 := HT.out.kp.cell (p := ⟨g, _, none⟩) hg (hc 0 _ rfl)
        have k1 := HT.out.kp.cell (p := ⟨g, _, none⟩) hg (hc 1 _ rfl)
        have k2 := HT.out.kp.cell (p := ⟨g, _, none⟩) hg (hc 2 _ rfl)
        have k3 := HT.out.kp.cell (p := ⟨g, _, none⟩) hg (hc 3 _ rfl)
        have k4 := HT.out.kp.cell (p := ⟨g, _, none⟩) hg (hc 4 _ rfl)
        have k5 := HT.out.kp.cell (p := ⟨g, _, none⟩) hg (hc 5 _ rfl)
        have k6 := HT.out.kp.cell (p := ⟨g, _, none⟩) hg (hc 6 _ rfl)
        have k7 := HT.out.kp.cell (p := ⟨g, _, none⟩) hg (hc 7 _ rfl)
        simp only [Nat.add_zero] at k0 k1 k2 k3 k4 k5 k6 k7
        have hgl := World.block_lt_of_cell? wr _ k0
        simp only at hgl
        obtain ⟨vw, hvw⟩ := HR.out
        have b1 := hvw.c1
        have hF := hvw.lt
        have hu0 : (0 : Int) ≤ (j : Int) := by omega
        have hu1 : (j : Int) < (m : Int) := by omega
        have HNX := hide HNX0.out
        have HR2 := hide (HR.out.laid (.cells #[.int .i64 x.query, .int .i64 x.key.q, .int .i64 x.key.n, .string x.key.s, .int .i64 x.eng.mark, .slice A1 x.eng.wait.length c1, .slice A2 x.eng.runs.length c2, .slice A3 x.eng.held.length c3] 55))
        have HT2 := hide (HT.out.trans (HR.out.wt_laid (.cells #[.int .i64 x.query, .int .i64 x.key.q, .int .i64 x.key.n, .string x.key.s, .int .i64 x.eng.mark, .slice A1 x.eng.wait.length c1, .slice A2 x.eng.runs.length c2, .slice A3 x.eng.held.length c3] 55)))
        have HLN := hide HLN0.out
        clear hc hxl hvw HNX0 HLN0
        by_cases he : e1 = 0
        · have t2 : (e1 != 0) = false := bne_eq_false_iff_eq.2 he
          have HRX2 : Hid (RKyW (wr.alloc (.cells #[.int .i64 x.query, .int .i64 x.key.q, .int .i64 x.key.n, .string x.key.s, .int .i64 x.eng.mark, .slice A1 x.eng.wait.length c1, .slice A2 x.eng.runs.length c2, .slice A3 x.eng.held.length c3] 55)) (· < F) [.int .i64 x.query, .int .i64 x.key.q, .int .i64 x.key.n, .string x.key.s, .int .i64 x.eng.mark, .slice A1 x.eng.wait.length c1, .slice A2 x.eng.runs.length c2, .slice A3 x.eng.held.length c3] x) := hide (rd_KyW.keep HT2.out.kp HRX.out)
          clear he
          go_wp2_with fail
          refine (HONE.out _ o1 e1 _ _ HRX2.out HR2.out HLN.out HT2.out).mono ?_
          rintro en w2 ⟨rfl, o2, e2, hd, hr, ht⟩
          have HN2 := hide (HNX.out w2 o2 e2 hd hr (HT2.out.trans ht))
          clear hd hr ht
          go_wp2
          go_roundw
          case rel => exact ⟨j + 1, by omega, by go_num, HN2⟩
          case measure => simp [intOf]; omega
        · have t2 : (e1 != 0) = true := bne_iff_ne.2 he
          have HS := hide (PInv.stop (by rw [HM.out]; exact hl) he HD.out)
          clear he
          go_wp2
          go_end0
          exact ⟨rfl, _, _, HS.out, HR2.out, HT2.out⟩
      · obtain rfl : j = m := by omega
        have HS := hide (PInv.done (by rw [HM.out]; exact hl) (by rw [HM.out]; exact Nat.le_refl _) HD.out)
        go_wp2
        go_end0
        exact ⟨rfl, _, _, HS.out, HR.out, HT.out⟩
end
end Go.Proofs.YtofdcgojgcnopaaGreat

namespace Go.Proofs.YtofdcgojgcnopaaGreat
open Go.RowKit
set_option linter.unusedVariables false
set_option linter.unusedSimpArgs false
section
variable (F : Nat) (o : Bs) (e : Int) (w : World)
set_option maxRecDepth 100000 in
set_option maxHeartbeats 4000000 in
theorem wop_any (x : Opr) (xs : List Value) (hx : ROpW w (· < F) xs x) (h : Wr w F o e) (ho : o.length + wtOp x ≤ 1000000000) :
    Calls Tryz.prog 40 #[.pointer (some ⟨F, 0, none⟩), .agg xs.toArray] w (Wrs F (eOpr x) (wtOp x) o e w) := by
  obtain ⟨u, v, rfl, hla, hlb⟩ := hx
  obtain ⟨A1, c1, rfl⟩ := hla.form
  obtain ⟨A2, c2, rfl⟩ := hlb.form
  unfold wtOp at ho
  have HO := hide ho
  have HT := hide ((Wt.laid h (.cells #[.pointer (some ⟨F, 0, none⟩)] 62)).trans (Wt.laid (h.laid (.cells #[.pointer (some ⟨F, 0, none⟩)] 62)) (.cells #[.slice A1 x.marks.length c1, .slice A2 x.engs.length c2] 47)))
  have HQ := hide ((Bx.new h [.pointer (some ⟨F, 0, none⟩)] 62).keep (Wt.laid (h.laid _) (.cells #[.slice A1 x.marks.length c1, .slice A2 x.engs.length c2] 47)))
  have HB := hide (Bx.new2 h (.cells #[.pointer (some ⟨F, 0, none⟩)] 62) [.slice A1 x.marks.length c1, .slice A2 x.engs.length c2] 47)
  have HW := hide ((h.laid (.cells #[.pointer (some ⟨F, 0, none⟩)] 62)).laid (.cells #[.slice A1 x.marks.length c1, .slice A2 x.engs.length c2] 47))
  have hbz : w.heap.size + 1 < ((w.alloc (.cells #[.pointer (some ⟨F, 0, none⟩)] 62)).alloc (.cells #[.slice A1 x.marks.length c1, .slice A2 x.engs.length c2] 47)).heap.size := by simp
  have HHLA := hide hla
  have HHLB := hide hlb
  clear h ho hla hlb
  go_enter Tryz.func40, Tryz.ntmps40
  obtain ⟨-, hx⟩ := HB.out
  have b0 := hx 0 _ rfl
  clear hx
  have q0 := HQ.out.2 0 _ rfl
  have HCL := hide (putI_any F o e ((w.alloc (.cells #[.pointer (some ⟨F, 0, none⟩)] 62)).alloc (.cells #[.slice A1 x.marks.length c1, .slice A2 x.engs.length c2] 47)) _ _ HW.out (HHLA.out.keep rd_In HT.out.kp) (by have := HO.out; first | omega | (simp only [List.length_cons, List.length_nil] at *; omega)))
  go_wp2_with fail
  refine HCL.out.mono ?_
  rintro en w1 ⟨rfl, o1, e1, hd, hr, ht⟩
  have HD1 := hide hd
  clear hd
  replace HW := hide hr
  replace HB := hide (HB.out.keep ht)
  replace HT := hide (HT.out.trans ht)
  replace HQ := hide (HQ.out.keep ht)
  clear q0
  clear hr ht HCL b0
  obtain ⟨-, hx⟩ := HB.out
  have b1 := hx 1 _ rfl
  clear hx
  have q0 := HQ.out.2 0 _ rfl
  have HCL := hide (putKy_any F o1 e1 w1 _ HQ.out _ _ HW.out (HHLB.out.keep rd_KyW HT.out.kp) (by have := HD1.out.2.2; have := HO.out; first | omega | (simp only [List.length_cons, List.length_nil] at *; omega)))
  go_wp2_with fail
  refine HCL.out.mono ?_
  rintro en w2 ⟨rfl, o2, e2, hd, hr, ht⟩
  have HD2 := hide hd
  clear hd
  replace HW := hide hr
  replace HB := hide (HB.out.keep ht)
  replace HT := hide (HT.out.trans ht)
  replace HQ := hide (HQ.out.keep ht)
  clear q0
  clear hr ht HCL b1
  go_wp2
  go_end0
  refine ⟨rfl, _, _, ?_, HW.out, HT.out⟩
  unfold eOpr
  exact Wd.more (HD1.out.and HD2.out) (by unfold wtOp; (try simp only [List.length_cons, List.length_nil]); omega)
end
end Go.Proofs.YtofdcgojgcnopaaGreat

namespace Go.Proofs.YtofdcgojgcnopaaGreat
open Go.RowKit
set_option linter.unusedVariables false
set_option linter.unusedSimpArgs false
section
variable (F : Nat) (o : Bs) (e : Int) (w : World)
set_option maxRecDepth 100000 in
set_option maxHeartbeats 4000000 in
theorem putOp_any (v : Value) (l : List Opr) (h : Wr w F o e) (hv : Lst w (· < F) 2 ROpW v l) (ho : o.length + (10 + wtS wtOp l) ≤ 1000000000) :
    Calls Tryz.prog 39 #[.pointer (some ⟨F, 0, none⟩), v, .func (.func 40) #[.pointer (some ⟨F, 0, none⟩)] #[]] w (Wrs F (eL eOpr l) (10 + wtS wtOp l) o e w) := by
  have HONE := hide (fun (w1 : World) (o : Bs) (e : Int) (x : Opr) (xs : List Value) (hx : ROpW w1 (· < F) xs x) (h : Wr w1 F o e) (ho : o.length + wtOp x ≤ 1000000000) (_ : Wt F w w1) => wop_any F o e w1 x xs hx h ho)
  obtain ⟨A, cap, rfl⟩ := hv.form
  have HV := hide hv
  have hlen := hv.len
  unfold maxLen at hlen
  have HIN : Hid (inI (l.length : Int)) := hide (by unfold inI; omega)
  obtain ⟨m, hm⟩ : ∃ m, l.length = m := ⟨_, rfl⟩
  rw [hm] at HV hlen HIN ⊢
  have HM := hide hm
  have HW := hide h
  have HO := hide ho
  clear hm hv h ho
  by_cases hl : 4096 < m
  · have t1 : decide ((4096 : Int) < (m : Int)) = true := decide_eq_true (by omega)
    go_enter Tryz.func39, Tryz.ntmps39
    go_wp2_with fail
    refine (wfail_any F o e _ 5 HW.out).mono ?_
    rintro en w1 ⟨rfl, hr, ht⟩
    have HR := hide hr
    have HT := hide ht
    clear hr ht
    go_wp2_with fail
    refine (wint_ex F _ _ _ (m : Int) HIN.out HR.out (by have := HO.out; omega)).mono ?_
    rintro en w2 ⟨rfl, hr, ht⟩
    replace HR := hide hr
    replace HT := hide (HT.out.trans ht)
    clear hr ht
    obtain ⟨e1, he1⟩ : ∃ e1, (if e = 0 then 5 else e) = e1 := ⟨_, rfl⟩
    have he0 : e1 ≠ 0 := by rw [← he1]; split <;> omega
    have HE1 := hide he1
    rw [he1] at HR
    have t2 : (e1 != 0) = true := bne_iff_ne.2 he0
    obtain ⟨g, off, xs, e2, hg, hxl, hc, hR⟩ := HV.out.at_ (j := 0) (by rw [HM.out]; omega)
    cases e2
    obtain ⟨x, hx⟩ : ∃ x, l[0]'(by rw [HM.out]; omega) = x := ⟨_, rfl⟩
    rw [hx] at hR
    obtain ⟨vv, vw, rfl, hvv, hvw2⟩ := hR; obtain ⟨A1, c1, rfl⟩ := hvv.form; obtain ⟨A2, c2, rfl⟩ := hvw2.form
    clear hx
    have k0 := HT.out.kp.cell (p := ⟨g, _, none⟩) hg (hc 0 _ rfl)
    have k1 := HT.out.kp.cell (p := ⟨g, _, none⟩) hg (hc 1 _ rfl)
    simp only [Nat.zero_mul, Nat.add_zero] at k0 k1
    obtain ⟨vw, hvw⟩ := HR.out
    have b1 := hvw.c1
    have hF := hvw.lt
    have hu1 : (0 : Int) < (m : Int) := by omega
    clear he0 he1 hc hxl hvw
    go_wp2_with fail
    refine wp_loop_rounds 1 ?_
    rw [rounds_succ]
    go_wp2
    go_end0
    refine ⟨rfl, _, e1, ?_, HR.out.laid _, HT.out.trans (HR.out.wt_laid _)⟩
    rw [eL_long (by rw [HM.out]; exact hl), ← HE1.out]
    exact Wd.long (by have := num_len HIN.out; omega)
  · have t1 : decide ((4096 : Int) < (m : Int)) = false := decide_eq_false (by omega)
    go_enter Tryz.func39, Tryz.ntmps39
    go_wp2_with fail
    refine (wint_ex F _ _ _ (m : Int) HIN.out HW.out (by have := HO.out; omega)).mono ?_
    rintro en w1 ⟨rfl, hr, ht⟩
    have HP : Hid (PInv F eOpr wtOp l o e w 0 w1) := hide (PInv.start (by rw [HM.out]; exact HIN.out) (by rw [HM.out]; exact hr) ht)
    clear hr ht
    go_wp2_with fail
    go_loopw [19] (fun i wr => ∃ j : Nat, j ≤ m ∧ i = .int .i64 j ∧ Hid (PInv F eOpr wtOp l o e w j wr)) (fun i _ => m - (intOf i).toNat)
    case atStart => exact ⟨0, by omega, rfl, HP⟩
    case round =>
      obtain ⟨j, hj, rfl, HP⟩ := hrel
      obtain ⟨o1, e1, hd, hr, ht⟩ := HP.out
      have HD := hide hd
      have HR := hide hr
      have HT := hide ht
      clear hd hr ht
      by_cases hlt : j < m
      · have hjl : j < l.length := by rw [HM.out]; exact hlt
        obtain ⟨g, off, xs, e2, hg, hxl, hc, hR⟩ := HV.out.at_ hjl
        cases e2
        have HNX0 := hide (fun (w' : World) (o'' : Bs) (e'' : Int) h1 h2 h3 => PInv.next (F := F) (w := w) (w' := w') (wr := wr) (o'' := o'') (e'' := e'') hjl HD.out h1 h2 h3)
        have HLN0 : Hid (o1.length + wtOp l[j] ≤ 1000000000) := hide (by
          have h1 := HD.out.2.2
          have h2 := wtS_le (wt := wtOp) (l := l) (j + 1)
          rw [wtS_take hjl] at h2
          have := HO.out
          omega)
        obtain ⟨x, hx⟩ : ∃ x, l[j] = x := ⟨_, rfl⟩
        rw [hx] at hR HNX0 HLN0
        clear hx
        have HRX := hide hR
        obtain ⟨vv, vw, rfl, hvv, hvw2⟩ := hR; obtain ⟨A1, c1, rfl⟩ := hvv.form; obtain ⟨A2, c2, rfl⟩ := hvw2.form
        have k0 := HT.out.kp.cell (p := ⟨g, _, none⟩) hg (hc 0 _ rfl)
        have k1 := HT.out.kp.cell (p := ⟨g, _, none⟩) hg (hc 1 _ rfl)
        simp only [Nat.add_zero] at k0 k1
        have hgl := World.block_lt_of_cell? wr _ k0
        simp only at hgl
        obtain ⟨vw, hvw⟩ := HR.out
        have b1 := hvw.c1
        have hF := hvw.lt
        have hu0 : (0 : Int) ≤ (j : Int) := by omega
        have hu1 : (j : Int) < (m : Int) := by omega
        have HNX := hide HNX0.out
        have HR2 := hide (HR.out.laid (.cells #[.slice A1 x.marks.length c1, .slice A2 x.engs.length c2] 47))
        have HT2 := hide (HT.out.trans (HR.out.wt_laid (.cells #[.slice A1 x.marks.length c1, .slice A2 x.engs.length c2] 47)))
        have HLN := hide HLN0.out
        clear hc hxl hvw HNX0 HLN0
        by_cases he : e1 = 0
        · have t2 : (e1 != 0) = false := bne_eq_false_iff_eq.2 he
          have HRX2 : Hid (ROpW (wr.alloc (.cells #[.slice A1 x.marks.length c1, .slice A2 x.engs.length c2] 47)) (· < F) [.slice A1 x.marks.length c1, .slice A2 x.engs.length c2] x) := hide (rd_OpW.keep HT2.out.kp HRX.out)
          clear he
          go_wp2_with fail
          refine (HONE.out _ o1 e1 _ _ HRX2.out HR2.out HLN.out HT2.out).mono ?_
          rintro en w2 ⟨rfl, o2, e2, hd, hr, ht⟩
          have HN2 := hide (HNX.out w2 o2 e2 hd hr (HT2.out.trans ht))
          clear hd hr ht
          go_wp2
          go_roundw
          case rel => exact ⟨j + 1, by omega, by go_num, HN2⟩
          case measure => simp [intOf]; omega
        · have t2 : (e1 != 0) = true := bne_iff_ne.2 he
          have HS := hide (PInv.stop (by rw [HM.out]; exact hl) he HD.out)
          clear he
          go_wp2
          go_end0
          exact ⟨rfl, _, _, HS.out, HR2.out, HT2.out⟩
      · obtain rfl : j = m := by omega
        have HS := hide (PInv.done (by rw [HM.out]; exact hl) (by rw [HM.out]; exact Nat.le_refl _) HD.out)
        go_wp2
        go_end0
        exact ⟨rfl, _, _, HS.out, HR.out, HT.out⟩
end
end Go.Proofs.YtofdcgojgcnopaaGreat

namespace Go.Proofs.YtofdcgojgcnopaaGreat
open Go.RowKit
set_option linter.unusedVariables false
set_option linter.unusedSimpArgs false
section
variable (F : Nat) (o : Bs) (e : Int) (w : World)
set_option maxRecDepth 100000 in
set_option maxHeartbeats 4000000 in
theorem wsn_any (x : Snp) (xs : List Value) (hx : RSnW w (· < F) xs x) (h : Wr w F o e) (ho : o.length + wtSn x ≤ 1000000000) :
    Calls Tryz.prog 18 #[.pointer (some ⟨F, 0, none⟩), .agg xs.toArray] w (Wrs F (eSnp x) (wtSn x) o e w) := by
  obtain ⟨u, v, rfl, hla, hlb, g1⟩ := hx
  obtain ⟨A1, c1, rfl⟩ := hla.form
  obtain ⟨A2, c2, rfl⟩ := hlb.form
  unfold wtSn at ho
  have HO := hide ho
  have HT := hide (Wt.laid h (.cells #[.int .i64 x.number, .slice A1 x.rs.length c1, .slice A2 x.os.length c2] 25))
  have HB := hide (Bx.new h [.int .i64 x.number, .slice A1 x.rs.length c1, .slice A2 x.os.length c2] 25)
  have HW := hide (h.laid (.cells #[.int .i64 x.number, .slice A1 x.rs.length c1, .slice A2 x.os.length c2] 25))
  have HHLA := hide hla
  have HHLB := hide hlb
  clear h ho hla hlb
  go_enter Tryz.func18, Tryz.ntmps18
  obtain ⟨-, hx⟩ := HB.out
  have b0 := hx 0 _ rfl
  clear hx
  have HCL := hide (wint_ex F o e (w.alloc (.cells #[.int .i64 x.number, .slice A1 x.rs.length c1, .slice A2 x.os.length c2] 25)) x.number g1 HW.out (by have := HO.out; first | omega | (simp only [List.length_cons, List.length_nil] at *; omega)))
  go_wp2_with fail
  refine HCL.out.mono ?_
  rintro en w1 ⟨rfl, hr, ht⟩
  have HD1 := hide (Wd.num (n := x.number) g1 o e)
  replace HW := hide hr
  replace HB := hide (HB.out.keep ht)
  replace HT := hide (HT.out.trans ht)
  clear hr ht HCL b0
  obtain ⟨-, hx⟩ := HB.out
  have b1 := hx 1 _ rfl
  clear hx
  have HCL := hide (putRd_any F (o ++ num x.number) e w1 _ _ HW.out (HHLA.out.keep rd_Rd HT.out.kp) (by have := HD1.out.2.2; have := HO.out; first | omega | (simp only [List.length_cons, List.length_nil] at *; omega)))
  go_wp2_with fail
  refine HCL.out.mono ?_
  rintro en w2 ⟨rfl, o2, e2, hd, hr, ht⟩
  have HD2 := hide hd
  clear hd
  replace HW := hide hr
  replace HB := hide (HB.out.keep ht)
  replace HT := hide (HT.out.trans ht)
  clear hr ht HCL b1
  obtain ⟨-, hx⟩ := HB.out
  have b2 := hx 2 _ rfl
  clear hx
  have HCL := hide (putOp_any F o2 e2 w2 _ _ HW.out (HHLB.out.keep rd_OpW HT.out.kp) (by have := HD1.out.2.2; have := HD2.out.2.2; have := HO.out; first | omega | (simp only [List.length_cons, List.length_nil] at *; omega)))
  go_wp2_with fail
  refine HCL.out.mono ?_
  rintro en w3 ⟨rfl, o3, e3, hd, hr, ht⟩
  have HD3 := hide hd
  clear hd
  replace HW := hide hr
  replace HB := hide (HB.out.keep ht)
  replace HT := hide (HT.out.trans ht)
  clear hr ht HCL b2
  go_wp2
  go_end0
  refine ⟨rfl, _, _, ?_, HW.out, HT.out⟩
  unfold eSnp
  exact Wd.more (HD1.out.and (HD2.out.and HD3.out)) (by unfold wtSn; (try simp only [List.length_cons, List.length_nil]); omega)
end
end Go.Proofs.YtofdcgojgcnopaaGreat

namespace Go.Proofs.YtofdcgojgcnopaaGreat
open Go.RowKit Go.Lib
set_option linter.unusedVariables false
set_option linter.unusedSimpArgs false
section
variable (w : World)
set_option maxRecDepth 100000 in
set_option maxHeartbeats 4000000 in
theorem enclSn_any (x : Snp) (xs : List Value) (B F : Nat) (hx : RSnW w (· < F) xs x) (hl : wtSn x ≤ 800000000) (hB : ∀ c u, xs[c]? = some u → w.cell? ⟨B, c, none⟩ = some u) (h : Wr w F [] 0) :
    Calls Tryz.prog 17 #[.pointer (some ⟨F, 0, none⟩), .pointer (some ⟨B, 0, none⟩)] w (Wrs F (eSnp x) (wtSn x) [] 0 w) := by
  have HC := hide (wsn_any F [] 0 w x xs hx h (by rw [List.length_nil]; omega))
  obtain ⟨u, v, rfl, hla, hlb, g1⟩ := hx
  obtain ⟨A1, c1, rfl⟩ := hla.form
  obtain ⟨A2, c2, rfl⟩ := hlb.form
  clear hla hlb
  have b0 := hB 0 _ rfl
  have b1 := hB 1 _ rfl
  have b2 := hB 2 _ rfl
  clear hB h
  go_enter Tryz.func17, Tryz.ntmps17
  go_wp2_with fail
  refine HC.out.mono ?_
  rintro en w1 ⟨rfl, hx⟩
  have HX := hide hx
  clear hx b0 b1 b2
  go_wp2
  go_end0
  exact ⟨rfl, HX.out⟩
set_option maxRecDepth 100000 in
set_option maxHeartbeats 4000000 in
theorem encSn_any (x : Snp) (xs : List Value) (hx : RSnW w (· < w.heap.size) xs x) (hl : wtSn x ≤ 800000000) :
    Calls Tryz.prog 6 #[.agg xs.toArray] w (Ret (.tuple #[.string (strE (sealE (eSnp x))), .int .i64 (numE (sealE (eSnp x)))]) w) := by
  have HS := hide (sealedS_any (w.alloc (.cells xs.toArray 25)) (.pointer (some ⟨w.heap.size, 0, none⟩)) (eSnp x) (wtSn x) (by omega)
    (fun w1 hb hw => enclSn_any w1 x xs w.heap.size _ (rd_SnW.more (fun b hb => by simp; omega) (rd_SnW.keep (Kp.of_below (bthen (below_laid _) hb)) hx)) hl (fun c u hu => keep1 hb (cells_lit w xs _ c u hu)) hw))
  obtain ⟨u, v, rfl, hla, hlb, g1⟩ := hx
  obtain ⟨A1, c1, rfl⟩ := hla.form
  obtain ⟨A2, c2, rfl⟩ := hlb.form
  clear hla hlb
  clear hl
  go_enter Tryz.func6, Tryz.ntmps6
  go_wp2_with fail
  refine HS.out.mono ?_
  rintro en w1 ⟨rfl, hb⟩
  go_wp2
  go_ret2
  exact Ret.mk rfl (bel1' hb)
end
end Go.Proofs.YtofdcgojgcnopaaGreat
