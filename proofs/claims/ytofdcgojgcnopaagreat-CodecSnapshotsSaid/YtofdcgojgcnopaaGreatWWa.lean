/- sealed, of the encodings of engines and of snapshots. The writer's function for bindings. The writer's function for starts. put, of bindings. put, of starts. The writer's method config. put, of configurations. The writer's method engine. -/
import Derived.Test.YtofdcgojgcnopaaGreatCSeal
import Derived.Test.YtofdcgojgcnopaaGreatCPutE
import Derived.Test.YtofdcgojgcnopaaGreatWBase
namespace Go.Proofs.YtofdcgojgcnopaaGreat
open Go.RowKit Go.Lib
set_option linter.unusedVariables false
set_option linter.unusedSimpArgs false
section
variable (w : World)
set_option maxRecDepth 100000 in
set_option maxHeartbeats 4000000 in
theorem sealedS_any (p : Value) (r : Ex Bs) (n : Nat) (hn : n ≤ 900000000)
    (hcl : ∀ (w1 : World), Below w.heap.size w w1 → Wr w1 w.heap.size [] 0 → Calls Tryz.prog 17 #[.pointer (some ⟨w.heap.size, 0, none⟩), p] w1 (Wrs w.heap.size r n [] 0 w1)) :
    Calls Tryz.prog 16 #[.func (.func 17) #[] #[p]] w (Ret (.tuple #[.string (strE (sealE r)), .int .i64 (numE (sealE r))]) w) := by
  have HCL := hide hcl
  obtain ⟨i0, hi0, hz0, hz1, hz2⟩ := info_parts info_u8
  clear hcl
  go_enter Tryz.func16, Tryz.ntmps16
  go_wp2_with fail
  refine (HCL.out _ (below_laid _) (Wr.fresh w)).mono ?_
  rintro en w1 ⟨rfl, o, e, hd, ⟨v, hv⟩, ht⟩
  have HD := hide hd
  have HV := hide hv
  have HB := hide ((below_laid (w := w) (.cells #[.slice none 0 0, .int .i64 0] 94)).trans ht.low)
  obtain ⟨A, cap, rfl⟩ := hv.form
  have c0 := hv.c0
  have c1 := hv.c1
  have hol : o.length ≤ n := by have := hd.2.2; simpa using this
  clear hd hv ht
  by_cases hl : 1048572 < o.length
  · have t1 : decide ((1048572 : Int) < (o.length : Int)) = true := decide_eq_true (by omega)
    go_wp2_with fail
    refine (wfail_any w.heap.size o e _ 13 ⟨_, HV.out⟩).mono ?_
    rintro en w2 ⟨rfl, ⟨v2, hv2⟩, ht⟩
    obtain ⟨e1, he1⟩ : ∃ e1, (if e = 0 then 13 else e) = e1 := ⟨_, rfl⟩
    rw [he1] at hv2
    have hne : e1 ≠ 0 := by rw [← he1]; split <;> omega
    have t2 : (e1 != 0) = true := bne_iff_ne.2 hne
    have HR : Hid (strE (sealE r) = ⟨#[]⟩ ∧ numE (sealE r) = e1) := hide (by
      by_cases he : e = 0
      · rw [if_pos he] at he1
        subst he he1
        exact seal_long HD.out hl
      · rw [if_neg he] at he1
        subst he1
        exact seal_err HD.out he)
    have HB2 := hide (HB.out.trans ht.low)
    have b1 := hv2.c1
    clear he1 hne hv2 ht c0 c1
    go_wp2_with fail
    go_region
    all_goals
      go_wp2
      go_ret2
      exact Ret.mk (by rw [HR.out.1, HR.out.2]; rfl) HB2.out.drew
  · have t1 : decide ((1048572 : Int) < (o.length : Int)) = false := decide_eq_false (by omega)
    by_cases he : e = 0
    · subst he
      have HR := hide (seal_ok HD.out hl)
      have hcv := conv_own HV.out.own
      have hst : (⟨o.toArray⟩ : ByteArray).size = o.length := by simp [ByteArray.size]
      have HSZ : Hid ((⟨o.toArray⟩ : ByteArray).size ≤ maxLen) := hide (by rw [hst]; unfold maxLen; omega)
      clear hst
      go_wp2_with fail
      refine (checksum_any ⟨o.toArray⟩ _ HSZ.out).mono ?_
      rintro en w2 ⟨rfl, rfl⟩
      rw [show (⟨o.toArray⟩ : ByteArray).data.toList = o from rfl]
      have HSO := hide (show sealB o = o ++ sumBytes (sumS o) from rfl)
      have hlt := sum_lt o
      obtain ⟨c, hc⟩ : ∃ c, sumS o = c := ⟨_, rfl⟩
      rw [hc] at HSO hlt ⊢
      clear hc
      have HL4 : Hid (o.length + (sumBytes c).length < 1099511627776 ∧ w.heap.size + 1 ≤ w1.heap.size) := hide ⟨by simp only [sumBytes, List.length_cons, List.length_nil]; omega, Nat.succ_le_of_lt HV.out.lt⟩
      have HOWN := hide HV.out.own
      have HLT4 := hide hlt
      go_wp2_with ((at_builtin; refine wpList_append_bs rfl _ _ 92 rfl i0 Tryz.underlying92 hi0 hz0 hz1 hz2 HOWN.out rfl _ _ (sumBytes c) (sb4 HLT4.out) (by rfl) HL4.out.1 HL4.out.2 ?_; intro v2 w3 hown3 hb3; have hcv3 := conv_own hown3; have HB3 := hide (HB.out.trans (hb3.mono (Nat.le_succ _))); clear hown3 hb3))
      go_ret2
      refine Ret.mk ?_ HB3.out
      rw [HR.out.1, HR.out.2, HSO.out]
      rfl
    · have t2 : (e != 0) = true := bne_iff_ne.2 he
      have HR := hide (seal_err HD.out he)
      clear he
      go_wp2_with fail
      go_region
      all_goals
        go_wp2
        go_ret2
        exact Ret.mk (by rw [HR.out.1, HR.out.2]; rfl) HB.out.drew
end
end Go.Proofs.YtofdcgojgcnopaaGreat

namespace Go.Proofs.YtofdcgojgcnopaaGreat
open Go.RowKit
set_option linter.unusedVariables false
set_option linter.unusedSimpArgs false
section
variable (F : Nat) (o : Bs) (e : Int) (w : World)
set_option maxRecDepth 100000 in
set_option maxHeartbeats 4000000 in
theorem wbn_any (q : Nat) (x : Bnd) (xs : List Value) (hx : RBn w (· < F) xs x) (hq : Bx F w q [.pointer (some ⟨F, 0, none⟩)]) (h : Wr w F o e) (ho : o.length + wtBn x ≤ 1000000000) :
    Calls Tryz.prog 96 #[.agg xs.toArray, .pointer (some ⟨q, 0, none⟩)] w (Wrs F (eBnd x) (wtBn x) o e w) := by
  obtain ⟨rfl, g1, g2, g3, g4⟩ := hx
  unfold wtBn at ho
  have HO := hide ho
  have HQ := hide hq
  have HT := hide (Wt.laid h (.cells #[.int .i64 x.v, .int .i64 x.t, .int .i64 x.s, .int .i64 x.q] 156))
  have HB := hide (Bx.new h [.int .i64 x.v, .int .i64 x.t, .int .i64 x.s, .int .i64 x.q] 156)
  have HW := hide (h.laid (.cells #[.int .i64 x.v, .int .i64 x.t, .int .i64 x.s, .int .i64 x.q] 156))
  replace HQ := hide (HQ.out.keep (Wt.laid h (.cells #[.int .i64 x.v, .int .i64 x.t, .int .i64 x.s, .int .i64 x.q] 156)))
  clear h ho  hq
  go_enter Tryz.func96, Tryz.ntmps96
  obtain ⟨-, hx⟩ := HB.out
  have b0 := hx 0 _ rfl
  have b1 := hx 1 _ rfl
  have b2 := hx 2 _ rfl
  have b3 := hx 3 _ rfl
  clear hx
  have q0 := HQ.out.2 0 _ rfl
  have HG : Hid (∀ y ∈ ([x.v, x.t, x.s, x.q] : List Int), inI y) := hide (by intro y hy; simp at hy; rcases hy with rfl | rfl | rfl | rfl <;> assumption)
  have HLN := hide (raw_len HG.out)
  have HI := hide (Bx.new HW.out (ints [x.v, x.t, x.s, x.q]) 3)
  have HCL := hide (wints_any F o e ((w.alloc (.cells #[.int .i64 x.v, .int .i64 x.t, .int .i64 x.s, .int .i64 x.q] 156)).alloc (.cells (ints [x.v, x.t, x.s, x.q]).toArray 3)) [x.v, x.t, x.s, x.q] ((w.alloc (.cells #[.int .i64 x.v, .int .i64 x.t, .int .i64 x.s, .int .i64 x.q] 156)).heap.size) 4 HG.out HI.out (HW.out.laid _) (by simp) (by simp only [List.length_cons, List.length_nil]; have := HO.out; first | omega | (simp only [List.length_cons, List.length_nil] at *; omega)))
  simp only [World.size_alloc] at HCL
  replace HT := hide (HT.out.trans (Wt.laid HW.out (.cells (ints [x.v, x.t, x.s, x.q]).toArray 3)))
  replace HB := hide (HB.out.keep (Wt.laid HW.out (.cells (ints [x.v, x.t, x.s, x.q]).toArray 3)))
  replace HQ := hide (HQ.out.keep (Wt.laid HW.out (.cells (ints [x.v, x.t, x.s, x.q]).toArray 3)))
  go_wp2_with fail
  refine HCL.out.mono ?_
  rintro en w1 ⟨rfl, hr, ht⟩
  have HD1 := hide (Wd.raw HLN.out o e)
  clear HI
  replace HW := hide hr
  replace HB := hide (HB.out.keep ht)
  replace HT := hide (HT.out.trans ht)
  replace HQ := hide (HQ.out.keep ht)
  clear q0
  clear hr ht HCL b0 b1 b2 b3
  go_wp2
  go_end0
  refine ⟨rfl, _, _, ?_, HW.out, HT.out⟩
  rw [eBnd_raw]
  exact Wd.more HD1.out (by unfold wtBn; (try simp only [List.length_cons, List.length_nil]); omega)
end
end Go.Proofs.YtofdcgojgcnopaaGreat

namespace Go.Proofs.YtofdcgojgcnopaaGreat
open Go.RowKit
set_option linter.unusedVariables false
set_option linter.unusedSimpArgs false
section
variable (F : Nat) (o : Bs) (e : Int) (w : World)
set_option maxRecDepth 100000 in
set_option maxHeartbeats 4000000 in
theorem wsr_any (q : Nat) (x : Srt) (xs : List Value) (hx : RSr w (· < F) xs x) (hq : Bx F w q [.pointer (some ⟨F, 0, none⟩)]) (h : Wr w F o e) (ho : o.length + wtSr x ≤ 1000000000) :
    Calls Tryz.prog 98 #[.agg xs.toArray, .pointer (some ⟨q, 0, none⟩)] w (Wrs F (eSrt x) (wtSr x) o e w) := by
  obtain ⟨rfl, g1, g2⟩ := hx
  unfold wtSr at ho
  have HO := hide ho
  have HQ := hide hq
  have HT := hide (Wt.laid h (.cells #[.int .i64 x.s, .int .i64 x.t] 158))
  have HB := hide (Bx.new h [.int .i64 x.s, .int .i64 x.t] 158)
  have HW := hide (h.laid (.cells #[.int .i64 x.s, .int .i64 x.t] 158))
  replace HQ := hide (HQ.out.keep (Wt.laid h (.cells #[.int .i64 x.s, .int .i64 x.t] 158)))
  clear h ho  hq
  go_enter Tryz.func98, Tryz.ntmps98
  obtain ⟨-, hx⟩ := HB.out
  have b0 := hx 0 _ rfl
  have b1 := hx 1 _ rfl
  clear hx
  have q0 := HQ.out.2 0 _ rfl
  have HG : Hid (∀ y ∈ ([x.s, x.t] : List Int), inI y) := hide (by intro y hy; simp at hy; rcases hy with rfl | rfl <;> assumption)
  have HLN := hide (raw_len HG.out)
  have HI := hide (Bx.new HW.out (ints [x.s, x.t]) 3)
  have HCL := hide (wints_any F o e ((w.alloc (.cells #[.int .i64 x.s, .int .i64 x.t] 158)).alloc (.cells (ints [x.s, x.t]).toArray 3)) [x.s, x.t] ((w.alloc (.cells #[.int .i64 x.s, .int .i64 x.t] 158)).heap.size) 2 HG.out HI.out (HW.out.laid _) (by simp) (by simp only [List.length_cons, List.length_nil]; have := HO.out; first | omega | (simp only [List.length_cons, List.length_nil] at *; omega)))
  simp only [World.size_alloc] at HCL
  replace HT := hide (HT.out.trans (Wt.laid HW.out (.cells (ints [x.s, x.t]).toArray 3)))
  replace HB := hide (HB.out.keep (Wt.laid HW.out (.cells (ints [x.s, x.t]).toArray 3)))
  replace HQ := hide (HQ.out.keep (Wt.laid HW.out (.cells (ints [x.s, x.t]).toArray 3)))
  go_wp2_with fail
  refine HCL.out.mono ?_
  rintro en w1 ⟨rfl, hr, ht⟩
  have HD1 := hide (Wd.raw HLN.out o e)
  clear HI
  replace HW := hide hr
  replace HB := hide (HB.out.keep ht)
  replace HT := hide (HT.out.trans ht)
  replace HQ := hide (HQ.out.keep ht)
  clear q0
  clear hr ht HCL b0 b1
  go_wp2
  go_end0
  refine ⟨rfl, _, _, ?_, HW.out, HT.out⟩
  rw [eSrt_raw]
  exact Wd.more HD1.out (by unfold wtSr; (try simp only [List.length_cons, List.length_nil]); omega)
end
end Go.Proofs.YtofdcgojgcnopaaGreat

namespace Go.Proofs.YtofdcgojgcnopaaGreat
open Go.RowKit
set_option linter.unusedVariables false
set_option linter.unusedSimpArgs false
section
variable (F : Nat) (o : Bs) (e : Int) (w : World)
set_option maxRecDepth 100000 in
set_option maxHeartbeats 4000000 in
theorem putBn_any (q : Nat) (hq : Bx F w q [.pointer (some ⟨F, 0, none⟩)]) (v : Value) (l : List Bnd) (h : Wr w F o e) (hv : Lst w (· < F) 4 RBn v l) (ho : o.length + (10 + wtS wtBn l) ≤ 1000000000) :
    Calls Tryz.prog 95 #[.pointer (some ⟨F, 0, none⟩), v, .func (.func 96) #[] #[.pointer (some ⟨q, 0, none⟩)]] w (Wrs F (eL eBnd l) (10 + wtS wtBn l) o e w) := by
  have HONE := hide (fun (w1 : World) (o : Bs) (e : Int) (x : Bnd) (xs : List Value) (hx : RBn w1 (· < F) xs x) (h : Wr w1 F o e) (ho : o.length + wtBn x ≤ 1000000000) (ht : Wt F w w1) => wbn_any F o e w1 q x xs hx (hq.keep ht) h ho)
  clear hq
  obtain ⟨A, cap, rfl⟩ := hv.form
  have HV := hide hv
  have hlen := hv.len
  unfold maxLen at hlen
  have HIN : Hid (inI (l.length : Int)) := hide (by unfold inI; omega)
  obtain ⟨m, hm⟩ : ∃ m, l.length = m := ⟨_, rfl⟩
  rw [hm] at HV hlen HIN ⊢
  have HM := hide hm
  have HW := hide h
  have HO := hide ho
  clear hm hv h ho
  by_cases hl : 4096 < m
  · have t1 : decide ((4096 : Int) < (m : Int)) = true := decide_eq_true (by omega)
    go_enter Tryz.func95, Tryz.ntmps95
    go_wp2_with fail
    refine (wfail_any F o e _ 5 HW.out).mono ?_
    rintro en w1 ⟨rfl, hr, ht⟩
    have HR := hide hr
    have HT := hide ht
    clear hr ht
    go_wp2_with fail
    refine (wint_ex F _ _ _ (m : Int) HIN.out HR.out (by have := HO.out; omega)).mono ?_
    rintro en w2 ⟨rfl, hr, ht⟩
    replace HR := hide hr
    replace HT := hide (HT.out.trans ht)
    clear hr ht
    obtain ⟨e1, he1⟩ : ∃ e1, (if e = 0 then 5 else e) = e1 := ⟨_, rfl⟩
    have he0 : e1 ≠ 0 := by rw [← he1]; split <;> omega
    have HE1 := hide he1
    rw [he1] at HR
    have t2 : (e1 != 0) = true := bne_iff_ne.2 he0
    obtain ⟨g, off, xs, e2, hg, hxl, hc, hR⟩ := HV.out.at_ (j := 0) (by rw [HM.out]; omega)
    cases e2
    obtain ⟨x, hx⟩ : ∃ x, l[0]'(by rw [HM.out]; omega) = x := ⟨_, rfl⟩
    rw [hx] at hR
    obtain ⟨rfl, hg1⟩ := hR
    clear hx
    have k0 := HT.out.kp.cell (p := ⟨g, _, none⟩) hg (hc 0 _ rfl)
    have k1 := HT.out.kp.cell (p := ⟨g, _, none⟩) hg (hc 1 _ rfl)
    have k2 := HT.out.kp.cell (p := ⟨g, _, none⟩) hg (hc 2 _ rfl)
    have k3 := HT.out.kp.cell (p := ⟨g, _, none⟩) hg (hc 3 _ rfl)
    simp only [Nat.zero_mul, Nat.add_zero] at k0 k1 k2 k3
    obtain ⟨vw, hvw⟩ := HR.out
    have b1 := hvw.c1
    have hF := hvw.lt
    have hu1 : (0 : Int) < (m : Int) := by omega
    clear he0 he1 hc hxl hvw
    go_wp2_with fail
    refine wp_loop_rounds 1 ?_
    rw [rounds_succ]
    go_wp2
    go_end0
    refine ⟨rfl, _, e1, ?_, HR.out.laid _, HT.out.trans (HR.out.wt_laid _)⟩
    rw [eL_long (by rw [HM.out]; exact hl), ← HE1.out]
    exact Wd.long (by have := num_len HIN.out; omega)
  · have t1 : decide ((4096 : Int) < (m : Int)) = false := decide_eq_false (by omega)
    go_enter Tryz.func95, Tryz.ntmps95
    go_wp2_with fail
    refine (wint_ex F _ _ _ (m : Int) HIN.out HW.out (by have := HO.out; omega)).mono ?_
    rintro en w1 ⟨rfl, hr, ht⟩
    have HP : Hid (PInv F eBnd wtBn l o e w 0 w1) := hide (PInv.start (by rw [HM.out]; exact HIN.out) (by rw [HM.out]; exact hr) ht)
    clear hr ht
    go_wp2_with fail
    go_loopw [19] (fun i wr => ∃ j : Nat, j ≤ m ∧ i = .int .i64 j ∧ Hid (PInv F eBnd wtBn l o e w j wr)) (fun i _ => m - (intOf i).toNat)
    case atStart => exact ⟨0, by omega, rfl, HP⟩
    case round =>
      obtain ⟨j, hj, rfl, HP⟩ := hrel
      obtain ⟨o1, e1, hd, hr, ht⟩ := HP.out
      have HD := hide hd
      have HR := hide hr
      have HT := hide ht
      clear hd hr ht
      by_cases hlt : j < m
      · have hjl : j < l.length := by rw [HM.out]; exact hlt
        obtain ⟨g, off, xs, e2, hg, hxl, hc, hR⟩ := HV.out.at_ hjl
        cases e2
        have HNX0 := hide (fun (w' : World) (o'' : Bs) (e'' : Int) h1 h2 h3 => PInv.next (F := F) (w := w) (w' := w') (wr := wr) (o'' := o'') (e'' := e'') hjl HD.out h1 h2 h3)
        have HLN0 : Hid (o1.length + wtBn l[j] ≤ 1000000000) := hide (by
          have h1 := HD.out.2.2
          have h2 := wtS_le (wt := wtBn) (l := l) (j + 1)
          rw [wtS_take hjl] at h2
          have := HO.out
          omega)
        obtain ⟨x, hx⟩ : ∃ x, l[j] = x := ⟨_, rfl⟩
        rw [hx] at hR HNX0 HLN0
        clear hx
        have HRX := hide hR
        obtain ⟨rfl, hg1⟩ := hR
        have k0 := HT.out.kp.cell (p := ⟨g, _, none⟩) hg (hc 0 _ rfl)
        have k1 := HT.out.kp.cell (p := ⟨g, _, none⟩) hg (hc 1 _ rfl)
        have k2 := HT.out.kp.cell (p := ⟨g, _, none⟩) hg (hc 2 _ rfl)
        have k3 := HT.out.kp.cell (p := ⟨g, _, none⟩) hg (hc 3 _ rfl)
        simp only [Nat.add_zero] at k0 k1 k2 k3
        have hgl := World.block_lt_of_cell? wr _ k0
        simp only at hgl
        obtain ⟨vw, hvw⟩ := HR.out
        have b1 := hvw.c1
        have hF := hvw.lt
        have hu0 : (0 : Int) ≤ (j : Int) := by omega
        have hu1 : (j : Int) < (m : Int) := by omega
        have HNX := hide HNX0.out
        have HR2 := hide (HR.out.laid (.cells #[.int .i64 x.v, .int .i64 x.t, .int .i64 x.s, .int .i64 x.q] 156))
        have HT2 := hide (HT.out.trans (HR.out.wt_laid (.cells #[.int .i64 x.v, .int .i64 x.t, .int .i64 x.s, .int .i64 x.q] 156)))
        have HLN := hide HLN0.out
        clear hc hxl hvw HNX0 HLN0
        by_cases he : e1 = 0
        · have t2 : (e1 != 0) = false := bne_eq_false_iff_eq.2 he
          have HRX2 : Hid (RBn (wr.alloc (.cells #[.int .i64 x.v, .int .i64 x.t, .int .i64 x.s, .int .i64 x.q] 156)) (· < F) [.int .i64 x.v, .int .i64 x.t, .int .i64 x.s, .int .i64 x.q] x) := hide (rd_Bn.keep HT2.out.kp HRX.out)
          clear he
          go_wp2_with fail
          refine (HONE.out _ o1 e1 _ _ HRX2.out HR2.out HLN.out HT2.out).mono ?_
          rintro en w2 ⟨rfl, o2, e2, hd, hr, ht⟩
          have HN2 := hide (HNX.out w2 o2 e2 hd hr (HT2.out.trans ht))
          clear hd hr ht
          go_wp2
          go_roundw
          case rel => exact ⟨j + 1, by omega, by go_num, HN2⟩
          case measure => simp [intOf]; omega
        · have t2 : (e1 != 0) = true := bne_iff_ne.2 he
          have HS := hide (PInv.stop (by rw [HM.out]; exact hl) he HD.out)
          clear he
          go_wp2
          go_end0
          exact ⟨rfl, _, _, HS.out, HR2.out, HT2.out⟩
      · obtain rfl : j = m := by omega
        have HS := hide (PInv.done (by rw [HM.out]; exact hl) (by rw [HM.out]; exact Nat.le_refl _) HD.out)
        go_wp2
        go_end0
        exact ⟨rfl, _, _, HS.out, HR.out, HT.out⟩
end
end Go.Proofs.YtofdcgojgcnopaaGreat

namespace Go.Proofs.YtofdcgojgcnopaaGreat
open Go.RowKit
set_option linter.unusedVariables false
set_option linter.unusedSimpArgs false
section
variable (F : Nat) (o : Bs) (e : Int) (w : World)
set_option maxRecDepth 100000 in
set_option maxHeartbeats 4000000 in
theorem putSr_any (q : Nat) (hq : Bx F w q [.pointer (some ⟨F, 0, none⟩)]) (v : Value) (l : List Srt) (h : Wr w F o e) (hv : Lst w (· < F) 2 RSr v l) (ho : o.length + (10 + wtS wtSr l) ≤ 1000000000) :
    Calls Tryz.prog 97 #[.pointer (some ⟨F, 0, none⟩), v, .func (.func 98) #[] #[.pointer (some ⟨q, 0, none⟩)]] w (Wrs F (eL eSrt l) (10 + wtS wtSr l) o e w) := by
  have HONE := hide (fun (w1 : World) (o : Bs) (e : Int) (x : Srt) (xs : List Value) (hx : RSr w1 (· < F) xs x) (h : Wr w1 F o e) (ho : o.length + wtSr x ≤ 1000000000) (ht : Wt F w w1) => wsr_any F o e w1 q x xs hx (hq.keep ht) h ho)
  clear hq
  obtain ⟨A, cap, rfl⟩ := hv.form
  have HV := hide hv
  have hlen := hv.len
  unfold maxLen at hlen
  have HIN : Hid (inI (l.length : Int)) := hide (by unfold inI; omega)
  obtain ⟨m, hm⟩ : ∃ m, l.length = m := ⟨_, rfl⟩
  rw [hm] at HV hlen HIN ⊢
  have HM := hide hm
  have HW := hide h
  have HO := hide ho
  clear hm hv h ho
  by_cases hl : 4096 < m
  · have t1 : decide ((4096 : Int) < (m : Int)) = true := decide_eq_true (by omega)
    go_enter Tryz.func97, Tryz.ntmps97
    go_wp2_with fail
    refine (wfail_any F o e _ 5 HW.out).mono ?_
    rintro en w1 ⟨rfl, hr, ht⟩
    have HR := hide hr
    have HT := hide ht
    clear hr ht
    go_wp2_with fail
    refine (wint_ex F _ _ _ (m : Int) HIN.out HR.out (by have := HO.out; omega)).mono ?_
    rintro en w2 ⟨rfl, hr, ht⟩
    replace HR := hide hr
    replace HT := hide (HT.out.trans ht)
    clear hr ht
    obtain ⟨e1, he1⟩ : ∃ e1, (if e = 0 then 5 else e) = e1 := ⟨_, rfl⟩
    have he0 : e1 ≠ 0 := by rw [← he1]; split <;> omega
    have HE1 := hide he1
    rw [he1] at HR
    have t2 : (e1 != 0) = true := bne_iff_ne.2 he0
    obtain ⟨g, off, xs, e2, hg, hxl, hc, hR⟩ := HV.out.at_ (j := 0) (by rw [HM.out]; omega)
    cases e2
    obtain ⟨x, hx⟩ : ∃ x, l[0]'(by rw [HM.out]; omega) = x := ⟨_, rfl⟩
    rw [hx] at hR
    obtain ⟨rfl, hg1⟩ := hR
    clear hx
    have k0 := HT.out.kp.cell (p := ⟨g, _, none⟩) hg (hc 0 _ rfl)
    have k1 := HT.out.kp.cell (p := ⟨g, _, none⟩) hg (hc 1 _ rfl)
    simp only [Nat.zero_mul, Nat.add_zero] at k0 k1
    obtain ⟨vw, hvw⟩ := HR.out
    have b1 := hvw.c1
    have hF := hvw.lt
    have hu1 : (0 : Int) < (m : Int) := by omega
    clear he0 he1 hc hxl hvw
    go_wp2_with fail
    refine wp_loop_rounds 1 ?_
    rw [rounds_succ]
    go_wp2
    go_end0
    refine ⟨rfl, _, e1, ?_, HR.out.laid _, HT.out.trans (HR.out.wt_laid _)⟩
    rw [eL_long (by rw [HM.out]; exact hl), ← HE1.out]
    exact Wd.long (by have := num_len HIN.out; omega)
  · have t1 : decide ((4096 : Int) < (m : Int)) = false := decide_eq_false (by omega)
    go_enter Tryz.func97, Tryz.ntmps97
    go_wp2_with fail
    refine (wint_ex F _ _ _ (m : Int) HIN.out HW.out (by have := HO.out; omega)).mono ?_
    rintro en w1 ⟨rfl, hr, ht⟩
    have HP : Hid (PInv F eSrt wtSr l o e w 0 w1) := hide (PInv.start (by rw [HM.out]; exact HIN.out) (by rw [HM.out]; exact hr) ht)
    clear hr ht
    go_wp2_with fail
    go_loopw [19] (fun i wr => ∃ j : Nat, j ≤ m ∧ i = .int .i64 j ∧ Hid (PInv F eSrt wtSr l o e w j wr)) (fun i _ => m - (intOf i).toNat)
    case atStart => exact ⟨0, by omega, rfl, HP⟩
    case round =>
      obtain ⟨j, hj, rfl, HP⟩ := hrel
      obtain ⟨o1, e1, hd, hr, ht⟩ := HP.out
      have HD := hide hd
      have HR := hide hr
      have HT := hide ht
      clear hd hr ht
      by_cases hlt : j < m
      · have hjl : j < l.length := by rw [HM.out]; exact hlt
        obtain ⟨g, off, xs, e2, hg, hxl, hc, hR⟩ := HV.out.at_ hjl
        cases e2
        have HNX0 := hide (fun (w' : World) (o'' : Bs) (e'' : Int) h1 h2 h3 => PInv.next (F := F) (w := w) (w' := w') (wr := wr) (o'' := o'') (e'' := e'') hjl HD.out h1 h2 h3)
        have HLN0 : Hid (o1.length + wtSr l[j] ≤ 1000000000) := hide (by
          have h1 := HD.out.2.2
          have h2 := wtS_le (wt := wtSr) (l := l) (j + 1)
          rw [wtS_take hjl] at h2
          have := HO.out
          omega)
        obtain ⟨x, hx⟩ : ∃ x, l[j] = x := ⟨_, rfl⟩
        rw [hx] at hR HNX0 HLN0
        clear hx
        have HRX := hide hR
        obtain ⟨rfl, hg1⟩ := hR
        have k0 := HT.out.kp.cell (p := ⟨g, _, none⟩) hg (hc 0 _ rfl)
        have k1 := HT.out.kp.cell (p := ⟨g, _, none⟩) hg (hc 1 _ rfl)
        simp only [Nat.add_zero] at k0 k1
        have hgl := World.block_lt_of_cell? wr _ k0
        simp only at hgl
        obtain ⟨vw, hvw⟩ := HR.out
        have b1 := hvw.c1
        have hF := hvw.lt
        have hu0 : (0 : Int) ≤ (j : Int) := by omega
        have hu1 : (j : Int) < (m : Int) := by omega
        have HNX := hide HNX0.out
        have HR2 := hide (HR.out.laid (.cells #[.int .i64 x.s, .int .i64 x.t] 158))
        have HT2 := hide (HT.out.trans (HR.out.wt_laid (.cells #[.int .i64 x.s, .int .i64 x.t] 158)))
        have HLN := hide HLN0.out
        clear hc hxl hvw HNX0 HLN0
        by_cases he : e1 = 0
        · have t2 : (e1 != 0) = false := bne_eq_false_iff_eq.2 he
          have HRX2 : Hid (RSr (wr.alloc (.cells #[.int .i64 x.s, .int .i64 x.t] 158)) (· < F) [.int .i64 x.s, .int .i64 x.t] x) := hide (rd_Sr.keep HT2.out.kp HRX.out)
          clear he
          go_wp2_with fail
          refine (HONE.out _ o1 e1 _ _ HRX2.out HR2.out HLN.out HT2.out).mono ?_
          rintro en w2 ⟨rfl, o2, e2, hd, hr, ht⟩
          have HN2 := hide (HNX.out w2 o2 e2 hd hr (HT2.out.trans ht))
          clear hd hr ht
          go_wp2
          go_roundw
          case rel => exact ⟨j + 1, by omega, by go_num, HN2⟩
          case measure => simp [intOf]; omega
        · have t2 : (e1 != 0) = true := bne_iff_ne.2 he
          have HS := hide (PInv.stop (by rw [HM.out]; exact hl) he HD.out)
          clear he
          go_wp2
          go_end0
          exact ⟨rfl, _, _, HS.out, HR2.out, HT2.out⟩
      · obtain rfl : j = m := by omega
        have HS := hide (PInv.done (by rw [HM.out]; exact hl) (by rw [HM.out]; exact Nat.le_refl _) HD.out)
        go_wp2
        go_end0
        exact ⟨rfl, _, _, HS.out, HR.out, HT.out⟩
end
end Go.Proofs.YtofdcgojgcnopaaGreat

namespace Go.Proofs.YtofdcgojgcnopaaGreat
open Go.RowKit
set_option linter.unusedVariables false
set_option linter.unusedSimpArgs false
section
variable (F : Nat) (o : Bs) (e : Int) (w : World)
set_option maxRecDepth 100000 in
set_option maxHeartbeats 4000000 in
theorem wcf_any (x : Cfg) (xs : List Value) (hx : RCf w (· < F) xs x) (h : Wr w F o e) (ho : o.length + wtCf x ≤ 1000000000) :
    Calls Tryz.prog 90 #[.pointer (some ⟨F, 0, none⟩), .agg xs.toArray] w (Wrs F (eCfg x) (wtCf x) o e w) := by
  obtain ⟨u, v, rfl, hla, hlb, g1⟩ := hx
  obtain ⟨A1, c1, rfl⟩ := hla.form
  obtain ⟨A2, c2, rfl⟩ := hlb.form
  unfold wtCf at ho
  have HO := hide ho
  have HT := hide ((Wt.laid h (.cells #[.pointer (some ⟨F, 0, none⟩)] 62)).trans (Wt.laid (h.laid (.cells #[.pointer (some ⟨F, 0, none⟩)] 62)) (.cells #[.int .i64 x.st, .slice A1 x.bs.length c1, .slice A2 x.ss.length c2] 83)))
  have HQ := hide ((Bx.new h [.pointer (some ⟨F, 0, none⟩)] 62).keep (Wt.laid (h.laid _) (.cells #[.int .i64 x.st, .slice A1 x.bs.length c1, .slice A2 x.ss.length c2] 83)))
  have HB := hide (Bx.new2 h (.cells #[.pointer (some ⟨F, 0, none⟩)] 62) [.int .i64 x.st, .slice A1 x.bs.length c1, .slice A2 x.ss.length c2] 83)
  have HW := hide ((h.laid (.cells #[.pointer (some ⟨F, 0, none⟩)] 62)).laid (.cells #[.int .i64 x.st, .slice A1 x.bs.length c1, .slice A2 x.ss.length c2] 83))
  have hbz : w.heap.size + 1 < ((w.alloc (.cells #[.pointer (some ⟨F, 0, none⟩)] 62)).alloc (.cells #[.int .i64 x.st, .slice A1 x.bs.length c1, .slice A2 x.ss.length c2] 83)).heap.size := by simp
  have HHLA := hide hla
  have HHLB := hide hlb
  clear h ho hla hlb
  go_enter Tryz.func90, Tryz.ntmps90
  obtain ⟨-, hx⟩ := HB.out
  have b0 := hx 0 _ rfl
  clear hx
  have q0 := HQ.out.2 0 _ rfl
  have HCL := hide (wint_ex F o e ((w.alloc (.cells #[.pointer (some ⟨F, 0, none⟩)] 62)).alloc (.cells #[.int .i64 x.st, .slice A1 x.bs.length c1, .slice A2 x.ss.length c2] 83)) x.st g1 HW.out (by have := HO.out; first | omega | (simp only [List.length_cons, List.length_nil] at *; omega)))
  go_wp2_with fail
  refine HCL.out.mono ?_
  rintro en w1 ⟨rfl, hr, ht⟩
  have HD1 := hide (Wd.num (n := x.st) g1 o e)
  replace HW := hide hr
  replace HB := hide (HB.out.keep ht)
  replace HT := hide (HT.out.trans ht)
  replace HQ := hide (HQ.out.keep ht)
  clear q0
  clear hr ht HCL b0
  obtain ⟨-, hx⟩ := HB.out
  have b1 := hx 1 _ rfl
  clear hx
  have q0 := HQ.out.2 0 _ rfl
  have HCL := hide (putBn_any F (o ++ num x.st) e w1 _ HQ.out _ _ HW.out (HHLA.out.keep rd_Bn HT.out.kp) (by have := HD1.out.2.2; have := HO.out; first | omega | (simp only [List.length_cons, List.length_nil] at *; omega)))
  go_wp2_with fail
  refine HCL.out.mono ?_
  rintro en w2 ⟨rfl, o2, e2, hd, hr, ht⟩
  have HD2 := hide hd
  clear hd
  replace HW := hide hr
  replace HB := hide (HB.out.keep ht)
  replace HT := hide (HT.out.trans ht)
  replace HQ := hide (HQ.out.keep ht)
  clear q0
  clear hr ht HCL b1
  obtain ⟨-, hx⟩ := HB.out
  have b2 := hx 2 _ rfl
  clear hx
  have q0 := HQ.out.2 0 _ rfl
  have HCL := hide (putSr_any F o2 e2 w2 _ HQ.out _ _ HW.out (HHLB.out.keep rd_Sr HT.out.kp) (by have := HD1.out.2.2; have := HD2.out.2.2; have := HO.out; first | omega | (simp only [List.length_cons, List.length_nil] at *; omega)))
  go_wp2_with fail
  refine HCL.out.mono ?_
  rintro en w3 ⟨rfl, o3, e3, hd, hr, ht⟩
  have HD3 := hide hd
  clear hd
  replace HW := hide hr
  replace HB := hide (HB.out.keep ht)
  replace HT := hide (HT.out.trans ht)
  replace HQ := hide (HQ.out.keep ht)
  clear q0
  clear hr ht HCL b2
  go_wp2
  go_end0
  refine ⟨rfl, _, _, ?_, HW.out, HT.out⟩
  unfold eCfg
  exact Wd.more (HD1.out.and (HD2.out.and HD3.out)) (by unfold wtCf; (try simp only [List.length_cons, List.length_nil]); omega)
end
end Go.Proofs.YtofdcgojgcnopaaGreat

namespace Go.Proofs.YtofdcgojgcnopaaGreat
open Go.RowKit
set_option linter.unusedVariables false
set_option linter.unusedSimpArgs false
section
variable (F : Nat) (o : Bs) (e : Int) (w : World)
set_option maxRecDepth 100000 in
set_option maxHeartbeats 4000000 in
theorem putCf_any (v : Value) (l : List Cfg) (h : Wr w F o e) (hv : Lst w (· < F) 3 RCf v l) (ho : o.length + (10 + wtS wtCf l) ≤ 1000000000) :
    Calls Tryz.prog 89 #[.pointer (some ⟨F, 0, none⟩), v, .func (.func 90) #[.pointer (some ⟨F, 0, none⟩)] #[]] w (Wrs F (eL eCfg l) (10 + wtS wtCf l) o e w) := by
  have HONE := hide (fun (w1 : World) (o : Bs) (e : Int) (x : Cfg) (xs : List Value) (hx : RCf w1 (· < F) xs x) (h : Wr w1 F o e) (ho : o.length + wtCf x ≤ 1000000000) (_ : Wt F w w1) => wcf_any F o e w1 x xs hx h ho)
  obtain ⟨A, cap, rfl⟩ := hv.form
  have HV := hide hv
  have hlen := hv.len
  unfold maxLen at hlen
  have HIN : Hid (inI (l.length : Int)) := hide (by unfold inI; omega)
  obtain ⟨m, hm⟩ : ∃ m, l.length = m := ⟨_, rfl⟩
  rw [hm] at HV hlen HIN ⊢
  have HM := hide hm
  have HW := hide h
  have HO := hide ho
  clear hm hv h ho
  by_cases hl : 4096 < m
  · have t1 : decide ((4096 : Int) < (m : Int)) = true := decide_eq_true (by omega)
    go_enter Tryz.func89, Tryz.ntmps89
    go_wp2_with fail
    refine (wfail_any F o e _ 5 HW.out).mono ?_
    rintro en w1 ⟨rfl, hr, ht⟩
    have HR := hide hr
    have HT := hide ht
    clear hr ht
    go_wp2_with fail
    refine (wint_ex F _ _ _ (m : Int) HIN.out HR.out (by have := HO.out; omega)).mono ?_
    rintro en w2 ⟨rfl, hr, ht⟩
    replace HR := hide hr
    replace HT := hide (HT.out.trans ht)
    clear hr ht
    obtain ⟨e1, he1⟩ : ∃ e1, (if e = 0 then 5 else e) = e1 := ⟨_, rfl⟩
    have he0 : e1 ≠ 0 := by rw [← he1]; split <;> omega
    have HE1 := hide he1
    rw [he1] at HR
    have t2 : (e1 != 0) = true := bne_iff_ne.2 he0
    obtain ⟨g, off, xs, e2, hg, hxl, hc, hR⟩ := HV.out.at_ (j := 0) (by rw [HM.out]; omega)
    cases e2
    obtain ⟨x, hx⟩ : ∃ x, l[0]'(by rw [HM.out]; omega) = x := ⟨_, rfl⟩
    rw [hx] at hR
    obtain ⟨vv, vw, rfl, hvv, hvw2, hg1⟩ := hR; obtain ⟨A1, c1, rfl⟩ := hvv.form; obtain ⟨A2, c2, rfl⟩ := hvw2.form
    clear hx
    have k0 := HT.out.kp.cell (p := ⟨g, _, none⟩) hg (hc 0 _ rfl)
    have k1 := HT.out.kp.cell (p := ⟨g, _, none⟩) hg (hc 1 _ rfl)
    have k2 := HT.out.kp.cell (p := ⟨g, _, none⟩) hg (hc 2 _ rfl)
    simp only [Nat.zero_mul, Nat.add_zero] at k0 k1 k2
    obtain ⟨vw, hvw⟩ := HR.out
    have b1 := hvw.c1
    have hF := hvw.lt
    have hu1 : (0 : Int) < (m : Int) := by omega
    clear he0 he1 hc hxl hvw
    go_wp2_with fail
    refine wp_loop_rounds 1 ?_
    rw [rounds_succ]
    go_wp2
    go_end0
    refine ⟨rfl, _, e1, ?_, HR.out.laid _, HT.out.trans (HR.out.wt_laid _)⟩
    rw [eL_long (by rw [HM.out]; exact hl), ← HE1.out]
    exact Wd.long (by have := num_len HIN.out; omega)
  · have t1 : decide ((4096 : Int) < (m : Int)) = false := decide_eq_false (by omega)
    go_enter Tryz.func89, Tryz.ntmps89
    go_wp2_with fail
    refine (wint_ex F _ _ _ (m : Int) HIN.out HW.out (by have := HO.out; omega)).mono ?_
    rintro en w1 ⟨rfl, hr, ht⟩
    have HP : Hid (PInv F eCfg wtCf l o e w 0 w1) := hide (PInv.start (by rw [HM.out]; exact HIN.out) (by rw [HM.out]; exact hr) ht)
    clear hr ht
    go_wp2_with fail
    go_loopw [19] (fun i wr => ∃ j : Nat, j ≤ m ∧ i = .int .i64 j ∧ Hid (PInv F eCfg wtCf l o e w j wr)) (fun i _ => m - (intOf i).toNat)
    case atStart => exact ⟨0, by omega, rfl, HP⟩
    case round =>
      obtain ⟨j, hj, rfl, HP⟩ := hrel
      obtain ⟨o1, e1, hd, hr, ht⟩ := HP.out
      have HD := hide hd
      have HR := hide hr
      have HT := hide ht
      clear hd hr ht
      by_cases hlt : j < m
      · have hjl : j < l.length := by rw [HM.out]; exact hlt
        obtain ⟨g, off, xs, e2, hg, hxl, hc, hR⟩ := HV.out.at_ hjl
        cases e2
        have HNX0 := hide (fun (w' : World) (o'' : Bs) (e'' : Int) h1 h2 h3 => PInv.next (F := F) (w := w) (w' := w') (wr := wr) (o'' := o'') (e'' := e'') hjl HD.out h1 h2 h3)
        have HLN0 : Hid (o1.length + wtCf l[j] ≤ 1000000000) := hide (by
          have h1 := HD.out.2.2
          have h2 := wtS_le (wt := wtCf) (l := l) (j + 1)
          rw [wtS_take hjl] at h2
          have := HO.out
          omega)
        obtain ⟨x, hx⟩ : ∃ x, l[j] = x := ⟨_, rfl⟩
        rw [hx] at hR HNX0 HLN0
        clear hx
        have HRX := hide hR
        obtain ⟨vv, vw, rfl, hvv, hvw2, hg1⟩ := hR; obtain ⟨A1, c1, rfl⟩ := hvv.form; obtain ⟨A2, c2, rfl⟩ := hvw2.form
        have k0 := HT.out.kp.cell (p := ⟨g, _, none⟩) hg (hc 0 _ rfl)
        have k1 := HT.out.kp.cell (p := ⟨g, _, none⟩) hg (hc 1 _ rfl)
        have k2 := HT.out.kp.cell (p := ⟨g, _, none⟩) hg (hc 2 _ rfl)
        simp only [Nat.add_zero] at k0 k1 k2
        have hgl := World.block_lt_of_cell? wr _ k0
        simp only at hgl
        obtain ⟨vw, hvw⟩ := HR.out
        have b1 := hvw.c1
        have hF := hvw.lt
        have hu0 : (0 : Int) ≤ (j : Int) := by omega
        have hu1 : (j : Int) < (m : Int) := by omega
        have HNX := hide HNX0.out
        have HR2 := hide (HR.out.laid (.cells #[.int .i64 x.st, .slice A1 x.bs.length c1, .slice A2 x.ss.length c2] 83))
        have HT2 := hide (HT.out.trans (HR.out.wt_laid (.cells #[.int .i64 x.st, .slice A1 x.bs.length c1, .slice A2 x.ss.length c2] 83)))
        have HLN := hide HLN0.out
        clear hc hxl hvw HNX0 HLN0
        by_cases he : e1 = 0
        · have t2 : (e1 != 0) = false := bne_eq_false_iff_eq.2 he
          have HRX2 : Hid (RCf (wr.alloc (.cells #[.int .i64 x.st, .slice A1 x.bs.length c1, .slice A2 x.ss.length c2] 83)) (· < F) [.int .i64 x.st, .slice A1 x.bs.length c1, .slice A2 x.ss.length c2] x) := hide (rd_Cf.keep HT2.out.kp HRX.out)
          clear he
          go_wp2_with fail
          refine (HONE.out _ o1 e1 _ _ HRX2.out HR2.out HLN.out HT2.out).mono ?_
          rintro en w2 ⟨rfl, o2, e2, hd, hr, ht⟩
          have HN2 := hide (HNX.out w2 o2 e2 hd hr (HT2.out.trans ht))
          clear hd hr ht
          go_wp2
          go_roundw
          case rel => exact ⟨j + 1, by omega, by go_num, HN2⟩
          case measure => simp [intOf]; omega
        · have t2 : (e1 != 0) = true := bne_iff_ne.2 he
          have HS := hide (PInv.stop (by rw [HM.out]; exact hl) he HD.out)
          clear he
          go_wp2
          go_end0
          exact ⟨rfl, _, _, HS.out, HR2.out, HT2.out⟩
      · obtain rfl : j = m := by omega
        have HS := hide (PInv.done (by rw [HM.out]; exact hl) (by rw [HM.out]; exact Nat.le_refl _) HD.out)
        go_wp2
        go_end0
        exact ⟨rfl, _, _, HS.out, HR.out, HT.out⟩
end
end Go.Proofs.YtofdcgojgcnopaaGreat

namespace Go.Proofs.YtofdcgojgcnopaaGreat
open Go.RowKit
set_option linter.unusedVariables false
set_option linter.unusedSimpArgs false
section
variable (F : Nat) (o : Bs) (e : Int) (w : World)
set_option maxRecDepth 100000 in
set_option maxHeartbeats 4000000 in
theorem wen_any (x : Eng) (xs : List Value) (hx : REnW w (· < F) xs x) (h : Wr w F o e) (ho : o.length + wtEn x ≤ 1000000000) :
    Calls Tryz.prog 71 #[.pointer (some ⟨F, 0, none⟩), .agg xs.toArray] w (Wrs F (eEng x) (wtEn x) o e w) := by
  obtain ⟨u, v, t, rfl, hla, hlb, hlc, g1⟩ := hx
  obtain ⟨A1, c1, rfl⟩ := hla.form
  obtain ⟨A2, c2, rfl⟩ := hlb.form
  obtain ⟨A3, c3, rfl⟩ := hlc.form
  unfold wtEn at ho
  have HO := hide ho
  have HT := hide (Wt.laid h (.cells #[.int .i64 x.mark, .slice A1 x.wait.length c1, .slice A2 x.runs.length c2, .slice A3 x.held.length c3] 53))
  have HB := hide (Bx.new h [.int .i64 x.mark, .slice A1 x.wait.length c1, .slice A2 x.runs.length c2, .slice A3 x.held.length c3] 53)
  have HW := hide (h.laid (.cells #[.int .i64 x.mark, .slice A1 x.wait.length c1, .slice A2 x.runs.length c2, .slice A3 x.held.length c3] 53))
  have HHLA := hide hla
  have HHLB := hide hlb
  have HHLC := hide hlc
  clear h ho hla hlb hlc
  go_enter Tryz.func71, Tryz.ntmps71
  obtain ⟨-, hx⟩ := HB.out
  have b0 := hx 0 _ rfl
  clear hx
  have HCL := hide (wint_ex F o e (w.alloc (.cells #[.int .i64 x.mark, .slice A1 x.wait.length c1, .slice A2 x.runs.length c2, .slice A3 x.held.length c3] 53)) x.mark g1 HW.out (by have := HO.out; first | omega | (simp only [List.length_cons, List.length_nil] at *; omega)))
  go_wp2_with fail
  refine HCL.out.mono ?_
  rintro en w1 ⟨rfl, hr, ht⟩
  have HD1 := hide (Wd.num (n := x.mark) g1 o e)
  replace HW := hide hr
  replace HB := hide (HB.out.keep ht)
  replace HT := hide (HT.out.trans ht)
  clear hr ht HCL b0
  obtain ⟨-, hx⟩ := HB.out
  have b1 := hx 1 _ rfl
  clear hx
  have HCL := hide (putEv_any F (o ++ num x.mark) e w1 _ _ HW.out (HHLA.out.keep rd_Ev HT.out.kp) (by have := HD1.out.2.2; have := HO.out; first | omega | (simp only [List.length_cons, List.length_nil] at *; omega)))
  go_wp2_with fail
  refine HCL.out.mono ?_
  rintro en w2 ⟨rfl, o2, e2, hd, hr, ht⟩
  have HD2 := hide hd
  clear hd
  replace HW := hide hr
  replace HB := hide (HB.out.keep ht)
  replace HT := hide (HT.out.trans ht)
  clear hr ht HCL b1
  obtain ⟨-, hx⟩ := HB.out
  have b2 := hx 2 _ rfl
  clear hx
  have HCL := hide (putCf_any F o2 e2 w2 _ _ HW.out (HHLB.out.keep rd_Cf HT.out.kp) (by have := HD1.out.2.2; have := HD2.out.2.2; have := HO.out; first | omega | (simp only [List.length_cons, List.length_nil] at *; omega)))
  go_wp2_with fail
  refine HCL.out.mono ?_
  rintro en w3 ⟨rfl, o3, e3, hd, hr, ht⟩
  have HD3 := hide hd
  clear hd
  replace HW := hide hr
  replace HB := hide (HB.out.keep ht)
  replace HT := hide (HT.out.trans ht)
  clear hr ht HCL b2
  obtain ⟨-, hx⟩ := HB.out
  have b3 := hx 3 _ rfl
  clear hx
  have HCL := hide (putEv_any F o3 e3 w3 _ _ HW.out (HHLC.out.keep rd_Ev HT.out.kp) (by have := HD1.out.2.2; have := HD2.out.2.2; have := HD3.out.2.2; have := HO.out; first | omega | (simp only [List.length_cons, List.length_nil] at *; omega)))
  go_wp2_with fail
  refine HCL.out.mono ?_
  rintro en w4 ⟨rfl, o4, e4, hd, hr, ht⟩
  have HD4 := hide hd
  clear hd
  replace HW := hide hr
  replace HB := hide (HB.out.keep ht)
  replace HT := hide (HT.out.trans ht)
  clear hr ht HCL b3
  go_wp2
  go_end0
  refine ⟨rfl, _, _, ?_, HW.out, HT.out⟩
  unfold eEng
  exact Wd.more (HD1.out.and (HD2.out.and (HD3.out.and HD4.out))) (by unfold wtEn; (try simp only [List.length_cons, List.length_nil]); omega)
end
end Go.Proofs.YtofdcgojgcnopaaGreat
