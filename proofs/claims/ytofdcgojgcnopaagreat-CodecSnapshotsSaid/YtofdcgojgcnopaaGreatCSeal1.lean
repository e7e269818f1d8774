/- sealed, of the encodings of values and of events. -/
import Derived.Test.YtofdcgojgcnopaaGreatCSeal
namespace Go.Proofs.YtofdcgojgcnopaaGreat
open Go.RowKit Go.Lib
set_option linter.unusedVariables false
set_option linter.unusedSimpArgs false
section
variable (w : World)
set_option maxRecDepth 100000 in
set_option maxHeartbeats 4000000 in
theorem sealedV_any (p : Value) (r : Ex Bs) (n : Nat) (hn : n ≤ 900000000)
    (hcl : ∀ (w1 : World), Below w.heap.size w w1 → Wr w1 w.heap.size [] 0 → Calls Tryz.prog 32 #[.pointer (some ⟨w.heap.size, 0, none⟩), p] w1 (Wrs w.heap.size r n [] 0 w1)) :
    Calls Tryz.prog 16 #[.func (.func 32) #[] #[p]] w (Ret (.tuple #[.string (strE (sealE r)), .int .i64 (numE (sealE r))]) w) := by
  have HCL := hide hcl
  obtain ⟨i0, hi0, hz0, hz1, hz2⟩ := info_parts info_u8
  clear hcl
  go_enter Tryz.func16, Tryz.ntmps16
  go_wp2_with fail
  refine (HCL.out _ (below_laid _) (Wr.fresh w)).mono ?_
  rintro en w1 ⟨rfl, o, e, hd, ⟨v, hv⟩, ht⟩
  have HD := hide hd
  have HV := hide hv
  have HB := hide ((below_laid (w := w) (.cells #[.slice none 0 0, .int .i64 0] 94)).trans ht.low)
  obtain ⟨A, cap, rfl⟩ := hv.form
  have c0 := hv.c0
  have c1 := hv.c1
  have hol : o.length ≤ n := by have := hd.2.2; simpa using this
  clear hd hv ht
  by_cases hl : 1048572 < o.length
  · have t1 : decide ((1048572 : Int) < (o.length : Int)) = true := decide_eq_true (by omega)
    go_wp2_with fail
    refine (wfail_any w.heap.size o e _ 13 ⟨_, HV.out⟩).mono ?_
    rintro en w2 ⟨rfl, ⟨v2, hv2⟩, ht⟩
    obtain ⟨e1, he1⟩ : ∃ e1, (if e = 0 then 13 else e) = e1 := ⟨_, rfl⟩
    rw [he1] at hv2
    have hne : e1 ≠ 0 := by rw [← he1]; split <;> omega
    have t2 : (e1 != 0) = true := bne_iff_ne.2 hne
    have HR : Hid (strE (sealE r) = ⟨#[]⟩ ∧ numE (sealE r) = e1) := hide (by
      by_cases he : e = 0
      · rw [if_pos he] at he1
        subst he he1
        exact seal_long HD.out hl
      · rw [if_neg he] at he1
        subst he1
        exact seal_err HD.out he)
    have HB2 := hide (HB.out.trans ht.low)
    have b1 := hv2.c1
    clear he1 hne hv2 ht c0 c1
    go_wp2_with fail
    go_region
    all_goals
      go_wp2
      go_ret2
      exact Ret.mk (by rw [HR.out.1, HR.out.2]; rfl) HB2.out.drew
  · have t1 : decide ((1048572 : Int) < (o.length : Int)) = false := decide_eq_false (by omega)
    by_cases he : e = 0
    · subst he
      have HR := hide (seal_ok HD.out hl)
      have hcv := conv_own HV.out.own
      have hst : (⟨o.toArray⟩ : ByteArray).size = o.length := by simp [ByteArray.size]
      have HSZ : Hid ((⟨o.toArray⟩ : ByteArray).size ≤ maxLen) := hide (by rw [hst]; unfold maxLen; omega)
      clear hst
      go_wp2_with fail
      refine (checksum_any ⟨o.toArray⟩ _ HSZ.out).mono ?_
      rintro en w2 ⟨rfl, rfl⟩
      rw [show (⟨o.toArray⟩ : ByteArray).data.toList = o from rfl]
      have HSO := hide (show sealB o = o ++ sumBytes (sumS o) from rfl)
      have hlt := sum_lt o
      obtain ⟨c, hc⟩ : ∃ c, sumS o = c := ⟨_, rfl⟩
      rw [hc] at HSO hlt ⊢
      clear hc
      have HL4 : Hid (o.length + (sumBytes c).length < 1099511627776 ∧ w.heap.size + 1 ≤ w1.heap.size) := hide ⟨by simp only [sumBytes, List.length_cons, List.length_nil]; omega, Nat.succ_le_of_lt HV.out.lt⟩
      have HOWN := hide HV.out.own
      have HLT4 := hide hlt
      go_wp2_with ((at_builtin; refine wpList_append_bs rfl _ _ 92 rfl i0 Tryz.underlying92 hi0 hz0 hz1 hz2 HOWN.out rfl _ _ (sumBytes c) (sb4 HLT4.out) (by rfl) HL4.out.1 HL4.out.2 ?_; intro v2 w3 hown3 hb3; have hcv3 := conv_own hown3; have HB3 := hide (HB.out.trans (hb3.mono (Nat.le_succ _))); clear hown3 hb3))
      go_ret2
      refine Ret.mk ?_ HB3.out
      rw [HR.out.1, HR.out.2, HSO.out]
      rfl
    · have t2 : (e != 0) = true := bne_iff_ne.2 he
      have HR := hide (seal_err HD.out he)
      clear he
      go_wp2_with fail
      go_region
      all_goals
        go_wp2
        go_ret2
        exact Ret.mk (by rw [HR.out.1, HR.out.2]; rfl) HB.out.drew
set_option maxRecDepth 100000 in
set_option maxHeartbeats 4000000 in
theorem sealedL_any (p : Value) (r : Ex Bs) (n : Nat) (hn : n ≤ 900000000)
    (hcl : ∀ (w1 : World), Below w.heap.size w w1 → Wr w1 w.heap.size [] 0 → Calls Tryz.prog 29 #[.pointer (some ⟨w.heap.size, 0, none⟩), p] w1 (Wrs w.heap.size r n [] 0 w1)) :
    Calls Tryz.prog 16 #[.func (.func 29) #[] #[p]] w (Ret (.tuple #[.string (strE (sealE r)), .int .i64 (numE (sealE r))]) w) := by
  have HCL := hide hcl
  obtain ⟨i0, hi0, hz0, hz1, hz2⟩ := info_parts info_u8
  clear hcl
  go_enter Tryz.func16, Tryz.ntmps16
  go_wp2_with fail
  refine (HCL.out _ (below_laid _) (Wr.fresh w)).mono ?_
  rintro en w1 ⟨rfl, o, e, hd, ⟨v, hv⟩, ht⟩
  have HD := hide hd
  have HV := hide hv
  have HB := hide ((below_laid (w := w) (.cells #[.slice none 0 0, .int .i64 0] 94)).trans ht.low)
  obtain ⟨A, cap, rfl⟩ := hv.form
  have c0 := hv.c0
  have c1 := hv.c1
  have hol : o.length ≤ n := by have := hd.2.2; simpa using this
  clear hd hv ht
  by_cases hl : 1048572 < o.length
  · have t1 : decide ((1048572 : Int) < (o.length : Int)) = true := decide_eq_true (by omega)
    go_wp2_with fail
    refine (wfail_any w.heap.size o e _ 13 ⟨_, HV.out⟩).mono ?_
    rintro en w2 ⟨rfl, ⟨v2, hv2⟩, ht⟩
    obtain ⟨e1, he1⟩ : ∃ e1, (if e = 0 then 13 else e) = e1 := ⟨_, rfl⟩
    rw [he1] at hv2
    have hne : e1 ≠ 0 := by rw [← he1]; split <;> omega
    have t2 : (e1 != 0) = true := bne_iff_ne.2 hne
    have HR : Hid (strE (sealE r) = ⟨#[]⟩ ∧ numE (sealE r) = e1) := hide (by
      by_cases he : e = 0
      · rw [if_pos he] at he1
        subst he he1
        exact seal_long HD.out hl
      · rw [if_neg he] at he1
        subst he1
        exact seal_err HD.out he)
    have HB2 := hide (HB.out.trans ht.low)
    have b1 := hv2.c1
    clear he1 hne hv2 ht c0 c1
    go_wp2_with fail
    go_region
    all_goals
      go_wp2
      go_ret2
      exact Ret.mk (by rw [HR.out.1, HR.out.2]; rfl) HB2.out.drew
  · have t1 : decide ((1048572 : Int) < (o.length : Int)) = false := decide_eq_false (by omega)
    by_cases he : e = 0
    · subst he
      have HR := hide (seal_ok HD.out hl)
      have hcv := conv_own HV.out.own
      have hst : (⟨o.toArray⟩ : ByteArray).size = o.length := by simp [ByteArray.size]
      have HSZ : Hid ((⟨o.toArray⟩ : ByteArray).size ≤ maxLen) := hide (by rw [hst]; unfold maxLen; omega)
      clear hst
      go_wp2_with fail
      refine (checksum_any ⟨o.toArray⟩ _ HSZ.out).mono ?_
      rintro en w2 ⟨rfl, rfl⟩
      rw [show (⟨o.toArray⟩ : ByteArray).data.toList = o from rfl]
      have HSO := hide (show sealB o = o ++ sumBytes (sumS o) from rfl)
      have hlt := sum_lt o
      obtain ⟨c, hc⟩ : ∃ c, sumS o = c := ⟨_, rfl⟩
      rw [hc] at HSO hlt ⊢
      clear hc
      have HL4 : Hid (o.length + (sumBytes c).length < 1099511627776 ∧ w.heap.size + 1 ≤ w1.heap.size) := hide ⟨by simp only [sumBytes, List.length_cons, List.length_nil]; omega, Nat.succ_le_of_lt HV.out.lt⟩
      have HOWN := hide HV.out.own
      have HLT4 := hide hlt
      go_wp2_with ((at_builtin; refine wpList_append_bs rfl _ _ 92 rfl i0 Tryz.underlying92 hi0 hz0 hz1 hz2 HOWN.out rfl _ _ (sumBytes c) (sb4 HLT4.out) (by rfl) HL4.out.1 HL4.out.2 ?_; intro v2 w3 hown3 hb3; have hcv3 := conv_own hown3; have HB3 := hide (HB.out.trans (hb3.mono (Nat.le_succ _))); clear hown3 hb3))
      go_ret2
      refine Ret.mk ?_ HB3.out
      rw [HR.out.1, HR.out.2, HSO.out]
      rfl
    · have t2 : (e != 0) = true := bne_iff_ne.2 he
      have HR := hide (seal_err HD.out he)
      clear he
      go_wp2_with fail
      go_region
      all_goals
        go_wp2
        go_ret2
        exact Ret.mk (by rw [HR.out.1, HR.out.2]; rfl) HB.out.drew
end
end Go.Proofs.YtofdcgojgcnopaaGreat
