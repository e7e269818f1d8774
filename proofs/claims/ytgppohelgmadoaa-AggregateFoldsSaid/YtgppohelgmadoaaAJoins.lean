/- Merging is associative, and the empty accumulator is neutral. -/
import Derived.Test.YtgppohelgmadoaaALaws
namespace Go.Proofs.Ytgppohelgmadoaa
open Go.RowKit
set_option linter.unusedVariables false
set_option linter.unusedSimpArgs false
theorem mrg_zl {a b : A5} (h : a.c = 0) : mrg a b = b := by
  obtain ⟨k, c, q, n, s⟩ := a
  obtain ⟨l, d, p, m, t⟩ := b
  change c = 0 at h
  subst h
  simp [mrg, mrgK, mrgQ, mrgN, mrgS]
theorem mrg_zr {a b : A5} (ha : ¬ a.c = 0) (h : b.c = 0) : mrg a b = a := by
  obtain ⟨k, c, q, n, s⟩ := a
  obtain ⟨l, d, p, m, t⟩ := b
  change d = 0 at h
  change ¬ c = 0 at ha
  subst h
  simp [mrg, mrgK, mrgQ, mrgN, mrgS, ha]
theorem mrg_nn {a b : A5} (ha : ¬ a.c = 0) (hb : ¬ b.c = 0) : mrg a b = ⟨a.k, a.c + b.c, comQ a.k a.q b.q, comN a.k a.n b.n, comS a.k a.s b.s⟩ := by
  simp [mrg, mrgK, mrgQ, mrgN, mrgS, ha, hb]
theorem com_assoc {k : Int} (hk : knownB k = true) (q p r : Int) (n m o : Int) (s t u : ByteArray) : comQ k (comQ k q p) r = comQ k q (comQ k p r) ∧ comN k (comN k n m) o = comN k n (comN k m o) ∧ comS k (comS k s t) u = comS k s (comS k t u) := by
  have hk6 : k = 0 ∨ k = 1 ∨ k = 2 ∨ k = 3 ∨ k = 4 ∨ k = 5 := by simp only [knownB, decide_eq_true_eq] at hk; omega
  rcases hk6 with rfl | rfl | rfl | rfl | rfl | rfl
  · exact ⟨rfl, rfl, rfl⟩
  · exact ⟨rfl, Int.add_assoc _ _ _, rfl⟩
  · refine ⟨rfl, ?_, rfl⟩; show min (min n m) o = min n (min m o); omega
  · refine ⟨rfl, ?_, rfl⟩; show max (max n m) o = max n (max m o); omega
  · exact ⟨rfl, rfl, rfl⟩
  · exact ⟨rfl, rfl, rfl⟩
theorem mrg_assoc {a b c : A5} (ha : Good a) (hb : Good b) (hc : Good c) (h1 : a.k = b.k) (h2 : b.k = c.k) : mrg (mrg a b) c = mrg a (mrg b c) := by
  have ca := ha.2.1
  have cb := hb.2.1
  have cc := hc.2.1
  by_cases a0 : a.c = 0
  · rw [mrg_zl a0, mrg_zl a0]
  · by_cases b0 : b.c = 0
    · rw [mrg_zr a0 b0, mrg_zl b0]
    · by_cases c0 : c.c = 0
      · rw [mrg_zr b0 c0, mrg_zr (by rw [mrg_nn a0 b0]; show ¬ a.c + b.c = 0; omega) c0]
      · rw [mrg_nn (a := mrg a b) (by rw [mrg_nn a0 b0]; show ¬ a.c + b.c = 0; omega) c0, mrg_nn (b := mrg b c) a0 (by rw [mrg_nn b0 c0]; show ¬ b.c + c.c = 0; omega), mrg_nn a0 b0, mrg_nn b0 c0]
        simp only
        rw [← h1]
        obtain ⟨e1, e2, e3⟩ := com_assoc ha.1 a.q b.q c.q a.n b.n c.n a.s b.s c.s
        rw [e1, e2, e3, Int.add_assoc]
theorem mrg_none {a : A5} (ha : Good a) : mrg a (beg a.k) = a ∧ mrg (beg a.k) a = a := by
  refine ⟨?_, mrg_zl rfl⟩
  by_cases a0 : a.c = 0
  · rw [mrg_zl a0]
    obtain ⟨k, c, q, n, s⟩ := a
    have h := (good_mk.1 ha).2.2.2
    change c = 0 at a0
    subst a0
    rw [if_pos (.inl rfl)] at h
    obtain ⟨rfl, rfl, h3⟩ := h
    rw [size_zero h3]; rfl
  · exact mrg_zr a0 rfl
theorem mg_ok {a b : A5} (ha : Good a) (hb : Good b) (hk : a.k = b.k) (hc : a.c + b.c ≤ 4096) : mgE a b = 0 ∧ mg a b = mrg a b := by
  have h : mgE a b = 0 := by
    unfold mgE
    rw [if_neg (by simp [(good_iff a).2 ha]), if_neg (by simp [(good_iff b).2 hb]), if_neg (by simpa using hk), if_neg (by omega)]
  exact ⟨h, if_pos h⟩
theorem mrg_c (a b : A5) : (mrg a b).c = a.c + b.c := rfl

section
variable (a b c : A5) (w : World)
set_option maxHeartbeats 2000000 in
theorem joins_f0 (hsa : a.s.size ≤ maxLen) (hsb : b.s.size ≤ maxLen) (hsc : c.s.size ≤ maxLen) (h0 : ¬ a.k = b.k) :
    Calls Try.prog 8 #[.agg #[.int .i64 a.k, .int .i64 a.c, .int .i64 a.q, .int .i64 a.n, .string a.s], .agg #[.int .i64 b.k, .int .i64 b.c, .int .i64 b.q, .int .i64 b.n, .string b.s], .agg #[.int .i64 c.k, .int .i64 c.c, .int .i64 c.q, .int .i64 c.n, .string c.s]] w (Ret (.bool true) w) := by
  have hA0 := ((Box5.new w a 25).keep (below_laid (.cells #[.int .i64 b.k, .int .i64 b.c, .int .i64 b.q, .int .i64 b.n, .string b.s] 25))).keep (below_laid (.cells #[.int .i64 c.k, .int .i64 c.c, .int .i64 c.q, .int .i64 c.n, .string c.s] 25))
  have hB0 := (Box5.new (w.alloc (.cells #[.int .i64 a.k, .int .i64 a.c, .int .i64 a.q, .int .i64 a.n, .string a.s] 25)) b 25).keep (below_laid (.cells #[.int .i64 c.k, .int .i64 c.c, .int .i64 c.q, .int .i64 c.n, .string c.s] 25))
  have hC0 := Box5.new ((w.alloc (.cells #[.int .i64 a.k, .int .i64 a.c, .int .i64 a.q, .int .i64 a.n, .string a.s] 25)).alloc (.cells #[.int .i64 b.k, .int .i64 b.c, .int .i64 b.q, .int .i64 b.n, .string b.s] 25)) c 25
  simp only [World.size_alloc] at hB0 hC0
  have HA := hide hA0
  have HB := hide hB0
  have HC := hide hC0
  clear hA0 hB0 hC0
  have t0 : (a.k != b.k) = true := bne_iff_ne.2 h0
  clear h0
  go_enter Try.func8, Try.ntmps8
  go_wp2_with fail
  refine (awake_any _).mono ?_
  rintro e wz ⟨rfl, hb⟩
  go_wp2
  go_ret
  exact Ret.bool rfl (bel3 hb)

set_option maxHeartbeats 2000000 in
theorem joins_f1 (hsa : a.s.size ≤ maxLen) (hsb : b.s.size ≤ maxLen) (hsc : c.s.size ≤ maxLen) (h0 : a.k = b.k) (h1 : ¬ b.k = c.k) :
    Calls Try.prog 8 #[.agg #[.int .i64 a.k, .int .i64 a.c, .int .i64 a.q, .int .i64 a.n, .string a.s], .agg #[.int .i64 b.k, .int .i64 b.c, .int .i64 b.q, .int .i64 b.n, .string b.s], .agg #[.int .i64 c.k, .int .i64 c.c, .int .i64 c.q, .int .i64 c.n, .string c.s]] w (Ret (.bool true) w) := by
  have hA0 := ((Box5.new w a 25).keep (below_laid (.cells #[.int .i64 b.k, .int .i64 b.c, .int .i64 b.q, .int .i64 b.n, .string b.s] 25))).keep (below_laid (.cells #[.int .i64 c.k, .int .i64 c.c, .int .i64 c.q, .int .i64 c.n, .string c.s] 25))
  have hB0 := (Box5.new (w.alloc (.cells #[.int .i64 a.k, .int .i64 a.c, .int .i64 a.q, .int .i64 a.n, .string a.s] 25)) b 25).keep (below_laid (.cells #[.int .i64 c.k, .int .i64 c.c, .int .i64 c.q, .int .i64 c.n, .string c.s] 25))
  have hC0 := Box5.new ((w.alloc (.cells #[.int .i64 a.k, .int .i64 a.c, .int .i64 a.q, .int .i64 a.n, .string a.s] 25)).alloc (.cells #[.int .i64 b.k, .int .i64 b.c, .int .i64 b.q, .int .i64 b.n, .string b.s] 25)) c 25
  simp only [World.size_alloc] at hB0 hC0
  have HA := hide hA0
  have HB := hide hB0
  have HC := hide hC0
  clear hA0 hB0 hC0
  have t0 : (a.k != b.k) = false := bne_eq_false_iff_eq.2 h0
  clear h0
  have t1 : (b.k != c.k) = true := bne_iff_ne.2 h1
  clear h1
  go_enter Try.func8, Try.ntmps8
  go_wp2_with fail
  refine (awake_any _).mono ?_
  rintro e wz ⟨rfl, hb⟩
  go_wp2
  go_ret
  exact Ret.bool rfl (bel3 hb)

set_option maxHeartbeats 2000000 in
theorem joins_f2 (hsa : a.s.size ≤ maxLen) (hsb : b.s.size ≤ maxLen) (hsc : c.s.size ≤ maxLen) (h0 : a.k = b.k) (h1 : b.k = c.k) (h2 : ¬ a.e = 0) :
    Calls Try.prog 8 #[.agg #[.int .i64 a.k, .int .i64 a.c, .int .i64 a.q, .int .i64 a.n, .string a.s], .agg #[.int .i64 b.k, .int .i64 b.c, .int .i64 b.q, .int .i64 b.n, .string b.s], .agg #[.int .i64 c.k, .int .i64 c.c, .int .i64 c.q, .int .i64 c.n, .string c.s]] w (Ret (.bool true) w) := by
  have hA0 := ((Box5.new w a 25).keep (below_laid (.cells #[.int .i64 b.k, .int .i64 b.c, .int .i64 b.q, .int .i64 b.n, .string b.s] 25))).keep (below_laid (.cells #[.int .i64 c.k, .int .i64 c.c, .int .i64 c.q, .int .i64 c.n, .string c.s] 25))
  have hB0 := (Box5.new (w.alloc (.cells #[.int .i64 a.k, .int .i64 a.c, .int .i64 a.q, .int .i64 a.n, .string a.s] 25)) b 25).keep (below_laid (.cells #[.int .i64 c.k, .int .i64 c.c, .int .i64 c.q, .int .i64 c.n, .string c.s] 25))
  have hC0 := Box5.new ((w.alloc (.cells #[.int .i64 a.k, .int .i64 a.c, .int .i64 a.q, .int .i64 a.n, .string a.s] 25)).alloc (.cells #[.int .i64 b.k, .int .i64 b.c, .int .i64 b.q, .int .i64 b.n, .string b.s] 25)) c 25
  simp only [World.size_alloc] at hB0 hC0
  have HA := hide hA0
  have HB := hide hB0
  have HC := hide hC0
  clear hA0 hB0 hC0
  have t0 : (a.k != b.k) = false := bne_eq_false_iff_eq.2 h0
  clear h0
  have t1 : (b.k != c.k) = false := bne_eq_false_iff_eq.2 h1
  clear h1
  have HKa := hide (fun w => acheck_any a.k a.c a.q a.n a.s w hsa)
  have t2 : (accE a.k a.c a.q a.n a.s.size != 0) = true := bne_iff_ne.2 h2
  clear h2
  generalize accE a.k a.c a.q a.n a.s.size = x at *
  go_enter Try.func8, Try.ntmps8
  go_wp2_with fail
  refine (HKa.out _).mono ?_
  rintro e w1 ⟨rfl, hb⟩
  have HA := hide (HA.out.keep hb)
  have HB := hide (HB.out.keep hb)
  have HC := hide (HC.out.keep hb)
  have HW := hide (bel3 hb)
  clear hb
  obtain ⟨⟨p00, p01, p02, p03, p04⟩, -⟩ := HA.out
  try simp only [beg] at p00 p01 p02 p03 p04
  obtain ⟨⟨q00, q01, q02, q03, q04⟩, -⟩ := HB.out
  try simp only [beg] at q00 q01 q02 q03 q04
  obtain ⟨⟨r00, r01, r02, r03, r04⟩, -⟩ := HC.out
  try simp only [beg] at r00 r01 r02 r03 r04
  go_wp2_with fail
  refine (awake_any _).mono ?_
  rintro e wz ⟨rfl, hb⟩
  go_wp2
  go_ret
  exact Ret.bool rfl (bthen HW.out hb)

set_option maxHeartbeats 2000000 in
theorem joins_f3 (hsa : a.s.size ≤ maxLen) (hsb : b.s.size ≤ maxLen) (hsc : c.s.size ≤ maxLen) (h0 : a.k = b.k) (h1 : b.k = c.k) (h2 : a.e = 0) (h3 : ¬ b.e = 0) :
    Calls Try.prog 8 #[.agg #[.int .i64 a.k, .int .i64 a.c, .int .i64 a.q, .int .i64 a.n, .string a.s], .agg #[.int .i64 b.k, .int .i64 b.c, .int .i64 b.q, .int .i64 b.n, .string b.s], .agg #[.int .i64 c.k, .int .i64 c.c, .int .i64 c.q, .int .i64 c.n, .string c.s]] w (Ret (.bool true) w) := by
  have hA0 := ((Box5.new w a 25).keep (below_laid (.cells #[.int .i64 b.k, .int .i64 b.c, .int .i64 b.q, .int .i64 b.n, .string b.s] 25))).keep (below_laid (.cells #[.int .i64 c.k, .int .i64 c.c, .int .i64 c.q, .int .i64 c.n, .string c.s] 25))
  have hB0 := (Box5.new (w.alloc (.cells #[.int .i64 a.k, .int .i64 a.c, .int .i64 a.q, .int .i64 a.n, .string a.s] 25)) b 25).keep (below_laid (.cells #[.int .i64 c.k, .int .i64 c.c, .int .i64 c.q, .int .i64 c.n, .string c.s] 25))
  have hC0 := Box5.new ((w.alloc (.cells #[.int .i64 a.k, .int .i64 a.c, .int .i64 a.q, .int .i64 a.n, .string a.s] 25)).alloc (.cells #[.int .i64 b.k, .int .i64 b.c, .int .i64 b.q, .int .i64 b.n, .string b.s] 25)) c 25
  simp only [World.size_alloc] at hB0 hC0
  have HA := hide hA0
  have HB := hide hB0
  have HC := hide hC0
  clear hA0 hB0 hC0
  have t0 : (a.k != b.k) = false := bne_eq_false_iff_eq.2 h0
  clear h0
  have t1 : (b.k != c.k) = false := bne_eq_false_iff_eq.2 h1
  clear h1
  have HKa := hide (fun w => acheck_any a.k a.c a.q a.n a.s w hsa)
  rw [show accE a.k a.c a.q a.n a.s.size = 0 from h2] at HKa
  clear h2
  have HKb := hide (fun w => acheck_any b.k b.c b.q b.n b.s w hsb)
  have t2 : (accE b.k b.c b.q b.n b.s.size != 0) = true := bne_iff_ne.2 h3
  clear h3
  generalize accE b.k b.c b.q b.n b.s.size = x at *
  go_enter Try.func8, Try.ntmps8
  go_wp2_with fail
  refine (HKa.out _).mono ?_
  rintro e w1 ⟨rfl, hb⟩
  have HA := hide (HA.out.keep hb)
  have HB := hide (HB.out.keep hb)
  have HC := hide (HC.out.keep hb)
  have HW := hide (bel3 hb)
  clear hb
  obtain ⟨⟨p00, p01, p02, p03, p04⟩, -⟩ := HA.out
  try simp only [beg] at p00 p01 p02 p03 p04
  obtain ⟨⟨q00, q01, q02, q03, q04⟩, -⟩ := HB.out
  try simp only [beg] at q00 q01 q02 q03 q04
  obtain ⟨⟨r00, r01, r02, r03, r04⟩, -⟩ := HC.out
  try simp only [beg] at r00 r01 r02 r03 r04
  go_wp2_with fail
  refine (HKb.out _).mono ?_
  rintro e w2 ⟨rfl, hb⟩
  have HA := hide (HA.out.keep hb)
  have HB := hide (HB.out.keep hb)
  have HC := hide (HC.out.keep hb)
  have HW := hide (bthen HW.out hb)
  clear hb
  obtain ⟨⟨p10, p11, p12, p13, p14⟩, -⟩ := HA.out
  try simp only [beg] at p10 p11 p12 p13 p14
  obtain ⟨⟨q10, q11, q12, q13, q14⟩, -⟩ := HB.out
  try simp only [beg] at q10 q11 q12 q13 q14
  obtain ⟨⟨r10, r11, r12, r13, r14⟩, -⟩ := HC.out
  try simp only [beg] at r10 r11 r12 r13 r14
  go_wp2_with fail
  refine (awake_any _).mono ?_
  rintro e wz ⟨rfl, hb⟩
  go_wp2
  go_ret
  exact Ret.bool rfl (bthen HW.out hb)

set_option maxHeartbeats 2000000 in
theorem joins_f4 (hsa : a.s.size ≤ maxLen) (hsb : b.s.size ≤ maxLen) (hsc : c.s.size ≤ maxLen) (h0 : a.k = b.k) (h1 : b.k = c.k) (h2 : a.e = 0) (h3 : b.e = 0) (h4 : ¬ c.e = 0) :
    Calls Try.prog 8 #[.agg #[.int .i64 a.k, .int .i64 a.c, .int .i64 a.q, .int .i64 a.n, .string a.s], .agg #[.int .i64 b.k, .int .i64 b.c, .int .i64 b.q, .int .i64 b.n, .string b.s], .agg #[.int .i64 c.k, .int .i64 c.c, .int .i64 c.q, .int .i64 c.n, .string c.s]] w (Ret (.bool true) w) := by
  have hA0 := ((Box5.new w a 25).keep (below_laid (.cells #[.int .i64 b.k, .int .i64 b.c, .int .i64 b.q, .int .i64 b.n, .string b.s] 25))).keep (below_laid (.cells #[.int .i64 c.k, .int .i64 c.c, .int .i64 c.q, .int .i64 c.n, .string c.s] 25))
  have hB0 := (Box5.new (w.alloc (.cells #[.int .i64 a.k, .int .i64 a.c, .int .i64 a.q, .int .i64 a.n, .string a.s] 25)) b 25).keep (below_laid (.cells #[.int .i64 c.k, .int .i64 c.c, .int .i64 c.q, .int .i64 c.n, .string c.s] 25))
  have hC0 := Box5.new ((w.alloc (.cells #[.int .i64 a.k, .int .i64 a.c, .int .i64 a.q, .int .i64 a.n, .string a.s] 25)).alloc (.cells #[.int .i64 b.k, .int .i64 b.c, .int .i64 b.q, .int .i64 b.n, .string b.s] 25)) c 25
  simp only [World.size_alloc] at hB0 hC0
  have HA := hide hA0
  have HB := hide hB0
  have HC := hide hC0
  clear hA0 hB0 hC0
  have t0 : (a.k != b.k) = false := bne_eq_false_iff_eq.2 h0
  clear h0
  have t1 : (b.k != c.k) = false := bne_eq_false_iff_eq.2 h1
  clear h1
  have HKa := hide (fun w => acheck_any a.k a.c a.q a.n a.s w hsa)
  rw [show accE a.k a.c a.q a.n a.s.size = 0 from h2] at HKa
  clear h2
  have HKb := hide (fun w => acheck_any b.k b.c b.q b.n b.s w hsb)
  rw [show accE b.k b.c b.q b.n b.s.size = 0 from h3] at HKb
  clear h3
  have HKc := hide (fun w => acheck_any c.k c.c c.q c.n c.s w hsc)
  have t2 : (accE c.k c.c c.q c.n c.s.size != 0) = true := bne_iff_ne.2 h4
  clear h4
  generalize accE c.k c.c c.q c.n c.s.size = x at *
  go_enter Try.func8, Try.ntmps8
  go_wp2_with fail
  refine (HKa.out _).mono ?_
  rintro e w1 ⟨rfl, hb⟩
  have HA := hide (HA.out.keep hb)
  have HB := hide (HB.out.keep hb)
  have HC := hide (HC.out.keep hb)
  have HW := hide (bel3 hb)
  clear hb
  obtain ⟨⟨p00, p01, p02, p03, p04⟩, -⟩ := HA.out
  try simp only [beg] at p00 p01 p02 p03 p04
  obtain ⟨⟨q00, q01, q02, q03, q04⟩, -⟩ := HB.out
  try simp only [beg] at q00 q01 q02 q03 q04
  obtain ⟨⟨r00, r01, r02, r03, r04⟩, -⟩ := HC.out
  try simp only [beg] at r00 r01 r02 r03 r04
  go_wp2_with fail
  refine (HKb.out _).mono ?_
  rintro e w2 ⟨rfl, hb⟩
  have HA := hide (HA.out.keep hb)
  have HB := hide (HB.out.keep hb)
  have HC := hide (HC.out.keep hb)
  have HW := hide (bthen HW.out hb)
  clear hb
  obtain ⟨⟨p10, p11, p12, p13, p14⟩, -⟩ := HA.out
  try simp only [beg] at p10 p11 p12 p13 p14
  obtain ⟨⟨q10, q11, q12, q13, q14⟩, -⟩ := HB.out
  try simp only [beg] at q10 q11 q12 q13 q14
  obtain ⟨⟨r10, r11, r12, r13, r14⟩, -⟩ := HC.out
  try simp only [beg] at r10 r11 r12 r13 r14
  go_wp2_with fail
  refine (HKc.out _).mono ?_
  rintro e w3 ⟨rfl, hb⟩
  have HA := hide (HA.out.keep hb)
  have HB := hide (HB.out.keep hb)
  have HC := hide (HC.out.keep hb)
  have HW := hide (bthen HW.out hb)
  clear hb
  obtain ⟨⟨p20, p21, p22, p23, p24⟩, -⟩ := HA.out
  try simp only [beg] at p20 p21 p22 p23 p24
  obtain ⟨⟨q20, q21, q22, q23, q24⟩, -⟩ := HB.out
  try simp only [beg] at q20 q21 q22 q23 q24
  obtain ⟨⟨r20, r21, r22, r23, r24⟩, -⟩ := HC.out
  try simp only [beg] at r20 r21 r22 r23 r24
  go_wp2_with fail
  refine (awake_any _).mono ?_
  rintro e wz ⟨rfl, hb⟩
  go_wp2
  go_ret
  exact Ret.bool rfl (bthen HW.out hb)

set_option maxHeartbeats 2000000 in
theorem joins_f5 (hsa : a.s.size ≤ maxLen) (hsb : b.s.size ≤ maxLen) (hsc : c.s.size ≤ maxLen) (h0 : a.k = b.k) (h1 : b.k = c.k) (h2 : a.e = 0) (h3 : b.e = 0) (h4 : c.e = 0) (h5 : ¬ a.c ≤ 1000) :
    Calls Try.prog 8 #[.agg #[.int .i64 a.k, .int .i64 a.c, .int .i64 a.q, .int .i64 a.n, .string a.s], .agg #[.int .i64 b.k, .int .i64 b.c, .int .i64 b.q, .int .i64 b.n, .string b.s], .agg #[.int .i64 c.k, .int .i64 c.c, .int .i64 c.q, .int .i64 c.n, .string c.s]] w (Ret (.bool true) w) := by
  have hA0 := ((Box5.new w a 25).keep (below_laid (.cells #[.int .i64 b.k, .int .i64 b.c, .int .i64 b.q, .int .i64 b.n, .string b.s] 25))).keep (below_laid (.cells #[.int .i64 c.k, .int .i64 c.c, .int .i64 c.q, .int .i64 c.n, .string c.s] 25))
  have hB0 := (Box5.new (w.alloc (.cells #[.int .i64 a.k, .int .i64 a.c, .int .i64 a.q, .int .i64 a.n, .string a.s] 25)) b 25).keep (below_laid (.cells #[.int .i64 c.k, .int .i64 c.c, .int .i64 c.q, .int .i64 c.n, .string c.s] 25))
  have hC0 := Box5.new ((w.alloc (.cells #[.int .i64 a.k, .int .i64 a.c, .int .i64 a.q, .int .i64 a.n, .string a.s] 25)).alloc (.cells #[.int .i64 b.k, .int .i64 b.c, .int .i64 b.q, .int .i64 b.n, .string b.s] 25)) c 25
  simp only [World.size_alloc] at hB0 hC0
  have HA := hide hA0
  have HB := hide hB0
  have HC := hide hC0
  clear hA0 hB0 hC0
  have t0 : (a.k != b.k) = false := bne_eq_false_iff_eq.2 h0
  clear h0
  have t1 : (b.k != c.k) = false := bne_eq_false_iff_eq.2 h1
  clear h1
  have HKa := hide (fun w => acheck_any a.k a.c a.q a.n a.s w hsa)
  rw [show accE a.k a.c a.q a.n a.s.size = 0 from h2] at HKa
  clear h2
  have HKb := hide (fun w => acheck_any b.k b.c b.q b.n b.s w hsb)
  rw [show accE b.k b.c b.q b.n b.s.size = 0 from h3] at HKb
  clear h3
  have HKc := hide (fun w => acheck_any c.k c.c c.q c.n c.s w hsc)
  rw [show accE c.k c.c c.q c.n c.s.size = 0 from h4] at HKc
  clear h4
  have t5 : decide (1000 < a.c) = true := decide_eq_true (by omega)
  clear h5
  go_enter Try.func8, Try.ntmps8
  go_wp2_with fail
  refine (HKa.out _).mono ?_
  rintro e w1 ⟨rfl, hb⟩
  have HA := hide (HA.out.keep hb)
  have HB := hide (HB.out.keep hb)
  have HC := hide (HC.out.keep hb)
  have HW := hide (bel3 hb)
  clear hb
  obtain ⟨⟨p00, p01, p02, p03, p04⟩, -⟩ := HA.out
  try simp only [beg] at p00 p01 p02 p03 p04
  obtain ⟨⟨q00, q01, q02, q03, q04⟩, -⟩ := HB.out
  try simp only [beg] at q00 q01 q02 q03 q04
  obtain ⟨⟨r00, r01, r02, r03, r04⟩, -⟩ := HC.out
  try simp only [beg] at r00 r01 r02 r03 r04
  go_wp2_with fail
  refine (HKb.out _).mono ?_
  rintro e w2 ⟨rfl, hb⟩
  have HA := hide (HA.out.keep hb)
  have HB := hide (HB.out.keep hb)
  have HC := hide (HC.out.keep hb)
  have HW := hide (bthen HW.out hb)
  clear hb
  obtain ⟨⟨p10, p11, p12, p13, p14⟩, -⟩ := HA.out
  try simp only [beg] at p10 p11 p12 p13 p14
  obtain ⟨⟨q10, q11, q12, q13, q14⟩, -⟩ := HB.out
  try simp only [beg] at q10 q11 q12 q13 q14
  obtain ⟨⟨r10, r11, r12, r13, r14⟩, -⟩ := HC.out
  try simp only [beg] at r10 r11 r12 r13 r14
  go_wp2_with fail
  refine (HKc.out _).mono ?_
  rintro e w3 ⟨rfl, hb⟩
  have HA := hide (HA.out.keep hb)
  have HB := hide (HB.out.keep hb)
  have HC := hide (HC.out.keep hb)
  have HW := hide (bthen HW.out hb)
  clear hb
  obtain ⟨⟨p20, p21, p22, p23, p24⟩, -⟩ := HA.out
  try simp only [beg] at p20 p21 p22 p23 p24
  obtain ⟨⟨q20, q21, q22, q23, q24⟩, -⟩ := HB.out
  try simp only [beg] at q20 q21 q22 q23 q24
  obtain ⟨⟨r20, r21, r22, r23, r24⟩, -⟩ := HC.out
  try simp only [beg] at r20 r21 r22 r23 r24
  go_wp2_with fail
  refine (awake_any _).mono ?_
  rintro e wz ⟨rfl, hb⟩
  go_wp2
  go_ret
  exact Ret.bool rfl (bthen HW.out hb)

set_option maxHeartbeats 2000000 in
theorem joins_f6 (hsa : a.s.size ≤ maxLen) (hsb : b.s.size ≤ maxLen) (hsc : c.s.size ≤ maxLen) (h0 : a.k = b.k) (h1 : b.k = c.k) (h2 : a.e = 0) (h3 : b.e = 0) (h4 : c.e = 0) (h5 : a.c ≤ 1000) (h6 : ¬ b.c ≤ 1000) :
    Calls Try.prog 8 #[.agg #[.int .i64 a.k, .int .i64 a.c, .int .i64 a.q, .int .i64 a.n, .string a.s], .agg #[.int .i64 b.k, .int .i64 b.c, .int .i64 b.q, .int .i64 b.n, .string b.s], .agg #[.int .i64 c.k, .int .i64 c.c, .int .i64 c.q, .int .i64 c.n, .string c.s]] w (Ret (.bool true) w) := by
  have hA0 := ((Box5.new w a 25).keep (below_laid (.cells #[.int .i64 b.k, .int .i64 b.c, .int .i64 b.q, .int .i64 b.n, .string b.s] 25))).keep (below_laid (.cells #[.int .i64 c.k, .int .i64 c.c, .int .i64 c.q, .int .i64 c.n, .string c.s] 25))
  have hB0 := (Box5.new (w.alloc (.cells #[.int .i64 a.k, .int .i64 a.c, .int .i64 a.q, .int .i64 a.n, .string a.s] 25)) b 25).keep (below_laid (.cells #[.int .i64 c.k, .int .i64 c.c, .int .i64 c.q, .int .i64 c.n, .string c.s] 25))
  have hC0 := Box5.new ((w.alloc (.cells #[.int .i64 a.k, .int .i64 a.c, .int .i64 a.q, .int .i64 a.n, .string a.s] 25)).alloc (.cells #[.int .i64 b.k, .int .i64 b.c, .int .i64 b.q, .int .i64 b.n, .string b.s] 25)) c 25
  simp only [World.size_alloc] at hB0 hC0
  have HA := hide hA0
  have HB := hide hB0
  have HC := hide hC0
  clear hA0 hB0 hC0
  have t0 : (a.k != b.k) = false := bne_eq_false_iff_eq.2 h0
  clear h0
  have t1 : (b.k != c.k) = false := bne_eq_false_iff_eq.2 h1
  clear h1
  have HKa := hide (fun w => acheck_any a.k a.c a.q a.n a.s w hsa)
  rw [show accE a.k a.c a.q a.n a.s.size = 0 from h2] at HKa
  clear h2
  have HKb := hide (fun w => acheck_any b.k b.c b.q b.n b.s w hsb)
  rw [show accE b.k b.c b.q b.n b.s.size = 0 from h3] at HKb
  clear h3
  have HKc := hide (fun w => acheck_any c.k c.c c.q c.n c.s w hsc)
  rw [show accE c.k c.c c.q c.n c.s.size = 0 from h4] at HKc
  clear h4
  have t5 : decide (1000 < a.c) = false := decide_eq_false (by omega)
  clear h5
  have t6 : decide (1000 < b.c) = true := decide_eq_true (by omega)
  clear h6
  go_enter Try.func8, Try.ntmps8
  go_wp2_with fail
  refine (HKa.out _).mono ?_
  rintro e w1 ⟨rfl, hb⟩
  have HA := hide (HA.out.keep hb)
  have HB := hide (HB.out.keep hb)
  have HC := hide (HC.out.keep hb)
  have HW := hide (bel3 hb)
  clear hb
  obtain ⟨⟨p00, p01, p02, p03, p04⟩, -⟩ := HA.out
  try simp only [beg] at p00 p01 p02 p03 p04
  obtain ⟨⟨q00, q01, q02, q03, q04⟩, -⟩ := HB.out
  try simp only [beg] at q00 q01 q02 q03 q04
  obtain ⟨⟨r00, r01, r02, r03, r04⟩, -⟩ := HC.out
  try simp only [beg] at r00 r01 r02 r03 r04
  go_wp2_with fail
  refine (HKb.out _).mono ?_
  rintro e w2 ⟨rfl, hb⟩
  have HA := hide (HA.out.keep hb)
  have HB := hide (HB.out.keep hb)
  have HC := hide (HC.out.keep hb)
  have HW := hide (bthen HW.out hb)
  clear hb
  obtain ⟨⟨p10, p11, p12, p13, p14⟩, -⟩ := HA.out
  try simp only [beg] at p10 p11 p12 p13 p14
  obtain ⟨⟨q10, q11, q12, q13, q14⟩, -⟩ := HB.out
  try simp only [beg] at q10 q11 q12 q13 q14
  obtain ⟨⟨r10, r11, r12, r13, r14⟩, -⟩ := HC.out
  try simp only [beg] at r10 r11 r12 r13 r14
  go_wp2_with fail
  refine (HKc.out _).mono ?_
  rintro e w3 ⟨rfl, hb⟩
  have HA := hide (HA.out.keep hb)
  have HB := hide (HB.out.keep hb)
  have HC := hide (HC.out.keep hb)
  have HW := hide (bthen HW.out hb)
  clear hb
  obtain ⟨⟨p20, p21, p22, p23, p24⟩, -⟩ := HA.out
  try simp only [beg] at p20 p21 p22 p23 p24
  obtain ⟨⟨q20, q21, q22, q23, q24⟩, -⟩ := HB.out
  try simp only [beg] at q20 q21 q22 q23 q24
  obtain ⟨⟨r20, r21, r22, r23, r24⟩, -⟩ := HC.out
  try simp only [beg] at r20 r21 r22 r23 r24
  go_wp2_with fail
  refine (awake_any _).mono ?_
  rintro e wz ⟨rfl, hb⟩
  go_wp2
  go_ret
  exact Ret.bool rfl (bthen HW.out hb)

set_option maxHeartbeats 2000000 in
theorem joins_f7 (hsa : a.s.size ≤ maxLen) (hsb : b.s.size ≤ maxLen) (hsc : c.s.size ≤ maxLen) (h0 : a.k = b.k) (h1 : b.k = c.k) (h2 : a.e = 0) (h3 : b.e = 0) (h4 : c.e = 0) (h5 : a.c ≤ 1000) (h6 : b.c ≤ 1000) (h7 : ¬ c.c ≤ 1000) :
    Calls Try.prog 8 #[.agg #[.int .i64 a.k, .int .i64 a.c, .int .i64 a.q, .int .i64 a.n, .string a.s], .agg #[.int .i64 b.k, .int .i64 b.c, .int .i64 b.q, .int .i64 b.n, .string b.s], .agg #[.int .i64 c.k, .int .i64 c.c, .int .i64 c.q, .int .i64 c.n, .string c.s]] w (Ret (.bool true) w) := by
  have hA0 := ((Box5.new w a 25).keep (below_laid (.cells #[.int .i64 b.k, .int .i64 b.c, .int .i64 b.q, .int .i64 b.n, .string b.s] 25))).keep (below_laid (.cells #[.int .i64 c.k, .int .i64 c.c, .int .i64 c.q, .int .i64 c.n, .string c.s] 25))
  have hB0 := (Box5.new (w.alloc (.cells #[.int .i64 a.k, .int .i64 a.c, .int .i64 a.q, .int .i64 a.n, .string a.s] 25)) b 25).keep (below_laid (.cells #[.int .i64 c.k, .int .i64 c.c, .int .i64 c.q, .int .i64 c.n, .string c.s] 25))
  have hC0 := Box5.new ((w.alloc (.cells #[.int .i64 a.k, .int .i64 a.c, .int .i64 a.q, .int .i64 a.n, .string a.s] 25)).alloc (.cells #[.int .i64 b.k, .int .i64 b.c, .int .i64 b.q, .int .i64 b.n, .string b.s] 25)) c 25
  simp only [World.size_alloc] at hB0 hC0
  have HA := hide hA0
  have HB := hide hB0
  have HC := hide hC0
  clear hA0 hB0 hC0
  have t0 : (a.k != b.k) = false := bne_eq_false_iff_eq.2 h0
  clear h0
  have t1 : (b.k != c.k) = false := bne_eq_false_iff_eq.2 h1
  clear h1
  have HKa := hide (fun w => acheck_any a.k a.c a.q a.n a.s w hsa)
  rw [show accE a.k a.c a.q a.n a.s.size = 0 from h2] at HKa
  clear h2
  have HKb := hide (fun w => acheck_any b.k b.c b.q b.n b.s w hsb)
  rw [show accE b.k b.c b.q b.n b.s.size = 0 from h3] at HKb
  clear h3
  have HKc := hide (fun w => acheck_any c.k c.c c.q c.n c.s w hsc)
  rw [show accE c.k c.c c.q c.n c.s.size = 0 from h4] at HKc
  clear h4
  have t5 : decide (1000 < a.c) = false := decide_eq_false (by omega)
  clear h5
  have t6 : decide (1000 < b.c) = false := decide_eq_false (by omega)
  clear h6
  have t7 : decide (1000 < c.c) = true := decide_eq_true (by omega)
  clear h7
  go_enter Try.func8, Try.ntmps8
  go_wp2_with fail
  refine (HKa.out _).mono ?_
  rintro e w1 ⟨rfl, hb⟩
  have HA := hide (HA.out.keep hb)
  have HB := hide (HB.out.keep hb)
  have HC := hide (HC.out.keep hb)
  have HW := hide (bel3 hb)
  clear hb
  obtain ⟨⟨p00, p01, p02, p03, p04⟩, -⟩ := HA.out
  try simp only [beg] at p00 p01 p02 p03 p04
  obtain ⟨⟨q00, q01, q02, q03, q04⟩, -⟩ := HB.out
  try simp only [beg] at q00 q01 q02 q03 q04
  obtain ⟨⟨r00, r01, r02, r03, r04⟩, -⟩ := HC.out
  try simp only [beg] at r00 r01 r02 r03 r04
  go_wp2_with fail
  refine (HKb.out _).mono ?_
  rintro e w2 ⟨rfl, hb⟩
  have HA := hide (HA.out.keep hb)
  have HB := hide (HB.out.keep hb)
  have HC := hide (HC.out.keep hb)
  have HW := hide (bthen HW.out hb)
  clear hb
  obtain ⟨⟨p10, p11, p12, p13, p14⟩, -⟩ := HA.out
  try simp only [beg] at p10 p11 p12 p13 p14
  obtain ⟨⟨q10, q11, q12, q13, q14⟩, -⟩ := HB.out
  try simp only [beg] at q10 q11 q12 q13 q14
  obtain ⟨⟨r10, r11, r12, r13, r14⟩, -⟩ := HC.out
  try simp only [beg] at r10 r11 r12 r13 r14
  go_wp2_with fail
  refine (HKc.out _).mono ?_
  rintro e w3 ⟨rfl, hb⟩
  have HA := hide (HA.out.keep hb)
  have HB := hide (HB.out.keep hb)
  have HC := hide (HC.out.keep hb)
  have HW := hide (bthen HW.out hb)
  clear hb
  obtain ⟨⟨p20, p21, p22, p23, p24⟩, -⟩ := HA.out
  try simp only [beg] at p20 p21 p22 p23 p24
  obtain ⟨⟨q20, q21, q22, q23, q24⟩, -⟩ := HB.out
  try simp only [beg] at q20 q21 q22 q23 q24
  obtain ⟨⟨r20, r21, r22, r23, r24⟩, -⟩ := HC.out
  try simp only [beg] at r20 r21 r22 r23 r24
  go_wp2_with fail
  refine (awake_any _).mono ?_
  rintro e wz ⟨rfl, hb⟩
  go_wp2
  go_ret
  exact Ret.bool rfl (bthen HW.out hb)

set_option maxHeartbeats 4000000 in
theorem joins_ok (hsa : a.s.size ≤ maxLen) (hsb : b.s.size ≤ maxLen) (hsc : c.s.size ≤ maxLen) (h0 : a.k = b.k) (h1 : b.k = c.k) (h2 : a.e = 0) (h3 : b.e = 0) (h4 : c.e = 0) (h5 : a.c ≤ 1000) (h6 : b.c ≤ 1000) (h7 : c.c ≤ 1000) :
    Calls Try.prog 8 #[.agg #[.int .i64 a.k, .int .i64 a.c, .int .i64 a.q, .int .i64 a.n, .string a.s], .agg #[.int .i64 b.k, .int .i64 b.c, .int .i64 b.q, .int .i64 b.n, .string b.s], .agg #[.int .i64 c.k, .int .i64 c.c, .int .i64 c.q, .int .i64 c.n, .string c.s]] w (Ret (.bool true) w) := by
  have hA0 := ((Box5.new w a 25).keep (below_laid (.cells #[.int .i64 b.k, .int .i64 b.c, .int .i64 b.q, .int .i64 b.n, .string b.s] 25))).keep (below_laid (.cells #[.int .i64 c.k, .int .i64 c.c, .int .i64 c.q, .int .i64 c.n, .string c.s] 25))
  have hB0 := (Box5.new (w.alloc (.cells #[.int .i64 a.k, .int .i64 a.c, .int .i64 a.q, .int .i64 a.n, .string a.s] 25)) b 25).keep (below_laid (.cells #[.int .i64 c.k, .int .i64 c.c, .int .i64 c.q, .int .i64 c.n, .string c.s] 25))
  have hC0 := Box5.new ((w.alloc (.cells #[.int .i64 a.k, .int .i64 a.c, .int .i64 a.q, .int .i64 a.n, .string a.s] 25)).alloc (.cells #[.int .i64 b.k, .int .i64 b.c, .int .i64 b.q, .int .i64 b.n, .string b.s] 25)) c 25
  simp only [World.size_alloc] at hB0 hC0
  have HA := hide hA0
  have HB := hide hB0
  have HC := hide hC0
  clear hA0 hB0 hC0
  have ga := (good_iff a).1 h2
  have gb := (good_iff b).1 h3
  have gc := (good_iff c).1 h4
  have gab := mrg_good' ga gb h0 (by omega)
  have gbc := mrg_good' gb gc h1 (by omega)
  have kab : (mrg a b).k = a.k := mrg_k h0
  have kbc : (mrg b c).k = b.k := mrg_k h1
  have M1 := hide (fun w => merge_any w a b hsa hsb)
  rw [(mg_ok ga gb h0 (by omega)).1, (mg_ok ga gb h0 (by omega)).2] at M1
  have M2 := hide (fun w => merge_any w (mrg a b) c (by have := good_len gab; unfold maxLen; omega) hsc)
  rw [(mg_ok gab gc (by rw [kab, h0, h1]) (by rw [mrg_c]; omega)).1, (mg_ok gab gc (by rw [kab, h0, h1]) (by rw [mrg_c]; omega)).2] at M2
  have M3 := hide (fun w => merge_any w b c hsb hsc)
  rw [(mg_ok gb gc h1 (by omega)).1, (mg_ok gb gc h1 (by omega)).2] at M3
  have M4 := hide (fun w => merge_any w a (mrg b c) hsa (by have := good_len gbc; unfold maxLen; omega))
  rw [(mg_ok ga gbc (by rw [kbc, h0]) (by rw [mrg_c]; omega)).1, (mg_ok ga gbc (by rw [kbc, h0]) (by rw [mrg_c]; omega)).2, ← mrg_assoc ga gb gc h0 h1] at M4
  have MB := hide (abegin_any a.k)
  rw [show begV a.k = a.k from if_pos ga.1, show begE a.k = 0 from if_pos ga.1] at MB
  have gn := beg_good ga.1
  have M5 := hide (fun w => merge_any w a (beg a.k) hsa (show (0 : Nat) ≤ maxLen from Nat.zero_le _))
  rw [(mg_ok ga gn rfl (by show a.c + 0 ≤ 4096; omega)).1, (mg_ok ga gn rfl (by show a.c + 0 ≤ 4096; omega)).2, (mrg_none ga).1] at M5
  have M6 := hide (fun w => merge_any w (beg a.k) a (show (0 : Nat) ≤ maxLen from Nat.zero_le _) hsa)
  rw [(mg_ok gn ga rfl (by show 0 + a.c ≤ 4096; omega)).1, (mg_ok gn ga rfl (by show 0 + a.c ≤ 4096; omega)).2, (mrg_none ga).2] at M6
  have HKa := hide (fun w => acheck_any a.k a.c a.q a.n a.s w hsa)
  rw [show accE a.k a.c a.q a.n a.s.size = 0 from h2] at HKa
  have HKb := hide (fun w => acheck_any b.k b.c b.q b.n b.s w hsb)
  rw [show accE b.k b.c b.q b.n b.s.size = 0 from h3] at HKb
  have HKc := hide (fun w => acheck_any c.k c.c c.q c.n c.s w hsc)
  rw [show accE c.k c.c c.q c.n c.s.size = 0 from h4] at HKc
  have t0 : (a.k != b.k) = false := bne_eq_false_iff_eq.2 h0
  have t1 : (b.k != c.k) = false := bne_eq_false_iff_eq.2 h1
  have t5 : decide (1000 < a.c) = false := decide_eq_false (by omega)
  have t6 : decide (1000 < b.c) = false := decide_eq_false (by omega)
  have t7 : decide (1000 < c.c) = false := decide_eq_false (by omega)
  clear h0 h1 h2 h3 h4 h5 h6 h7 ga gb gc gab gbc kab kbc gn hsa hsb hsc
  generalize mrg (mrg a b) c = tt at *
  generalize mrg a b = ab at *
  generalize mrg b c = bc at *
  go_enter Try.func8, Try.ntmps8
  go_wp2_with fail
  refine (HKa.out _).mono ?_
  rintro e u1 ⟨rfl, hb⟩
  have HA := hide (HA.out.keep hb)
  have HB := hide (HB.out.keep hb)
  have HC := hide (HC.out.keep hb)
  have HW := hide (bel3 hb)
  clear hb
  obtain ⟨⟨z0_0, z0_1, z0_2, z0_3, z0_4⟩, -⟩ := HA.out
  try simp only [beg] at z0_0 z0_1 z0_2 z0_3 z0_4
  obtain ⟨⟨z1_0, z1_1, z1_2, z1_3, z1_4⟩, -⟩ := HB.out
  try simp only [beg] at z1_0 z1_1 z1_2 z1_3 z1_4
  obtain ⟨⟨z2_0, z2_1, z2_2, z2_3, z2_4⟩, -⟩ := HC.out
  try simp only [beg] at z2_0 z2_1 z2_2 z2_3 z2_4
  go_wp2_with fail
  refine (HKb.out _).mono ?_
  rintro e u2 ⟨rfl, hb⟩
  have HA := hide (HA.out.keep hb)
  have HB := hide (HB.out.keep hb)
  have HC := hide (HC.out.keep hb)
  have HW := hide (bthen HW.out hb)
  clear hb
  obtain ⟨⟨z3_0, z3_1, z3_2, z3_3, z3_4⟩, -⟩ := HA.out
  try simp only [beg] at z3_0 z3_1 z3_2 z3_3 z3_4
  obtain ⟨⟨z4_0, z4_1, z4_2, z4_3, z4_4⟩, -⟩ := HB.out
  try simp only [beg] at z4_0 z4_1 z4_2 z4_3 z4_4
  obtain ⟨⟨z5_0, z5_1, z5_2, z5_3, z5_4⟩, -⟩ := HC.out
  try simp only [beg] at z5_0 z5_1 z5_2 z5_3 z5_4
  go_wp2_with fail
  refine (HKc.out _).mono ?_
  rintro e u3 ⟨rfl, hb⟩
  have HA := hide (HA.out.keep hb)
  have HB := hide (HB.out.keep hb)
  have HC := hide (HC.out.keep hb)
  have HW := hide (bthen HW.out hb)
  clear hb
  obtain ⟨⟨z6_0, z6_1, z6_2, z6_3, z6_4⟩, -⟩ := HA.out
  try simp only [beg] at z6_0 z6_1 z6_2 z6_3 z6_4
  obtain ⟨⟨z7_0, z7_1, z7_2, z7_3, z7_4⟩, -⟩ := HB.out
  try simp only [beg] at z7_0 z7_1 z7_2 z7_3 z7_4
  obtain ⟨⟨z8_0, z8_1, z8_2, z8_3, z8_4⟩, -⟩ := HC.out
  try simp only [beg] at z8_0 z8_1 z8_2 z8_3 z8_4
  go_wp2_with fail
  refine (M1.out _).mono ?_
  rintro e v0 ⟨rfl, hb⟩
  have hb9 := bthen hb (below_laid (.cells #[.int .i64 ab.k, .int .i64 ab.c, .int .i64 ab.q, .int .i64 ab.n, .string ab.s] 25))
  have HA := hide (HA.out.keep hb9)
  have HB := hide (HB.out.keep hb9)
  have HC := hide (HC.out.keep hb9)
  have HAB := hide (Box5.new v0 ab 25)
  have HW := hide (bthen HW.out hb9)
  clear hb hb9
  obtain ⟨⟨z9_0, z9_1, z9_2, z9_3, z9_4⟩, -⟩ := HAB.out
  try simp only [beg] at z9_0 z9_1 z9_2 z9_3 z9_4
  obtain ⟨⟨z10_0, z10_1, z10_2, z10_3, z10_4⟩, -⟩ := HC.out
  try simp only [beg] at z10_0 z10_1 z10_2 z10_3 z10_4
  go_wp2_with fail
  refine (M2.out _).mono ?_
  rintro e v1 ⟨rfl, hb⟩
  have hb9 := bthen hb (below_laid (.cells #[.int .i64 tt.k, .int .i64 tt.c, .int .i64 tt.q, .int .i64 tt.n, .string tt.s] 25))
  have HA := hide (HA.out.keep hb9)
  have HB := hide (HB.out.keep hb9)
  have HC := hide (HC.out.keep hb9)
  have HAB := hide (HAB.out.keep hb9)
  have HL := hide (Box5.new v1 tt 25)
  have HW := hide (bthen HW.out hb9)
  clear hb hb9
  obtain ⟨⟨z11_0, z11_1, z11_2, z11_3, z11_4⟩, -⟩ := HB.out
  try simp only [beg] at z11_0 z11_1 z11_2 z11_3 z11_4
  obtain ⟨⟨z12_0, z12_1, z12_2, z12_3, z12_4⟩, -⟩ := HC.out
  try simp only [beg] at z12_0 z12_1 z12_2 z12_3 z12_4
  go_wp2_with fail
  refine (M3.out _).mono ?_
  rintro e v2 ⟨rfl, hb⟩
  have hb9 := bthen hb (below_laid (.cells #[.int .i64 bc.k, .int .i64 bc.c, .int .i64 bc.q, .int .i64 bc.n, .string bc.s] 25))
  have HA := hide (HA.out.keep hb9)
  have HB := hide (HB.out.keep hb9)
  have HC := hide (HC.out.keep hb9)
  have HAB := hide (HAB.out.keep hb9)
  have HL := hide (HL.out.keep hb9)
  have HBC := hide (Box5.new v2 bc 25)
  have HW := hide (bthen HW.out hb9)
  clear hb hb9
  obtain ⟨⟨z13_0, z13_1, z13_2, z13_3, z13_4⟩, -⟩ := HA.out
  try simp only [beg] at z13_0 z13_1 z13_2 z13_3 z13_4
  obtain ⟨⟨z14_0, z14_1, z14_2, z14_3, z14_4⟩, -⟩ := HBC.out
  try simp only [beg] at z14_0 z14_1 z14_2 z14_3 z14_4
  go_wp2_with fail
  refine (M4.out _).mono ?_
  rintro e v3 ⟨rfl, hb⟩
  have hb9 := bthen hb (below_laid (.cells #[.int .i64 tt.k, .int .i64 tt.c, .int .i64 tt.q, .int .i64 tt.n, .string tt.s] 25))
  have HA := hide (HA.out.keep hb9)
  have HB := hide (HB.out.keep hb9)
  have HC := hide (HC.out.keep hb9)
  have HAB := hide (HAB.out.keep hb9)
  have HL := hide (HL.out.keep hb9)
  have HBC := hide (HBC.out.keep hb9)
  have HR := hide (Box5.new v3 tt 25)
  have HW := hide (bthen HW.out hb9)
  clear hb hb9
  obtain ⟨⟨z15_0, z15_1, z15_2, z15_3, z15_4⟩, -⟩ := HA.out
  try simp only [beg] at z15_0 z15_1 z15_2 z15_3 z15_4
  go_wp2_with fail
  refine (MB.out _).mono ?_
  rintro e v4 ⟨rfl, hb⟩
  have hb9 := bthen hb (below_laid (.cells #[.int .i64 a.k, .int .i64 0, .int .i64 0, .int .i64 0, .string ⟨#[]⟩] 25))
  have HA := hide (HA.out.keep hb9)
  have HB := hide (HB.out.keep hb9)
  have HC := hide (HC.out.keep hb9)
  have HAB := hide (HAB.out.keep hb9)
  have HL := hide (HL.out.keep hb9)
  have HBC := hide (HBC.out.keep hb9)
  have HR := hide (HR.out.keep hb9)
  have HN := hide (Box5.new v4 (beg a.k) 25)
  have HW := hide (bthen HW.out hb9)
  clear hb hb9
  obtain ⟨⟨z16_0, z16_1, z16_2, z16_3, z16_4⟩, -⟩ := HA.out
  try simp only [beg] at z16_0 z16_1 z16_2 z16_3 z16_4
  obtain ⟨⟨z17_0, z17_1, z17_2, z17_3, z17_4⟩, -⟩ := HN.out
  try simp only [beg] at z17_0 z17_1 z17_2 z17_3 z17_4
  go_wp2_with fail
  refine (M5.out _).mono ?_
  rintro e v5 ⟨rfl, hb⟩
  have hb9 := bthen hb (below_laid (.cells #[.int .i64 a.k, .int .i64 a.c, .int .i64 a.q, .int .i64 a.n, .string a.s] 25))
  have HA := hide (HA.out.keep hb9)
  have HB := hide (HB.out.keep hb9)
  have HC := hide (HC.out.keep hb9)
  have HAB := hide (HAB.out.keep hb9)
  have HL := hide (HL.out.keep hb9)
  have HBC := hide (HBC.out.keep hb9)
  have HR := hide (HR.out.keep hb9)
  have HN := hide (HN.out.keep hb9)
  have HX := hide (Box5.new v5 a 25)
  have HW := hide (bthen HW.out hb9)
  clear hb hb9
  obtain ⟨⟨z18_0, z18_1, z18_2, z18_3, z18_4⟩, -⟩ := HN.out
  try simp only [beg] at z18_0 z18_1 z18_2 z18_3 z18_4
  obtain ⟨⟨z19_0, z19_1, z19_2, z19_3, z19_4⟩, -⟩ := HA.out
  try simp only [beg] at z19_0 z19_1 z19_2 z19_3 z19_4
  go_wp2_with fail
  refine (M6.out _).mono ?_
  rintro e v6 ⟨rfl, hb⟩
  have hb9 := bthen hb (below_laid (.cells #[.int .i64 a.k, .int .i64 a.c, .int .i64 a.q, .int .i64 a.n, .string a.s] 25))
  have HA := hide (HA.out.keep hb9)
  have HB := hide (HB.out.keep hb9)
  have HC := hide (HC.out.keep hb9)
  have HAB := hide (HAB.out.keep hb9)
  have HL := hide (HL.out.keep hb9)
  have HBC := hide (HBC.out.keep hb9)
  have HR := hide (HR.out.keep hb9)
  have HN := hide (HN.out.keep hb9)
  have HX := hide (HX.out.keep hb9)
  have HY := hide (Box5.new v6 a 25)
  have HW := hide (bthen HW.out hb9)
  clear hb hb9
  go_wp2_with fail
  refine (awake_any _).mono ?_
  rintro e wz ⟨rfl, hb⟩
  have HL := hide (HL.out.keep hb)
  have HR := hide (HR.out.keep hb)
  have HX := hide (HX.out.keep hb)
  have HY := hide (HY.out.keep hb)
  have HA := hide (HA.out.keep hb)
  obtain ⟨⟨z20_0, z20_1, z20_2, z20_3, z20_4⟩, -⟩ := HL.out
  try simp only [beg] at z20_0 z20_1 z20_2 z20_3 z20_4
  obtain ⟨⟨z21_0, z21_1, z21_2, z21_3, z21_4⟩, -⟩ := HR.out
  try simp only [beg] at z21_0 z21_1 z21_2 z21_3 z21_4
  obtain ⟨⟨z22_0, z22_1, z22_2, z22_3, z22_4⟩, -⟩ := HX.out
  try simp only [beg] at z22_0 z22_1 z22_2 z22_3 z22_4
  obtain ⟨⟨z23_0, z23_1, z23_2, z23_3, z23_4⟩, -⟩ := HY.out
  try simp only [beg] at z23_0 z23_1 z23_2 z23_3 z23_4
  obtain ⟨⟨z24_0, z24_1, z24_2, z24_3, z24_4⟩, -⟩ := HA.out
  try simp only [beg] at z24_0 z24_1 z24_2 z24_3 z24_4
  have HW := hide (bthen HW.out hb)
  clear hb
  go_wp2
  go_ret
  exact Ret.bool rfl HW.out

theorem joins_law (hsa : a.s.size ≤ maxLen) (hsb : b.s.size ≤ maxLen) (hsc : c.s.size ≤ maxLen) :
    Calls Try.prog 8 #[.agg #[.int .i64 a.k, .int .i64 a.c, .int .i64 a.q, .int .i64 a.n, .string a.s], .agg #[.int .i64 b.k, .int .i64 b.c, .int .i64 b.q, .int .i64 b.n, .string b.s], .agg #[.int .i64 c.k, .int .i64 c.c, .int .i64 c.q, .int .i64 c.n, .string c.s]] w (Ret (.bool true) w) := by
  by_cases h0 : a.k = b.k
  · by_cases h1 : b.k = c.k
    · by_cases h2 : a.e = 0
      · by_cases h3 : b.e = 0
        · by_cases h4 : c.e = 0
          · by_cases h5 : a.c ≤ 1000
            · by_cases h6 : b.c ≤ 1000
              · by_cases h7 : c.c ≤ 1000
                · exact joins_ok a b c w hsa hsb hsc h0 h1 h2 h3 h4 h5 h6 h7
                · exact joins_f7 a b c w hsa hsb hsc h0 h1 h2 h3 h4 h5 h6 h7
              · exact joins_f6 a b c w hsa hsb hsc h0 h1 h2 h3 h4 h5 h6
            · exact joins_f5 a b c w hsa hsb hsc h0 h1 h2 h3 h4 h5
          · exact joins_f4 a b c w hsa hsb hsc h0 h1 h2 h3 h4
        · exact joins_f3 a b c w hsa hsb hsc h0 h1 h2 h3
      · exact joins_f2 a b c w hsa hsb hsc h0 h1 h2
    · exact joins_f1 a b c w hsa hsb hsc h0 h1
  · exact joins_f0 a b c w hsa hsb hsc h0
end
end Go.Proofs.Ytgppohelgmadoaa
