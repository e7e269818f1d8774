/- Seal, seal, EncodeValue and EncodeEvents of the reference. -/
import Derived.Test.YtofdcgojgcnopaaRE
namespace Go.Proofs.Ytofdcgojgcnopaa
open Go.RowKit Go.Lib
set_option linter.unusedVariables false
set_option linter.unusedSimpArgs false
theorem Rw.fresh (w : World) : Rw (w.alloc (.cells #[.string ⟨#[]⟩, .int .i64 0] 90)) w.heap.size [] 0 := by
  have h := cells_lit w [.string ⟨#[]⟩, .int .i64 0] 90
  refine ⟨h 0 _ rfl, h 1 _ rfl, ?_, ?_⟩ <;>
    (unfold World.frozen?; rw [show (⟨w.heap.size, _, none⟩ : Addr).block = w.heap.size from rfl, heap_alloc_new]; simp)
section
variable (w : World)
set_option maxRecDepth 100000 in
set_option maxHeartbeats 4000000 in
theorem rSeal_any (o : Bs) (ho : o.length ≤ 1000000000) : Calls Try.prog 78 #[.string (bstr o)] w (Ret (.string (bstr (sealB o))) w) := by
  have HC := hide (fun w => rchecksum_any (bstr o) w (by rw [bstr_size]; unfold maxLen; omega))
  rw [bstr_data] at HC
  have HSO := hide (show sealB o = o ++ sumBytes (sumS o) from rfl)
  have hlt := sum_lt o
  obtain ⟨c, hc⟩ : ∃ c, sumS o = c := ⟨_, rfl⟩
  rw [hc] at HSO hlt HC
  clear hc
  have hcv := conv_lit w (sumBytes c) 5
  rw [← sb4 hlt] at hcv
  have hcv' : (convert 59 9 (.slice (some ⟨w.heap.size, 0, none⟩) 4 4)).run Try.prog (w.alloc (.cells #[.int .u8 ((c : Int) / 16777216), .int .u8 ((c : Int) / 65536 % 256), .int .u8 ((c : Int) / 256 % 256), .int .u8 ((c : Int) % 256)] 5)) = .ok (.string (bstr (sumBytes c))) (w.alloc (.cells #[.int .u8 ((c : Int) / 16777216), .int .u8 ((c : Int) / 65536 % 256), .int .u8 ((c : Int) / 256 % 256), .int .u8 ((c : Int) % 256)] 5)) := hcv
  have hct := bstr_cat o (sumBytes c)
  have hsz : (bstr o).size + (bstr (sumBytes c)).size ≤ 9223372036854775807 := by rw [bstr_size, bstr_size]; simp only [sumBytes, List.length_cons, List.length_nil]; omega
  clear hcv
  go_enter Try.func78, Try.ntmps78
  go_wp2_with fail
  refine (HC.out _).mono ?_
  rintro en w1 ⟨rfl, rfl⟩
  go_wp2
  go_ret
  exact Ret.mk (by rw [HSO.out]; rfl) (below_laid _)
set_option maxRecDepth 100000 in
set_option maxHeartbeats 4000000 in
theorem rseal_any (F : Nat) (r : Ex Bs) (n : Nat) (o : Bs) (e : Int) (hn : n ≤ 900000000) (hd : Wd r n [] 0 o e) (h : Rw w F o e) :
    Calls Try.prog 42 #[.pointer (some ⟨F, 0, none⟩)] w (Ret (.tuple #[.string (strE (sealE r)), .int .i64 (numE (sealE r))]) w) := by
  have hol : o.length ≤ n := by have := hd.2.2; simpa using this
  have hsz := bstr_size o
  have c0 := h.c0
  have c1 := h.c1
  have HD := hide hd
  have HSZ := hide hsz
  clear hd h hsz
  by_cases he : e = 0
  · subst he
    by_cases hl : 1048572 < o.length
    · have HR := hide (seal_long HD.out hl)
      obtain ⟨sz, hsz⟩ : ∃ sz, (bstr o).size = sz := ⟨_, rfl⟩
      have hle : sz ≤ 900000000 ∧ 1048572 < sz := by have := HSZ.out; omega
      have t1 : decide ((1048576 : Int) < (sz : Int) + 4) = true := decide_eq_true (by omega)
      have t2 : (sz : Int) + 4 ≤ 9223372036854775807 := by omega
      clear hle HSZ
      go_enter Try.func42, Try.ntmps42
      go_wp2
      go_ret2
      exact Ret.mk (by rw [HR.out.1, HR.out.2]; rfl) (Below.refl _ _)
    · have HR := hide (seal_ok HD.out hl)
      obtain ⟨sz, hsz⟩ : ∃ sz, (bstr o).size = sz := ⟨_, rfl⟩
      have hle : sz ≤ 900000000 ∧ ¬ 1048572 < sz := by have := HSZ.out; omega
      have t1 : decide ((1048576 : Int) < (sz : Int) + 4) = false := decide_eq_false (by omega)
      have t2 : (sz : Int) + 4 ≤ 9223372036854775807 := by omega
      have HS := hide (fun w => rSeal_any w o (by omega))
      clear hle HSZ hl
      go_enter Try.func42, Try.ntmps42
      go_wp2_with fail
      refine (HS.out _).mono ?_
      rintro en w1 ⟨rfl, hb⟩
      go_wp2
      go_ret2
      exact Ret.mk (by rw [HR.out.1, HR.out.2]; rfl) hb
  · have t2 : (e != 0) = true := bne_iff_ne.2 he
    have HR := hide (seal_err HD.out he)
    clear he
    go_enter Try.func42, Try.ntmps42
    go_wp2_with fail
    go_region
    all_goals
      go_wp2
      go_ret2
      exact Ret.mk (by rw [HR.out.1, HR.out.2]; rfl) (Below.refl _ _).drew
set_option maxRecDepth 100000 in
set_option maxHeartbeats 4000000 in
theorem rencV_any (x : V3) (hg : gV x) (hs : x.s.size ≤ 1000000) :
    Calls Try.prog 14 #[.agg #[.int .i64 x.q, .int .i64 x.n, .string x.s]] w (Ret (.tuple #[.string (strE (sealE (eV x))), .int .i64 (numE (sealE (eV x)))]) w) := by
  have hfr := Rw.fresh (w.alloc (.cells #[.int .i64 x.q, .int .i64 x.n, .string x.s] 30))
  rw [World.size_alloc] at hfr
  have HV := hide (rvalue_any (w.heap.size + 1) [] 0 _ x hg hs hfr (by unfold wtV; rw [List.length_nil]; omega))
  have HW : Hid (wtV x ≤ 900000000) := hide (by unfold wtV; omega)
  clear hfr hg hs
  go_enter Try.func14, Try.ntmps14
  go_wp2_with fail
  refine HV.out.mono ?_
  rintro en w1 ⟨rfl, o, e, hd, hr, ht⟩
  have HS := hide (rseal_any w1 _ _ _ _ _ HW.out hd hr)
  have HB := hide (((below_laid (w := w) (.cells #[.int .i64 x.q, .int .i64 x.n, .string x.s] 30)).alloc (by simp) (.cells #[.string ⟨#[]⟩, .int .i64 0] 90)).trans (ht.low.mono (Nat.le_succ _)))
  clear hd hr ht
  go_wp2_with fail
  refine HS.out.mono ?_
  rintro en w2 ⟨rfl, hb⟩
  go_wp2
  go_ret2
  exact Ret.mk rfl (bthen HB.out hb)
set_option maxRecDepth 100000 in
set_option maxHeartbeats 4000000 in
theorem rencL_any (v : Value) (l : List Evt) (hl : wtS wtEv l ≤ 800000000) (hv : Lst w (· < w.heap.size) 5 REv v l) :
    Calls Try.prog 19 #[v] w (Ret (.tuple #[.string (strE (sealE (eL eEv l))), .int .i64 (numE (sealE (eL eEv l)))]) w) := by
  obtain ⟨A, cap, rfl⟩ := hv.form
  have HV := hide (revents_any w.heap.size [] 0 (w.alloc (.cells #[.string ⟨#[]⟩, .int .i64 0] 90)) _ l (Rw.fresh w) (hv.keep rd_Ev (Kp.alloc _)) (by rw [List.length_nil]; omega))
  clear hv
  go_enter Try.func19, Try.ntmps19
  go_wp2_with fail
  refine HV.out.mono ?_
  rintro en w1 ⟨rfl, o, e, hd, hr, ht⟩
  have HS := hide (rseal_any w1 _ _ _ _ _ (by omega) hd hr)
  have HB := hide ((below_laid (w := w) (.cells #[.string ⟨#[]⟩, .int .i64 0] 90)).trans ht.low)
  clear hd hr ht
  go_wp2_with fail
  refine HS.out.mono ?_
  rintro en w2 ⟨rfl, hb⟩
  go_wp2
  go_ret2
  exact Ret.mk rfl (bthen HB.out hb)
end
end Go.Proofs.Ytofdcgojgcnopaa
