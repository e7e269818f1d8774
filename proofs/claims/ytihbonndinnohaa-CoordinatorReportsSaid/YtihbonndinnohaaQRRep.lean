/- Report of the reference: where it fails. -/
import Derived.Test.YtihbonndinnohaaQRepL
import Derived.Test.YtihbonndinnohaaQRep
namespace Go.Proofs.Ytihbonndinnohaa
open Go.RowKit
set_option linter.unusedVariables false
set_option linter.unusedSimpArgs false
section
variable (w : World) (c : Cq)
set_option maxRecDepth 100000 in
set_option maxHeartbeats 8000000 in
theorem rrep_bad (v : Value) (num wk : Int) (o : Oq) (xs : List Value) (h : CoV w v c) (ho : ROq w (· < w.heap.size) xs o) (hc : chkQ c ≠ 0) : Calls Try.prog 19 #[v, .int .i64 num, .int .i64 wk, .agg xs.toArray] w (RetC1 w (repC c num wk o) (repE c num wk)) := by
  have hE : repE c num wk = chkQ c := by unfold repE; rw [if_pos hc]
  have HC : Hid (repC c num wk o = Cq.z) := hide (by unfold repC; rw [if_neg (by rw [hE]; exact hc)])
  rw [hE]
  obtain ⟨u, rfl, hl, hq1, hq2⟩ := id h
  obtain ⟨A, cap, rfl⟩ := hl.form
  obtain ⟨vm, ve, rfl, ho1, ho2, ho3, ho4⟩ := ho
  obtain ⟨M, cm, rfl⟩ := ho1.form
  obtain ⟨D, cd, rfl⟩ := ho2.form
  have HB := hide (show Below w.heap.size w (((w.alloc (.cells #[.int .i64 c.next, .slice A c.atts.length cap, .int .i64 c.dur] 24)).alloc (.cells #[.slice M o.marks.length cm, .slice D o.engs.length cd] 42)).alloc (.cells #[.int .i64 0, .slice none 0 0, .int .i64 0] 24)) from bA_alloc (bA_alloc (below_laid _) _) _)
  have HX := hide (((Bl.new w [.int .i64 c.next, .slice A c.atts.length cap, .int .i64 c.dur] 24).laid (.cells #[.slice M o.marks.length cm, .slice D o.engs.length cd] 42)).laid (.cells #[.int .i64 0, .slice none 0 0, .int .i64 0] 24))
  have HO := hide (show Bl (((w.alloc (.cells #[.int .i64 c.next, .slice A c.atts.length cap, .int .i64 c.dur] 24)).alloc (.cells #[.slice M o.marks.length cm, .slice D o.engs.length cd] 42)).alloc (.cells #[.int .i64 0, .slice none 0 0, .int .i64 0] 24)) (w.heap.size + 1) [.slice M o.marks.length cm, .slice D o.engs.length cd] by have := (Bl.new (w.alloc (.cells #[.int .i64 c.next, .slice A c.atts.length cap, .int .i64 c.dur] 24)) [.slice M o.marks.length cm, .slice D o.engs.length cd] 42).laid (.cells #[.int .i64 0, .slice none 0 0, .int .i64 0] 24); simpa using this)
  have HY := hide (show Bl (((w.alloc (.cells #[.int .i64 c.next, .slice A c.atts.length cap, .int .i64 c.dur] 24)).alloc (.cells #[.slice M o.marks.length cm, .slice D o.engs.length cd] 42)).alloc (.cells #[.int .i64 0, .slice none 0 0, .int .i64 0] 24)) (w.heap.size + 1 + 1) [.int .i64 0, .slice none 0 0, .int .i64 0] by have := Bl.new ((w.alloc (.cells #[.int .i64 c.next, .slice A c.atts.length cap, .int .i64 c.dur] 24)).alloc (.cells #[.slice M o.marks.length cm, .slice D o.engs.length cd] 42)) [.int .i64 0, .slice none 0 0, .int .i64 0] 24; simpa using this)
  have HK := hide (rchk_any (((w.alloc (.cells #[.int .i64 c.next, .slice A c.atts.length cap, .int .i64 c.dur] 24)).alloc (.cells #[.slice M o.marks.length cm, .slice D o.engs.length cd] 42)).alloc (.cells #[.int .i64 0, .slice none 0 0, .int .i64 0] 24)) c _ (((h.laid _).laid _).laid _))
  obtain ⟨E, hEE⟩ : ∃ E, chkQ c = E := ⟨_, rfl⟩
  rw [hEE] at HK hc ⊢
  have te : (E != 0) = true := by rw [bne_iff_ne]; exact hc
  clear hEE hE hc h hl hq1 hq2 ho1 ho2 ho3 ho4
  go_enter Try.func19, Try.ntmps19
  go_wp2_with fail
  refine HK.out.mono ?_
  rintro e w1 ⟨rfl, hb⟩
  replace HX := hide (HX.out.keep hb)
  replace HO := hide (HO.out.keep hb)
  replace HY := hide (HY.out.keep hb)
  replace HB := hide (bthen HB.out hb)
  clear hb
  obtain ⟨x, -, zx⟩ := HX.out
  obtain ⟨y, v, zy⟩ := HY.out
  have x0 := x 0 _ rfl
  have x1 := x 1 _ rfl
  have x2 := x 2 _ rfl
  have y0 := y 0 _ rfl
  have y1 := y 1 _ rfl
  have y2 := y 2 _ rfl
  have v0 := v 0
  have v1 := v 1
  have v2 := v 2
  clear x y v zx
  go_wp2
  refine bodyPost_ret (v := .tuple #[.agg #[.int .i64 0, .slice none 0 0, .int .i64 0], .int .i64 E]) (by rw [results_ct rfl]; go_simp) rfl ?_
  exact RetC1.zero HC.out rfl (((HB.out.setCell (p := ⟨w.heap.size + 1 + 1, 0, none⟩) (by show w.heap.size ≤ w.heap.size + 1 + 1; omega) _).setCell (p := ⟨w.heap.size + 1 + 1, 1, none⟩) (by show w.heap.size ≤ w.heap.size + 1 + 1; omega) _).setCell (p := ⟨w.heap.size + 1 + 1, 2, none⟩) (by show w.heap.size ≤ w.heap.size + 1 + 1; omega) _)
set_option maxRecDepth 100000 in
set_option maxHeartbeats 8000000 in
theorem rrep_none (v : Value) (num wk : Int) (o : Oq) (xs : List Value) (h : CoV w v c) (ho : ROq w (· < w.heap.size) xs o) (hc : chkQ c = 0) (hf : findQ num c.atts = c.atts.length) : Calls Try.prog 19 #[v, .int .i64 num, .int .i64 wk, .agg xs.toArray] w (RetC1 w (repC c num wk o) (repE c num wk)) := by
  have hE : repE c num wk = 6 := by unfold repE; rw [if_neg (by simp [hc]), if_pos hf]
  have HC : Hid (repC c num wk o = Cq.z) := hide (by unfold repC; rw [hE]; rfl)
  have HFF := hide hf
  rw [hE]
  clear hE hf
  obtain ⟨u, rfl, hl, hq1, hq2⟩ := id h
  obtain ⟨A, cap, rfl⟩ := hl.form
  obtain ⟨vm, ve, rfl, ho1, ho2, ho3, ho4⟩ := ho
  obtain ⟨M, cm, rfl⟩ := ho1.form
  obtain ⟨D, cd, rfl⟩ := ho2.form
  have HB := hide (show Below w.heap.size w (((w.alloc (.cells #[.int .i64 c.next, .slice A c.atts.length cap, .int .i64 c.dur] 24)).alloc (.cells #[.slice M o.marks.length cm, .slice D o.engs.length cd] 42)).alloc (.cells #[.int .i64 0, .slice none 0 0, .int .i64 0] 24)) from bA_alloc (bA_alloc (below_laid _) _) _)
  have HX := hide (((Bl.new w [.int .i64 c.next, .slice A c.atts.length cap, .int .i64 c.dur] 24).laid (.cells #[.slice M o.marks.length cm, .slice D o.engs.length cd] 42)).laid (.cells #[.int .i64 0, .slice none 0 0, .int .i64 0] 24))
  have HO := hide (show Bl (((w.alloc (.cells #[.int .i64 c.next, .slice A c.atts.length cap, .int .i64 c.dur] 24)).alloc (.cells #[.slice M o.marks.length cm, .slice D o.engs.length cd] 42)).alloc (.cells #[.int .i64 0, .slice none 0 0, .int .i64 0] 24)) (w.heap.size + 1) [.slice M o.marks.length cm, .slice D o.engs.length cd] by have := (Bl.new (w.alloc (.cells #[.int .i64 c.next, .slice A c.atts.length cap, .int .i64 c.dur] 24)) [.slice M o.marks.length cm, .slice D o.engs.length cd] 42).laid (.cells #[.int .i64 0, .slice none 0 0, .int .i64 0] 24); simpa using this)
  have HY := hide (show Bl (((w.alloc (.cells #[.int .i64 c.next, .slice A c.atts.length cap, .int .i64 c.dur] 24)).alloc (.cells #[.slice M o.marks.length cm, .slice D o.engs.length cd] 42)).alloc (.cells #[.int .i64 0, .slice none 0 0, .int .i64 0] 24)) (w.heap.size + 1 + 1) [.int .i64 0, .slice none 0 0, .int .i64 0] by have := Bl.new ((w.alloc (.cells #[.int .i64 c.next, .slice A c.atts.length cap, .int .i64 c.dur] 24)).alloc (.cells #[.slice M o.marks.length cm, .slice D o.engs.length cd] 42)) [.int .i64 0, .slice none 0 0, .int .i64 0] 24; simpa using this)
  have HK := hide (rchk_any (((w.alloc (.cells #[.int .i64 c.next, .slice A c.atts.length cap, .int .i64 c.dur] 24)).alloc (.cells #[.slice M o.marks.length cm, .slice D o.engs.length cd] 42)).alloc (.cells #[.int .i64 0, .slice none 0 0, .int .i64 0] 24)) c _ (((h.laid _).laid _).laid _))
  have hcn : c.atts.length ≤ 256 := (chk0 hc).2.2.2.2.1
  have HFI := hide (fun (w' : World) (hb : Below w.heap.size w w') => rfind_any w' c _ num (h.grow hb) hcn)
  have HCH := hide hc
  have HQ := hide (And.intro hq1 hq2)
  have HOO := hide (And.intro ho1 (And.intro ho2 (And.intro ho3 ho4)))
  have HLL := hide hl
  rw [hc] at HK
  clear hc h hl hq1 hq2 ho1 ho2 ho3 ho4
  go_enter Try.func19, Try.ntmps19
  go_wp2_with fail
  refine HK.out.mono ?_
  rintro e w1 ⟨rfl, hb⟩
  replace HX := hide (HX.out.keep hb)
  replace HO := hide (HO.out.keep hb)
  replace HY := hide (HY.out.keep hb)
  replace HB := hide (bthen HB.out hb)
  clear hb
  have HF1 := hide (HFI.out w1 HB.out)
  obtain ⟨x, -, zx⟩ := HX.out
  obtain ⟨y, v, zy⟩ := HY.out
  have x0 := x 0 _ rfl
  have x1 := x 1 _ rfl
  have x2 := x 2 _ rfl
  have y0 := y 0 _ rfl
  have y1 := y 1 _ rfl
  have y2 := y 2 _ rfl
  have v0 := v 0
  have v1 := v 1
  have v2 := v 2
  clear x y v zx
  clear HK HFI
  go_wp2_with fail
  refine HF1.out.mono ?_
  rintro e w2 ⟨rfl, hb⟩
  clear x0 x1 x2 y0 y1 y2 v0 v1 v2 zy
  replace HX := hide (HX.out.keep hb)
  replace HO := hide (HO.out.keep hb)
  replace HY := hide (HY.out.keep hb)
  replace HB := hide (bthen HB.out hb)
  clear hb
  clear HF1
  obtain ⟨x, -, zx⟩ := HX.out
  obtain ⟨y, v, zy⟩ := HY.out
  have x0 := x 0 _ rfl
  have x1 := x 1 _ rfl
  have x2 := x 2 _ rfl
  have y0 := y 0 _ rfl
  have y1 := y 1 _ rfl
  have y2 := y 2 _ rfl
  have v0 := v 0
  have v1 := v 1
  have v2 := v 2
  clear x y v zx
  rw [if_pos HFF.out]
  go_wp2
  refine bodyPost_ret (v := .tuple #[.agg #[.int .i64 0, .slice none 0 0, .int .i64 0], .int .i64 6]) (by rw [results_ct rfl]; go_simp) rfl ?_
  exact RetC1.zero HC.out rfl (((HB.out.setCell (p := ⟨w.heap.size + 1 + 1, 0, none⟩) (by show w.heap.size ≤ w.heap.size + 1 + 1; omega) _).setCell (p := ⟨w.heap.size + 1 + 1, 1, none⟩) (by show w.heap.size ≤ w.heap.size + 1 + 1; omega) _).setCell (p := ⟨w.heap.size + 1 + 1, 2, none⟩) (by show w.heap.size ≤ w.heap.size + 1 + 1; omega) _)
set_option maxRecDepth 100000 in
set_option maxHeartbeats 8000000 in
theorem rrep_neg (v : Value) (num wk : Int) (o : Oq) (xs : List Value) (h : CoV w v c) (ho : ROq w (· < w.heap.size) xs o) (hc : chkQ c = 0) (i : Nat) (hfi : findQ num c.atts = i) (hi : i < c.atts.length) (hw : wk < 0) : Calls Try.prog 19 #[v, .int .i64 num, .int .i64 wk, .agg xs.toArray] w (RetC1 w (repC c num wk o) (repE c num wk)) := by
  have hE0 := repE_found (wk := wk) hc hfi hi
  have hE : repE c num wk = 2 := by rw [hE0, if_pos (.inl hw)]
  have HC : Hid (repC c num wk o = Cq.z) := hide (by unfold repC; rw [hE]; rfl)
  rw [hE]
  have hif : (if findQ num c.atts = c.atts.length then (-1 : Int) else (findQ num c.atts : Int)) = (i : Int) := by rw [if_neg (by omega), hfi]
  have HIF := hide hif
  have HI := hide hi
  obtain ⟨n3, hn3⟩ : ∃ n, (attQ c i).hv.length = n := ⟨_, rfl⟩
  have HR3 := hide hn3
  have hn8 : n3 ≤ 8 := by have := (err0 ((chk0 hc).2.2.2.2.2 i hi)).2.2.2.2.2.2.1; omega
  have t1 : decide (wk < 0) = true := decide_eq_true hw
  clear hE hE0 hfi hi hn3 hif
  obtain ⟨u, rfl, hl, hq1, hq2⟩ := id h
  obtain ⟨A, cap, rfl⟩ := hl.form
  obtain ⟨vm, ve, rfl, ho1, ho2, ho3, ho4⟩ := ho
  obtain ⟨M, cm, rfl⟩ := ho1.form
  obtain ⟨D, cd, rfl⟩ := ho2.form
  have HB := hide (show Below w.heap.size w (((w.alloc (.cells #[.int .i64 c.next, .slice A c.atts.length cap, .int .i64 c.dur] 24)).alloc (.cells #[.slice M o.marks.length cm, .slice D o.engs.length cd] 42)).alloc (.cells #[.int .i64 0, .slice none 0 0, .int .i64 0] 24)) from bA_alloc (bA_alloc (below_laid _) _) _)
  have HX := hide (((Bl.new w [.int .i64 c.next, .slice A c.atts.length cap, .int .i64 c.dur] 24).laid (.cells #[.slice M o.marks.length cm, .slice D o.engs.length cd] 42)).laid (.cells #[.int .i64 0, .slice none 0 0, .int .i64 0] 24))
  have HO := hide (show Bl (((w.alloc (.cells #[.int .i64 c.next, .slice A c.atts.length cap, .int .i64 c.dur] 24)).alloc (.cells #[.slice M o.marks.length cm, .slice D o.engs.length cd] 42)).alloc (.cells #[.int .i64 0, .slice none 0 0, .int .i64 0] 24)) (w.heap.size + 1) [.slice M o.marks.length cm, .slice D o.engs.length cd] by have := (Bl.new (w.alloc (.cells #[.int .i64 c.next, .slice A c.atts.length cap, .int .i64 c.dur] 24)) [.slice M o.marks.length cm, .slice D o.engs.length cd] 42).laid (.cells #[.int .i64 0, .slice none 0 0, .int .i64 0] 24); simpa using this)
  have HY := hide (show Bl (((w.alloc (.cells #[.int .i64 c.next, .slice A c.atts.length cap, .int .i64 c.dur] 24)).alloc (.cells #[.slice M o.marks.length cm, .slice D o.engs.length cd] 42)).alloc (.cells #[.int .i64 0, .slice none 0 0, .int .i64 0] 24)) (w.heap.size + 1 + 1) [.int .i64 0, .slice none 0 0, .int .i64 0] by have := Bl.new ((w.alloc (.cells #[.int .i64 c.next, .slice A c.atts.length cap, .int .i64 c.dur] 24)).alloc (.cells #[.slice M o.marks.length cm, .slice D o.engs.length cd] 42)) [.int .i64 0, .slice none 0 0, .int .i64 0] 24; simpa using this)
  have HK := hide (rchk_any (((w.alloc (.cells #[.int .i64 c.next, .slice A c.atts.length cap, .int .i64 c.dur] 24)).alloc (.cells #[.slice M o.marks.length cm, .slice D o.engs.length cd] 42)).alloc (.cells #[.int .i64 0, .slice none 0 0, .int .i64 0] 24)) c _ (((h.laid _).laid _).laid _))
  have hcn : c.atts.length ≤ 256 := (chk0 hc).2.2.2.2.1
  have HFI := hide (fun (w' : World) (hb : Below w.heap.size w w') => rfind_any w' c _ num (h.grow hb) hcn)
  have HCH := hide hc
  have HQ := hide (And.intro hq1 hq2)
  have HOO := hide (And.intro ho1 (And.intro ho2 (And.intro ho3 ho4)))
  have HLL := hide hl
  rw [hc] at HK
  clear hc h hl hq1 hq2 ho1 ho2 ho3 ho4
  go_enter Try.func19, Try.ntmps19
  go_wp2_with fail
  refine HK.out.mono ?_
  rintro e w1 ⟨rfl, hb⟩
  replace HX := hide (HX.out.keep hb)
  replace HO := hide (HO.out.keep hb)
  replace HY := hide (HY.out.keep hb)
  replace HB := hide (bthen HB.out hb)
  clear hb
  have HF1 := hide (HFI.out w1 HB.out)
  obtain ⟨x, -, zx⟩ := HX.out
  obtain ⟨y, v, zy⟩ := HY.out
  have x0 := x 0 _ rfl
  have x1 := x 1 _ rfl
  have x2 := x 2 _ rfl
  have y0 := y 0 _ rfl
  have y1 := y 1 _ rfl
  have y2 := y 2 _ rfl
  have v0 := v 0
  have v1 := v 1
  have v2 := v 2
  clear x y v zx
  clear HK HFI
  go_wp2_with fail
  refine HF1.out.mono ?_
  rintro e w2 ⟨rfl, hb⟩
  clear x0 x1 x2 y0 y1 y2 v0 v1 v2 zy
  replace HX := hide (HX.out.keep hb)
  replace HO := hide (HO.out.keep hb)
  replace HY := hide (HY.out.keep hb)
  replace HB := hide (bthen HB.out hb)
  clear hb
  clear HF1
  obtain ⟨x, -, zx⟩ := HX.out
  obtain ⟨y, v, zy⟩ := HY.out
  have x0 := x 0 _ rfl
  have x1 := x 1 _ rfl
  have x2 := x 2 _ rfl
  have y0 := y 0 _ rfl
  have y1 := y 1 _ rfl
  have y2 := y 2 _ rfl
  have v0 := v 0
  have v1 := v 1
  have v2 := v 2
  clear x y v zx
  rw [HIF.out]
  obtain ⟨g, off, xs9, eA, -⟩ := Lst.at_ HLL.out HI.out
  subst eA
  obtain ⟨-, A1, A2, A3, c1, c2, c3, ha⟩ := att_at HLL.out HI.out
  replace ha := ha.grow HB.out
  have k0 := ha.k0
  have k1 := ha.k1
  have k2 := ha.k2
  have k3 := ha.k3
  rw [HR3.out] at k3
  have HAA := hide ha
  obtain ⟨m, hm⟩ : ∃ m, c.atts.length = m := ⟨_, rfl⟩
  have HM := hide hm
  rw [hm] at HX x1 ⊢
  have hu0 : (0 : Int) ≤ (i : Int) := by omega
  have hu1 : (i : Int) < (m : Int) := by have := HI.out; omega
  have hu2 : (i : Int) ≤ 256 := by have := HI.out; omega
  have tn : decide ((i : Int) < 0) = false := decide_eq_false (by omega)
  clear ha hm
  go_wp2
  refine bodyPost_ret (v := .tuple #[.agg #[.int .i64 0, .slice none 0 0, .int .i64 0], .int .i64 2]) (by rw [results_ct rfl]; go_simp) rfl ?_
  exact RetC1.zero HC.out rfl (bA_alloc (((HB.out.setCell (p := ⟨w.heap.size + 1 + 1, 0, none⟩) (by show w.heap.size ≤ w.heap.size + 1 + 1; omega) _).setCell (p := ⟨w.heap.size + 1 + 1, 1, none⟩) (by show w.heap.size ≤ w.heap.size + 1 + 1; omega) _).setCell (p := ⟨w.heap.size + 1 + 1, 2, none⟩) (by show w.heap.size ≤ w.heap.size + 1 + 1; omega) _) _)
set_option maxRecDepth 100000 in
set_option maxHeartbeats 8000000 in
theorem rrep_far (v : Value) (num wk : Int) (o : Oq) (xs : List Value) (h : CoV w v c) (ho : ROq w (· < w.heap.size) xs o) (hc : chkQ c = 0) (i : Nat) (hfi : findQ num c.atts = i) (hi : i < c.atts.length) (hw : 0 ≤ wk) (hw2 : ((attQ c i).hv.length : Int) ≤ wk) : Calls Try.prog 19 #[v, .int .i64 num, .int .i64 wk, .agg xs.toArray] w (RetC1 w (repC c num wk o) (repE c num wk)) := by
  have hE0 := repE_found (wk := wk) hc hfi hi
  have hE : repE c num wk = 2 := by rw [hE0, if_pos (.inr hw2)]
  have HC : Hid (repC c num wk o = Cq.z) := hide (by unfold repC; rw [hE]; rfl)
  rw [hE]
  have hif : (if findQ num c.atts = c.atts.length then (-1 : Int) else (findQ num c.atts : Int)) = (i : Int) := by rw [if_neg (by omega), hfi]
  have HIF := hide hif
  have HI := hide hi
  obtain ⟨n3, hn3⟩ : ∃ n, (attQ c i).hv.length = n := ⟨_, rfl⟩
  have HR3 := hide hn3
  have hn8 : n3 ≤ 8 := by have := (err0 ((chk0 hc).2.2.2.2.2 i hi)).2.2.2.2.2.2.1; omega
  have t1 : decide (wk < 0) = false := decide_eq_false (by omega)
  have t2 : decide ((n3 : Int) ≤ wk) = true := decide_eq_true (by omega)
  clear hw2
  clear hE hE0 hfi hi hn3 hif
  obtain ⟨u, rfl, hl, hq1, hq2⟩ := id h
  obtain ⟨A, cap, rfl⟩ := hl.form
  obtain ⟨vm, ve, rfl, ho1, ho2, ho3, ho4⟩ := ho
  obtain ⟨M, cm, rfl⟩ := ho1.form
  obtain ⟨D, cd, rfl⟩ := ho2.form
  have HB := hide (show Below w.heap.size w (((w.alloc (.cells #[.int .i64 c.next, .slice A c.atts.length cap, .int .i64 c.dur] 24)).alloc (.cells #[.slice M o.marks.length cm, .slice D o.engs.length cd] 42)).alloc (.cells #[.int .i64 0, .slice none 0 0, .int .i64 0] 24)) from bA_alloc (bA_alloc (below_laid _) _) _)
  have HX := hide (((Bl.new w [.int .i64 c.next, .slice A c.atts.length cap, .int .i64 c.dur] 24).laid (.cells #[.slice M o.marks.length cm, .slice D o.engs.length cd] 42)).laid (.cells #[.int .i64 0, .slice none 0 0, .int .i64 0] 24))
  have HO := hide (show Bl (((w.alloc (.cells #[.int .i64 c.next, .slice A c.atts.length cap, .int .i64 c.dur] 24)).alloc (.cells #[.slice M o.marks.length cm, .slice D o.engs.length cd] 42)).alloc (.cells #[.int .i64 0, .slice none 0 0, .int .i64 0] 24)) (w.heap.size + 1) [.slice M o.marks.length cm, .slice D o.engs.length cd] by have := (Bl.new (w.alloc (.cells #[.int .i64 c.next, .slice A c.atts.length cap, .int .i64 c.dur] 24)) [.slice M o.marks.length cm, .slice D o.engs.length cd] 42).laid (.cells #[.int .i64 0, .slice none 0 0, .int .i64 0] 24); simpa using this)
  have HY := hide (show Bl (((w.alloc (.cells #[.int .i64 c.next, .slice A c.atts.length cap, .int .i64 c.dur] 24)).alloc (.cells #[.slice M o.marks.length cm, .slice D o.engs.length cd] 42)).alloc (.cells #[.int .i64 0, .slice none 0 0, .int .i64 0] 24)) (w.heap.size + 1 + 1) [.int .i64 0, .slice none 0 0, .int .i64 0] by have := Bl.new ((w.alloc (.cells #[.int .i64 c.next, .slice A c.atts.length cap, .int .i64 c.dur] 24)).alloc (.cells #[.slice M o.marks.length cm, .slice D o.engs.length cd] 42)) [.int .i64 0, .slice none 0 0, .int .i64 0] 24; simpa using this)
  have HK := hide (rchk_any (((w.alloc (.cells #[.int .i64 c.next, .slice A c.atts.length cap, .int .i64 c.dur] 24)).alloc (.cells #[.slice M o.marks.length cm, .slice D o.engs.length cd] 42)).alloc (.cells #[.int .i64 0, .slice none 0 0, .int .i64 0] 24)) c _ (((h.laid _).laid _).laid _))
  have hcn : c.atts.length ≤ 256 := (chk0 hc).2.2.2.2.1
  have HFI := hide (fun (w' : World) (hb : Below w.heap.size w w') => rfind_any w' c _ num (h.grow hb) hcn)
  have HCH := hide hc
  have HQ := hide (And.intro hq1 hq2)
  have HOO := hide (And.intro ho1 (And.intro ho2 (And.intro ho3 ho4)))
  have HLL := hide hl
  rw [hc] at HK
  clear hc h hl hq1 hq2 ho1 ho2 ho3 ho4
  go_enter Try.func19, Try.ntmps19
  go_wp2_with fail
  refine HK.out.mono ?_
  rintro e w1 ⟨rfl, hb⟩
  replace HX := hide (HX.out.keep hb)
  replace HO := hide (HO.out.keep hb)
  replace HY := hide (HY.out.keep hb)
  replace HB := hide (bthen HB.out hb)
  clear hb
  have HF1 := hide (HFI.out w1 HB.out)
  obtain ⟨x, -, zx⟩ := HX.out
  obtain ⟨y, v, zy⟩ := HY.out
  have x0 := x 0 _ rfl
  have x1 := x 1 _ rfl
  have x2 := x 2 _ rfl
  have y0 := y 0 _ rfl
  have y1 := y 1 _ rfl
  have y2 := y 2 _ rfl
  have v0 := v 0
  have v1 := v 1
  have v2 := v 2
  clear x y v zx
  clear HK HFI
  go_wp2_with fail
  refine HF1.out.mono ?_
  rintro e w2 ⟨rfl, hb⟩
  clear x0 x1 x2 y0 y1 y2 v0 v1 v2 zy
  replace HX := hide (HX.out.keep hb)
  replace HO := hide (HO.out.keep hb)
  replace HY := hide (HY.out.keep hb)
  replace HB := hide (bthen HB.out hb)
  clear hb
  clear HF1
  obtain ⟨x, -, zx⟩ := HX.out
  obtain ⟨y, v, zy⟩ := HY.out
  have x0 := x 0 _ rfl
  have x1 := x 1 _ rfl
  have x2 := x 2 _ rfl
  have y0 := y 0 _ rfl
  have y1 := y 1 _ rfl
  have y2 := y 2 _ rfl
  have v0 := v 0
  have v1 := v 1
  have v2 := v 2
  clear x y v zx
  rw [HIF.out]
  obtain ⟨g, off, xs9, eA, -⟩ := Lst.at_ HLL.out HI.out
  subst eA
  obtain ⟨-, A1, A2, A3, c1, c2, c3, ha⟩ := att_at HLL.out HI.out
  replace ha := ha.grow HB.out
  have k0 := ha.k0
  have k1 := ha.k1
  have k2 := ha.k2
  have k3 := ha.k3
  rw [HR3.out] at k3
  have HAA := hide ha
  obtain ⟨m, hm⟩ : ∃ m, c.atts.length = m := ⟨_, rfl⟩
  have HM := hide hm
  rw [hm] at HX x1 ⊢
  have hu0 : (0 : Int) ≤ (i : Int) := by omega
  have hu1 : (i : Int) < (m : Int) := by have := HI.out; omega
  have hu2 : (i : Int) ≤ 256 := by have := HI.out; omega
  have tn : decide ((i : Int) < 0) = false := decide_eq_false (by omega)
  clear ha hm
  go_wp2
  refine bodyPost_ret (v := .tuple #[.agg #[.int .i64 0, .slice none 0 0, .int .i64 0], .int .i64 2]) (by rw [results_ct rfl]; go_simp) rfl ?_
  exact RetC1.zero HC.out rfl (bA_alloc (((HB.out.setCell (p := ⟨w.heap.size + 1 + 1, 0, none⟩) (by show w.heap.size ≤ w.heap.size + 1 + 1; omega) _).setCell (p := ⟨w.heap.size + 1 + 1, 1, none⟩) (by show w.heap.size ≤ w.heap.size + 1 + 1; omega) _).setCell (p := ⟨w.heap.size + 1 + 1, 2, none⟩) (by show w.heap.size ≤ w.heap.size + 1 + 1; omega) _) _)
set_option maxRecDepth 100000 in
set_option maxHeartbeats 8000000 in
theorem rrep_dup (v : Value) (num : Int) (k : Nat) (o : Oq) (xs : List Value) (h : CoV w v c) (ho : ROq w (· < w.heap.size) xs o) (hc : chkQ c = 0) (i : Nat) (hfi : findQ num c.atts = i) (hi : i < c.atts.length) (hk : k < (attQ c i).hv.length) (hh : (attQ c i).hv.getD k false = true) : Calls Try.prog 19 #[v, .int .i64 num, .int .i64 (k : Int), .agg xs.toArray] w (RetC1 w (repC c num (k : Int) o) (repE c num (k : Int))) := by
  have hE0 := repE_found (wk := (k : Int)) hc hfi hi
  rw [if_neg (by omega), Int.toNat_natCast] at hE0
  have hE : repE c num (k : Int) = 31 := by rw [hE0, if_pos hh]
  have HC : Hid (repC c num (k : Int) o = Cq.z) := hide (by unfold repC; rw [hE]; rfl)
  rw [hE]
  have hif : (if findQ num c.atts = c.atts.length then (-1 : Int) else (findQ num c.atts : Int)) = (i : Int) := by rw [if_neg (by omega), hfi]
  have HIF := hide hif
  have HI := hide hi
  obtain ⟨n3, hn3⟩ : ∃ n, (attQ c i).hv.length = n := ⟨_, rfl⟩
  have HR3 := hide hn3
  have hn8 : n3 ≤ 8 := by have := (err0 ((chk0 hc).2.2.2.2.2 i hi)).2.2.2.2.2.2.1; omega
  have HH := hide hh
  have t1 : decide ((k : Int) < 0) = false := decide_eq_false (by omega)
  have t2 : decide ((n3 : Int) ≤ (k : Int)) = false := decide_eq_false (by omega)
  have t3 : (0 : Int) ≤ (k : Int) := by omega
  have t4 : (k : Int) < (n3 : Int) := by omega
  clear hh hk
  clear hE hE0 hfi hi hn3 hif
  obtain ⟨u, rfl, hl, hq1, hq2⟩ := id h
  obtain ⟨A, cap, rfl⟩ := hl.form
  obtain ⟨vm, ve, rfl, ho1, ho2, ho3, ho4⟩ := ho
  obtain ⟨M, cm, rfl⟩ := ho1.form
  obtain ⟨D, cd, rfl⟩ := ho2.form
  have HB := hide (show Below w.heap.size w (((w.alloc (.cells #[.int .i64 c.next, .slice A c.atts.length cap, .int .i64 c.dur] 24)).alloc (.cells #[.slice M o.marks.length cm, .slice D o.engs.length cd] 42)).alloc (.cells #[.int .i64 0, .slice none 0 0, .int .i64 0] 24)) from bA_alloc (bA_alloc (below_laid _) _) _)
  have HX := hide (((Bl.new w [.int .i64 c.next, .slice A c.atts.length cap, .int .i64 c.dur] 24).laid (.cells #[.slice M o.marks.length cm, .slice D o.engs.length cd] 42)).laid (.cells #[.int .i64 0, .slice none 0 0, .int .i64 0] 24))
  have HO := hide (show Bl (((w.alloc (.cells #[.int .i64 c.next, .slice A c.atts.length cap, .int .i64 c.dur] 24)).alloc (.cells #[.slice M o.marks.length cm, .slice D o.engs.length cd] 42)).alloc (.cells #[.int .i64 0, .slice none 0 0, .int .i64 0] 24)) (w.heap.size + 1) [.slice M o.marks.length cm, .slice D o.engs.length cd] by have := (Bl.new (w.alloc (.cells #[.int .i64 c.next, .slice A c.atts.length cap, .int .i64 c.dur] 24)) [.slice M o.marks.length cm, .slice D o.engs.length cd] 42).laid (.cells #[.int .i64 0, .slice none 0 0, .int .i64 0] 24); simpa using this)
  have HY := hide (show Bl (((w.alloc (.cells #[.int .i64 c.next, .slice A c.atts.length cap, .int .i64 c.dur] 24)).alloc (.cells #[.slice M o.marks.length cm, .slice D o.engs.length cd] 42)).alloc (.cells #[.int .i64 0, .slice none 0 0, .int .i64 0] 24)) (w.heap.size + 1 + 1) [.int .i64 0, .slice none 0 0, .int .i64 0] by have := Bl.new ((w.alloc (.cells #[.int .i64 c.next, .slice A c.atts.length cap, .int .i64 c.dur] 24)).alloc (.cells #[.slice M o.marks.length cm, .slice D o.engs.length cd] 42)) [.int .i64 0, .slice none 0 0, .int .i64 0] 24; simpa using this)
  have HK := hide (rchk_any (((w.alloc (.cells #[.int .i64 c.next, .slice A c.atts.length cap, .int .i64 c.dur] 24)).alloc (.cells #[.slice M o.marks.length cm, .slice D o.engs.length cd] 42)).alloc (.cells #[.int .i64 0, .slice none 0 0, .int .i64 0] 24)) c _ (((h.laid _).laid _).laid _))
  have hcn : c.atts.length ≤ 256 := (chk0 hc).2.2.2.2.1
  have HFI := hide (fun (w' : World) (hb : Below w.heap.size w w') => rfind_any w' c _ num (h.grow hb) hcn)
  have HCH := hide hc
  have HQ := hide (And.intro hq1 hq2)
  have HOO := hide (And.intro ho1 (And.intro ho2 (And.intro ho3 ho4)))
  have HLL := hide hl
  rw [hc] at HK
  clear hc h hl hq1 hq2 ho1 ho2 ho3 ho4
  go_enter Try.func19, Try.ntmps19
  go_wp2_with fail
  refine HK.out.mono ?_
  rintro e w1 ⟨rfl, hb⟩
  replace HX := hide (HX.out.keep hb)
  replace HO := hide (HO.out.keep hb)
  replace HY := hide (HY.out.keep hb)
  replace HB := hide (bthen HB.out hb)
  clear hb
  have HF1 := hide (HFI.out w1 HB.out)
  obtain ⟨x, -, zx⟩ := HX.out
  obtain ⟨y, v, zy⟩ := HY.out
  have x0 := x 0 _ rfl
  have x1 := x 1 _ rfl
  have x2 := x 2 _ rfl
  have y0 := y 0 _ rfl
  have y1 := y 1 _ rfl
  have y2 := y 2 _ rfl
  have v0 := v 0
  have v1 := v 1
  have v2 := v 2
  clear x y v zx
  clear HK HFI
  go_wp2_with fail
  refine HF1.out.mono ?_
  rintro e w2 ⟨rfl, hb⟩
  clear x0 x1 x2 y0 y1 y2 v0 v1 v2 zy
  replace HX := hide (HX.out.keep hb)
  replace HO := hide (HO.out.keep hb)
  replace HY := hide (HY.out.keep hb)
  replace HB := hide (bthen HB.out hb)
  clear hb
  clear HF1
  obtain ⟨x, -, zx⟩ := HX.out
  obtain ⟨y, v, zy⟩ := HY.out
  have x0 := x 0 _ rfl
  have x1 := x 1 _ rfl
  have x2 := x 2 _ rfl
  have y0 := y 0 _ rfl
  have y1 := y 1 _ rfl
  have y2 := y 2 _ rfl
  have v0 := v 0
  have v1 := v 1
  have v2 := v 2
  clear x y v zx
  rw [HIF.out]
  obtain ⟨g, off, xs9, eA, -⟩ := Lst.at_ HLL.out HI.out
  subst eA
  obtain ⟨-, A1, A2, A3, c1, c2, c3, ha⟩ := att_at HLL.out HI.out
  replace ha := ha.grow HB.out
  have k0 := ha.k0
  have k1 := ha.k1
  have k2 := ha.k2
  have k3 := ha.k3
  rw [HR3.out] at k3
  have HAA := hide ha
  obtain ⟨m, hm⟩ : ∃ m, c.atts.length = m := ⟨_, rfl⟩
  have HM := hide hm
  rw [hm] at HX x1 ⊢
  have hu0 : (0 : Int) ≤ (i : Int) := by omega
  have hu1 : (i : Int) < (m : Int) := by have := HI.out; omega
  have hu2 : (i : Int) ≤ 256 := by have := HI.out; omega
  have tn : decide ((i : Int) < 0) = false := decide_eq_false (by omega)
  clear ha hm
  obtain ⟨gb, ob, ys9, e3, -, -, hc3, hr3⟩ := Lst.at_ HAA.out.l3 (show k < (attQ c i).hv.length by rw [HR3.out]; omega)
  subst e3
  obtain ⟨z, hz⟩ : ∃ z, ys9 = [.bool z] ∧ (attQ c i).hv.getD k false = z := ⟨_, hr3, by rw [List.getD_eq_getElem?_getD, List.getElem?_eq_getElem]; rfl⟩
  obtain ⟨rfl, hz2⟩ := hz
  have kb := hc3 0 _ rfl
  rw [Nat.mul_one, Nat.add_zero] at kb
  rw [HH.out] at hz2
  subst hz2
  have hgb := World.block_lt_of_cell? w2 _ kb
  have hgg := World.block_lt_of_cell? w2 _ k0
  simp only at hgb hgg
  clear hc3 hr3
  go_wp2
  refine bodyPost_ret (v := .tuple #[.agg #[.int .i64 0, .slice none 0 0, .int .i64 0], .int .i64 31]) (by rw [results_ct rfl]; go_simp) rfl ?_
  exact RetC1.zero HC.out rfl (bA_alloc (((HB.out.setCell (p := ⟨w.heap.size + 1 + 1, 0, none⟩) (by show w.heap.size ≤ w.heap.size + 1 + 1; omega) _).setCell (p := ⟨w.heap.size + 1 + 1, 1, none⟩) (by show w.heap.size ≤ w.heap.size + 1 + 1; omega) _).setCell (p := ⟨w.heap.size + 1 + 1, 2, none⟩) (by show w.heap.size ≤ w.heap.size + 1 + 1; omega) _) _)
set_option maxRecDepth 100000 in
set_option maxHeartbeats 8000000 in
theorem rrep_ord (v : Value) (num : Int) (k : Nat) (o : Oq) (xs : List Value) (h : CoV w v c) (ho : ROq w (· < w.heap.size) xs o) (hc : chkQ c = 0) (i : Nat) (hfi : findQ num c.atts = i) (hi : i < c.atts.length) (hk : k < (attQ c i).hv.length) (hh : (attQ c i).hv.getD k false = false) (h0 : 0 < i) (hh2 : (attQ c (i - 1)).hv.getD k true = false) : Calls Try.prog 19 #[v, .int .i64 num, .int .i64 (k : Int), .agg xs.toArray] w (RetC1 w (repC c num (k : Int) o) (repE c num (k : Int))) := by
  have hE0 := repE_found (wk := (k : Int)) hc hfi hi
  rw [if_neg (by omega), Int.toNat_natCast] at hE0
  have hE : repE c num (k : Int) = 14 := by rw [hE0, if_neg (by rw [hh]; decide), if_pos ⟨h0, hh2⟩]
  have HC : Hid (repC c num (k : Int) o = Cq.z) := hide (by unfold repC; rw [hE]; rfl)
  rw [hE]
  have hif : (if findQ num c.atts = c.atts.length then (-1 : Int) else (findQ num c.atts : Int)) = (i : Int) := by rw [if_neg (by omega), hfi]
  have HIF := hide hif
  have HI := hide hi
  obtain ⟨n3, hn3⟩ : ∃ n, (attQ c i).hv.length = n := ⟨_, rfl⟩
  have HR3 := hide hn3
  have hn8 : n3 ≤ 8 := by have := (err0 ((chk0 hc).2.2.2.2.2 i hi)).2.2.2.2.2.2.1; omega
  have HH := hide hh
  have HH2 := hide hh2
  have HK1 : Hid (k < (attQ c (i - 1)).hv.length) := hide (by have e1 := err0 ((chk0 hc).2.2.2.2.2 i hi); have e2 := err0 ((chk0 hc).2.2.2.2.2 (i - 1) (by omega)); omega)
  have t1 : decide ((k : Int) < 0) = false := decide_eq_false (by omega)
  have t2 : decide ((n3 : Int) ≤ (k : Int)) = false := decide_eq_false (by omega)
  have t3 : (0 : Int) ≤ (k : Int) := by omega
  have t4 : (k : Int) < (n3 : Int) := by omega
  clear hh hh2 hk
  clear hE hE0 hfi hi hn3 hif
  obtain ⟨u, rfl, hl, hq1, hq2⟩ := id h
  obtain ⟨A, cap, rfl⟩ := hl.form
  obtain ⟨vm, ve, rfl, ho1, ho2, ho3, ho4⟩ := ho
  obtain ⟨M, cm, rfl⟩ := ho1.form
  obtain ⟨D, cd, rfl⟩ := ho2.form
  have HB := hide (show Below w.heap.size w (((w.alloc (.cells #[.int .i64 c.next, .slice A c.atts.length cap, .int .i64 c.dur] 24)).alloc (.cells #[.slice M o.marks.length cm, .slice D o.engs.length cd] 42)).alloc (.cells #[.int .i64 0, .slice none 0 0, .int .i64 0] 24)) from bA_alloc (bA_alloc (below_laid _) _) _)
  have HX := hide (((Bl.new w [.int .i64 c.next, .slice A c.atts.length cap, .int .i64 c.dur] 24).laid (.cells #[.slice M o.marks.length cm, .slice D o.engs.length cd] 42)).laid (.cells #[.int .i64 0, .slice none 0 0, .int .i64 0] 24))
  have HO := hide (show Bl (((w.alloc (.cells #[.int .i64 c.next, .slice A c.atts.length cap, .int .i64 c.dur] 24)).alloc (.cells #[.slice M o.marks.length cm, .slice D o.engs.length cd] 42)).alloc (.cells #[.int .i64 0, .slice none 0 0, .int .i64 0] 24)) (w.heap.size + 1) [.slice M o.marks.length cm, .slice D o.engs.length cd] by have := (Bl.new (w.alloc (.cells #[.int .i64 c.next, .slice A c.atts.length cap, .int .i64 c.dur] 24)) [.slice M o.marks.length cm, .slice D o.engs.length cd] 42).laid (.cells #[.int .i64 0, .slice none 0 0, .int .i64 0] 24); simpa using this)
  have HY := hide (show Bl (((w.alloc (.cells #[.int .i64 c.next, .slice A c.atts.length cap, .int .i64 c.dur] 24)).alloc (.cells #[.slice M o.marks.length cm, .slice D o.engs.length cd] 42)).alloc (.cells #[.int .i64 0, .slice none 0 0, .int .i64 0] 24)) (w.heap.size + 1 + 1) [.int .i64 0, .slice none 0 0, .int .i64 0] by have := Bl.new ((w.alloc (.cells #[.int .i64 c.next, .slice A c.atts.length cap, .int .i64 c.dur] 24)).alloc (.cells #[.slice M o.marks.length cm, .slice D o.engs.length cd] 42)) [.int .i64 0, .slice none 0 0, .int .i64 0] 24; simpa using this)
  have HK := hide (rchk_any (((w.alloc (.cells #[.int .i64 c.next, .slice A c.atts.length cap, .int .i64 c.dur] 24)).alloc (.cells #[.slice M o.marks.length cm, .slice D o.engs.length cd] 42)).alloc (.cells #[.int .i64 0, .slice none 0 0, .int .i64 0] 24)) c _ (((h.laid _).laid _).laid _))
  have hcn : c.atts.length ≤ 256 := (chk0 hc).2.2.2.2.1
  have HFI := hide (fun (w' : World) (hb : Below w.heap.size w w') => rfind_any w' c _ num (h.grow hb) hcn)
  have HCH := hide hc
  have HQ := hide (And.intro hq1 hq2)
  have HOO := hide (And.intro ho1 (And.intro ho2 (And.intro ho3 ho4)))
  have HLL := hide hl
  rw [hc] at HK
  clear hc h hl hq1 hq2 ho1 ho2 ho3 ho4
  go_enter Try.func19, Try.ntmps19
  go_wp2_with fail
  refine HK.out.mono ?_
  rintro e w1 ⟨rfl, hb⟩
  replace HX := hide (HX.out.keep hb)
  replace HO := hide (HO.out.keep hb)
  replace HY := hide (HY.out.keep hb)
  replace HB := hide (bthen HB.out hb)
  clear hb
  have HF1 := hide (HFI.out w1 HB.out)
  obtain ⟨x, -, zx⟩ := HX.out
  obtain ⟨y, v, zy⟩ := HY.out
  have x0 := x 0 _ rfl
  have x1 := x 1 _ rfl
  have x2 := x 2 _ rfl
  have y0 := y 0 _ rfl
  have y1 := y 1 _ rfl
  have y2 := y 2 _ rfl
  have v0 := v 0
  have v1 := v 1
  have v2 := v 2
  clear x y v zx
  clear HK HFI
  go_wp2_with fail
  refine HF1.out.mono ?_
  rintro e w2 ⟨rfl, hb⟩
  clear x0 x1 x2 y0 y1 y2 v0 v1 v2 zy
  replace HX := hide (HX.out.keep hb)
  replace HO := hide (HO.out.keep hb)
  replace HY := hide (HY.out.keep hb)
  replace HB := hide (bthen HB.out hb)
  clear hb
  clear HF1
  obtain ⟨x, -, zx⟩ := HX.out
  obtain ⟨y, v, zy⟩ := HY.out
  have x0 := x 0 _ rfl
  have x1 := x 1 _ rfl
  have x2 := x 2 _ rfl
  have y0 := y 0 _ rfl
  have y1 := y 1 _ rfl
  have y2 := y 2 _ rfl
  have v0 := v 0
  have v1 := v 1
  have v2 := v 2
  clear x y v zx
  rw [HIF.out]
  obtain ⟨g, off, xs9, eA, -⟩ := Lst.at_ HLL.out HI.out
  subst eA
  obtain ⟨-, A1, A2, A3, c1, c2, c3, ha⟩ := att_at HLL.out HI.out
  replace ha := ha.grow HB.out
  have k0 := ha.k0
  have k1 := ha.k1
  have k2 := ha.k2
  have k3 := ha.k3
  rw [HR3.out] at k3
  have HAA := hide ha
  obtain ⟨m, hm⟩ : ∃ m, c.atts.length = m := ⟨_, rfl⟩
  have HM := hide hm
  rw [hm] at HX x1 ⊢
  have hu0 : (0 : Int) ≤ (i : Int) := by omega
  have hu1 : (i : Int) < (m : Int) := by have := HI.out; omega
  have hu2 : (i : Int) ≤ 256 := by have := HI.out; omega
  have tn : decide ((i : Int) < 0) = false := decide_eq_false (by omega)
  clear ha hm
  obtain ⟨gb, ob, ys9, e3, -, -, hc3, hr3⟩ := Lst.at_ HAA.out.l3 (show k < (attQ c i).hv.length by rw [HR3.out]; omega)
  subst e3
  obtain ⟨z, hz⟩ : ∃ z, ys9 = [.bool z] ∧ (attQ c i).hv.getD k false = z := ⟨_, hr3, by rw [List.getD_eq_getElem?_getD, List.getElem?_eq_getElem]; rfl⟩
  obtain ⟨rfl, hz2⟩ := hz
  have kb := hc3 0 _ rfl
  rw [Nat.mul_one, Nat.add_zero] at kb
  rw [HH.out] at hz2
  subst hz2
  have hgb := World.block_lt_of_cell? w2 _ kb
  have hgg := World.block_lt_of_cell? w2 _ k0
  simp only at hgb hgg
  clear hc3 hr3
  obtain ⟨j, rfl⟩ : ∃ j, i = j + 1 := ⟨i - 1, by omega⟩
  rw [Nat.add_sub_cancel] at HH2 HK1
  have hjl : j < c.atts.length := by have := HI.out; omega
  obtain ⟨-, P1, P2, P3, p1, p2, p3, hp⟩ := att_at HLL.out hjl
  replace hp := hp.grow HB.out
  have j3 := hp.k3
  obtain ⟨gp, op, zs9, e4, -, -, hc4, hr4⟩ := Lst.at_ hp.l3 HK1.out
  subst e4
  obtain ⟨z, hz⟩ : ∃ z, zs9 = [.bool z] ∧ (attQ c j).hv.getD k true = z := ⟨_, hr4, by rw [List.getD_eq_getElem?_getD, List.getElem?_eq_getElem]; rfl⟩
  obtain ⟨rfl, hz3⟩ := hz
  have kp := hc4 0 _ rfl
  rw [Nat.mul_one, Nat.add_zero] at kp
  rw [HH2.out] at hz3
  subst hz3
  have hgp := World.block_lt_of_cell? w2 _ kp
  simp only at hgp
  obtain ⟨nb, hnb⟩ : ∃ n, (attQ c j).hv.length = n := ⟨_, rfl⟩
  have t5 : (k : Int) < (nb : Int) := by have := HK1.out; omega
  rw [hnb] at j3
  have zx2 : w.heap.size < w2.heap.size := by omega
  have t6 : decide ((0 : Int) < (j : Int) + 1) = true := decide_eq_true (by omega)
  have t9 : (0 : Int) ≤ (j : Int) + 1 := by omega
  have ta : (j : Int) + 1 < (m : Int) := by omega
  have tb : decide ((j : Int) + 1 < 0) = false := decide_eq_false (by omega)
  have t7 : (0 : Int) ≤ (j : Int) := by omega
  have t8 : (j : Int) < (m : Int) := by omega
  clear hc4 hr4 hp hnb
  go_wp2
  refine bodyPost_ret (v := .tuple #[.agg #[.int .i64 0, .slice none 0 0, .int .i64 0], .int .i64 14]) (by rw [results_ct rfl]; go_simp) rfl ?_
  exact RetC1.zero HC.out rfl (bA_alloc (((HB.out.setCell (p := ⟨w.heap.size + 1 + 1, 0, none⟩) (by show w.heap.size ≤ w.heap.size + 1 + 1; omega) _).setCell (p := ⟨w.heap.size + 1 + 1, 1, none⟩) (by show w.heap.size ≤ w.heap.size + 1 + 1; omega) _).setCell (p := ⟨w.heap.size + 1 + 1, 2, none⟩) (by show w.heap.size ≤ w.heap.size + 1 + 1; omega) _) _)
end
end Go.Proofs.Ytihbonndinnohaa
