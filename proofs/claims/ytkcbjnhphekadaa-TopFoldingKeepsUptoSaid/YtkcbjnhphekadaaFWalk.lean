/- The law's walk. -/
import Derived.Test.YtkcbjnhphekadaaFLawA
namespace Go.Proofs.Ytkcbjnhphekadaa
open Go.RowKit
set_option linter.unusedVariables false
set_option linter.unusedSimpArgs false
variable (w : World)
set_option maxRecDepth 100000 in
set_option maxHeartbeats 32000000 in
theorem keeps_any (T : List Scx) (V : List Vrx) (E : List (List Evx)) (L : List Tr) (v0 v1 v17 u : Value) (c0 c2 c3 c4 c5 c6 c7 c8 c9 c10 c11 c12 c13 c14 c15 c16 : Value) (h0 : There RSc 2 w v0 T) (h1 : There RVr 2 w v1 V) (h17 : There RTx 8 w v17 L) (hE : There RLx 1 w u E) (hbk : nodesL L ≤ 1048576) :
    Calls Try.prog 3 #[v0, .agg #[c0, v1, c2, c3, c4, c5, c6, c7, c8, c9, c10, c11, c12, c13, c14, c15, c16, v17], .agg #[u]] w (Ret (.bool true) w) := by
  have H0 := hide h0
  have H1 := hide h1
  have H17 := hide h17
  have HE := hide hE
  obtain ⟨A0, cap0, rfl⟩ := h0.form
  obtain ⟨A1, cap1, rfl⟩ := h1.form
  obtain ⟨A2, cap2, rfl⟩ := h17.form
  obtain ⟨A3, cap3, rfl⟩ := hE.form
  obtain ⟨m0, hm0⟩ : ∃ m, T.length = m := ⟨_, rfl⟩
  obtain ⟨m1, hm1⟩ : ∃ m, V.length = m := ⟨_, rfl⟩
  obtain ⟨n, hn⟩ : ∃ m, L.length = m := ⟨_, rfl⟩
  obtain ⟨m3, hm3⟩ : ∃ m, E.length = m := ⟨_, rfl⟩
  have HN := hide hn
  rw [hm0] at H0 ⊢
  rw [hm1] at H1 ⊢
  rw [hn] at H17 ⊢
  rw [hm3] at HE ⊢
  have hl0 := h0.len
  have hl1 := h1.len
  have hl17 := h17.len
  rw [hm0] at hl0
  rw [hm1] at hl1
  rw [hn] at hl17
  unfold maxLen at hl0 hl1 hl17
  have HBK := hide hbk
  have HTT := hide (fun w => trytot_any w)
  have HFE := hide (fun w' h' => xFewEnv_any E (.slice A3 m3 cap3) w' h')
  have HB0 := bthen (below_laid (w := w) (.cells #[c0, .slice A1 m1 cap1, c2, c3, c4, c5, c6, c7, c8, c9, c10, c11, c12, c13, c14, c15, c16, .slice A2 n cap2] 34)) (below_laid (.cells #[.slice A3 m3 cap3] 37))
  have HB := hide HB0
  have HQ := hide ((Bxs.new w [c0, .slice A1 m1 cap1, c2, c3, c4, c5, c6, c7, c8, c9, c10, c11, c12, c13, c14, c15, c16, .slice A2 n cap2] 34).keep (below_laid (.cells #[.slice A3 m3 cap3] 37)))
  have hz9 := Bxs.new (w.alloc (.cells #[c0, .slice A1 m1 cap1, c2, c3, c4, c5, c6, c7, c8, c9, c10, c11, c12, c13, c14, c15, c16, .slice A2 n cap2] 34)) [.slice A3 m3 cap3] 37
  rw [World.size_alloc] at hz9
  have HZ := hide hz9
  clear h0 h1 h17 hE hm0 hm1 hn hm3 hbk HB0 hz9
  go_enter Try.func3, Try.ntmps3
  go_wp2_with fail
  refine (HTT.out _).mono ?_
  rintro e w1 ⟨rfl, hb⟩
  replace HB := hide (bthen HB.out hb)
  replace HQ := hide (HQ.out.keep hb)
  replace HZ := hide (HZ.out.keep hb)
  clear hb HTT
  have q1 := HQ.out 1 _ rfl
  have q17 := HQ.out 17 _ rfl
  have z0 := HZ.out 0 _ rfl
  by_cases hn0 : n = 0
  · have t0 : ((n : Int) == 0) = true := by rw [beq_iff_eq]; omega
    have t0' : (n == 0) = true := by rw [beq_iff_eq]; omega
    clear hn0
    go_wp2
    go_ret
    exact Ret.mk rfl HB.out
  have t0 : ((n : Int) == 0) = false := by rw [beq_eq_false_iff_ne]; omega
  have t0' : (n == 0) = false := by rw [beq_eq_false_iff_ne]; omega
  by_cases h6 : 6 < m1
  · have t1 : decide ((6 : Int) < (m1 : Int)) = true := decide_eq_true (by omega)
    have t1' : decide (6 < m1) = true := decide_eq_true (by omega)
    go_wp2
    go_ret
    exact Ret.mk rfl HB.out
  have t1 : decide ((6 : Int) < (m1 : Int)) = false := decide_eq_false (by omega)
  have t1' : decide (6 < m1) = false := decide_eq_false (by omega)
  by_cases h7 : 6 < m0
  · have t2 : decide ((6 : Int) < (m0 : Int)) = true := decide_eq_true (by omega)
    have t2' : decide (6 < m0) = true := decide_eq_true (by omega)
    go_wp2
    go_ret
    exact Ret.mk rfl HB.out
  have t2 : decide ((6 : Int) < (m0 : Int)) = false := decide_eq_false (by omega)
  have t2' : decide (6 < m0) = false := decide_eq_false (by omega)
  have hja : 0 < L.length := by rw [HN.out]; omega
  obtain ⟨g, off, ys, e2, hg, hyl, hc, hr⟩ := Lst.at_ (j := 0) H17.out hja
  subst e2
  have HGW := hide (show g < w.heap.size from hg)
  have hu1 : (0 : Int) < (n : Int) := by omega
  have hu2 : 0 < n := by omega
  have hnl : nodesT L[0] ≤ 1048576 := by
    have h9 : nodesL (L.take 1) = nodesL (L.take 0) + nodesT L[0] := nodesL_take hja
    have h8 := nodesL_le (l := L) (j := 1)
    have := HBK.out
    omega
  obtain ⟨t, ht⟩ : ∃ t, L[0] = t := ⟨_, rfl⟩
  rw [ht] at hr hnl
  have HTX := hide (show Tx w ys t from hr)
  have HFW := hide (fun w' h' => xFew_any t w' ys h' (by omega))
  have HKD := hide (fun hn w' h1 h2 h3 => xKind_any w' T V t hn (.slice A0 m0 cap0) (.slice A1 m1 cap1) ys h1 h2 h3)
  have HFO := hide (fun hn w' h1 => xFold_any t hn w' ys h1)
  have HEV := hide (fun hE hn w' h1 h2 => xEval_any E hE t hn w' (.slice A3 m3 cap3) ys h1 h2)
  have HTR := hide (fun hE hn w' h1 h2 => xTruth_any E hE t hn w' (.slice A3 m3 cap3) ys h1 h2)
  have HFN := hide (@few_nodes t)
  have HFOL := hide (@folds_of T V E t)
  obtain ⟨fw, hfw⟩ : ∃ b, fewB t = b := ⟨_, rfl⟩
  rw [hfw] at HFW HFN
  obtain ⟨d, args⟩ := t
  obtain ⟨vx, rfl, hlx, hdx⟩ := RTx.out hr
  obtain ⟨A, cap, rfl⟩ := hlx.form
  obtain ⟨m, hm⟩ : ∃ k, args.length = k := ⟨_, rfl⟩
  rw [hm] at hc HTX HFW HKD HFO HEV HTR
  simp only [Nat.zero_mul, Nat.add_zero] at hc
  have HC0 := hide (show w.cell? ⟨g, off, none⟩ = some (.int .i64 d.op) from hc 0 _ rfl)
  have HC1 := hide (show w.cell? ⟨g, off + 1, none⟩ = some (.slice A m cap) from hc 1 _ rfl)
  have HC2 := hide (show w.cell? ⟨g, off + 2, none⟩ = some (.int .i64 d.var) from hc 2 _ rfl)
  have HC3 := hide (show w.cell? ⟨g, off + 3, none⟩ = some (.int .i64 d.field) from hc 3 _ rfl)
  have HC4 := hide (show w.cell? ⟨g, off + 4, none⟩ = some (.int .i64 d.kind) from hc 4 _ rfl)
  have HC5 := hide (show w.cell? ⟨g, off + 5, none⟩ = some (.int .i64 d.val.q) from hc 5 _ rfl)
  have HC6 := hide (show w.cell? ⟨g, off + 6, none⟩ = some (.int .i64 d.val.n) from hc 6 _ rfl)
  have HC7 := hide (show w.cell? ⟨g, off + 7, none⟩ = some (.string d.val.s) from hc 7 _ rfl)
  clear hg hyl hc hr hnl ht hlx hdx hm hfw hja
  have k0 := keep1 HB.out (HC0.out)
  have k1 := keep1 HB.out (HC1.out)
  have k2 := keep1 HB.out (HC2.out)
  have k3 := keep1 HB.out (HC3.out)
  have k4 := keep1 HB.out (HC4.out)
  have k5 := keep1 HB.out (HC5.out)
  have k6 := keep1 HB.out (HC6.out)
  have k7 := keep1 HB.out (HC7.out)
  go_wp2_with fail
  refine (HFW.out _ (HTX.out.grow HB.out)).mono ?_
  rintro e w2 ⟨rfl, hb⟩
  replace HB := hide (bthen HB.out hb)
  replace HQ := hide (HQ.out.keep hb)
  replace HZ := hide (HZ.out.keep hb)
  clear hb HFW q1 q17 z0 k0 k1 k2 k3 k4 k5 k6 k7
  have q1 := HQ.out 1 _ rfl
  have q17 := HQ.out 17 _ rfl
  have z0 := HZ.out 0 _ rfl
  cases fw
  · go_wp2
    go_ret
    exact Ret.mk rfl HB.out
  have hfn := HFN.out rfl
  obtain ⟨fe, hfe⟩ : ∃ b, fewEB E = b := ⟨_, rfl⟩
  have HFL := hide (@fewE_len E)
  rw [hfe] at HFE HFL
  clear hfe HFN
  go_wp2_with fail
  refine (HFE.out _ (HE.out.keep rd_Lx HB.out)).mono ?_
  rintro e w3 ⟨rfl, hb⟩
  replace HB := hide (bthen HB.out hb)
  replace HQ := hide (HQ.out.keep hb)
  replace HZ := hide (HZ.out.keep hb)
  clear hb HFE q1 q17 z0
  have q1 := HQ.out 1 _ rfl
  have q17 := HQ.out 17 _ rfl
  have z0 := HZ.out 0 _ rfl
  cases fe
  · go_wp2
    go_ret
    exact Ret.mk rfl HB.out
  replace HFL := hide (fun k => HFL.out rfl k)
  replace HKD := hide (HKD.out (by omega))
  replace HFO := hide (HFO.out (by omega))
  replace HEV := hide (HEV.out HFL.out (by omega))
  replace HTR := hide (HTR.out HFL.out (by omega))
  obtain ⟨X, hX⟩ : ∃ x, foldE (.mk d args) = x := ⟨_, rfl⟩
  obtain ⟨K1, hK1⟩ : ∃ x, kindE T V (.mk d args) = x := ⟨_, rfl⟩
  obtain ⟨gE, hgE⟩ : ∃ x, checkE (.mk d args) = x := ⟨_, rfl⟩
  rw [hX, hgE] at HFO
  rw [hK1] at HKD HFOL
  have HXE := hide hX
  have HK1 := hide hK1
  have HGE := hide hgE
  obtain ⟨kk, kf⟩ := K1
  simp only at HKD HFOL
  clear hX hK1 hgE hfn
  have lq : w.heap.size < w3.heap.size := World.block_lt_of_cell? w3 _ q1
  have lz : w.heap.size + 1 < w3.heap.size := World.block_lt_of_cell? w3 _ z0
  have lg : g < w3.heap.size := Nat.lt_of_lt_of_le HGW.out HB.out.size
  have k0 := keep1 HB.out (HC0.out)
  have k1 := keep1 HB.out (HC1.out)
  have k2 := keep1 HB.out (HC2.out)
  have k3 := keep1 HB.out (HC3.out)
  have k4 := keep1 HB.out (HC4.out)
  have k5 := keep1 HB.out (HC5.out)
  have k6 := keep1 HB.out (HC6.out)
  have k7 := keep1 HB.out (HC7.out)
  go_wp2_with fail
  refine (HKD.out _ ((H0.out.keep rd_Sc HB.out).keep rd_Sc (below_laid _)) ((H1.out.keep rd_Vr HB.out).keep rd_Vr (below_laid _)) ((HTX.out.grow HB.out).grow (below_laid _))).mono ?_
  rintro e w4 ⟨rfl, hb⟩
  have hb9 := bthen (below_laid _) hb
  replace HB := hide (bthen HB.out hb9)
  replace HQ := hide (HQ.out.keep hb9)
  replace HZ := hide (HZ.out.keep hb9)
  have HE7 := hide ((Bxs.new w3 [.int .i64 d.op, .slice A m cap, .int .i64 d.var, .int .i64 d.field, .int .i64 d.kind, .int .i64 d.val.q, .int .i64 d.val.n, .string d.val.s] 30).keep hb)
  clear hb hb9 HKD q1 q17 z0 lq lz lg k0 k1 k2 k3 k4 k5 k6 k7
  have a0 := HE7.out 0 _ rfl
  have a1 := HE7.out 1 _ rfl
  have a2 := HE7.out 2 _ rfl
  have a3 := HE7.out 3 _ rfl
  have a4 := HE7.out 4 _ rfl
  have a5 := HE7.out 5 _ rfl
  have a6 := HE7.out 6 _ rfl
  have a7 := HE7.out 7 _ rfl
  go_wp2_with fail
  refine (HFO.out _ (HTX.out.grow HB.out)).mono ?_
  rintro e w5 ⟨ys, rfl, hTX, hb⟩
  replace HB := hide (bthen HB.out hb)
  replace HQ := hide (HQ.out.keep hb)
  replace HZ := hide (HZ.out.keep hb)
  replace HE7 := hide (HE7.out.keep hb)
  have HXT := hide hTX
  have HB5 := hide (Below.refl w5.heap.size w5)
  clear hb HFO a0 a1 a2 a3 a4 a5 a6 a7
  have HKX := hide (fun hn w' h1 h2 h3 => xKind_any w' T V X hn (.slice A0 m0 cap0) (.slice A1 m1 cap1) ys h1 h2 h3)
  have HEX := hide (fun hE hn w' h1 h2 => xEval_any E hE X hn w' (.slice A3 m3 cap3) ys h1 h2)
  have HTRX := hide (fun hE hn w' h1 h2 => xTruth_any E hE X hn w' (.slice A3 m3 cap3) ys h1 h2)
  obtain ⟨dx, lx⟩ := X
  obtain ⟨vx, rfl, hlx, hdx⟩ := RTx.out hTX
  obtain ⟨Ax, capx, rfl⟩ := hlx.form
  obtain ⟨nx, hnx⟩ : ∃ k, lx.length = k := ⟨_, rfl⟩
  rw [hnx] at HXT HKX HEX HTRX ⊢
  have ex : cellsX dx (.slice Ax nx capx) = [.int .i64 dx.op, .slice Ax nx capx, .int .i64 dx.var, .int .i64 dx.field, .int .i64 dx.kind, .int .i64 dx.val.q, .int .i64 dx.val.n, .string dx.val.s] := rfl
  rw [ex] at HXT HKX HEX HTRX ⊢
  clear hTX hlx hdx hnx ex
  by_cases hkf : kf = 0
  · have tk : (kf != 0) = false := by rw [bne_eq_false_iff_eq]; exact hkf
    have HF := hide (HFOL.out hkf)
    rw [← show Tr.mk dx lx = foldT (.mk d args) from HXE.out.symm.trans HF.out.ex] at HF
    replace HKX := hide (HKX.out (by have := HF.out.nx; omega))
    replace HEX := hide (HEX.out HFL.out (by have := HF.out.nx; omega))
    replace HTRX := hide (HTRX.out HFL.out (by have := HF.out.nx; omega))
    have tg : (gE != 0) = false := by rw [bne_eq_false_iff_eq, ← HGE.out]; exact HF.out.ct
    rw [HF.out.kx, HK1.out] at HKX
    have tkk : (kk != kk) = false := by simp
    have q1 := HQ.out 1 _ rfl
    have q17 := HQ.out 17 _ rfl
    have lq : w.heap.size < w5.heap.size := World.block_lt_of_cell? w5 _ q1
    clear hkf HFOL HXE
    go_wp2_with fail
    refine (HKX.out _ ((H0.out.keep rd_Sc HB.out).keep rd_Sc (below_laid _)) ((H1.out.keep rd_Vr HB.out).keep rd_Vr (below_laid _)) (HXT.out.grow (below_laid _))).mono ?_
    rintro e w6 ⟨rfl, hb⟩
    have hb9 := bthen (below_laid _) hb
    replace HB := hide (bthen HB.out hb9)
    replace HB5 := hide (bthen HB5.out hb9)
    replace HZ := hide (HZ.out.keep hb9)
    replace HE7 := hide (HE7.out.keep hb9)
    have HX10 := hide ((Bxs.new w5 [.int .i64 dx.op, .slice Ax nx capx, .int .i64 dx.var, .int .i64 dx.field, .int .i64 dx.kind, .int .i64 dx.val.q, .int .i64 dx.val.n, .string dx.val.s] 30).keep hb)
    clear hb hb9 HKX q1 q17 lq HQ
    obtain ⟨RV, hRV⟩ : ∃ r, evalV E (.mk d args) = r := ⟨_, rfl⟩
    obtain ⟨re, hre⟩ : ∃ r, evalE E (.mk d args) = r := ⟨_, rfl⟩
    rw [hRV, hre] at HEV
    have HRV := hide hRV
    have HRE := hide hre
    obtain ⟨rq, rn, rs⟩ := RV
    clear hRV hre
    have z0 := HZ.out 0 _ rfl
    have a0 := HE7.out 0 _ rfl
    have a1 := HE7.out 1 _ rfl
    have a2 := HE7.out 2 _ rfl
    have a3 := HE7.out 3 _ rfl
    have a4 := HE7.out 4 _ rfl
    have a5 := HE7.out 5 _ rfl
    have a6 := HE7.out 6 _ rfl
    have a7 := HE7.out 7 _ rfl
    go_wp2_with fail
    refine (HEV.out _ (HE.out.keep rd_Lx HB.out) (HTX.out.grow HB.out)).mono ?_
    rintro e w7 ⟨rfl, hb⟩
    replace HB := hide (bthen HB.out hb)
    replace HB5 := hide (bthen HB5.out hb)
    replace HZ := hide (HZ.out.keep hb)
    replace HE7 := hide (HE7.out.keep hb)
    replace HX10 := hide (HX10.out.keep hb)
    clear hb HEV z0 a0 a1 a2 a3 a4 a5 a6 a7
    obtain ⟨SV, hSV⟩ : ∃ r, evalV E (.mk dx lx) = r := ⟨_, rfl⟩
    obtain ⟨se, hse⟩ : ∃ r, evalE E (.mk dx lx) = r := ⟨_, rfl⟩
    rw [hSV, hse] at HEX
    have HSV := hide hSV
    have HSE := hide hse
    obtain ⟨sq, sn, ss⟩ := SV
    clear hSV hse
    have z0 := HZ.out 0 _ rfl
    have x0 := HX10.out 0 _ rfl
    have x1 := HX10.out 1 _ rfl
    have x2 := HX10.out 2 _ rfl
    have x3 := HX10.out 3 _ rfl
    have x4 := HX10.out 4 _ rfl
    have x5 := HX10.out 5 _ rfl
    have x6 := HX10.out 6 _ rfl
    have x7 := HX10.out 7 _ rfl
    have lz := World.block_lt_of_cell? w7 _ z0
    have lx0 := World.block_lt_of_cell? w7 _ x0
    simp only at lz lx0
    go_wp2_with fail
    refine (HEX.out _ ((HE.out.keep rd_Lx HB.out).keep rd_Lx (below_laid _)) ((HXT.out.grow HB5.out).grow (below_laid _))).mono ?_
    rintro e w8 ⟨rfl, hb⟩
    have hb9 := bthen (below_laid _) hb
    replace HB := hide (bthen HB.out hb9)
    replace HB5 := hide (bthen HB5.out hb9)
    replace HZ := hide (HZ.out.keep hb9)
    replace HE7 := hide (HE7.out.keep hb9)
    replace HX10 := hide (HX10.out.keep hb9)
    have HV14 := hide ((Bxs.new w7 [.int .i64 rq, .int .i64 rn, .string rs] 28).keep hb)
    clear hb hb9 HEX z0 lz lx0 x0 x1 x2 x3 x4 x5 x6 x7
    by_cases hre : re = 0
    · have tr : (re != 0) = false := by rw [bne_eq_false_iff_eq]; exact hre
      obtain ⟨es1, ev1⟩ := HF.out.ev (by rw [HRE.out]; exact hre)
      have es2 : se = 0 := HSE.out.symm.trans es1
      have ev2 : (⟨sq, sn, ss⟩ : V3) = ⟨rq, rn, rs⟩ := HSV.out.symm.trans (ev1.trans HRV.out)
      injection ev2 with ev3 ev4 ev5
      subst ev3 ev4 ev5 es2
      have HEE := hide (show evalE E (.mk d args) = 0 by rw [HRE.out]; exact hre)
      have HTF := hide (@truth_not T V E (.mk d args) (.mk dx lx) HF.out HEE.out)
      rw [HRV.out] at HTF
      clear hre es1 ev1
      have a0 := HE7.out 0 _ rfl
      have a1 := HE7.out 1 _ rfl
      have a2 := HE7.out 2 _ rfl
      have a3 := HE7.out 3 _ rfl
      have a4 := HE7.out 4 _ rfl
      have a5 := HE7.out 5 _ rfl
      have a6 := HE7.out 6 _ rfl
      have a7 := HE7.out 7 _ rfl
      have v0 := HV14.out 0 _ rfl
      have la := World.block_lt_of_cell? w8 _ a0
      have lv := World.block_lt_of_cell? w8 _ v0
      simp only at la lv
      go_wp2_with fail
      have HNB := hide (not_tx (w := ((w8.alloc (.cells #[.int .i64 sq, .int .i64 sn, .string ss] 28)).alloc (.cells #[.int .i64 d.op, .slice A m cap, .int .i64 d.var, .int .i64 d.field, .int .i64 d.kind, .int .i64 d.val.q, .int .i64 d.val.n, .string d.val.s] 30)).alloc (.cells #[.int .i64 12, .slice (some ⟨w8.heap.size + 1, 0, none⟩) 1 1, .int .i64 0, .int .i64 0, .int .i64 0, .int .i64 0, .int .i64 0, .string ⟨#[]⟩] 30)) (t := .mk d args) (b := w8.heap.size + 1) (((HTX.out.grow HB.out).grow (below_laid (.cells #[.int .i64 sq, .int .i64 sn, .string ss] 28))).grow (below_laid (.cells #[.int .i64 d.op, .slice A m cap, .int .i64 d.var, .int .i64 d.field, .int .i64 d.kind, .int .i64 d.val.q, .int .i64 d.val.n, .string d.val.s] 30)) |>.grow (below_laid _)) (by first | (simp; done) | (simp; omega)) rfl (fun c u hu => by
        have h9 := cells_lit (w8.alloc (.cells #[.int .i64 sq, .int .i64 sn, .string ss] 28)) [.int .i64 d.op, .slice A m cap, .int .i64 d.var, .int .i64 d.field, .int .i64 d.kind, .int .i64 d.val.q, .int .i64 d.val.n, .string d.val.s] 30 c u hu
        rw [World.size_alloc] at h9
        exact keep1 (below_laid _) h9))
      have hw1 := (Bxs.new w8 [.int .i64 sq, .int .i64 sn, .string ss] 28).keep (below_laid (.cells #[.int .i64 d.op, .slice A m cap, .int .i64 d.var, .int .i64 d.field, .int .i64 d.kind, .int .i64 d.val.q, .int .i64 d.val.n, .string d.val.s] 30)) |>.keep (below_laid (.cells #[.int .i64 12, .slice (some ⟨w8.heap.size + 1, 0, none⟩) 1 1, .int .i64 0, .int .i64 0, .int .i64 0, .int .i64 0, .int .i64 0, .string ⟨#[]⟩] 30))
      have hw2 := Bxs.new ((w8.alloc (.cells #[.int .i64 sq, .int .i64 sn, .string ss] 28)).alloc (.cells #[.int .i64 d.op, .slice A m cap, .int .i64 d.var, .int .i64 d.field, .int .i64 d.kind, .int .i64 d.val.q, .int .i64 d.val.n, .string d.val.s] 30)) [.int .i64 12, .slice (some ⟨w8.heap.size + 1, 0, none⟩) 1 1, .int .i64 0, .int .i64 0, .int .i64 0, .int .i64 0, .int .i64 0, .string ⟨#[]⟩] 30
      rw [World.size_alloc, World.size_alloc] at hw2
      have hw3 := bthen (bthen (below_laid (w := w8) (.cells #[.int .i64 sq, .int .i64 sn, .string ss] 28)) (below_laid (.cells #[.int .i64 d.op, .slice A m cap, .int .i64 d.var, .int .i64 d.field, .int .i64 d.kind, .int .i64 d.val.q, .int .i64 d.val.n, .string d.val.s] 30))) (below_laid (.cells #[.int .i64 12, .slice (some ⟨w8.heap.size + 1, 0, none⟩) 1 1, .int .i64 0, .int .i64 0, .int .i64 0, .int .i64 0, .int .i64 0, .string ⟨#[]⟩] 30))
      obtain ⟨wb, hwb⟩ : ∃ wb, ((w8.alloc (.cells #[.int .i64 sq, .int .i64 sn, .string ss] 28)).alloc (.cells #[.int .i64 d.op, .slice A m cap, .int .i64 d.var, .int .i64 d.field, .int .i64 d.kind, .int .i64 d.val.q, .int .i64 d.val.n, .string d.val.s] 30)).alloc (.cells #[.int .i64 12, .slice (some ⟨w8.heap.size + 1, 0, none⟩) 1 1, .int .i64 0, .int .i64 0, .int .i64 0, .int .i64 0, .int .i64 0, .string ⟨#[]⟩] 30) = wb := ⟨_, rfl⟩
      have e1 : ((w8.alloc (.cells [.int .i64 sq, .int .i64 sn, .string ss].toArray 28)).alloc (.cells [.int .i64 d.op, .slice A m cap, .int .i64 d.var, .int .i64 d.field, .int .i64 d.kind, .int .i64 d.val.q, .int .i64 d.val.n, .string d.val.s].toArray 30)).alloc (.cells [.int .i64 12, .slice (some ⟨w8.heap.size + 1, 0, none⟩) 1 1, .int .i64 0, .int .i64 0, .int .i64 0, .int .i64 0, .int .i64 0, .string ⟨#[]⟩].toArray 30) = wb := hwb
      first | rw [hwb] | rw [e1] | skip
      rw [hwb] at HNB
      first | rw [hwb] at hw1 | rw [e1] at hw1 | (replace hw1 := (show Bxs wb w8.heap.size [.int .i64 sq, .int .i64 sn, .string ss] by rw [← hwb]; exact hw1))
      first | rw [hwb] at hw2 | rw [e1] at hw2 | (replace hw2 := (show Bxs wb (w8.heap.size + 1 + 1) [.int .i64 12, .slice (some ⟨w8.heap.size + 1, 0, none⟩) 1 1, .int .i64 0, .int .i64 0, .int .i64 0, .int .i64 0, .int .i64 0, .string ⟨#[]⟩] by rw [← hwb]; exact hw2))
      rw [hwb] at hw3
      have HV16 := hide hw1
      have HN18 := hide hw2
      have HWB := hide hw3
      replace HV14 := hide (HV14.out.keep HWB.out)
      replace HZ := hide (HZ.out.keep HWB.out)
      replace HX10 := hide (HX10.out.keep HWB.out)
      replace HE7 := hide (HE7.out.keep HWB.out)
      clear hw1 hw2 hw3 hwb e1 v0 la lv a0 a1 a2 a3 a4 a5 a6 a7
      have HCHN := hide (fun w' h' => xcheck_any (notT (.mk d args)) w' [.int .i64 12, .slice (some ⟨w8.heap.size + 1, 0, none⟩) 1 1, .int .i64 0, .int .i64 0, .int .i64 0, .int .i64 0, .int .i64 0, .string ⟨#[]⟩] h' (by have := HF.out.gt.nd; unfold notT; rw [nodes_1]; omega))
      have HTRN := hide (fun w' h1 h2 => xTruth_any E HFL.out (notT (.mk d args)) (by have := HF.out.gt.nd; unfold notT; rw [nodes_1]; omega) w' (.slice A3 m3 cap3) [.int .i64 12, .slice (some ⟨w8.heap.size + 1, 0, none⟩) 1 1, .int .i64 0, .int .i64 0, .int .i64 0, .int .i64 0, .int .i64 0, .string ⟨#[]⟩] h1 h2)
      obtain ⟨CN, hCN⟩ : ∃ c, checkE (notT (.mk d args)) = c := ⟨_, rfl⟩
      obtain ⟨TN, hTN⟩ : ∃ c, truthB E (notT (.mk d args)) = c := ⟨_, rfl⟩
      obtain ⟨TX, hTX⟩ : ∃ c, truthB E (.mk dx lx) = c := ⟨_, rfl⟩
      obtain ⟨TE, hTE⟩ : ∃ c, truthB E (.mk d args) = c := ⟨_, rfl⟩
      have HTV := hide (show eqQ ⟨sq, sn, ss⟩ (flagQ true) = TE by
        rw [← hTE]
        unfold truthB
        rw [HEE.out, HRV.out]
        rfl)
      rw [hCN] at HCHN HTF
      rw [hTN, hTX] at HTF
      rw [hTN] at HTRN
      rw [hTX] at HTRX
      rw [hTE] at HTR
      clear hCN hTN hTX hTE
      by_cases hk1 : kk = 1
      · subst hk1
        by_cases hq1 : sq = 1
        · subst hq1
          by_cases hc0 : CN = 0
          · refine wp_region_held_drew (S := fun w' => w'.cell? ⟨w7.heap.size, 0, none⟩ = some (.int .i64 1) ∧ w'.cell? ⟨w7.heap.size, 1, none⟩ = some (.int .i64 sn) ∧ w'.cell? ⟨w7.heap.size, 2, none⟩ = some (.string ss) ∧ w'.cell? ⟨w8.heap.size, 0, none⟩ = some (.int .i64 1) ∧ w'.cell? ⟨w8.heap.size, 1, none⟩ = some (.int .i64 sn) ∧ w'.cell? ⟨w8.heap.size, 2, none⟩ = some (.string ss) ∧ w'.cell? ⟨w8.heap.size + 1 + 1, 0, none⟩ = some (.int .i64 12) ∧ w'.cell? ⟨w8.heap.size + 1 + 1, 1, none⟩ = some (.slice (some ⟨w8.heap.size + 1, 0, none⟩) 1 1) ∧ w'.cell? ⟨w8.heap.size + 1 + 1, 2, none⟩ = some (.int .i64 0) ∧ w'.cell? ⟨w8.heap.size + 1 + 1, 3, none⟩ = some (.int .i64 0) ∧ w'.cell? ⟨w8.heap.size + 1 + 1, 4, none⟩ = some (.int .i64 0) ∧ w'.cell? ⟨w8.heap.size + 1 + 1, 5, none⟩ = some (.int .i64 0) ∧ w'.cell? ⟨w8.heap.size + 1 + 1, 6, none⟩ = some (.int .i64 0) ∧ w'.cell? ⟨w8.heap.size + 1 + 1, 7, none⟩ = some (.string ⟨#[]⟩) ∧ w'.cell? ⟨w.heap.size + 1, 0, none⟩ = some (.slice A3 m3 cap3) ∧ w'.cell? ⟨w5.heap.size, 0, none⟩ = some (.int .i64 dx.op) ∧ w'.cell? ⟨w5.heap.size, 1, none⟩ = some (.slice Ax nx capx) ∧ w'.cell? ⟨w5.heap.size, 2, none⟩ = some (.int .i64 dx.var) ∧ w'.cell? ⟨w5.heap.size, 3, none⟩ = some (.int .i64 dx.field) ∧ w'.cell? ⟨w5.heap.size, 4, none⟩ = some (.int .i64 dx.kind) ∧ w'.cell? ⟨w5.heap.size, 5, none⟩ = some (.int .i64 dx.val.q) ∧ w'.cell? ⟨w5.heap.size, 6, none⟩ = some (.int .i64 dx.val.n) ∧ w'.cell? ⟨w5.heap.size, 7, none⟩ = some (.string dx.val.s) ∧ w'.cell? ⟨w3.heap.size, 0, none⟩ = some (.int .i64 d.op) ∧ w'.cell? ⟨w3.heap.size, 1, none⟩ = some (.slice A m cap) ∧ w'.cell? ⟨w3.heap.size, 2, none⟩ = some (.int .i64 d.var) ∧ w'.cell? ⟨w3.heap.size, 3, none⟩ = some (.int .i64 d.field) ∧ w'.cell? ⟨w3.heap.size, 4, none⟩ = some (.int .i64 d.kind) ∧ w'.cell? ⟨w3.heap.size, 5, none⟩ = some (.int .i64 d.val.q) ∧ w'.cell? ⟨w3.heap.size, 6, none⟩ = some (.int .i64 d.val.n) ∧ w'.cell? ⟨w3.heap.size, 7, none⟩ = some (.string d.val.s) ∧ Below wb.heap.size wb w') (by kernel_rfl) ⟨HV14.out 0 _ rfl, HV14.out 1 _ rfl, HV14.out 2 _ rfl, HV16.out 0 _ rfl, HV16.out 1 _ rfl, HV16.out 2 _ rfl, HN18.out 0 _ rfl, HN18.out 1 _ rfl, HN18.out 2 _ rfl, HN18.out 3 _ rfl, HN18.out 4 _ rfl, HN18.out 5 _ rfl, HN18.out 6 _ rfl, HN18.out 7 _ rfl, HZ.out 0 _ rfl, HX10.out 0 _ rfl, HX10.out 1 _ rfl, HX10.out 2 _ rfl, HX10.out 3 _ rfl, HX10.out 4 _ rfl, HX10.out 5 _ rfl, HX10.out 6 _ rfl, HX10.out 7 _ rfl, HE7.out 0 _ rfl, HE7.out 1 _ rfl, HE7.out 2 _ rfl, HE7.out 3 _ rfl, HE7.out 4 _ rfl, HE7.out 5 _ rfl, HE7.out 6 _ rfl, HE7.out 7 _ rfl, (Below.refl _ _).drew⟩ (fun hHeld => ?_)
            refine wpAnyH_take (i := 0) (v := ?_) rfl (by kernel_rfl) (by kernel_rfl) (by kernel_rfl) (fun _ _ _ h => h) (Or.inl ⟨by rfl, ?_⟩) (by assumption) ?_
            rotate_left
            · intro w hSw
              (try dsimp only at hSw)
              go_simp
              all_goals with_reducible rfl
            try simp only [List.getElem_toArray, List.getElem_cons_succ, List.getElem_cons_zero, Act.put, List.setIfInBounds_toArray, List.set_cons_zero, List.set_cons_succ]
            refine wpAnyH_take (i := 1) (v := ?_) rfl (by kernel_rfl) (by kernel_rfl) (by kernel_rfl) (fun _ _ _ h => h) (Or.inl ⟨by rfl, ?_⟩) (by assumption) ?_
            rotate_left
            · intro w hSw
              (try dsimp only at hSw)
              go_simp
              all_goals with_reducible rfl
            try simp only [List.getElem_toArray, List.getElem_cons_succ, List.getElem_cons_zero, Act.put, List.setIfInBounds_toArray, List.set_cons_zero, List.set_cons_succ]
            refine wpAnyH_take (i := 2) (v := ?_) rfl (by kernel_rfl) (by kernel_rfl) (by kernel_rfl) (fun _ _ _ h => h) (Or.inl ⟨by rfl, ?_⟩) (by assumption) ?_
            rotate_left
            · intro w hSw
              (try dsimp only at hSw)
              go_simp
              all_goals with_reducible rfl
            try simp only [List.getElem_toArray, List.getElem_cons_succ, List.getElem_cons_zero, Act.put, List.setIfInBounds_toArray, List.set_cons_zero, List.set_cons_succ]
            refine wpAnyH_take (i := 3) (v := ?_) rfl (by kernel_rfl) (by kernel_rfl) (by kernel_rfl) (fun _ _ _ h => h) (Or.inl ⟨by rfl, ?_⟩) (by assumption) ?_
            rotate_left
            · intro w hSw
              (try dsimp only at hSw)
              go_simp
              all_goals with_reducible rfl
            try simp only [List.getElem_toArray, List.getElem_cons_succ, List.getElem_cons_zero, Act.put, List.setIfInBounds_toArray, List.set_cons_zero, List.set_cons_succ]
            refine wpAnyH_take (i := 4) (v := ?_) rfl (by kernel_rfl) (by kernel_rfl) (by kernel_rfl) (fun _ _ _ h => h) (Or.inl ⟨by rfl, ?_⟩) (by assumption) ?_
            rotate_left
            · intro w hSw
              (try dsimp only at hSw)
              go_simp
              all_goals with_reducible rfl
            try simp only [List.getElem_toArray, List.getElem_cons_succ, List.getElem_cons_zero, Act.put, List.setIfInBounds_toArray, List.set_cons_zero, List.set_cons_succ]
            refine wpAnyH_take (i := 5) (v := ?_) rfl (by kernel_rfl) (by kernel_rfl) (by kernel_rfl) (fun _ _ _ h => h) (Or.inl ⟨by rfl, ?_⟩) (by assumption) ?_
            rotate_left
            · intro w hSw
              (try dsimp only at hSw)
              go_simp
              all_goals with_reducible rfl
            try simp only [List.getElem_toArray, List.getElem_cons_succ, List.getElem_cons_zero, Act.put, List.setIfInBounds_toArray, List.set_cons_zero, List.set_cons_succ]
            refine wpAnyH_take (i := 6) (v := ?_) rfl (by kernel_rfl) (by kernel_rfl) (by kernel_rfl) (fun _ _ _ h => h) (Or.inl ⟨by rfl, ?_⟩) (by assumption) ?_
            rotate_left
            · intro w hSw
              (try dsimp only at hSw)
              go_simp
              all_goals with_reducible rfl
            try simp only [List.getElem_toArray, List.getElem_cons_succ, List.getElem_cons_zero, Act.put, List.setIfInBounds_toArray, List.set_cons_zero, List.set_cons_succ]
            refine wpAnyH_take (i := 7) (v := ?_) rfl (by kernel_rfl) (by kernel_rfl) (by kernel_rfl) (fun _ _ _ h => h) (Or.inl ⟨by rfl, ?_⟩) (by assumption) ?_
            rotate_left
            · intro w hSw
              (try dsimp only at hSw)
              go_simp
              all_goals with_reducible rfl
            try simp only [List.getElem_toArray, List.getElem_cons_succ, List.getElem_cons_zero, Act.put, List.setIfInBounds_toArray, List.set_cons_zero, List.set_cons_succ]
            refine wpAnyH_take (i := 8) (v := ?_) rfl (by kernel_rfl) (by kernel_rfl) (by kernel_rfl) (fun _ _ _ h => h) (Or.inl ⟨by rfl, ?_⟩) (by assumption) ?_
            rotate_left
            · intro w hSw
              (try dsimp only at hSw)
              go_simp
              all_goals with_reducible rfl
            try simp only [List.getElem_toArray, List.getElem_cons_succ, List.getElem_cons_zero, Act.put, List.setIfInBounds_toArray, List.set_cons_zero, List.set_cons_succ]
            refine wpAnyH_take (i := 9) (v := ?_) rfl (by kernel_rfl) (by kernel_rfl) (by kernel_rfl) (fun _ _ _ h => h) (Or.inl ⟨by rfl, ?_⟩) (by assumption) ?_
            rotate_left
            · intro w hSw
              (try dsimp only at hSw)
              go_simp
              all_goals with_reducible rfl
            try simp only [List.getElem_toArray, List.getElem_cons_succ, List.getElem_cons_zero, Act.put, List.setIfInBounds_toArray, List.set_cons_zero, List.set_cons_succ]
            refine wpAnyH_take (i := 10) (v := ?_) rfl (by kernel_rfl) (by kernel_rfl) (by kernel_rfl) (fun _ _ _ h => h) (Or.inl ⟨by rfl, ?_⟩) (by assumption) ?_
            rotate_left
            · intro w hSw
              (try dsimp only at hSw)
              go_simp
              all_goals with_reducible rfl
            try simp only [List.getElem_toArray, List.getElem_cons_succ, List.getElem_cons_zero, Act.put, List.setIfInBounds_toArray, List.set_cons_zero, List.set_cons_succ]
            refine wpAnyH_take (i := 11) (v := ?_) rfl (by kernel_rfl) (by kernel_rfl) (by kernel_rfl) (fun _ _ _ h => h) (Or.inl ⟨by rfl, ?_⟩) (by assumption) ?_
            rotate_left
            · intro w hSw
              (try dsimp only at hSw)
              go_simp
              all_goals with_reducible rfl
            try simp only [List.getElem_toArray, List.getElem_cons_succ, List.getElem_cons_zero, Act.put, List.setIfInBounds_toArray, List.set_cons_zero, List.set_cons_succ]
            refine wpAnyH_take (i := 12) (v := ?_) rfl (by kernel_rfl) (by kernel_rfl) (by kernel_rfl) (fun _ _ _ h => h) (Or.inl ⟨by rfl, ?_⟩) (by assumption) ?_
            rotate_left
            · intro w hSw
              (try dsimp only at hSw)
              go_simp
              all_goals with_reducible rfl
            try simp only [List.getElem_toArray, List.getElem_cons_succ, List.getElem_cons_zero, Act.put, List.setIfInBounds_toArray, List.set_cons_zero, List.set_cons_succ]
            refine wpAnyH_take (i := 13) (v := ?_) rfl (by kernel_rfl) (by kernel_rfl) (by kernel_rfl) (fun _ _ _ h => h) (Or.inl ⟨by rfl, ?_⟩) (by assumption) ?_
            rotate_left
            · intro w hSw
              (try dsimp only at hSw)
              go_simp
              all_goals with_reducible rfl
            try simp only [List.getElem_toArray, List.getElem_cons_succ, List.getElem_cons_zero, Act.put, List.setIfInBounds_toArray, List.set_cons_zero, List.set_cons_succ]
            refine wpAnyH_take (i := 14) (v := ?_) rfl (by kernel_rfl) (by kernel_rfl) (by kernel_rfl) (fun _ _ _ h => h) (Or.inl ⟨by rfl, ?_⟩) (by assumption) ?_
            rotate_left
            · intro w hSw
              (try dsimp only at hSw)
              go_simp
              all_goals with_reducible rfl
            try simp only [List.getElem_toArray, List.getElem_cons_succ, List.getElem_cons_zero, Act.put, List.setIfInBounds_toArray, List.set_cons_zero, List.set_cons_succ]
            refine wpAnyH_take (i := 15) (v := ?_) rfl (by kernel_rfl) (by kernel_rfl) (by kernel_rfl) (fun _ _ _ h => h) (Or.inl ⟨by rfl, ?_⟩) (by assumption) ?_
            rotate_left
            · intro w hSw
              (try dsimp only at hSw)
              go_simp
              all_goals with_reducible rfl
            try simp only [List.getElem_toArray, List.getElem_cons_succ, List.getElem_cons_zero, Act.put, List.setIfInBounds_toArray, List.set_cons_zero, List.set_cons_succ]
            refine wpAnyH_take (i := 16) (v := ?_) rfl (by kernel_rfl) (by kernel_rfl) (by kernel_rfl) (fun _ _ _ h => h) (Or.inl ⟨by rfl, ?_⟩) (by assumption) ?_
            rotate_left
            · intro w hSw
              (try dsimp only at hSw)
              go_simp
              all_goals with_reducible rfl
            try simp only [List.getElem_toArray, List.getElem_cons_succ, List.getElem_cons_zero, Act.put, List.setIfInBounds_toArray, List.set_cons_zero, List.set_cons_succ]
            refine wpAnyH_take (i := 17) (v := ?_) rfl (by kernel_rfl) (by kernel_rfl) (by kernel_rfl) (fun _ _ _ h => h) (Or.inl ⟨by rfl, ?_⟩) (by assumption) ?_
            rotate_left
            · intro w hSw
              (try dsimp only at hSw)
              go_simp
              all_goals with_reducible rfl
            try simp only [List.getElem_toArray, List.getElem_cons_succ, List.getElem_cons_zero, Act.put, List.setIfInBounds_toArray, List.set_cons_zero, List.set_cons_succ]
            refine wpAnyH_ready (rs := [18]) (by kernel_rfl) (by simp) ?_
            refine AllReadyH.cons rfl (fun K hK => ?_) AllReadyH.nil
            simp only [List.getElem_toArray, List.getElem_cons_succ, List.getElem_cons_zero]
            have HHL := hide hHeld
            obtain ⟨z0, z1, z2, z3, z4, z5, z6, z7, z8, z9, z10, z11, z12, z13, z14, z15, z16, z17, z18, z19, z20, z21, z22, z23, z24, z25, z26, z27, z28, z29, z30, hwl⟩ := id hHeld
            have HBL := hide hwl
            clear hwl hHeld
            go_simp
            clear z0 z1 z2 z3 z4 z5 z6 z7 z8 z9 z10 z11 z12 z13 z14 z15 z16 z17 z18 z19 z20 z21 z22 z23 z24 z25 z26 z27 z28 z29 z30
            go_at_call 10
            refine (HCHN.out _ (HNB.out.grow HBL.out)).mono ?_
            rintro en9 wk ⟨rfl, hbk⟩
            obtain ⟨z0, z1, z2, z3, z4, z5, z6, z7, z8, z9, z10, z11, z12, z13, z14, z15, z16, z17, z18, z19, z20, z21, z22, z23, z24, z25, z26, z27, z28, z29, z30, hwl⟩ := HHL.out
            refine hK _ _ ⟨keep1 hbk z0, keep1 hbk z1, keep1 hbk z2, keep1 hbk z3, keep1 hbk z4, keep1 hbk z5, keep1 hbk z6, keep1 hbk z7, keep1 hbk z8, keep1 hbk z9, keep1 hbk z10, keep1 hbk z11, keep1 hbk z12, keep1 hbk z13, keep1 hbk z14, keep1 hbk z15, keep1 hbk z16, keep1 hbk z17, keep1 hbk z18, keep1 hbk z19, keep1 hbk z20, keep1 hbk z21, keep1 hbk z22, keep1 hbk z23, keep1 hbk z24, keep1 hbk z25, keep1 hbk z26, keep1 hbk z27, keep1 hbk z28, keep1 hbk z29, keep1 hbk z30, bthen hwl hbk⟩ (fun hHeld => ?_)
            clear hK K z0 z1 z2 z3 z4 z5 z6 z7 z8 z9 z10 z11 z12 z13 z14 z15 z16 z17 z18 z19 z20 z21 z22 z23 z24 z25 z26 z27 z28 z29 z30 hwl hbk HHL HBL
            try simp only [List.getElem_toArray, List.getElem_cons_succ, List.getElem_cons_zero, Act.put, List.setIfInBounds_toArray, List.set_cons_zero, List.set_cons_succ]
            have te : (CN == 0) = true := by rw [beq_iff_eq]; exact hc0
            have hdif := HTF.out rfl hc0
            clear hc0
            refine wpAnyH_take (i := 19) (v := ?_) rfl (by kernel_rfl) (by kernel_rfl) (by kernel_rfl) (fun _ _ _ h => h) (Or.inl ⟨by rfl, ?_⟩) (by assumption) ?_
            rotate_left
            · intro w hSw
              (try dsimp only at hSw)
              go_simp
              all_goals with_reducible rfl
            try simp only [List.getElem_toArray, List.getElem_cons_succ, List.getElem_cons_zero, Act.put, List.setIfInBounds_toArray, List.set_cons_zero, List.set_cons_succ]
            refine wpAnyH_take (i := 20) (v := ?_) rfl (by kernel_rfl) (by kernel_rfl) (by kernel_rfl) (fun _ _ _ h => h) (Or.inl ⟨by rfl, ?_⟩) (by assumption) ?_
            rotate_left
            · intro w hSw
              (try dsimp only at hSw)
              go_simp
              all_goals with_reducible rfl
            try simp only [List.getElem_toArray, List.getElem_cons_succ, List.getElem_cons_zero, Act.put, List.setIfInBounds_toArray, List.set_cons_zero, List.set_cons_succ]
            refine wpAnyH_take (i := 21) (v := ?_) rfl (by kernel_rfl) (by kernel_rfl) (by kernel_rfl) (fun _ _ _ h => h) (Or.inl ⟨by rfl, ?_⟩) (by assumption) ?_
            rotate_left
            · intro w hSw
              (try dsimp only at hSw)
              go_simp
              all_goals with_reducible rfl
            try simp only [List.getElem_toArray, List.getElem_cons_succ, List.getElem_cons_zero, Act.put, List.setIfInBounds_toArray, List.set_cons_zero, List.set_cons_succ]
            refine wpAnyH_take (i := 22) (v := ?_) rfl (by kernel_rfl) (by kernel_rfl) (by kernel_rfl) (fun _ _ _ h => h) (Or.inl ⟨by rfl, ?_⟩) (by assumption) ?_
            rotate_left
            · intro w hSw
              (try dsimp only at hSw)
              go_simp
              all_goals with_reducible rfl
            try simp only [List.getElem_toArray, List.getElem_cons_succ, List.getElem_cons_zero, Act.put, List.setIfInBounds_toArray, List.set_cons_zero, List.set_cons_succ]
            refine wpAnyH_take (i := 23) (v := ?_) rfl (by kernel_rfl) (by kernel_rfl) (by kernel_rfl) (fun _ _ _ h => h) (Or.inl ⟨by rfl, ?_⟩) (by assumption) ?_
            rotate_left
            · intro w hSw
              (try dsimp only at hSw)
              go_simp
              all_goals with_reducible rfl
            try simp only [List.getElem_toArray, List.getElem_cons_succ, List.getElem_cons_zero, Act.put, List.setIfInBounds_toArray, List.set_cons_zero, List.set_cons_succ]
            refine wpAnyH_take (i := 24) (v := ?_) rfl (by kernel_rfl) (by kernel_rfl) (by kernel_rfl) (fun _ _ _ h => h) (Or.inl ⟨by rfl, ?_⟩) (by assumption) ?_
            rotate_left
            · intro w hSw
              (try dsimp only at hSw)
              go_simp
              all_goals with_reducible rfl
            try simp only [List.getElem_toArray, List.getElem_cons_succ, List.getElem_cons_zero, Act.put, List.setIfInBounds_toArray, List.set_cons_zero, List.set_cons_succ]
            refine wpAnyH_take (i := 26) (v := ?_) rfl (by kernel_rfl) (by kernel_rfl) (by kernel_rfl) (fun _ _ _ h => h) (Or.inl ⟨by rfl, ?_⟩) (by assumption) ?_
            rotate_left
            · intro w hSw
              (try dsimp only at hSw)
              go_simp
              all_goals with_reducible rfl
            try simp only [List.getElem_toArray, List.getElem_cons_succ, List.getElem_cons_zero, Act.put, List.setIfInBounds_toArray, List.set_cons_zero, List.set_cons_succ]
            refine wpAnyH_take (i := 27) (v := ?_) rfl (by kernel_rfl) (by kernel_rfl) (by kernel_rfl) (fun _ _ _ h => h) (Or.inl ⟨by rfl, ?_⟩) (by assumption) ?_
            rotate_left
            · intro w hSw
              (try dsimp only at hSw)
              go_simp
              all_goals with_reducible rfl
            try simp only [List.getElem_toArray, List.getElem_cons_succ, List.getElem_cons_zero, Act.put, List.setIfInBounds_toArray, List.set_cons_zero, List.set_cons_succ]
            refine wpAnyH_take (i := 28) (v := ?_) rfl (by kernel_rfl) (by kernel_rfl) (by kernel_rfl) (fun _ _ _ h => h) (Or.inl ⟨by rfl, ?_⟩) (by assumption) ?_
            rotate_left
            · intro w hSw
              (try dsimp only at hSw)
              go_simp
              all_goals with_reducible rfl
            try simp only [List.getElem_toArray, List.getElem_cons_succ, List.getElem_cons_zero, Act.put, List.setIfInBounds_toArray, List.set_cons_zero, List.set_cons_succ]
            refine wpAnyH_ready (rs := [25]) (by kernel_rfl) (by simp) ?_
            refine AllReadyH.cons rfl (fun K hK => ?_) AllReadyH.nil
            simp only [List.getElem_toArray, List.getElem_cons_succ, List.getElem_cons_zero]
            have HHL := hide hHeld
            obtain ⟨z0, z1, z2, z3, z4, z5, z6, z7, z8, z9, z10, z11, z12, z13, z14, z15, z16, z17, z18, z19, z20, z21, z22, z23, z24, z25, z26, z27, z28, z29, z30, hwl⟩ := id hHeld
            have HBL := hide hwl
            clear hwl hHeld
            go_simp
            clear z0 z1 z2 z3 z4 z5 z6 z7 z8 z9 z10 z11 z12 z13 z14 z15 z16 z17 z18 z19 z20 z21 z22 z23 z24 z25 z26 z27 z28 z29 z30
            go_at_call 11
            refine (HTRN.out _ (HE.out.keep rd_Lx (bthen (bthen HB.out HWB.out) HBL.out)) (HNB.out.grow HBL.out)).mono ?_
            rintro en9 wk ⟨rfl, hbk⟩
            obtain ⟨z0, z1, z2, z3, z4, z5, z6, z7, z8, z9, z10, z11, z12, z13, z14, z15, z16, z17, z18, z19, z20, z21, z22, z23, z24, z25, z26, z27, z28, z29, z30, hwl⟩ := HHL.out
            refine hK _ _ ⟨keep1 hbk z0, keep1 hbk z1, keep1 hbk z2, keep1 hbk z3, keep1 hbk z4, keep1 hbk z5, keep1 hbk z6, keep1 hbk z7, keep1 hbk z8, keep1 hbk z9, keep1 hbk z10, keep1 hbk z11, keep1 hbk z12, keep1 hbk z13, keep1 hbk z14, keep1 hbk z15, keep1 hbk z16, keep1 hbk z17, keep1 hbk z18, keep1 hbk z19, keep1 hbk z20, keep1 hbk z21, keep1 hbk z22, keep1 hbk z23, keep1 hbk z24, keep1 hbk z25, keep1 hbk z26, keep1 hbk z27, keep1 hbk z28, keep1 hbk z29, keep1 hbk z30, bthen hwl hbk⟩ (fun hHeld => ?_)
            clear hK K z0 z1 z2 z3 z4 z5 z6 z7 z8 z9 z10 z11 z12 z13 z14 z15 z16 z17 z18 z19 z20 z21 z22 z23 z24 z25 z26 z27 z28 z29 z30 hwl hbk HHL HBL
            try simp only [List.getElem_toArray, List.getElem_cons_succ, List.getElem_cons_zero, Act.put, List.setIfInBounds_toArray, List.set_cons_zero, List.set_cons_succ]
            refine wpAnyH_ready (rs := [29]) (by kernel_rfl) (by simp) ?_
            refine AllReadyH.cons rfl (fun K hK => ?_) AllReadyH.nil
            simp only [List.getElem_toArray, List.getElem_cons_succ, List.getElem_cons_zero]
            have HHL := hide hHeld
            obtain ⟨z0, z1, z2, z3, z4, z5, z6, z7, z8, z9, z10, z11, z12, z13, z14, z15, z16, z17, z18, z19, z20, z21, z22, z23, z24, z25, z26, z27, z28, z29, z30, hwl⟩ := id hHeld
            have HBL := hide hwl
            clear hwl hHeld
            go_simp
            clear z0 z1 z2 z3 z4 z5 z6 z7 z8 z9 z10 z11 z12 z13 z14 z15 z16 z17 z18 z19 z20 z21 z22 z23 z24 z25 z26 z27 z28 z29 z30
            go_at_call 11
            refine (HTRX.out _ (HE.out.keep rd_Lx (bthen (bthen HB.out HWB.out) HBL.out)) (HXT.out.grow (bthen (bthen HB5.out HWB.out) HBL.out))).mono ?_
            rintro en9 wk ⟨rfl, hbk⟩
            obtain ⟨z0, z1, z2, z3, z4, z5, z6, z7, z8, z9, z10, z11, z12, z13, z14, z15, z16, z17, z18, z19, z20, z21, z22, z23, z24, z25, z26, z27, z28, z29, z30, hwl⟩ := HHL.out
            refine hK _ _ ⟨keep1 hbk z0, keep1 hbk z1, keep1 hbk z2, keep1 hbk z3, keep1 hbk z4, keep1 hbk z5, keep1 hbk z6, keep1 hbk z7, keep1 hbk z8, keep1 hbk z9, keep1 hbk z10, keep1 hbk z11, keep1 hbk z12, keep1 hbk z13, keep1 hbk z14, keep1 hbk z15, keep1 hbk z16, keep1 hbk z17, keep1 hbk z18, keep1 hbk z19, keep1 hbk z20, keep1 hbk z21, keep1 hbk z22, keep1 hbk z23, keep1 hbk z24, keep1 hbk z25, keep1 hbk z26, keep1 hbk z27, keep1 hbk z28, keep1 hbk z29, keep1 hbk z30, bthen hwl hbk⟩ (fun hHeld => ?_)
            clear hK K z0 z1 z2 z3 z4 z5 z6 z7 z8 z9 z10 z11 z12 z13 z14 z15 z16 z17 z18 z19 z20 z21 z22 z23 z24 z25 z26 z27 z28 z29 z30 hwl hbk HHL HBL
            try simp only [List.getElem_toArray, List.getElem_cons_succ, List.getElem_cons_zero, Act.put, List.setIfInBounds_toArray, List.set_cons_zero, List.set_cons_succ]
            have te2 : (TN == TX) = false := hdif
            refine wpAnyH_take (i := 30) (v := ?_) rfl (by kernel_rfl) (by kernel_rfl) (by kernel_rfl) (fun _ _ _ h => h) (Or.inl ⟨by rfl, ?_⟩) (by assumption) ?_
            rotate_left
            · intro w hSw
              (try dsimp only at hSw)
              go_simp
              all_goals with_reducible rfl
            try simp only [List.getElem_toArray, List.getElem_cons_succ, List.getElem_cons_zero, Act.put, List.setIfInBounds_toArray, List.set_cons_zero, List.set_cons_succ]
            refine wpAnyH_take (i := 31) (v := ?_) rfl (by kernel_rfl) (by kernel_rfl) (by kernel_rfl) (fun _ _ _ h => h) (Or.inl ⟨by rfl, ?_⟩) (by assumption) ?_
            rotate_left
            · intro w hSw
              (try dsimp only at hSw)
              go_simp
              all_goals with_reducible rfl
            try simp only [List.getElem_toArray, List.getElem_cons_succ, List.getElem_cons_zero, Act.put, List.setIfInBounds_toArray, List.set_cons_zero, List.set_cons_succ]
            refine wpAnyH_take (i := 32) (v := ?_) rfl (by kernel_rfl) (by kernel_rfl) (by kernel_rfl) (fun _ _ _ h => h) (Or.inl ⟨by rfl, ?_⟩) (by assumption) ?_
            rotate_left
            · intro w hSw
              (try dsimp only at hSw)
              go_simp
              all_goals with_reducible rfl
            try simp only [List.getElem_toArray, List.getElem_cons_succ, List.getElem_cons_zero, Act.put, List.setIfInBounds_toArray, List.set_cons_zero, List.set_cons_succ]
            refine wpAnyH_done (by kernel_rfl) ?_ _
            have HSF := hide hHeld
            clear hHeld
            obtain ⟨z0, z1, z2, z3, z4, z5, z6, z7, z8, z9, z10, z11, z12, z13, z14, z15, z16, z17, z18, z19, z20, z21, z22, z23, z24, z25, z26, z27, z28, z29, z30, hwl⟩ := HSF.out
            clear z3 z4 z5 z6 z7 z8 z9 z10 z11 z12 z13 z15 z16 z17 z18 z19 z20 z21 z22 HSF
            have HZC := hide (And.intro hwl (And.intro z0 (And.intro z1 (And.intro z2 z14))))
            have HZ70 := hide z23
            have HZ71 := hide z24
            have HZ72 := hide z25
            have HZ73 := hide z26
            have HZ74 := hide z27
            have HZ75 := hide z28
            have HZ76 := hide z29
            have HZ77 := hide z30
            clear z0 z1 z2 z14 z23 z24 z25 z26 z27 z28 z29 z30 hwl
            go_wp2_with fail
            have HRFL := hide (fun w => rflag_any w true)
            obtain ⟨fl, hfl⟩ : ∃ f, flagQ true = f := ⟨_, rfl⟩
            rw [hfl] at HRFL HTV
            obtain ⟨fq, fn, fs⟩ := fl
            clear hfl
            refine wp_region_grow 8 [142, 143, 144, 145, 146, 147, 148, 149] [Fix (.agg #[.int .i64 d.op, .slice A m cap, .int .i64 d.var, .int .i64 d.field, .int .i64 d.kind, .int .i64 d.val.q, .int .i64 d.val.n, .string d.val.s]), Fix (.agg #[.slice A3 m3 cap3]), Fix (.agg #[.int .i64 0, .int .i64 0, .int .i64 0, .int .i64 0, .slice none 0 0]), Fix (.bool TE), Fix (.agg #[.int .i64 1, .int .i64 sn, .string ss]), Fix (.agg #[.int .i64 fq, .int .i64 fn, .string fs]), Fix (.bool TE), Fix (.bool true)] (by kernel_rfl) (by kernel_rfl) (by kernel_rfl) (by kernel_rfl) (by kernel_rfl) ?_ ?_ ?_
            · intro p hp
              simp only [List.mem_cons, List.not_mem_nil, or_false] at hp
              rcases hp with rfl | rfl | rfl | rfl | rfl | rfl | rfl | rfl
              all_goals exact fun _ _ _ _ h => h
            · intro j9 o9 hj9 ho x w5' hb hd
              have hjc : j9 = 0 ∨ j9 = 1 ∨ j9 = 2 ∨ j9 = 3 ∨ j9 = 4 ∨ j9 = 5 ∨ j9 = 6 ∨ j9 = 7 := by omega
              have HWC := hide (bthen (bthen (bthen HB.out HWB.out) HZC.out.1) hb)
              rcases hjc with rfl | rfl | rfl | rfl | rfl | rfl | rfl | rfl
              all_goals obtain rfl := Option.some.inj ho
              all_goals generalize hK : (fun (a' : Act) (w' : World) => _) = K
              all_goals simp only [puts]
              · have y0 := keep1 hb HZ70.out
                have y1 := keep1 hb HZ71.out
                have y2 := keep1 hb HZ72.out
                have y3 := keep1 hb HZ73.out
                have y4 := keep1 hb HZ74.out
                have y5 := keep1 hb HZ75.out
                have y6 := keep1 hb HZ76.out
                have y7 := keep1 hb HZ77.out
                go_simp
                rw [← hK]
                exact ⟨.agg #[.int .i64 d.op, .slice A m cap, .int .i64 d.var, .int .i64 d.field, .int .i64 d.kind, .int .i64 d.val.q, .int .i64 d.val.n, .string d.val.s], (by simp only [puts]; go_simp), Below.refl _ _, rfl⟩
              · have y0 := keep1 hb HZC.out.2.2.2.2
                go_simp
                rw [← hK]
                exact ⟨.agg #[.slice A3 m3 cap3], (by simp only [puts]; go_simp), Below.refl _ _, rfl⟩
              · go_simp
                rw [← hK]
                exact ⟨.agg #[.int .i64 0, .int .i64 0, .int .i64 0, .int .i64 0, .slice none 0 0], (by simp only [puts]; go_simp), Below.refl _ _, rfl⟩
              · have e0 : x 142 = .agg #[.int .i64 d.op, .slice A m cap, .int .i64 d.var, .int .i64 d.field, .int .i64 d.kind, .int .i64 d.val.q, .int .i64 d.val.n, .string d.val.s] := hd 0 (by kernel_rfl)
                have e1 : x 143 = .agg #[.slice A3 m3 cap3] := hd 1 (by kernel_rfl)
                have e2 : x 144 = .agg #[.int .i64 0, .int .i64 0, .int .i64 0, .int .i64 0, .slice none 0 0] := hd 2 (by kernel_rfl)
                have HCL := hide (HTR.out w5' (HE.out.keep rd_Lx HWC.out) (HTX.out.grow HWC.out))
                go_simp
                go_at_call 11
                refine HCL.out.mono ?_
                rintro en9 w9 ⟨rfl, hbc⟩
                rw [← hK]
                exact ⟨.bool TE, (by simp only [puts]; go_simp), hbc, rfl⟩
              · have y0 := keep1 hb HZC.out.2.1
                have y1 := keep1 hb HZC.out.2.2.1
                have y2 := keep1 hb HZC.out.2.2.2.1
                go_simp
                rw [← hK]
                exact ⟨.agg #[.int .i64 1, .int .i64 sn, .string ss], (by simp only [puts]; go_simp), Below.refl _ _, rfl⟩
              · go_simp
                go_at_call 12
                refine (HRFL.out _).mono ?_
                rintro en9 w9 ⟨rfl, hbc⟩
                rw [← hK]
                exact ⟨.agg #[.int .i64 fq, .int .i64 fn, .string fs], (by simp only [puts]; go_simp), hbc, rfl⟩
              · have e0 : x 146 = .agg #[.int .i64 1, .int .i64 sn, .string ss] := hd 4 (by kernel_rfl)
                have e1 : x 147 = .agg #[.int .i64 fq, .int .i64 fn, .string fs] := hd 5 (by kernel_rfl)
                have HEVL := hide (fun (X Y : Result Next) => (show (if 1 = fq then if sn = fn then if ss.toList = fs.toList then X else Y else Y else Y) = if TE = true then X else Y by rw [← HTV.out]; exact eql_v3 ⟨1, sn, ss⟩ ⟨fq, fn, fs⟩ X Y))
                go_simp
                rw [HEVL.out]
                clear HEVL
                cases TE
                · go_simp
                  rw [← hK]
                  exact ⟨.bool false, (by simp only [puts]; go_simp), Below.refl _ _, rfl⟩
                · go_simp
                  rw [← hK]
                  exact ⟨.bool true, (by simp only [puts]; go_simp), Below.refl _ _, rfl⟩
              · have e0 : x 145 = .bool TE := hd 3 (by kernel_rfl)
                have e1 : x 148 = .bool TE := hd 6 (by kernel_rfl)
                cases TE
                · go_simp
                  rw [← hK]
                  exact ⟨.bool true, (by simp only [puts]; go_simp), Below.refl _ _, rfl⟩
                · go_simp
                  rw [← hK]
                  exact ⟨.bool true, (by simp only [puts]; go_simp), Below.refl _ _, rfl⟩
            · intro x w9 hb hP
              have e : x 149 = .bool true := hP 7 (by decide)
              have HWF := hide (bthen (bthen (bthen HB.out HWB.out) HZC.out.1) hb)
              clear hP hb
              simp only [puts, Act.put, List.setIfInBounds_toArray, List.set_cons_succ, List.set_cons_zero, List.drop]
              rw [e]
              clear e
              go_wp2
              go_ret
              exact Ret.mk rfl HWF.out
          · refine wp_region_held_drew (S := fun w' => w'.cell? ⟨w7.heap.size, 0, none⟩ = some (.int .i64 1) ∧ w'.cell? ⟨w7.heap.size, 1, none⟩ = some (.int .i64 sn) ∧ w'.cell? ⟨w7.heap.size, 2, none⟩ = some (.string ss) ∧ w'.cell? ⟨w8.heap.size, 0, none⟩ = some (.int .i64 1) ∧ w'.cell? ⟨w8.heap.size, 1, none⟩ = some (.int .i64 sn) ∧ w'.cell? ⟨w8.heap.size, 2, none⟩ = some (.string ss) ∧ w'.cell? ⟨w8.heap.size + 1 + 1, 0, none⟩ = some (.int .i64 12) ∧ w'.cell? ⟨w8.heap.size + 1 + 1, 1, none⟩ = some (.slice (some ⟨w8.heap.size + 1, 0, none⟩) 1 1) ∧ w'.cell? ⟨w8.heap.size + 1 + 1, 2, none⟩ = some (.int .i64 0) ∧ w'.cell? ⟨w8.heap.size + 1 + 1, 3, none⟩ = some (.int .i64 0) ∧ w'.cell? ⟨w8.heap.size + 1 + 1, 4, none⟩ = some (.int .i64 0) ∧ w'.cell? ⟨w8.heap.size + 1 + 1, 5, none⟩ = some (.int .i64 0) ∧ w'.cell? ⟨w8.heap.size + 1 + 1, 6, none⟩ = some (.int .i64 0) ∧ w'.cell? ⟨w8.heap.size + 1 + 1, 7, none⟩ = some (.string ⟨#[]⟩) ∧ w'.cell? ⟨w.heap.size + 1, 0, none⟩ = some (.slice A3 m3 cap3) ∧ w'.cell? ⟨w5.heap.size, 0, none⟩ = some (.int .i64 dx.op) ∧ w'.cell? ⟨w5.heap.size, 1, none⟩ = some (.slice Ax nx capx) ∧ w'.cell? ⟨w5.heap.size, 2, none⟩ = some (.int .i64 dx.var) ∧ w'.cell? ⟨w5.heap.size, 3, none⟩ = some (.int .i64 dx.field) ∧ w'.cell? ⟨w5.heap.size, 4, none⟩ = some (.int .i64 dx.kind) ∧ w'.cell? ⟨w5.heap.size, 5, none⟩ = some (.int .i64 dx.val.q) ∧ w'.cell? ⟨w5.heap.size, 6, none⟩ = some (.int .i64 dx.val.n) ∧ w'.cell? ⟨w5.heap.size, 7, none⟩ = some (.string dx.val.s) ∧ w'.cell? ⟨w3.heap.size, 0, none⟩ = some (.int .i64 d.op) ∧ w'.cell? ⟨w3.heap.size, 1, none⟩ = some (.slice A m cap) ∧ w'.cell? ⟨w3.heap.size, 2, none⟩ = some (.int .i64 d.var) ∧ w'.cell? ⟨w3.heap.size, 3, none⟩ = some (.int .i64 d.field) ∧ w'.cell? ⟨w3.heap.size, 4, none⟩ = some (.int .i64 d.kind) ∧ w'.cell? ⟨w3.heap.size, 5, none⟩ = some (.int .i64 d.val.q) ∧ w'.cell? ⟨w3.heap.size, 6, none⟩ = some (.int .i64 d.val.n) ∧ w'.cell? ⟨w3.heap.size, 7, none⟩ = some (.string d.val.s) ∧ Below wb.heap.size wb w') (by kernel_rfl) ⟨HV14.out 0 _ rfl, HV14.out 1 _ rfl, HV14.out 2 _ rfl, HV16.out 0 _ rfl, HV16.out 1 _ rfl, HV16.out 2 _ rfl, HN18.out 0 _ rfl, HN18.out 1 _ rfl, HN18.out 2 _ rfl, HN18.out 3 _ rfl, HN18.out 4 _ rfl, HN18.out 5 _ rfl, HN18.out 6 _ rfl, HN18.out 7 _ rfl, HZ.out 0 _ rfl, HX10.out 0 _ rfl, HX10.out 1 _ rfl, HX10.out 2 _ rfl, HX10.out 3 _ rfl, HX10.out 4 _ rfl, HX10.out 5 _ rfl, HX10.out 6 _ rfl, HX10.out 7 _ rfl, HE7.out 0 _ rfl, HE7.out 1 _ rfl, HE7.out 2 _ rfl, HE7.out 3 _ rfl, HE7.out 4 _ rfl, HE7.out 5 _ rfl, HE7.out 6 _ rfl, HE7.out 7 _ rfl, (Below.refl _ _).drew⟩ (fun hHeld => ?_)
            refine wpAnyH_take (i := 0) (v := ?_) rfl (by kernel_rfl) (by kernel_rfl) (by kernel_rfl) (fun _ _ _ h => h) (Or.inl ⟨by rfl, ?_⟩) (by assumption) ?_
            rotate_left
            · intro w hSw
              (try dsimp only at hSw)
              go_simp
              all_goals with_reducible rfl
            try simp only [List.getElem_toArray, List.getElem_cons_succ, List.getElem_cons_zero, Act.put, List.setIfInBounds_toArray, List.set_cons_zero, List.set_cons_succ]
            refine wpAnyH_take (i := 1) (v := ?_) rfl (by kernel_rfl) (by kernel_rfl) (by kernel_rfl) (fun _ _ _ h => h) (Or.inl ⟨by rfl, ?_⟩) (by assumption) ?_
            rotate_left
            · intro w hSw
              (try dsimp only at hSw)
              go_simp
              all_goals with_reducible rfl
            try simp only [List.getElem_toArray, List.getElem_cons_succ, List.getElem_cons_zero, Act.put, List.setIfInBounds_toArray, List.set_cons_zero, List.set_cons_succ]
            refine wpAnyH_take (i := 2) (v := ?_) rfl (by kernel_rfl) (by kernel_rfl) (by kernel_rfl) (fun _ _ _ h => h) (Or.inl ⟨by rfl, ?_⟩) (by assumption) ?_
            rotate_left
            · intro w hSw
              (try dsimp only at hSw)
              go_simp
              all_goals with_reducible rfl
            try simp only [List.getElem_toArray, List.getElem_cons_succ, List.getElem_cons_zero, Act.put, List.setIfInBounds_toArray, List.set_cons_zero, List.set_cons_succ]
            refine wpAnyH_take (i := 3) (v := ?_) rfl (by kernel_rfl) (by kernel_rfl) (by kernel_rfl) (fun _ _ _ h => h) (Or.inl ⟨by rfl, ?_⟩) (by assumption) ?_
            rotate_left
            · intro w hSw
              (try dsimp only at hSw)
              go_simp
              all_goals with_reducible rfl
            try simp only [List.getElem_toArray, List.getElem_cons_succ, List.getElem_cons_zero, Act.put, List.setIfInBounds_toArray, List.set_cons_zero, List.set_cons_succ]
            refine wpAnyH_take (i := 4) (v := ?_) rfl (by kernel_rfl) (by kernel_rfl) (by kernel_rfl) (fun _ _ _ h => h) (Or.inl ⟨by rfl, ?_⟩) (by assumption) ?_
            rotate_left
            · intro w hSw
              (try dsimp only at hSw)
              go_simp
              all_goals with_reducible rfl
            try simp only [List.getElem_toArray, List.getElem_cons_succ, List.getElem_cons_zero, Act.put, List.setIfInBounds_toArray, List.set_cons_zero, List.set_cons_succ]
            refine wpAnyH_take (i := 5) (v := ?_) rfl (by kernel_rfl) (by kernel_rfl) (by kernel_rfl) (fun _ _ _ h => h) (Or.inl ⟨by rfl, ?_⟩) (by assumption) ?_
            rotate_left
            · intro w hSw
              (try dsimp only at hSw)
              go_simp
              all_goals with_reducible rfl
            try simp only [List.getElem_toArray, List.getElem_cons_succ, List.getElem_cons_zero, Act.put, List.setIfInBounds_toArray, List.set_cons_zero, List.set_cons_succ]
            refine wpAnyH_take (i := 6) (v := ?_) rfl (by kernel_rfl) (by kernel_rfl) (by kernel_rfl) (fun _ _ _ h => h) (Or.inl ⟨by rfl, ?_⟩) (by assumption) ?_
            rotate_left
            · intro w hSw
              (try dsimp only at hSw)
              go_simp
              all_goals with_reducible rfl
            try simp only [List.getElem_toArray, List.getElem_cons_succ, List.getElem_cons_zero, Act.put, List.setIfInBounds_toArray, List.set_cons_zero, List.set_cons_succ]
            refine wpAnyH_take (i := 7) (v := ?_) rfl (by kernel_rfl) (by kernel_rfl) (by kernel_rfl) (fun _ _ _ h => h) (Or.inl ⟨by rfl, ?_⟩) (by assumption) ?_
            rotate_left
            · intro w hSw
              (try dsimp only at hSw)
              go_simp
              all_goals with_reducible rfl
            try simp only [List.getElem_toArray, List.getElem_cons_succ, List.getElem_cons_zero, Act.put, List.setIfInBounds_toArray, List.set_cons_zero, List.set_cons_succ]
            refine wpAnyH_take (i := 8) (v := ?_) rfl (by kernel_rfl) (by kernel_rfl) (by kernel_rfl) (fun _ _ _ h => h) (Or.inl ⟨by rfl, ?_⟩) (by assumption) ?_
            rotate_left
            · intro w hSw
              (try dsimp only at hSw)
              go_simp
              all_goals with_reducible rfl
            try simp only [List.getElem_toArray, List.getElem_cons_succ, List.getElem_cons_zero, Act.put, List.setIfInBounds_toArray, List.set_cons_zero, List.set_cons_succ]
            refine wpAnyH_take (i := 9) (v := ?_) rfl (by kernel_rfl) (by kernel_rfl) (by kernel_rfl) (fun _ _ _ h => h) (Or.inl ⟨by rfl, ?_⟩) (by assumption) ?_
            rotate_left
            · intro w hSw
              (try dsimp only at hSw)
              go_simp
              all_goals with_reducible rfl
            try simp only [List.getElem_toArray, List.getElem_cons_succ, List.getElem_cons_zero, Act.put, List.setIfInBounds_toArray, List.set_cons_zero, List.set_cons_succ]
            refine wpAnyH_take (i := 10) (v := ?_) rfl (by kernel_rfl) (by kernel_rfl) (by kernel_rfl) (fun _ _ _ h => h) (Or.inl ⟨by rfl, ?_⟩) (by assumption) ?_
            rotate_left
            · intro w hSw
              (try dsimp only at hSw)
              go_simp
              all_goals with_reducible rfl
            try simp only [List.getElem_toArray, List.getElem_cons_succ, List.getElem_cons_zero, Act.put, List.setIfInBounds_toArray, List.set_cons_zero, List.set_cons_succ]
            refine wpAnyH_take (i := 11) (v := ?_) rfl (by kernel_rfl) (by kernel_rfl) (by kernel_rfl) (fun _ _ _ h => h) (Or.inl ⟨by rfl, ?_⟩) (by assumption) ?_
            rotate_left
            · intro w hSw
              (try dsimp only at hSw)
              go_simp
              all_goals with_reducible rfl
            try simp only [List.getElem_toArray, List.getElem_cons_succ, List.getElem_cons_zero, Act.put, List.setIfInBounds_toArray, List.set_cons_zero, List.set_cons_succ]
            refine wpAnyH_take (i := 12) (v := ?_) rfl (by kernel_rfl) (by kernel_rfl) (by kernel_rfl) (fun _ _ _ h => h) (Or.inl ⟨by rfl, ?_⟩) (by assumption) ?_
            rotate_left
            · intro w hSw
              (try dsimp only at hSw)
              go_simp
              all_goals with_reducible rfl
            try simp only [List.getElem_toArray, List.getElem_cons_succ, List.getElem_cons_zero, Act.put, List.setIfInBounds_toArray, List.set_cons_zero, List.set_cons_succ]
            refine wpAnyH_take (i := 13) (v := ?_) rfl (by kernel_rfl) (by kernel_rfl) (by kernel_rfl) (fun _ _ _ h => h) (Or.inl ⟨by rfl, ?_⟩) (by assumption) ?_
            rotate_left
            · intro w hSw
              (try dsimp only at hSw)
              go_simp
              all_goals with_reducible rfl
            try simp only [List.getElem_toArray, List.getElem_cons_succ, List.getElem_cons_zero, Act.put, List.setIfInBounds_toArray, List.set_cons_zero, List.set_cons_succ]
            refine wpAnyH_take (i := 14) (v := ?_) rfl (by kernel_rfl) (by kernel_rfl) (by kernel_rfl) (fun _ _ _ h => h) (Or.inl ⟨by rfl, ?_⟩) (by assumption) ?_
            rotate_left
            · intro w hSw
              (try dsimp only at hSw)
              go_simp
              all_goals with_reducible rfl
            try simp only [List.getElem_toArray, List.getElem_cons_succ, List.getElem_cons_zero, Act.put, List.setIfInBounds_toArray, List.set_cons_zero, List.set_cons_succ]
            refine wpAnyH_take (i := 15) (v := ?_) rfl (by kernel_rfl) (by kernel_rfl) (by kernel_rfl) (fun _ _ _ h => h) (Or.inl ⟨by rfl, ?_⟩) (by assumption) ?_
            rotate_left
            · intro w hSw
              (try dsimp only at hSw)
              go_simp
              all_goals with_reducible rfl
            try simp only [List.getElem_toArray, List.getElem_cons_succ, List.getElem_cons_zero, Act.put, List.setIfInBounds_toArray, List.set_cons_zero, List.set_cons_succ]
            refine wpAnyH_take (i := 16) (v := ?_) rfl (by kernel_rfl) (by kernel_rfl) (by kernel_rfl) (fun _ _ _ h => h) (Or.inl ⟨by rfl, ?_⟩) (by assumption) ?_
            rotate_left
            · intro w hSw
              (try dsimp only at hSw)
              go_simp
              all_goals with_reducible rfl
            try simp only [List.getElem_toArray, List.getElem_cons_succ, List.getElem_cons_zero, Act.put, List.setIfInBounds_toArray, List.set_cons_zero, List.set_cons_succ]
            refine wpAnyH_take (i := 17) (v := ?_) rfl (by kernel_rfl) (by kernel_rfl) (by kernel_rfl) (fun _ _ _ h => h) (Or.inl ⟨by rfl, ?_⟩) (by assumption) ?_
            rotate_left
            · intro w hSw
              (try dsimp only at hSw)
              go_simp
              all_goals with_reducible rfl
            try simp only [List.getElem_toArray, List.getElem_cons_succ, List.getElem_cons_zero, Act.put, List.setIfInBounds_toArray, List.set_cons_zero, List.set_cons_succ]
            refine wpAnyH_ready (rs := [18]) (by kernel_rfl) (by simp) ?_
            refine AllReadyH.cons rfl (fun K hK => ?_) AllReadyH.nil
            simp only [List.getElem_toArray, List.getElem_cons_succ, List.getElem_cons_zero]
            have HHL := hide hHeld
            obtain ⟨z0, z1, z2, z3, z4, z5, z6, z7, z8, z9, z10, z11, z12, z13, z14, z15, z16, z17, z18, z19, z20, z21, z22, z23, z24, z25, z26, z27, z28, z29, z30, hwl⟩ := id hHeld
            have HBL := hide hwl
            clear hwl hHeld
            go_simp
            clear z0 z1 z2 z3 z4 z5 z6 z7 z8 z9 z10 z11 z12 z13 z14 z15 z16 z17 z18 z19 z20 z21 z22 z23 z24 z25 z26 z27 z28 z29 z30
            go_at_call 10
            refine (HCHN.out _ (HNB.out.grow HBL.out)).mono ?_
            rintro en9 wk ⟨rfl, hbk⟩
            obtain ⟨z0, z1, z2, z3, z4, z5, z6, z7, z8, z9, z10, z11, z12, z13, z14, z15, z16, z17, z18, z19, z20, z21, z22, z23, z24, z25, z26, z27, z28, z29, z30, hwl⟩ := HHL.out
            refine hK _ _ ⟨keep1 hbk z0, keep1 hbk z1, keep1 hbk z2, keep1 hbk z3, keep1 hbk z4, keep1 hbk z5, keep1 hbk z6, keep1 hbk z7, keep1 hbk z8, keep1 hbk z9, keep1 hbk z10, keep1 hbk z11, keep1 hbk z12, keep1 hbk z13, keep1 hbk z14, keep1 hbk z15, keep1 hbk z16, keep1 hbk z17, keep1 hbk z18, keep1 hbk z19, keep1 hbk z20, keep1 hbk z21, keep1 hbk z22, keep1 hbk z23, keep1 hbk z24, keep1 hbk z25, keep1 hbk z26, keep1 hbk z27, keep1 hbk z28, keep1 hbk z29, keep1 hbk z30, bthen hwl hbk⟩ (fun hHeld => ?_)
            clear hK K z0 z1 z2 z3 z4 z5 z6 z7 z8 z9 z10 z11 z12 z13 z14 z15 z16 z17 z18 z19 z20 z21 z22 z23 z24 z25 z26 z27 z28 z29 z30 hwl hbk HHL HBL
            try simp only [List.getElem_toArray, List.getElem_cons_succ, List.getElem_cons_zero, Act.put, List.setIfInBounds_toArray, List.set_cons_zero, List.set_cons_succ]
            have te : (CN == 0) = false := by rw [beq_eq_false_iff_ne]; exact hc0
            clear hc0
            refine wpAnyH_take (i := 19) (v := ?_) rfl (by kernel_rfl) (by kernel_rfl) (by kernel_rfl) (fun _ _ _ h => h) (Or.inl ⟨by rfl, ?_⟩) (by assumption) ?_
            rotate_left
            · intro w hSw
              (try dsimp only at hSw)
              go_simp
              all_goals with_reducible rfl
            try simp only [List.getElem_toArray, List.getElem_cons_succ, List.getElem_cons_zero, Act.put, List.setIfInBounds_toArray, List.set_cons_zero, List.set_cons_succ]
            refine wpAnyH_take (i := 20) (v := ?_) rfl (by kernel_rfl) (by kernel_rfl) (by kernel_rfl) (fun _ _ _ h => h) (Or.inl ⟨by rfl, ?_⟩) (by assumption) ?_
            rotate_left
            · intro w hSw
              (try dsimp only at hSw)
              go_simp
              all_goals with_reducible rfl
            try simp only [List.getElem_toArray, List.getElem_cons_succ, List.getElem_cons_zero, Act.put, List.setIfInBounds_toArray, List.set_cons_zero, List.set_cons_succ]
            refine wpAnyH_take (i := 21) (v := ?_) rfl (by kernel_rfl) (by kernel_rfl) (by kernel_rfl) (fun _ _ _ h => h) (Or.inl ⟨by rfl, ?_⟩) (by assumption) ?_
            rotate_left
            · intro w hSw
              (try dsimp only at hSw)
              go_simp
              all_goals with_reducible rfl
            try simp only [List.getElem_toArray, List.getElem_cons_succ, List.getElem_cons_zero, Act.put, List.setIfInBounds_toArray, List.set_cons_zero, List.set_cons_succ]
            refine wpAnyH_take (i := 22) (v := undef) rfl (by kernel_rfl) (by kernel_rfl) (by kernel_rfl) (fun _ _ _ h => h) (Or.inr ⟨by rfl, rfl⟩) (by assumption) ?_
            try simp only [List.getElem_toArray, List.getElem_cons_succ, List.getElem_cons_zero, Act.put, List.setIfInBounds_toArray, List.set_cons_zero, List.set_cons_succ]
            refine wpAnyH_take (i := 23) (v := undef) rfl (by kernel_rfl) (by kernel_rfl) (by kernel_rfl) (fun _ _ _ h => h) (Or.inr ⟨by rfl, rfl⟩) (by assumption) ?_
            try simp only [List.getElem_toArray, List.getElem_cons_succ, List.getElem_cons_zero, Act.put, List.setIfInBounds_toArray, List.set_cons_zero, List.set_cons_succ]
            refine wpAnyH_take (i := 24) (v := undef) rfl (by kernel_rfl) (by kernel_rfl) (by kernel_rfl) (fun _ _ _ h => h) (Or.inr ⟨by rfl, rfl⟩) (by assumption) ?_
            try simp only [List.getElem_toArray, List.getElem_cons_succ, List.getElem_cons_zero, Act.put, List.setIfInBounds_toArray, List.set_cons_zero, List.set_cons_succ]
            refine wpAnyH_take (i := 25) (v := undef) rfl (by kernel_rfl) (by kernel_rfl) (by kernel_rfl) (fun _ _ _ h => h) (Or.inr ⟨by rfl, rfl⟩) (by assumption) ?_
            try simp only [List.getElem_toArray, List.getElem_cons_succ, List.getElem_cons_zero, Act.put, List.setIfInBounds_toArray, List.set_cons_zero, List.set_cons_succ]
            refine wpAnyH_take (i := 26) (v := undef) rfl (by kernel_rfl) (by kernel_rfl) (by kernel_rfl) (fun _ _ _ h => h) (Or.inr ⟨by rfl, rfl⟩) (by assumption) ?_
            try simp only [List.getElem_toArray, List.getElem_cons_succ, List.getElem_cons_zero, Act.put, List.setIfInBounds_toArray, List.set_cons_zero, List.set_cons_succ]
            refine wpAnyH_take (i := 27) (v := undef) rfl (by kernel_rfl) (by kernel_rfl) (by kernel_rfl) (fun _ _ _ h => h) (Or.inr ⟨by rfl, rfl⟩) (by assumption) ?_
            try simp only [List.getElem_toArray, List.getElem_cons_succ, List.getElem_cons_zero, Act.put, List.setIfInBounds_toArray, List.set_cons_zero, List.set_cons_succ]
            refine wpAnyH_take (i := 28) (v := undef) rfl (by kernel_rfl) (by kernel_rfl) (by kernel_rfl) (fun _ _ _ h => h) (Or.inr ⟨by rfl, rfl⟩) (by assumption) ?_
            try simp only [List.getElem_toArray, List.getElem_cons_succ, List.getElem_cons_zero, Act.put, List.setIfInBounds_toArray, List.set_cons_zero, List.set_cons_succ]
            refine wpAnyH_take (i := 29) (v := undef) rfl (by kernel_rfl) (by kernel_rfl) (by kernel_rfl) (fun _ _ _ h => h) (Or.inr ⟨by rfl, rfl⟩) (by assumption) ?_
            try simp only [List.getElem_toArray, List.getElem_cons_succ, List.getElem_cons_zero, Act.put, List.setIfInBounds_toArray, List.set_cons_zero, List.set_cons_succ]
            refine wpAnyH_take (i := 30) (v := undef) rfl (by kernel_rfl) (by kernel_rfl) (by kernel_rfl) (fun _ _ _ h => h) (Or.inr ⟨by rfl, rfl⟩) (by assumption) ?_
            try simp only [List.getElem_toArray, List.getElem_cons_succ, List.getElem_cons_zero, Act.put, List.setIfInBounds_toArray, List.set_cons_zero, List.set_cons_succ]
            refine wpAnyH_take (i := 31) (v := ?_) rfl (by kernel_rfl) (by kernel_rfl) (by kernel_rfl) (fun _ _ _ h => h) (Or.inl ⟨by rfl, ?_⟩) (by assumption) ?_
            rotate_left
            · intro w hSw
              (try dsimp only at hSw)
              go_simp
              all_goals with_reducible rfl
            try simp only [List.getElem_toArray, List.getElem_cons_succ, List.getElem_cons_zero, Act.put, List.setIfInBounds_toArray, List.set_cons_zero, List.set_cons_succ]
            refine wpAnyH_take (i := 32) (v := ?_) rfl (by kernel_rfl) (by kernel_rfl) (by kernel_rfl) (fun _ _ _ h => h) (Or.inl ⟨by rfl, ?_⟩) (by assumption) ?_
            rotate_left
            · intro w hSw
              (try dsimp only at hSw)
              go_simp
              all_goals with_reducible rfl
            try simp only [List.getElem_toArray, List.getElem_cons_succ, List.getElem_cons_zero, Act.put, List.setIfInBounds_toArray, List.set_cons_zero, List.set_cons_succ]
            refine wpAnyH_done (by kernel_rfl) ?_ _
            have HSF := hide hHeld
            clear hHeld
            obtain ⟨z0, z1, z2, z3, z4, z5, z6, z7, z8, z9, z10, z11, z12, z13, z14, z15, z16, z17, z18, z19, z20, z21, z22, z23, z24, z25, z26, z27, z28, z29, z30, hwl⟩ := HSF.out
            clear z3 z4 z5 z6 z7 z8 z9 z10 z11 z12 z13 z15 z16 z17 z18 z19 z20 z21 z22 HSF
            have HZC := hide (And.intro hwl (And.intro z0 (And.intro z1 (And.intro z2 z14))))
            have HZ70 := hide z23
            have HZ71 := hide z24
            have HZ72 := hide z25
            have HZ73 := hide z26
            have HZ74 := hide z27
            have HZ75 := hide z28
            have HZ76 := hide z29
            have HZ77 := hide z30
            clear z0 z1 z2 z14 z23 z24 z25 z26 z27 z28 z29 z30 hwl
            go_wp2_with fail
            have HRFL := hide (fun w => rflag_any w true)
            obtain ⟨fl, hfl⟩ : ∃ f, flagQ true = f := ⟨_, rfl⟩
            rw [hfl] at HRFL HTV
            obtain ⟨fq, fn, fs⟩ := fl
            clear hfl
            refine wp_region_grow 8 [142, 143, 144, 145, 146, 147, 148, 149] [Fix (.agg #[.int .i64 d.op, .slice A m cap, .int .i64 d.var, .int .i64 d.field, .int .i64 d.kind, .int .i64 d.val.q, .int .i64 d.val.n, .string d.val.s]), Fix (.agg #[.slice A3 m3 cap3]), Fix (.agg #[.int .i64 0, .int .i64 0, .int .i64 0, .int .i64 0, .slice none 0 0]), Fix (.bool TE), Fix (.agg #[.int .i64 1, .int .i64 sn, .string ss]), Fix (.agg #[.int .i64 fq, .int .i64 fn, .string fs]), Fix (.bool TE), Fix (.bool true)] (by kernel_rfl) (by kernel_rfl) (by kernel_rfl) (by kernel_rfl) (by kernel_rfl) ?_ ?_ ?_
            · intro p hp
              simp only [List.mem_cons, List.not_mem_nil, or_false] at hp
              rcases hp with rfl | rfl | rfl | rfl | rfl | rfl | rfl | rfl
              all_goals exact fun _ _ _ _ h => h
            · intro j9 o9 hj9 ho x w5' hb hd
              have hjc : j9 = 0 ∨ j9 = 1 ∨ j9 = 2 ∨ j9 = 3 ∨ j9 = 4 ∨ j9 = 5 ∨ j9 = 6 ∨ j9 = 7 := by omega
              have HWC := hide (bthen (bthen (bthen HB.out HWB.out) HZC.out.1) hb)
              rcases hjc with rfl | rfl | rfl | rfl | rfl | rfl | rfl | rfl
              all_goals obtain rfl := Option.some.inj ho
              all_goals generalize hK : (fun (a' : Act) (w' : World) => _) = K
              all_goals simp only [puts]
              · have y0 := keep1 hb HZ70.out
                have y1 := keep1 hb HZ71.out
                have y2 := keep1 hb HZ72.out
                have y3 := keep1 hb HZ73.out
                have y4 := keep1 hb HZ74.out
                have y5 := keep1 hb HZ75.out
                have y6 := keep1 hb HZ76.out
                have y7 := keep1 hb HZ77.out
                go_simp
                rw [← hK]
                exact ⟨.agg #[.int .i64 d.op, .slice A m cap, .int .i64 d.var, .int .i64 d.field, .int .i64 d.kind, .int .i64 d.val.q, .int .i64 d.val.n, .string d.val.s], (by simp only [puts]; go_simp), Below.refl _ _, rfl⟩
              · have y0 := keep1 hb HZC.out.2.2.2.2
                go_simp
                rw [← hK]
                exact ⟨.agg #[.slice A3 m3 cap3], (by simp only [puts]; go_simp), Below.refl _ _, rfl⟩
              · go_simp
                rw [← hK]
                exact ⟨.agg #[.int .i64 0, .int .i64 0, .int .i64 0, .int .i64 0, .slice none 0 0], (by simp only [puts]; go_simp), Below.refl _ _, rfl⟩
              · have e0 : x 142 = .agg #[.int .i64 d.op, .slice A m cap, .int .i64 d.var, .int .i64 d.field, .int .i64 d.kind, .int .i64 d.val.q, .int .i64 d.val.n, .string d.val.s] := hd 0 (by kernel_rfl)
                have e1 : x 143 = .agg #[.slice A3 m3 cap3] := hd 1 (by kernel_rfl)
                have e2 : x 144 = .agg #[.int .i64 0, .int .i64 0, .int .i64 0, .int .i64 0, .slice none 0 0] := hd 2 (by kernel_rfl)
                have HCL := hide (HTR.out w5' (HE.out.keep rd_Lx HWC.out) (HTX.out.grow HWC.out))
                go_simp
                go_at_call 11
                refine HCL.out.mono ?_
                rintro en9 w9 ⟨rfl, hbc⟩
                rw [← hK]
                exact ⟨.bool TE, (by simp only [puts]; go_simp), hbc, rfl⟩
              · have y0 := keep1 hb HZC.out.2.1
                have y1 := keep1 hb HZC.out.2.2.1
                have y2 := keep1 hb HZC.out.2.2.2.1
                go_simp
                rw [← hK]
                exact ⟨.agg #[.int .i64 1, .int .i64 sn, .string ss], (by simp only [puts]; go_simp), Below.refl _ _, rfl⟩
              · go_simp
                go_at_call 12
                refine (HRFL.out _).mono ?_
                rintro en9 w9 ⟨rfl, hbc⟩
                rw [← hK]
                exact ⟨.agg #[.int .i64 fq, .int .i64 fn, .string fs], (by simp only [puts]; go_simp), hbc, rfl⟩
              · have e0 : x 146 = .agg #[.int .i64 1, .int .i64 sn, .string ss] := hd 4 (by kernel_rfl)
                have e1 : x 147 = .agg #[.int .i64 fq, .int .i64 fn, .string fs] := hd 5 (by kernel_rfl)
                have HEVL := hide (fun (X Y : Result Next) => (show (if 1 = fq then if sn = fn then if ss.toList = fs.toList then X else Y else Y else Y) = if TE = true then X else Y by rw [← HTV.out]; exact eql_v3 ⟨1, sn, ss⟩ ⟨fq, fn, fs⟩ X Y))
                go_simp
                rw [HEVL.out]
                clear HEVL
                cases TE
                · go_simp
                  rw [← hK]
                  exact ⟨.bool false, (by simp only [puts]; go_simp), Below.refl _ _, rfl⟩
                · go_simp
                  rw [← hK]
                  exact ⟨.bool true, (by simp only [puts]; go_simp), Below.refl _ _, rfl⟩
              · have e0 : x 145 = .bool TE := hd 3 (by kernel_rfl)
                have e1 : x 148 = .bool TE := hd 6 (by kernel_rfl)
                cases TE
                · go_simp
                  rw [← hK]
                  exact ⟨.bool true, (by simp only [puts]; go_simp), Below.refl _ _, rfl⟩
                · go_simp
                  rw [← hK]
                  exact ⟨.bool true, (by simp only [puts]; go_simp), Below.refl _ _, rfl⟩
            · intro x w9 hb hP
              have e : x 149 = .bool true := hP 7 (by decide)
              have HWF := hide (bthen (bthen (bthen HB.out HWB.out) HZC.out.1) hb)
              clear hP hb
              simp only [puts, Act.put, List.setIfInBounds_toArray, List.set_cons_succ, List.set_cons_zero, List.drop]
              rw [e]
              clear e
              go_wp2
              go_ret
              exact Ret.mk rfl HWF.out
        · have te : (sq == 1) = false := by rw [beq_eq_false_iff_ne]; exact hq1
          clear hq1
          refine wp_region_held_drew (S := fun w' => w'.cell? ⟨w7.heap.size, 0, none⟩ = some (.int .i64 sq) ∧ w'.cell? ⟨w7.heap.size, 1, none⟩ = some (.int .i64 sn) ∧ w'.cell? ⟨w7.heap.size, 2, none⟩ = some (.string ss) ∧ w'.cell? ⟨w8.heap.size, 0, none⟩ = some (.int .i64 sq) ∧ w'.cell? ⟨w8.heap.size, 1, none⟩ = some (.int .i64 sn) ∧ w'.cell? ⟨w8.heap.size, 2, none⟩ = some (.string ss) ∧ w'.cell? ⟨w8.heap.size + 1 + 1, 0, none⟩ = some (.int .i64 12) ∧ w'.cell? ⟨w8.heap.size + 1 + 1, 1, none⟩ = some (.slice (some ⟨w8.heap.size + 1, 0, none⟩) 1 1) ∧ w'.cell? ⟨w8.heap.size + 1 + 1, 2, none⟩ = some (.int .i64 0) ∧ w'.cell? ⟨w8.heap.size + 1 + 1, 3, none⟩ = some (.int .i64 0) ∧ w'.cell? ⟨w8.heap.size + 1 + 1, 4, none⟩ = some (.int .i64 0) ∧ w'.cell? ⟨w8.heap.size + 1 + 1, 5, none⟩ = some (.int .i64 0) ∧ w'.cell? ⟨w8.heap.size + 1 + 1, 6, none⟩ = some (.int .i64 0) ∧ w'.cell? ⟨w8.heap.size + 1 + 1, 7, none⟩ = some (.string ⟨#[]⟩) ∧ w'.cell? ⟨w.heap.size + 1, 0, none⟩ = some (.slice A3 m3 cap3) ∧ w'.cell? ⟨w5.heap.size, 0, none⟩ = some (.int .i64 dx.op) ∧ w'.cell? ⟨w5.heap.size, 1, none⟩ = some (.slice Ax nx capx) ∧ w'.cell? ⟨w5.heap.size, 2, none⟩ = some (.int .i64 dx.var) ∧ w'.cell? ⟨w5.heap.size, 3, none⟩ = some (.int .i64 dx.field) ∧ w'.cell? ⟨w5.heap.size, 4, none⟩ = some (.int .i64 dx.kind) ∧ w'.cell? ⟨w5.heap.size, 5, none⟩ = some (.int .i64 dx.val.q) ∧ w'.cell? ⟨w5.heap.size, 6, none⟩ = some (.int .i64 dx.val.n) ∧ w'.cell? ⟨w5.heap.size, 7, none⟩ = some (.string dx.val.s) ∧ w'.cell? ⟨w3.heap.size, 0, none⟩ = some (.int .i64 d.op) ∧ w'.cell? ⟨w3.heap.size, 1, none⟩ = some (.slice A m cap) ∧ w'.cell? ⟨w3.heap.size, 2, none⟩ = some (.int .i64 d.var) ∧ w'.cell? ⟨w3.heap.size, 3, none⟩ = some (.int .i64 d.field) ∧ w'.cell? ⟨w3.heap.size, 4, none⟩ = some (.int .i64 d.kind) ∧ w'.cell? ⟨w3.heap.size, 5, none⟩ = some (.int .i64 d.val.q) ∧ w'.cell? ⟨w3.heap.size, 6, none⟩ = some (.int .i64 d.val.n) ∧ w'.cell? ⟨w3.heap.size, 7, none⟩ = some (.string d.val.s) ∧ Below wb.heap.size wb w') (by kernel_rfl) ⟨HV14.out 0 _ rfl, HV14.out 1 _ rfl, HV14.out 2 _ rfl, HV16.out 0 _ rfl, HV16.out 1 _ rfl, HV16.out 2 _ rfl, HN18.out 0 _ rfl, HN18.out 1 _ rfl, HN18.out 2 _ rfl, HN18.out 3 _ rfl, HN18.out 4 _ rfl, HN18.out 5 _ rfl, HN18.out 6 _ rfl, HN18.out 7 _ rfl, HZ.out 0 _ rfl, HX10.out 0 _ rfl, HX10.out 1 _ rfl, HX10.out 2 _ rfl, HX10.out 3 _ rfl, HX10.out 4 _ rfl, HX10.out 5 _ rfl, HX10.out 6 _ rfl, HX10.out 7 _ rfl, HE7.out 0 _ rfl, HE7.out 1 _ rfl, HE7.out 2 _ rfl, HE7.out 3 _ rfl, HE7.out 4 _ rfl, HE7.out 5 _ rfl, HE7.out 6 _ rfl, HE7.out 7 _ rfl, (Below.refl _ _).drew⟩ (fun hHeld => ?_)
          refine wpAnyH_take (i := 0) (v := ?_) rfl (by kernel_rfl) (by kernel_rfl) (by kernel_rfl) (fun _ _ _ h => h) (Or.inl ⟨by rfl, ?_⟩) (by assumption) ?_
          rotate_left
          · intro w hSw
            (try dsimp only at hSw)
            go_simp
            all_goals with_reducible rfl
          try simp only [List.getElem_toArray, List.getElem_cons_succ, List.getElem_cons_zero, Act.put, List.setIfInBounds_toArray, List.set_cons_zero, List.set_cons_succ]
          refine wpAnyH_take (i := 1) (v := ?_) rfl (by kernel_rfl) (by kernel_rfl) (by kernel_rfl) (fun _ _ _ h => h) (Or.inl ⟨by rfl, ?_⟩) (by assumption) ?_
          rotate_left
          · intro w hSw
            (try dsimp only at hSw)
            go_simp
            all_goals with_reducible rfl
          try simp only [List.getElem_toArray, List.getElem_cons_succ, List.getElem_cons_zero, Act.put, List.setIfInBounds_toArray, List.set_cons_zero, List.set_cons_succ]
          refine wpAnyH_take (i := 2) (v := ?_) rfl (by kernel_rfl) (by kernel_rfl) (by kernel_rfl) (fun _ _ _ h => h) (Or.inl ⟨by rfl, ?_⟩) (by assumption) ?_
          rotate_left
          · intro w hSw
            (try dsimp only at hSw)
            go_simp
            all_goals with_reducible rfl
          try simp only [List.getElem_toArray, List.getElem_cons_succ, List.getElem_cons_zero, Act.put, List.setIfInBounds_toArray, List.set_cons_zero, List.set_cons_succ]
          refine wpAnyH_take (i := 3) (v := ?_) rfl (by kernel_rfl) (by kernel_rfl) (by kernel_rfl) (fun _ _ _ h => h) (Or.inl ⟨by rfl, ?_⟩) (by assumption) ?_
          rotate_left
          · intro w hSw
            (try dsimp only at hSw)
            go_simp
            all_goals with_reducible rfl
          try simp only [List.getElem_toArray, List.getElem_cons_succ, List.getElem_cons_zero, Act.put, List.setIfInBounds_toArray, List.set_cons_zero, List.set_cons_succ]
          refine wpAnyH_take (i := 4) (v := ?_) rfl (by kernel_rfl) (by kernel_rfl) (by kernel_rfl) (fun _ _ _ h => h) (Or.inl ⟨by rfl, ?_⟩) (by assumption) ?_
          rotate_left
          · intro w hSw
            (try dsimp only at hSw)
            go_simp
            all_goals with_reducible rfl
          try simp only [List.getElem_toArray, List.getElem_cons_succ, List.getElem_cons_zero, Act.put, List.setIfInBounds_toArray, List.set_cons_zero, List.set_cons_succ]
          refine wpAnyH_take (i := 5) (v := ?_) rfl (by kernel_rfl) (by kernel_rfl) (by kernel_rfl) (fun _ _ _ h => h) (Or.inl ⟨by rfl, ?_⟩) (by assumption) ?_
          rotate_left
          · intro w hSw
            (try dsimp only at hSw)
            go_simp
            all_goals with_reducible rfl
          try simp only [List.getElem_toArray, List.getElem_cons_succ, List.getElem_cons_zero, Act.put, List.setIfInBounds_toArray, List.set_cons_zero, List.set_cons_succ]
          refine wpAnyH_take (i := 6) (v := ?_) rfl (by kernel_rfl) (by kernel_rfl) (by kernel_rfl) (fun _ _ _ h => h) (Or.inl ⟨by rfl, ?_⟩) (by assumption) ?_
          rotate_left
          · intro w hSw
            (try dsimp only at hSw)
            go_simp
            all_goals with_reducible rfl
          try simp only [List.getElem_toArray, List.getElem_cons_succ, List.getElem_cons_zero, Act.put, List.setIfInBounds_toArray, List.set_cons_zero, List.set_cons_succ]
          refine wpAnyH_take (i := 7) (v := ?_) rfl (by kernel_rfl) (by kernel_rfl) (by kernel_rfl) (fun _ _ _ h => h) (Or.inl ⟨by rfl, ?_⟩) (by assumption) ?_
          rotate_left
          · intro w hSw
            (try dsimp only at hSw)
            go_simp
            all_goals with_reducible rfl
          try simp only [List.getElem_toArray, List.getElem_cons_succ, List.getElem_cons_zero, Act.put, List.setIfInBounds_toArray, List.set_cons_zero, List.set_cons_succ]
          refine wpAnyH_take (i := 8) (v := ?_) rfl (by kernel_rfl) (by kernel_rfl) (by kernel_rfl) (fun _ _ _ h => h) (Or.inl ⟨by rfl, ?_⟩) (by assumption) ?_
          rotate_left
          · intro w hSw
            (try dsimp only at hSw)
            go_simp
            all_goals with_reducible rfl
          try simp only [List.getElem_toArray, List.getElem_cons_succ, List.getElem_cons_zero, Act.put, List.setIfInBounds_toArray, List.set_cons_zero, List.set_cons_succ]
          refine wpAnyH_take (i := 9) (v := ?_) rfl (by kernel_rfl) (by kernel_rfl) (by kernel_rfl) (fun _ _ _ h => h) (Or.inl ⟨by rfl, ?_⟩) (by assumption) ?_
          rotate_left
          · intro w hSw
            (try dsimp only at hSw)
            go_simp
            all_goals with_reducible rfl
          try simp only [List.getElem_toArray, List.getElem_cons_succ, List.getElem_cons_zero, Act.put, List.setIfInBounds_toArray, List.set_cons_zero, List.set_cons_succ]
          refine wpAnyH_take (i := 10) (v := ?_) rfl (by kernel_rfl) (by kernel_rfl) (by kernel_rfl) (fun _ _ _ h => h) (Or.inl ⟨by rfl, ?_⟩) (by assumption) ?_
          rotate_left
          · intro w hSw
            (try dsimp only at hSw)
            go_simp
            all_goals with_reducible rfl
          try simp only [List.getElem_toArray, List.getElem_cons_succ, List.getElem_cons_zero, Act.put, List.setIfInBounds_toArray, List.set_cons_zero, List.set_cons_succ]
          refine wpAnyH_take (i := 11) (v := ?_) rfl (by kernel_rfl) (by kernel_rfl) (by kernel_rfl) (fun _ _ _ h => h) (Or.inl ⟨by rfl, ?_⟩) (by assumption) ?_
          rotate_left
          · intro w hSw
            (try dsimp only at hSw)
            go_simp
            all_goals with_reducible rfl
          try simp only [List.getElem_toArray, List.getElem_cons_succ, List.getElem_cons_zero, Act.put, List.setIfInBounds_toArray, List.set_cons_zero, List.set_cons_succ]
          refine wpAnyH_take (i := 12) (v := ?_) rfl (by kernel_rfl) (by kernel_rfl) (by kernel_rfl) (fun _ _ _ h => h) (Or.inl ⟨by rfl, ?_⟩) (by assumption) ?_
          rotate_left
          · intro w hSw
            (try dsimp only at hSw)
            go_simp
            all_goals with_reducible rfl
          try simp only [List.getElem_toArray, List.getElem_cons_succ, List.getElem_cons_zero, Act.put, List.setIfInBounds_toArray, List.set_cons_zero, List.set_cons_succ]
          refine wpAnyH_take (i := 13) (v := ?_) rfl (by kernel_rfl) (by kernel_rfl) (by kernel_rfl) (fun _ _ _ h => h) (Or.inl ⟨by rfl, ?_⟩) (by assumption) ?_
          rotate_left
          · intro w hSw
            (try dsimp only at hSw)
            go_simp
            all_goals with_reducible rfl
          try simp only [List.getElem_toArray, List.getElem_cons_succ, List.getElem_cons_zero, Act.put, List.setIfInBounds_toArray, List.set_cons_zero, List.set_cons_succ]
          refine wpAnyH_take (i := 14) (v := ?_) rfl (by kernel_rfl) (by kernel_rfl) (by kernel_rfl) (fun _ _ _ h => h) (Or.inl ⟨by rfl, ?_⟩) (by assumption) ?_
          rotate_left
          · intro w hSw
            (try dsimp only at hSw)
            go_simp
            all_goals with_reducible rfl
          try simp only [List.getElem_toArray, List.getElem_cons_succ, List.getElem_cons_zero, Act.put, List.setIfInBounds_toArray, List.set_cons_zero, List.set_cons_succ]
          refine wpAnyH_take (i := 15) (v := ?_) rfl (by kernel_rfl) (by kernel_rfl) (by kernel_rfl) (fun _ _ _ h => h) (Or.inl ⟨by rfl, ?_⟩) (by assumption) ?_
          rotate_left
          · intro w hSw
            (try dsimp only at hSw)
            go_simp
            all_goals with_reducible rfl
          try simp only [List.getElem_toArray, List.getElem_cons_succ, List.getElem_cons_zero, Act.put, List.setIfInBounds_toArray, List.set_cons_zero, List.set_cons_succ]
          refine wpAnyH_take (i := 16) (v := ?_) rfl (by kernel_rfl) (by kernel_rfl) (by kernel_rfl) (fun _ _ _ h => h) (Or.inl ⟨by rfl, ?_⟩) (by assumption) ?_
          rotate_left
          · intro w hSw
            (try dsimp only at hSw)
            go_simp
            all_goals with_reducible rfl
          try simp only [List.getElem_toArray, List.getElem_cons_succ, List.getElem_cons_zero, Act.put, List.setIfInBounds_toArray, List.set_cons_zero, List.set_cons_succ]
          refine wpAnyH_take (i := 17) (v := undef) rfl (by kernel_rfl) (by kernel_rfl) (by kernel_rfl) (fun _ _ _ h => h) (Or.inr ⟨by rfl, rfl⟩) (by assumption) ?_
          try simp only [List.getElem_toArray, List.getElem_cons_succ, List.getElem_cons_zero, Act.put, List.setIfInBounds_toArray, List.set_cons_zero, List.set_cons_succ]
          refine wpAnyH_take (i := 18) (v := undef) rfl (by kernel_rfl) (by kernel_rfl) (by kernel_rfl) (fun _ _ _ h => h) (Or.inr ⟨by rfl, rfl⟩) (by assumption) ?_
          try simp only [List.getElem_toArray, List.getElem_cons_succ, List.getElem_cons_zero, Act.put, List.setIfInBounds_toArray, List.set_cons_zero, List.set_cons_succ]
          refine wpAnyH_take (i := 19) (v := undef) rfl (by kernel_rfl) (by kernel_rfl) (by kernel_rfl) (fun _ _ _ h => h) (Or.inr ⟨by rfl, rfl⟩) (by assumption) ?_
          try simp only [List.getElem_toArray, List.getElem_cons_succ, List.getElem_cons_zero, Act.put, List.setIfInBounds_toArray, List.set_cons_zero, List.set_cons_succ]
          refine wpAnyH_take (i := 20) (v := ?_) rfl (by kernel_rfl) (by kernel_rfl) (by kernel_rfl) (fun _ _ _ h => h) (Or.inl ⟨by rfl, ?_⟩) (by assumption) ?_
          rotate_left
          · intro w hSw
            (try dsimp only at hSw)
            go_simp
            all_goals with_reducible rfl
          try simp only [List.getElem_toArray, List.getElem_cons_succ, List.getElem_cons_zero, Act.put, List.setIfInBounds_toArray, List.set_cons_zero, List.set_cons_succ]
          refine wpAnyH_take (i := 21) (v := ?_) rfl (by kernel_rfl) (by kernel_rfl) (by kernel_rfl) (fun _ _ _ h => h) (Or.inl ⟨by rfl, ?_⟩) (by assumption) ?_
          rotate_left
          · intro w hSw
            (try dsimp only at hSw)
            go_simp
            all_goals with_reducible rfl
          try simp only [List.getElem_toArray, List.getElem_cons_succ, List.getElem_cons_zero, Act.put, List.setIfInBounds_toArray, List.set_cons_zero, List.set_cons_succ]
          refine wpAnyH_take (i := 22) (v := undef) rfl (by kernel_rfl) (by kernel_rfl) (by kernel_rfl) (fun _ _ _ h => h) (Or.inr ⟨by rfl, rfl⟩) (by assumption) ?_
          try simp only [List.getElem_toArray, List.getElem_cons_succ, List.getElem_cons_zero, Act.put, List.setIfInBounds_toArray, List.set_cons_zero, List.set_cons_succ]
          refine wpAnyH_take (i := 23) (v := undef) rfl (by kernel_rfl) (by kernel_rfl) (by kernel_rfl) (fun _ _ _ h => h) (Or.inr ⟨by rfl, rfl⟩) (by assumption) ?_
          try simp only [List.getElem_toArray, List.getElem_cons_succ, List.getElem_cons_zero, Act.put, List.setIfInBounds_toArray, List.set_cons_zero, List.set_cons_succ]
          refine wpAnyH_take (i := 24) (v := undef) rfl (by kernel_rfl) (by kernel_rfl) (by kernel_rfl) (fun _ _ _ h => h) (Or.inr ⟨by rfl, rfl⟩) (by assumption) ?_
          try simp only [List.getElem_toArray, List.getElem_cons_succ, List.getElem_cons_zero, Act.put, List.setIfInBounds_toArray, List.set_cons_zero, List.set_cons_succ]
          refine wpAnyH_take (i := 25) (v := undef) rfl (by kernel_rfl) (by kernel_rfl) (by kernel_rfl) (fun _ _ _ h => h) (Or.inr ⟨by rfl, rfl⟩) (by assumption) ?_
          try simp only [List.getElem_toArray, List.getElem_cons_succ, List.getElem_cons_zero, Act.put, List.setIfInBounds_toArray, List.set_cons_zero, List.set_cons_succ]
          refine wpAnyH_take (i := 26) (v := undef) rfl (by kernel_rfl) (by kernel_rfl) (by kernel_rfl) (fun _ _ _ h => h) (Or.inr ⟨by rfl, rfl⟩) (by assumption) ?_
          try simp only [List.getElem_toArray, List.getElem_cons_succ, List.getElem_cons_zero, Act.put, List.setIfInBounds_toArray, List.set_cons_zero, List.set_cons_succ]
          refine wpAnyH_take (i := 27) (v := undef) rfl (by kernel_rfl) (by kernel_rfl) (by kernel_rfl) (fun _ _ _ h => h) (Or.inr ⟨by rfl, rfl⟩) (by assumption) ?_
          try simp only [List.getElem_toArray, List.getElem_cons_succ, List.getElem_cons_zero, Act.put, List.setIfInBounds_toArray, List.set_cons_zero, List.set_cons_succ]
          refine wpAnyH_take (i := 28) (v := undef) rfl (by kernel_rfl) (by kernel_rfl) (by kernel_rfl) (fun _ _ _ h => h) (Or.inr ⟨by rfl, rfl⟩) (by assumption) ?_
          try simp only [List.getElem_toArray, List.getElem_cons_succ, List.getElem_cons_zero, Act.put, List.setIfInBounds_toArray, List.set_cons_zero, List.set_cons_succ]
          refine wpAnyH_take (i := 29) (v := undef) rfl (by kernel_rfl) (by kernel_rfl) (by kernel_rfl) (fun _ _ _ h => h) (Or.inr ⟨by rfl, rfl⟩) (by assumption) ?_
          try simp only [List.getElem_toArray, List.getElem_cons_succ, List.getElem_cons_zero, Act.put, List.setIfInBounds_toArray, List.set_cons_zero, List.set_cons_succ]
          refine wpAnyH_take (i := 30) (v := undef) rfl (by kernel_rfl) (by kernel_rfl) (by kernel_rfl) (fun _ _ _ h => h) (Or.inr ⟨by rfl, rfl⟩) (by assumption) ?_
          try simp only [List.getElem_toArray, List.getElem_cons_succ, List.getElem_cons_zero, Act.put, List.setIfInBounds_toArray, List.set_cons_zero, List.set_cons_succ]
          refine wpAnyH_take (i := 31) (v := ?_) rfl (by kernel_rfl) (by kernel_rfl) (by kernel_rfl) (fun _ _ _ h => h) (Or.inl ⟨by rfl, ?_⟩) (by assumption) ?_
          rotate_left
          · intro w hSw
            (try dsimp only at hSw)
            go_simp
            all_goals with_reducible rfl
          try simp only [List.getElem_toArray, List.getElem_cons_succ, List.getElem_cons_zero, Act.put, List.setIfInBounds_toArray, List.set_cons_zero, List.set_cons_succ]
          refine wpAnyH_take (i := 32) (v := ?_) rfl (by kernel_rfl) (by kernel_rfl) (by kernel_rfl) (fun _ _ _ h => h) (Or.inl ⟨by rfl, ?_⟩) (by assumption) ?_
          rotate_left
          · intro w hSw
            (try dsimp only at hSw)
            go_simp
            all_goals with_reducible rfl
          try simp only [List.getElem_toArray, List.getElem_cons_succ, List.getElem_cons_zero, Act.put, List.setIfInBounds_toArray, List.set_cons_zero, List.set_cons_succ]
          refine wpAnyH_done (by kernel_rfl) ?_ _
          have HSF := hide hHeld
          clear hHeld
          obtain ⟨z0, z1, z2, z3, z4, z5, z6, z7, z8, z9, z10, z11, z12, z13, z14, z15, z16, z17, z18, z19, z20, z21, z22, z23, z24, z25, z26, z27, z28, z29, z30, hwl⟩ := HSF.out
          clear z3 z4 z5 z6 z7 z8 z9 z10 z11 z12 z13 z15 z16 z17 z18 z19 z20 z21 z22 HSF
          have HZC := hide (And.intro hwl (And.intro z0 (And.intro z1 (And.intro z2 z14))))
          have HZ70 := hide z23
          have HZ71 := hide z24
          have HZ72 := hide z25
          have HZ73 := hide z26
          have HZ74 := hide z27
          have HZ75 := hide z28
          have HZ76 := hide z29
          have HZ77 := hide z30
          clear z0 z1 z2 z14 z23 z24 z25 z26 z27 z28 z29 z30 hwl
          go_wp2_with fail
          have HRFL := hide (fun w => rflag_any w true)
          obtain ⟨fl, hfl⟩ : ∃ f, flagQ true = f := ⟨_, rfl⟩
          rw [hfl] at HRFL HTV
          obtain ⟨fq, fn, fs⟩ := fl
          clear hfl
          refine wp_region_grow 8 [142, 143, 144, 145, 146, 147, 148, 149] [Fix (.agg #[.int .i64 d.op, .slice A m cap, .int .i64 d.var, .int .i64 d.field, .int .i64 d.kind, .int .i64 d.val.q, .int .i64 d.val.n, .string d.val.s]), Fix (.agg #[.slice A3 m3 cap3]), Fix (.agg #[.int .i64 0, .int .i64 0, .int .i64 0, .int .i64 0, .slice none 0 0]), Fix (.bool TE), Fix (.agg #[.int .i64 sq, .int .i64 sn, .string ss]), Fix (.agg #[.int .i64 fq, .int .i64 fn, .string fs]), Fix (.bool TE), Fix (.bool true)] (by kernel_rfl) (by kernel_rfl) (by kernel_rfl) (by kernel_rfl) (by kernel_rfl) ?_ ?_ ?_
          · intro p hp
            simp only [List.mem_cons, List.not_mem_nil, or_false] at hp
            rcases hp with rfl | rfl | rfl | rfl | rfl | rfl | rfl | rfl
            all_goals exact fun _ _ _ _ h => h
          · intro j9 o9 hj9 ho x w5' hb hd
            have hjc : j9 = 0 ∨ j9 = 1 ∨ j9 = 2 ∨ j9 = 3 ∨ j9 = 4 ∨ j9 = 5 ∨ j9 = 6 ∨ j9 = 7 := by omega
            have HWC := hide (bthen (bthen (bthen HB.out HWB.out) HZC.out.1) hb)
            rcases hjc with rfl | rfl | rfl | rfl | rfl | rfl | rfl | rfl
            all_goals obtain rfl := Option.some.inj ho
            all_goals generalize hK : (fun (a' : Act) (w' : World) => _) = K
            all_goals simp only [puts]
            · have y0 := keep1 hb HZ70.out
              have y1 := keep1 hb HZ71.out
              have y2 := keep1 hb HZ72.out
              have y3 := keep1 hb HZ73.out
              have y4 := keep1 hb HZ74.out
              have y5 := keep1 hb HZ75.out
              have y6 := keep1 hb HZ76.out
              have y7 := keep1 hb HZ77.out
              go_simp
              rw [← hK]
              exact ⟨.agg #[.int .i64 d.op, .slice A m cap, .int .i64 d.var, .int .i64 d.field, .int .i64 d.kind, .int .i64 d.val.q, .int .i64 d.val.n, .string d.val.s], (by simp only [puts]; go_simp), Below.refl _ _, rfl⟩
            · have y0 := keep1 hb HZC.out.2.2.2.2
              go_simp
              rw [← hK]
              exact ⟨.agg #[.slice A3 m3 cap3], (by simp only [puts]; go_simp), Below.refl _ _, rfl⟩
            · go_simp
              rw [← hK]
              exact ⟨.agg #[.int .i64 0, .int .i64 0, .int .i64 0, .int .i64 0, .slice none 0 0], (by simp only [puts]; go_simp), Below.refl _ _, rfl⟩
            · have e0 : x 142 = .agg #[.int .i64 d.op, .slice A m cap, .int .i64 d.var, .int .i64 d.field, .int .i64 d.kind, .int .i64 d.val.q, .int .i64 d.val.n, .string d.val.s] := hd 0 (by kernel_rfl)
              have e1 : x 143 = .agg #[.slice A3 m3 cap3] := hd 1 (by kernel_rfl)
              have e2 : x 144 = .agg #[.int .i64 0, .int .i64 0, .int .i64 0, .int .i64 0, .slice none 0 0] := hd 2 (by kernel_rfl)
              have HCL := hide (HTR.out w5' (HE.out.keep rd_Lx HWC.out) (HTX.out.grow HWC.out))
              go_simp
              go_at_call 11
              refine HCL.out.mono ?_
              rintro en9 w9 ⟨rfl, hbc⟩
              rw [← hK]
              exact ⟨.bool TE, (by simp only [puts]; go_simp), hbc, rfl⟩
            · have y0 := keep1 hb HZC.out.2.1
              have y1 := keep1 hb HZC.out.2.2.1
              have y2 := keep1 hb HZC.out.2.2.2.1
              go_simp
              rw [← hK]
              exact ⟨.agg #[.int .i64 sq, .int .i64 sn, .string ss], (by simp only [puts]; go_simp), Below.refl _ _, rfl⟩
            · go_simp
              go_at_call 12
              refine (HRFL.out _).mono ?_
              rintro en9 w9 ⟨rfl, hbc⟩
              rw [← hK]
              exact ⟨.agg #[.int .i64 fq, .int .i64 fn, .string fs], (by simp only [puts]; go_simp), hbc, rfl⟩
            · have e0 : x 146 = .agg #[.int .i64 sq, .int .i64 sn, .string ss] := hd 4 (by kernel_rfl)
              have e1 : x 147 = .agg #[.int .i64 fq, .int .i64 fn, .string fs] := hd 5 (by kernel_rfl)
              have HEVL := hide (fun (X Y : Result Next) => (show (if sq = fq then if sn = fn then if ss.toList = fs.toList then X else Y else Y else Y) = if TE = true then X else Y by rw [← HTV.out]; exact eql_v3 ⟨sq, sn, ss⟩ ⟨fq, fn, fs⟩ X Y))
              go_simp
              rw [HEVL.out]
              clear HEVL
              cases TE
              · go_simp
                rw [← hK]
                exact ⟨.bool false, (by simp only [puts]; go_simp), Below.refl _ _, rfl⟩
              · go_simp
                rw [← hK]
                exact ⟨.bool true, (by simp only [puts]; go_simp), Below.refl _ _, rfl⟩
            · have e0 : x 145 = .bool TE := hd 3 (by kernel_rfl)
              have e1 : x 148 = .bool TE := hd 6 (by kernel_rfl)
              cases TE
              · go_simp
                rw [← hK]
                exact ⟨.bool true, (by simp only [puts]; go_simp), Below.refl _ _, rfl⟩
              · go_simp
                rw [← hK]
                exact ⟨.bool true, (by simp only [puts]; go_simp), Below.refl _ _, rfl⟩
          · intro x w9 hb hP
            have e : x 149 = .bool true := hP 7 (by decide)
            have HWF := hide (bthen (bthen (bthen HB.out HWB.out) HZC.out.1) hb)
            clear hP hb
            simp only [puts, Act.put, List.setIfInBounds_toArray, List.set_cons_succ, List.set_cons_zero, List.drop]
            rw [e]
            clear e
            go_wp2
            go_ret
            exact Ret.mk rfl HWF.out
      · have te : (kk == 1) = false := by rw [beq_eq_false_iff_ne]; exact hk1
        clear hk1
        refine wp_region_held_drew (S := fun w' => w'.cell? ⟨w7.heap.size, 0, none⟩ = some (.int .i64 sq) ∧ w'.cell? ⟨w7.heap.size, 1, none⟩ = some (.int .i64 sn) ∧ w'.cell? ⟨w7.heap.size, 2, none⟩ = some (.string ss) ∧ w'.cell? ⟨w8.heap.size, 0, none⟩ = some (.int .i64 sq) ∧ w'.cell? ⟨w8.heap.size, 1, none⟩ = some (.int .i64 sn) ∧ w'.cell? ⟨w8.heap.size, 2, none⟩ = some (.string ss) ∧ w'.cell? ⟨w8.heap.size + 1 + 1, 0, none⟩ = some (.int .i64 12) ∧ w'.cell? ⟨w8.heap.size + 1 + 1, 1, none⟩ = some (.slice (some ⟨w8.heap.size + 1, 0, none⟩) 1 1) ∧ w'.cell? ⟨w8.heap.size + 1 + 1, 2, none⟩ = some (.int .i64 0) ∧ w'.cell? ⟨w8.heap.size + 1 + 1, 3, none⟩ = some (.int .i64 0) ∧ w'.cell? ⟨w8.heap.size + 1 + 1, 4, none⟩ = some (.int .i64 0) ∧ w'.cell? ⟨w8.heap.size + 1 + 1, 5, none⟩ = some (.int .i64 0) ∧ w'.cell? ⟨w8.heap.size + 1 + 1, 6, none⟩ = some (.int .i64 0) ∧ w'.cell? ⟨w8.heap.size + 1 + 1, 7, none⟩ = some (.string ⟨#[]⟩) ∧ w'.cell? ⟨w.heap.size + 1, 0, none⟩ = some (.slice A3 m3 cap3) ∧ w'.cell? ⟨w5.heap.size, 0, none⟩ = some (.int .i64 dx.op) ∧ w'.cell? ⟨w5.heap.size, 1, none⟩ = some (.slice Ax nx capx) ∧ w'.cell? ⟨w5.heap.size, 2, none⟩ = some (.int .i64 dx.var) ∧ w'.cell? ⟨w5.heap.size, 3, none⟩ = some (.int .i64 dx.field) ∧ w'.cell? ⟨w5.heap.size, 4, none⟩ = some (.int .i64 dx.kind) ∧ w'.cell? ⟨w5.heap.size, 5, none⟩ = some (.int .i64 dx.val.q) ∧ w'.cell? ⟨w5.heap.size, 6, none⟩ = some (.int .i64 dx.val.n) ∧ w'.cell? ⟨w5.heap.size, 7, none⟩ = some (.string dx.val.s) ∧ w'.cell? ⟨w3.heap.size, 0, none⟩ = some (.int .i64 d.op) ∧ w'.cell? ⟨w3.heap.size, 1, none⟩ = some (.slice A m cap) ∧ w'.cell? ⟨w3.heap.size, 2, none⟩ = some (.int .i64 d.var) ∧ w'.cell? ⟨w3.heap.size, 3, none⟩ = some (.int .i64 d.field) ∧ w'.cell? ⟨w3.heap.size, 4, none⟩ = some (.int .i64 d.kind) ∧ w'.cell? ⟨w3.heap.size, 5, none⟩ = some (.int .i64 d.val.q) ∧ w'.cell? ⟨w3.heap.size, 6, none⟩ = some (.int .i64 d.val.n) ∧ w'.cell? ⟨w3.heap.size, 7, none⟩ = some (.string d.val.s) ∧ Below wb.heap.size wb w') (by kernel_rfl) ⟨HV14.out 0 _ rfl, HV14.out 1 _ rfl, HV14.out 2 _ rfl, HV16.out 0 _ rfl, HV16.out 1 _ rfl, HV16.out 2 _ rfl, HN18.out 0 _ rfl, HN18.out 1 _ rfl, HN18.out 2 _ rfl, HN18.out 3 _ rfl, HN18.out 4 _ rfl, HN18.out 5 _ rfl, HN18.out 6 _ rfl, HN18.out 7 _ rfl, HZ.out 0 _ rfl, HX10.out 0 _ rfl, HX10.out 1 _ rfl, HX10.out 2 _ rfl, HX10.out 3 _ rfl, HX10.out 4 _ rfl, HX10.out 5 _ rfl, HX10.out 6 _ rfl, HX10.out 7 _ rfl, HE7.out 0 _ rfl, HE7.out 1 _ rfl, HE7.out 2 _ rfl, HE7.out 3 _ rfl, HE7.out 4 _ rfl, HE7.out 5 _ rfl, HE7.out 6 _ rfl, HE7.out 7 _ rfl, (Below.refl _ _).drew⟩ (fun hHeld => ?_)
        refine wpAnyH_take (i := 0) (v := ?_) rfl (by kernel_rfl) (by kernel_rfl) (by kernel_rfl) (fun _ _ _ h => h) (Or.inl ⟨by rfl, ?_⟩) (by assumption) ?_
        rotate_left
        · intro w hSw
          (try dsimp only at hSw)
          go_simp
          all_goals with_reducible rfl
        try simp only [List.getElem_toArray, List.getElem_cons_succ, List.getElem_cons_zero, Act.put, List.setIfInBounds_toArray, List.set_cons_zero, List.set_cons_succ]
        refine wpAnyH_take (i := 1) (v := ?_) rfl (by kernel_rfl) (by kernel_rfl) (by kernel_rfl) (fun _ _ _ h => h) (Or.inl ⟨by rfl, ?_⟩) (by assumption) ?_
        rotate_left
        · intro w hSw
          (try dsimp only at hSw)
          go_simp
          all_goals with_reducible rfl
        try simp only [List.getElem_toArray, List.getElem_cons_succ, List.getElem_cons_zero, Act.put, List.setIfInBounds_toArray, List.set_cons_zero, List.set_cons_succ]
        refine wpAnyH_take (i := 2) (v := ?_) rfl (by kernel_rfl) (by kernel_rfl) (by kernel_rfl) (fun _ _ _ h => h) (Or.inl ⟨by rfl, ?_⟩) (by assumption) ?_
        rotate_left
        · intro w hSw
          (try dsimp only at hSw)
          go_simp
          all_goals with_reducible rfl
        try simp only [List.getElem_toArray, List.getElem_cons_succ, List.getElem_cons_zero, Act.put, List.setIfInBounds_toArray, List.set_cons_zero, List.set_cons_succ]
        refine wpAnyH_take (i := 3) (v := ?_) rfl (by kernel_rfl) (by kernel_rfl) (by kernel_rfl) (fun _ _ _ h => h) (Or.inl ⟨by rfl, ?_⟩) (by assumption) ?_
        rotate_left
        · intro w hSw
          (try dsimp only at hSw)
          go_simp
          all_goals with_reducible rfl
        try simp only [List.getElem_toArray, List.getElem_cons_succ, List.getElem_cons_zero, Act.put, List.setIfInBounds_toArray, List.set_cons_zero, List.set_cons_succ]
        refine wpAnyH_take (i := 4) (v := ?_) rfl (by kernel_rfl) (by kernel_rfl) (by kernel_rfl) (fun _ _ _ h => h) (Or.inl ⟨by rfl, ?_⟩) (by assumption) ?_
        rotate_left
        · intro w hSw
          (try dsimp only at hSw)
          go_simp
          all_goals with_reducible rfl
        try simp only [List.getElem_toArray, List.getElem_cons_succ, List.getElem_cons_zero, Act.put, List.setIfInBounds_toArray, List.set_cons_zero, List.set_cons_succ]
        refine wpAnyH_take (i := 5) (v := ?_) rfl (by kernel_rfl) (by kernel_rfl) (by kernel_rfl) (fun _ _ _ h => h) (Or.inl ⟨by rfl, ?_⟩) (by assumption) ?_
        rotate_left
        · intro w hSw
          (try dsimp only at hSw)
          go_simp
          all_goals with_reducible rfl
        try simp only [List.getElem_toArray, List.getElem_cons_succ, List.getElem_cons_zero, Act.put, List.setIfInBounds_toArray, List.set_cons_zero, List.set_cons_succ]
        refine wpAnyH_take (i := 6) (v := ?_) rfl (by kernel_rfl) (by kernel_rfl) (by kernel_rfl) (fun _ _ _ h => h) (Or.inl ⟨by rfl, ?_⟩) (by assumption) ?_
        rotate_left
        · intro w hSw
          (try dsimp only at hSw)
          go_simp
          all_goals with_reducible rfl
        try simp only [List.getElem_toArray, List.getElem_cons_succ, List.getElem_cons_zero, Act.put, List.setIfInBounds_toArray, List.set_cons_zero, List.set_cons_succ]
        refine wpAnyH_take (i := 7) (v := ?_) rfl (by kernel_rfl) (by kernel_rfl) (by kernel_rfl) (fun _ _ _ h => h) (Or.inl ⟨by rfl, ?_⟩) (by assumption) ?_
        rotate_left
        · intro w hSw
          (try dsimp only at hSw)
          go_simp
          all_goals with_reducible rfl
        try simp only [List.getElem_toArray, List.getElem_cons_succ, List.getElem_cons_zero, Act.put, List.setIfInBounds_toArray, List.set_cons_zero, List.set_cons_succ]
        refine wpAnyH_take (i := 8) (v := ?_) rfl (by kernel_rfl) (by kernel_rfl) (by kernel_rfl) (fun _ _ _ h => h) (Or.inl ⟨by rfl, ?_⟩) (by assumption) ?_
        rotate_left
        · intro w hSw
          (try dsimp only at hSw)
          go_simp
          all_goals with_reducible rfl
        try simp only [List.getElem_toArray, List.getElem_cons_succ, List.getElem_cons_zero, Act.put, List.setIfInBounds_toArray, List.set_cons_zero, List.set_cons_succ]
        refine wpAnyH_take (i := 9) (v := ?_) rfl (by kernel_rfl) (by kernel_rfl) (by kernel_rfl) (fun _ _ _ h => h) (Or.inl ⟨by rfl, ?_⟩) (by assumption) ?_
        rotate_left
        · intro w hSw
          (try dsimp only at hSw)
          go_simp
          all_goals with_reducible rfl
        try simp only [List.getElem_toArray, List.getElem_cons_succ, List.getElem_cons_zero, Act.put, List.setIfInBounds_toArray, List.set_cons_zero, List.set_cons_succ]
        refine wpAnyH_take (i := 10) (v := ?_) rfl (by kernel_rfl) (by kernel_rfl) (by kernel_rfl) (fun _ _ _ h => h) (Or.inl ⟨by rfl, ?_⟩) (by assumption) ?_
        rotate_left
        · intro w hSw
          (try dsimp only at hSw)
          go_simp
          all_goals with_reducible rfl
        try simp only [List.getElem_toArray, List.getElem_cons_succ, List.getElem_cons_zero, Act.put, List.setIfInBounds_toArray, List.set_cons_zero, List.set_cons_succ]
        refine wpAnyH_take (i := 11) (v := undef) rfl (by kernel_rfl) (by kernel_rfl) (by kernel_rfl) (fun _ _ _ h => h) (Or.inr ⟨by rfl, rfl⟩) (by assumption) ?_
        try simp only [List.getElem_toArray, List.getElem_cons_succ, List.getElem_cons_zero, Act.put, List.setIfInBounds_toArray, List.set_cons_zero, List.set_cons_succ]
        refine wpAnyH_take (i := 12) (v := undef) rfl (by kernel_rfl) (by kernel_rfl) (by kernel_rfl) (fun _ _ _ h => h) (Or.inr ⟨by rfl, rfl⟩) (by assumption) ?_
        try simp only [List.getElem_toArray, List.getElem_cons_succ, List.getElem_cons_zero, Act.put, List.setIfInBounds_toArray, List.set_cons_zero, List.set_cons_succ]
        refine wpAnyH_take (i := 13) (v := undef) rfl (by kernel_rfl) (by kernel_rfl) (by kernel_rfl) (fun _ _ _ h => h) (Or.inr ⟨by rfl, rfl⟩) (by assumption) ?_
        try simp only [List.getElem_toArray, List.getElem_cons_succ, List.getElem_cons_zero, Act.put, List.setIfInBounds_toArray, List.set_cons_zero, List.set_cons_succ]
        refine wpAnyH_take (i := 14) (v := undef) rfl (by kernel_rfl) (by kernel_rfl) (by kernel_rfl) (fun _ _ _ h => h) (Or.inr ⟨by rfl, rfl⟩) (by assumption) ?_
        try simp only [List.getElem_toArray, List.getElem_cons_succ, List.getElem_cons_zero, Act.put, List.setIfInBounds_toArray, List.set_cons_zero, List.set_cons_succ]
        refine wpAnyH_take (i := 15) (v := ?_) rfl (by kernel_rfl) (by kernel_rfl) (by kernel_rfl) (fun _ _ _ h => h) (Or.inl ⟨by rfl, ?_⟩) (by assumption) ?_
        rotate_left
        · intro w hSw
          (try dsimp only at hSw)
          go_simp
          all_goals with_reducible rfl
        try simp only [List.getElem_toArray, List.getElem_cons_succ, List.getElem_cons_zero, Act.put, List.setIfInBounds_toArray, List.set_cons_zero, List.set_cons_succ]
        refine wpAnyH_take (i := 16) (v := ?_) rfl (by kernel_rfl) (by kernel_rfl) (by kernel_rfl) (fun _ _ _ h => h) (Or.inl ⟨by rfl, ?_⟩) (by assumption) ?_
        rotate_left
        · intro w hSw
          (try dsimp only at hSw)
          go_simp
          all_goals with_reducible rfl
        try simp only [List.getElem_toArray, List.getElem_cons_succ, List.getElem_cons_zero, Act.put, List.setIfInBounds_toArray, List.set_cons_zero, List.set_cons_succ]
        refine wpAnyH_take (i := 17) (v := undef) rfl (by kernel_rfl) (by kernel_rfl) (by kernel_rfl) (fun _ _ _ h => h) (Or.inr ⟨by rfl, rfl⟩) (by assumption) ?_
        try simp only [List.getElem_toArray, List.getElem_cons_succ, List.getElem_cons_zero, Act.put, List.setIfInBounds_toArray, List.set_cons_zero, List.set_cons_succ]
        refine wpAnyH_take (i := 18) (v := undef) rfl (by kernel_rfl) (by kernel_rfl) (by kernel_rfl) (fun _ _ _ h => h) (Or.inr ⟨by rfl, rfl⟩) (by assumption) ?_
        try simp only [List.getElem_toArray, List.getElem_cons_succ, List.getElem_cons_zero, Act.put, List.setIfInBounds_toArray, List.set_cons_zero, List.set_cons_succ]
        refine wpAnyH_take (i := 19) (v := undef) rfl (by kernel_rfl) (by kernel_rfl) (by kernel_rfl) (fun _ _ _ h => h) (Or.inr ⟨by rfl, rfl⟩) (by assumption) ?_
        try simp only [List.getElem_toArray, List.getElem_cons_succ, List.getElem_cons_zero, Act.put, List.setIfInBounds_toArray, List.set_cons_zero, List.set_cons_succ]
        refine wpAnyH_take (i := 20) (v := ?_) rfl (by kernel_rfl) (by kernel_rfl) (by kernel_rfl) (fun _ _ _ h => h) (Or.inl ⟨by rfl, ?_⟩) (by assumption) ?_
        rotate_left
        · intro w hSw
          (try dsimp only at hSw)
          go_simp
          all_goals with_reducible rfl
        try simp only [List.getElem_toArray, List.getElem_cons_succ, List.getElem_cons_zero, Act.put, List.setIfInBounds_toArray, List.set_cons_zero, List.set_cons_succ]
        refine wpAnyH_take (i := 21) (v := ?_) rfl (by kernel_rfl) (by kernel_rfl) (by kernel_rfl) (fun _ _ _ h => h) (Or.inl ⟨by rfl, ?_⟩) (by assumption) ?_
        rotate_left
        · intro w hSw
          (try dsimp only at hSw)
          go_simp
          all_goals with_reducible rfl
        try simp only [List.getElem_toArray, List.getElem_cons_succ, List.getElem_cons_zero, Act.put, List.setIfInBounds_toArray, List.set_cons_zero, List.set_cons_succ]
        refine wpAnyH_take (i := 22) (v := undef) rfl (by kernel_rfl) (by kernel_rfl) (by kernel_rfl) (fun _ _ _ h => h) (Or.inr ⟨by rfl, rfl⟩) (by assumption) ?_
        try simp only [List.getElem_toArray, List.getElem_cons_succ, List.getElem_cons_zero, Act.put, List.setIfInBounds_toArray, List.set_cons_zero, List.set_cons_succ]
        refine wpAnyH_take (i := 23) (v := undef) rfl (by kernel_rfl) (by kernel_rfl) (by kernel_rfl) (fun _ _ _ h => h) (Or.inr ⟨by rfl, rfl⟩) (by assumption) ?_
        try simp only [List.getElem_toArray, List.getElem_cons_succ, List.getElem_cons_zero, Act.put, List.setIfInBounds_toArray, List.set_cons_zero, List.set_cons_succ]
        refine wpAnyH_take (i := 24) (v := undef) rfl (by kernel_rfl) (by kernel_rfl) (by kernel_rfl) (fun _ _ _ h => h) (Or.inr ⟨by rfl, rfl⟩) (by assumption) ?_
        try simp only [List.getElem_toArray, List.getElem_cons_succ, List.getElem_cons_zero, Act.put, List.setIfInBounds_toArray, List.set_cons_zero, List.set_cons_succ]
        refine wpAnyH_take (i := 25) (v := undef) rfl (by kernel_rfl) (by kernel_rfl) (by kernel_rfl) (fun _ _ _ h => h) (Or.inr ⟨by rfl, rfl⟩) (by assumption) ?_
        try simp only [List.getElem_toArray, List.getElem_cons_succ, List.getElem_cons_zero, Act.put, List.setIfInBounds_toArray, List.set_cons_zero, List.set_cons_succ]
        refine wpAnyH_take (i := 26) (v := undef) rfl (by kernel_rfl) (by kernel_rfl) (by kernel_rfl) (fun _ _ _ h => h) (Or.inr ⟨by rfl, rfl⟩) (by assumption) ?_
        try simp only [List.getElem_toArray, List.getElem_cons_succ, List.getElem_cons_zero, Act.put, List.setIfInBounds_toArray, List.set_cons_zero, List.set_cons_succ]
        refine wpAnyH_take (i := 27) (v := undef) rfl (by kernel_rfl) (by kernel_rfl) (by kernel_rfl) (fun _ _ _ h => h) (Or.inr ⟨by rfl, rfl⟩) (by assumption) ?_
        try simp only [List.getElem_toArray, List.getElem_cons_succ, List.getElem_cons_zero, Act.put, List.setIfInBounds_toArray, List.set_cons_zero, List.set_cons_succ]
        refine wpAnyH_take (i := 28) (v := undef) rfl (by kernel_rfl) (by kernel_rfl) (by kernel_rfl) (fun _ _ _ h => h) (Or.inr ⟨by rfl, rfl⟩) (by assumption) ?_
        try simp only [List.getElem_toArray, List.getElem_cons_succ, List.getElem_cons_zero, Act.put, List.setIfInBounds_toArray, List.set_cons_zero, List.set_cons_succ]
        refine wpAnyH_take (i := 29) (v := undef) rfl (by kernel_rfl) (by kernel_rfl) (by kernel_rfl) (fun _ _ _ h => h) (Or.inr ⟨by rfl, rfl⟩) (by assumption) ?_
        try simp only [List.getElem_toArray, List.getElem_cons_succ, List.getElem_cons_zero, Act.put, List.setIfInBounds_toArray, List.set_cons_zero, List.set_cons_succ]
        refine wpAnyH_take (i := 30) (v := undef) rfl (by kernel_rfl) (by kernel_rfl) (by kernel_rfl) (fun _ _ _ h => h) (Or.inr ⟨by rfl, rfl⟩) (by assumption) ?_
        try simp only [List.getElem_toArray, List.getElem_cons_succ, List.getElem_cons_zero, Act.put, List.setIfInBounds_toArray, List.set_cons_zero, List.set_cons_succ]
        refine wpAnyH_take (i := 31) (v := ?_) rfl (by kernel_rfl) (by kernel_rfl) (by kernel_rfl) (fun _ _ _ h => h) (Or.inl ⟨by rfl, ?_⟩) (by assumption) ?_
        rotate_left
        · intro w hSw
          (try dsimp only at hSw)
          go_simp
          all_goals with_reducible rfl
        try simp only [List.getElem_toArray, List.getElem_cons_succ, List.getElem_cons_zero, Act.put, List.setIfInBounds_toArray, List.set_cons_zero, List.set_cons_succ]
        refine wpAnyH_take (i := 32) (v := ?_) rfl (by kernel_rfl) (by kernel_rfl) (by kernel_rfl) (fun _ _ _ h => h) (Or.inl ⟨by rfl, ?_⟩) (by assumption) ?_
        rotate_left
        · intro w hSw
          (try dsimp only at hSw)
          go_simp
          all_goals with_reducible rfl
        try simp only [List.getElem_toArray, List.getElem_cons_succ, List.getElem_cons_zero, Act.put, List.setIfInBounds_toArray, List.set_cons_zero, List.set_cons_succ]
        refine wpAnyH_done (by kernel_rfl) ?_ _
        have HSF := hide hHeld
        clear hHeld
        obtain ⟨z0, z1, z2, z3, z4, z5, z6, z7, z8, z9, z10, z11, z12, z13, z14, z15, z16, z17, z18, z19, z20, z21, z22, z23, z24, z25, z26, z27, z28, z29, z30, hwl⟩ := HSF.out
        clear z3 z4 z5 z6 z7 z8 z9 z10 z11 z12 z13 z15 z16 z17 z18 z19 z20 z21 z22 HSF
        have HZC := hide (And.intro hwl (And.intro z0 (And.intro z1 (And.intro z2 z14))))
        have HZ70 := hide z23
        have HZ71 := hide z24
        have HZ72 := hide z25
        have HZ73 := hide z26
        have HZ74 := hide z27
        have HZ75 := hide z28
        have HZ76 := hide z29
        have HZ77 := hide z30
        clear z0 z1 z2 z14 z23 z24 z25 z26 z27 z28 z29 z30 hwl
        go_wp2_with fail
        have HRFL := hide (fun w => rflag_any w true)
        obtain ⟨fl, hfl⟩ : ∃ f, flagQ true = f := ⟨_, rfl⟩
        rw [hfl] at HRFL HTV
        obtain ⟨fq, fn, fs⟩ := fl
        clear hfl
        refine wp_region_grow 8 [142, 143, 144, 145, 146, 147, 148, 149] [Fix (.agg #[.int .i64 d.op, .slice A m cap, .int .i64 d.var, .int .i64 d.field, .int .i64 d.kind, .int .i64 d.val.q, .int .i64 d.val.n, .string d.val.s]), Fix (.agg #[.slice A3 m3 cap3]), Fix (.agg #[.int .i64 0, .int .i64 0, .int .i64 0, .int .i64 0, .slice none 0 0]), Fix (.bool TE), Fix (.agg #[.int .i64 sq, .int .i64 sn, .string ss]), Fix (.agg #[.int .i64 fq, .int .i64 fn, .string fs]), Fix (.bool TE), Fix (.bool true)] (by kernel_rfl) (by kernel_rfl) (by kernel_rfl) (by kernel_rfl) (by kernel_rfl) ?_ ?_ ?_
        · intro p hp
          simp only [List.mem_cons, List.not_mem_nil, or_false] at hp
          rcases hp with rfl | rfl | rfl | rfl | rfl | rfl | rfl | rfl
          all_goals exact fun _ _ _ _ h => h
        · intro j9 o9 hj9 ho x w5' hb hd
          have hjc : j9 = 0 ∨ j9 = 1 ∨ j9 = 2 ∨ j9 = 3 ∨ j9 = 4 ∨ j9 = 5 ∨ j9 = 6 ∨ j9 = 7 := by omega
          have HWC := hide (bthen (bthen (bthen HB.out HWB.out) HZC.out.1) hb)
          rcases hjc with rfl | rfl | rfl | rfl | rfl | rfl | rfl | rfl
          all_goals obtain rfl := Option.some.inj ho
          all_goals generalize hK : (fun (a' : Act) (w' : World) => _) = K
          all_goals simp only [puts]
          · have y0 := keep1 hb HZ70.out
            have y1 := keep1 hb HZ71.out
            have y2 := keep1 hb HZ72.out
            have y3 := keep1 hb HZ73.out
            have y4 := keep1 hb HZ74.out
            have y5 := keep1 hb HZ75.out
            have y6 := keep1 hb HZ76.out
            have y7 := keep1 hb HZ77.out
            go_simp
            rw [← hK]
            exact ⟨.agg #[.int .i64 d.op, .slice A m cap, .int .i64 d.var, .int .i64 d.field, .int .i64 d.kind, .int .i64 d.val.q, .int .i64 d.val.n, .string d.val.s], (by simp only [puts]; go_simp), Below.refl _ _, rfl⟩
          · have y0 := keep1 hb HZC.out.2.2.2.2
            go_simp
            rw [← hK]
            exact ⟨.agg #[.slice A3 m3 cap3], (by simp only [puts]; go_simp), Below.refl _ _, rfl⟩
          · go_simp
            rw [← hK]
            exact ⟨.agg #[.int .i64 0, .int .i64 0, .int .i64 0, .int .i64 0, .slice none 0 0], (by simp only [puts]; go_simp), Below.refl _ _, rfl⟩
          · have e0 : x 142 = .agg #[.int .i64 d.op, .slice A m cap, .int .i64 d.var, .int .i64 d.field, .int .i64 d.kind, .int .i64 d.val.q, .int .i64 d.val.n, .string d.val.s] := hd 0 (by kernel_rfl)
            have e1 : x 143 = .agg #[.slice A3 m3 cap3] := hd 1 (by kernel_rfl)
            have e2 : x 144 = .agg #[.int .i64 0, .int .i64 0, .int .i64 0, .int .i64 0, .slice none 0 0] := hd 2 (by kernel_rfl)
            have HCL := hide (HTR.out w5' (HE.out.keep rd_Lx HWC.out) (HTX.out.grow HWC.out))
            go_simp
            go_at_call 11
            refine HCL.out.mono ?_
            rintro en9 w9 ⟨rfl, hbc⟩
            rw [← hK]
            exact ⟨.bool TE, (by simp only [puts]; go_simp), hbc, rfl⟩
          · have y0 := keep1 hb HZC.out.2.1
            have y1 := keep1 hb HZC.out.2.2.1
            have y2 := keep1 hb HZC.out.2.2.2.1
            go_simp
            rw [← hK]
            exact ⟨.agg #[.int .i64 sq, .int .i64 sn, .string ss], (by simp only [puts]; go_simp), Below.refl _ _, rfl⟩
          · go_simp
            go_at_call 12
            refine (HRFL.out _).mono ?_
            rintro en9 w9 ⟨rfl, hbc⟩
            rw [← hK]
            exact ⟨.agg #[.int .i64 fq, .int .i64 fn, .string fs], (by simp only [puts]; go_simp), hbc, rfl⟩
          · have e0 : x 146 = .agg #[.int .i64 sq, .int .i64 sn, .string ss] := hd 4 (by kernel_rfl)
            have e1 : x 147 = .agg #[.int .i64 fq, .int .i64 fn, .string fs] := hd 5 (by kernel_rfl)
            have HEVL := hide (fun (X Y : Result Next) => (show (if sq = fq then if sn = fn then if ss.toList = fs.toList then X else Y else Y else Y) = if TE = true then X else Y by rw [← HTV.out]; exact eql_v3 ⟨sq, sn, ss⟩ ⟨fq, fn, fs⟩ X Y))
            go_simp
            rw [HEVL.out]
            clear HEVL
            cases TE
            · go_simp
              rw [← hK]
              exact ⟨.bool false, (by simp only [puts]; go_simp), Below.refl _ _, rfl⟩
            · go_simp
              rw [← hK]
              exact ⟨.bool true, (by simp only [puts]; go_simp), Below.refl _ _, rfl⟩
          · have e0 : x 145 = .bool TE := hd 3 (by kernel_rfl)
            have e1 : x 148 = .bool TE := hd 6 (by kernel_rfl)
            cases TE
            · go_simp
              rw [← hK]
              exact ⟨.bool true, (by simp only [puts]; go_simp), Below.refl _ _, rfl⟩
            · go_simp
              rw [← hK]
              exact ⟨.bool true, (by simp only [puts]; go_simp), Below.refl _ _, rfl⟩
        · intro x w9 hb hP
          have e : x 149 = .bool true := hP 7 (by decide)
          have HWF := hide (bthen (bthen (bthen HB.out HWB.out) HZC.out.1) hb)
          clear hP hb
          simp only [puts, Act.put, List.setIfInBounds_toArray, List.set_cons_succ, List.set_cons_zero, List.drop]
          rw [e]
          clear e
          go_wp2
          go_ret
          exact Ret.mk rfl HWF.out
    · have tr : (re != 0) = true := by rw [bne_iff_ne]; exact hre
      have hz := HRV.out.symm.trans (HF.out.ez (by rw [HRE.out]; exact hre))
      injection hz with hz1 hz2 hz3
      have v0 := HV14.out 0 _ rfl
      have v1 := HV14.out 1 _ rfl
      have v2 := HV14.out 2 _ rfl
      rw [hz1] at v0
      rw [hz2] at v1
      rw [hz3] at v2
      have lv := World.block_lt_of_cell? w8 _ v0
      simp only at lv
      clear hre hz1 hz2 hz3
      go_wp2
      go_ret
      exact Ret.mk (by first | done | rfl | simp) (bthen HB.out (below_laid _))
  · have tk : (kf != 0) = true := by rw [bne_iff_ne]; exact hkf
    clear hkf
    go_wp2
    go_ret
    exact Ret.mk rfl (bthen HB.out (below_laid _))
end Go.Proofs.Ytkcbjnhphekadaa
