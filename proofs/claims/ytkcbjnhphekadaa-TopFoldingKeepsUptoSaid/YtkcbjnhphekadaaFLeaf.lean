/- leaf, of an evaluator: the value of a node without arguments. -/
import Derived.Test.YtkcbjnhphekadaaFTot
import Derived.Test.YtkcbjnhphekadaaFNodeA
namespace Go.Proofs.Ytkcbjnhphekadaa
open Go.RowKit
set_option linter.unusedVariables false
set_option linter.unusedSimpArgs false
def leafE (E : List (List Evx)) (d : Nd) : Int :=
  if d.op = 0 then 0 else if d.op = 3 then 0 else if d.op = 4 then totE (evsQ E d.var) d else if (evsQ E d.var).length = 0 then 10 else if d.op = 2 then 0
  else if fieldE ((evsQ E d.var).getD ((evsQ E d.var).length - 1) Evx.z) d.field ≠ 0 then fieldE ((evsQ E d.var).getD ((evsQ E d.var).length - 1) Evx.z) d.field
  else checkC (fieldV ((evsQ E d.var).getD ((evsQ E d.var).length - 1) Evx.z) d.field).q (fieldV ((evsQ E d.var).getD ((evsQ E d.var).length - 1) Evx.z) d.field).n (fieldV ((evsQ E d.var).getD ((evsQ E d.var).length - 1) Evx.z) d.field).s.size
def leafV (E : List (List Evx)) (d : Nd) : V3 :=
  if d.op = 0 then d.val else if d.op = 3 then ⟨0, ((evsQ E d.var).length : Int), ⟨#[]⟩⟩ else if d.op = 4 then totV (evsQ E d.var) d else if (evsQ E d.var).length = 0 then V3.z
  else if d.op = 2 then ⟨0, ((evsQ E d.var).getD ((evsQ E d.var).length - 1) Evx.z).t, ⟨#[]⟩⟩
  else if leafE E d = 0 then fieldV ((evsQ E d.var).getD ((evsQ E d.var).length - 1) Evx.z) d.field else V3.z
section
variable (E : List (List Evx)) (mv : Value) (w : World)
set_option maxRecDepth 100000 in
set_option maxHeartbeats 8000000 in
theorem xleaf_any (v : Value) (d : Nd) (A : Option Addr) (n cap : Nat) (h : There RLx 1 w v E) (hv : 0 ≤ d.var) (hk : 0 ≤ d.field) (hs : d.val.s.size ≤ maxLen) (hf : (evsQ E d.var).length ≤ 4096) :
    Calls Try.prog 49 #[.agg (evC v mv).toArray, .agg ([.int .i64 d.op, .slice A n cap, .int .i64 d.var, .int .i64 d.field, .int .i64 d.kind, .int .i64 d.val.q, .int .i64 d.val.n, .string d.val.s]).toArray] w (Ret (.tuple #[V3.v (leafV E d), .int .i64 (leafE E d)]) w) := by
  have HV := hide (fun w h => xevents_any E mv w v d.var h)
  have HTOT := hide (fun w h => xtotal_any E mv w v d A n cap h hk hs hf)
  have HQ0 := hide (show leafV E d = leafV E d ∧ leafE E d = leafE E d from ⟨rfl, rfl⟩)
  obtain ⟨RV, hRV⟩ : ∃ r, leafV E d = r := ⟨_, rfl⟩
  obtain ⟨RE, hRE⟩ : ∃ r, leafE E d = r := ⟨_, rfl⟩
  have HRV := hide hRV
  have HRE := hide hRE
  rw [hRV, hRE]
  clear HQ0 hRV hRE
  obtain ⟨A0, cap0, rfl⟩ := h.form
  obtain ⟨len0, hlen0⟩ : ∃ k, E.length = k := ⟨_, rfl⟩
  rw [hlen0] at h HV HTOT ⊢
  have hX := (Bxs.new w (evC (.slice A0 len0 cap0) mv) 74).keep (below_laid (.cells ([.int .i64 d.op, .slice A n cap, .int .i64 d.var, .int .i64 d.field, .int .i64 d.kind, .int .i64 d.val.q, .int .i64 d.val.n, .string d.val.s]).toArray 30))
  have hX2 := hX.keep (below_laid (.cells #[.int .i64 0, .int .i64 0, .string ⟨#[]⟩] 28))
  have hY := (Bxs.new (w.alloc (.cells (evC (.slice A0 len0 cap0) mv).toArray 74)) ([.int .i64 d.op, .slice A n cap, .int .i64 d.var, .int .i64 d.field, .int .i64 d.kind, .int .i64 d.val.q, .int .i64 d.val.n, .string d.val.s]) 30).keep (below_laid (.cells #[.int .i64 0, .int .i64 0, .string ⟨#[]⟩] 28))
  rw [World.size_alloc] at hY
  have hR := Box3.new ((w.alloc (.cells (evC (.slice A0 len0 cap0) mv).toArray 74)).alloc (.cells ([.int .i64 d.op, .slice A n cap, .int .i64 d.var, .int .i64 d.field, .int .i64 d.kind, .int .i64 d.val.q, .int .i64 d.val.n, .string d.val.s]).toArray 30)) V3.z 28
  simp only [World.size_alloc] at hR
  have hB3 := bthen (bthen (below_laid (w := w) (.cells (evC (.slice A0 len0 cap0) mv).toArray 74)) (below_laid (.cells ([.int .i64 d.op, .slice A n cap, .int .i64 d.var, .int .i64 d.field, .int .i64 d.kind, .int .i64 d.val.q, .int .i64 d.val.n, .string d.val.s]).toArray 30))) (below_laid (.cells #[.int .i64 0, .int .i64 0, .string ⟨#[]⟩] 28))
  have HX := hide hX2
  have HY := hide hY
  have HR := hide hR
  have HT := hide (h.keep rd_Lx hB3)
  have HB0 := hide hB3
  have HF := hide hf
  have HLV := hide hv
  obtain ⟨L, hL⟩ : ∃ L, evsQ E d.var = L := ⟨_, rfl⟩
  have HL := hide hL
  rw [hL] at HV HTOT
  clear h hX hX2 hY hR hB3 hs hlen0 hL hf hv
  have x0 := HX.out 0 _ rfl
  have x1 := HX.out 1 _ rfl
  have x2 := HX.out 2 _ rfl
  have x3 := HX.out 3 _ rfl
  have x4 := HX.out 4 _ rfl
  have x5 := HX.out 5 _ rfl
  have x6 := HX.out 6 _ rfl
  have x7 := HX.out 7 _ rfl
  have y2 := HY.out 2 _ rfl
  go_enter Try.func49, Try.ntmps49
  go_wp2_with fail
  refine (HV.out _ HT.out).mono ?_
  rintro e w1 ⟨U, ⟨rfl, hb⟩, hU⟩
  obtain ⟨A1, cap1, rfl⟩ := hU.form
  obtain ⟨m, hm⟩ : ∃ m, L.length = m := ⟨_, rfl⟩
  have HM := hide hm
  have hml := hU.len
  unfold maxLen at hml
  have HU := hide (hU.keep rd_Ex hb)
  rw [hm] at HU hml ⊢
  replace HT := hide (HT.out.keep rd_Lx hb)
  have HB := hide (bthen HB0.out hb)
  replace HX := hide (HX.out.keep hb)
  replace HY := hide (HY.out.keep hb)
  replace HR := hide (HR.out.keep hb)
  clear hb x0 x1 x2 x3 x4 x5 x6 x7 y2 hU HB0 HV hm
  have x0 := HX.out 0 _ rfl
  have x1 := HX.out 1 _ rfl
  have x2 := HX.out 2 _ rfl
  have x3 := HX.out 3 _ rfl
  have x4 := HX.out 4 _ rfl
  have x5 := HX.out 5 _ rfl
  have x6 := HX.out 6 _ rfl
  have x7 := HX.out 7 _ rfl
  have y0 := HY.out 0 _ rfl
  have y1 := HY.out 1 _ rfl
  have y2 := HY.out 2 _ rfl
  have y3 := HY.out 3 _ rfl
  have y4 := HY.out 4 _ rfl
  have y5 := HY.out 5 _ rfl
  have y6 := HY.out 6 _ rfl
  have y7 := HY.out 7 _ rfl
  obtain ⟨⟨r0, r1, r2⟩, g0, g1, g2⟩ := HR.out
  simp only [V3.z] at r0 r1 r2
  have l0 := World.block_lt_of_cell? w1 _ x0
  have l1 := World.block_lt_of_cell? w1 _ y0
  have l2 := World.block_lt_of_cell? w1 _ r0
  simp only at l0 l1 l2
  by_cases h0 : d.op = 0
  · have t0 : (d.op == 0) = true := by rw [beq_iff_eq]; exact h0
    have HQ : Hid (RV = d.val ∧ RE = 0) := hide ⟨by rw [← HRV.out]; unfold leafV; rw [if_pos h0], by rw [← HRE.out]; unfold leafE; rw [if_pos h0]⟩
    clear h0 HTOT HRV HRE
    go_wp2
    refine bodyPost_ret (v := .tuple #[.agg #[.int .i64 d.val.q, .int .i64 d.val.n, .string d.val.s], .int .i64 0]) (by rw [results_cell_tmp rfl]; go_simp) rfl ?_
    exact Ret.mk (by rw [HQ.out.1, HQ.out.2]; try rfl) (below_set3' HB.out (by omega) _ _ _)
  · have t0 : (d.op == 0) = false := by rw [beq_eq_false_iff_ne]; exact h0
    by_cases h3 : d.op = 3
    · have t3 : (d.op == 3) = true := by rw [beq_iff_eq]; exact h3
      have HQ : Hid (RV = ⟨0, (m : Int), ⟨#[]⟩⟩ ∧ RE = 0) := hide ⟨by rw [← HRV.out]; unfold leafV; rw [if_neg h0, if_pos h3, HL.out, HM.out], by rw [← HRE.out]; unfold leafE; rw [if_neg h0, if_pos h3]⟩
      clear h0 h3 HTOT HRV HRE
      go_wp2
      refine bodyPost_ret (v := .tuple #[.agg #[.int .i64 0, .int .i64 (m : Int), .string ⟨#[]⟩], .int .i64 0]) (by rw [results_cell_tmp rfl]; go_simp) rfl ?_
      exact Ret.mk (by rw [HQ.out.1, HQ.out.2]; try rfl) (below_set3' HB.out (by omega) _ _ _)
    · have t3 : (d.op == 3) = false := by rw [beq_eq_false_iff_ne]; exact h3
      by_cases h4 : d.op = 4
      · have t4 : (d.op == 4) = true := by rw [beq_iff_eq]; exact h4
        have HQ : Hid (RV = totV L d ∧ RE = totE L d) := hide ⟨by rw [← HRV.out]; unfold leafV; rw [if_neg h0, if_neg h3, if_pos h4, HL.out], by rw [← HRE.out]; unfold leafE; rw [if_neg h0, if_neg h3, if_pos h4, HL.out]⟩
        clear h0 h3 h4 HRV HRE
        obtain ⟨tv, htv⟩ : ∃ r, totV L d = r := ⟨_, rfl⟩
        obtain ⟨te, hte⟩ : ∃ r, totE L d = r := ⟨_, rfl⟩
        rw [htv, hte] at HQ HTOT
        clear htv hte
        obtain ⟨tq, tn, ts⟩ := tv
        go_wp2_with fail
        refine (HTOT.out _ HT.out).mono ?_
        rintro e w2 ⟨rfl, hb⟩
        replace HB := hide (bthen HB.out hb)
        replace HR := hide (HR.out.keep hb)
        clear hb x0 x1 x2 x3 x4 x5 x6 x7 y0 y1 y2 y3 y4 y5 y6 y7 r0 r1 r2 g0 g1 g2
        obtain ⟨⟨r0, r1, r2⟩, g0, g1, g2⟩ := HR.out
        simp only [V3.z] at r0 r1 r2
        go_wp2
        refine bodyPost_ret (v := .tuple #[.agg #[.int .i64 tq, .int .i64 tn, .string ts], .int .i64 te]) (by rw [results_cell_tmp rfl]; go_simp) rfl ?_
        exact Ret.mk (by rw [HQ.out.1, HQ.out.2]; try rfl) (below_set3' HB.out (by omega) _ _ _)
      · have t4 : (d.op == 4) = false := by rw [beq_eq_false_iff_ne]; exact h4
        have tv : (d.var != -1) = true := by rw [bne_iff_ne]; have := HLV.out; omega
        clear HTOT
        by_cases hm0 : m = 0
        · have HQ : Hid (RV = V3.z ∧ RE = 10) := hide ⟨by rw [← HRV.out]; unfold leafV; rw [if_neg h0, if_neg h3, if_neg h4, HL.out, if_pos (HM.out.trans hm0)], by rw [← HRE.out]; unfold leafE; rw [if_neg h0, if_neg h3, if_neg h4, HL.out, if_pos (HM.out.trans hm0)]⟩
          have tm : ((m : Int) == 0) = true := by rw [beq_iff_eq]; omega
          have tm2 : (m == 0) = true := by rw [beq_iff_eq]; omega
          clear h0 h3 h4 HRV HRE hm0
          go_wp2
          refine bodyPost_ret (v := .tuple #[.agg #[.int .i64 0, .int .i64 0, .string ⟨#[]⟩], .int .i64 10]) (by rw [results_cell_tmp rfl]; go_simp) rfl ?_
          exact Ret.mk (by rw [HQ.out.1, HQ.out.2]; try rfl) (bthen (below_set3' HB.out (by omega) _ _ _) (below_laid _))
        · have tm : ((m : Int) == 0) = false := by rw [beq_eq_false_iff_ne]; omega
          have tm2 : (m == 0) = false := by rw [beq_eq_false_iff_ne]; omega
          have hj : m - 1 < L.length := by rw [HM.out]; omega
          obtain ⟨j, hjm⟩ : ∃ j, m = j + 1 := ⟨m - 1, by omega⟩
          subst hjm
          rw [show j + 1 - 1 = j by omega] at hj
          obtain ⟨g, off, ys, e2, hg, hyl, hc, ⟨u, rfl, hl⟩⟩ := Lst.at_ HU.out hj
          subst e2
          obtain ⟨ev, hev⟩ : ∃ ev, L[j] = ev := ⟨_, rfl⟩
          have hlast : L.getD (L.length - 1) Evx.z = ev := by rw [HM.out, show j + 1 - 1 = j by omega]; simp [hj, hev]
          have HLA := hide hlast
          rw [hev] at hc hl
          obtain ⟨A3, cap3, rfl⟩ := hl.form
          obtain ⟨n3, hn3⟩ : ∃ k, ev.vs.length = k := ⟨_, rfl⟩
          rw [hn3] at hl hc
          have HSZ := hide (fun k => field_sz (e := ev) (fun x hx => by
            obtain ⟨i, hi, rfl⟩ := List.getElem_of_mem hx
            obtain ⟨g, off, cap, xs, -, -, -, -, ⟨-, hs⟩⟩ := hl.2 i hi
            exact hs) k)
          have hb1 := below_laid (w := w1) (.cells #[.int .i64 0, .int .i64 0, .int .i64 0, .int .i64 0, .slice none 0 0] 50)
          have HVL := hide (show There RVx 3 w1 (.slice A3 n3 cap3) ev.vs from hl)
          have k0 := hc 0 _ rfl
          have k1 := hc 1 _ rfl
          have k2 := hc 2 _ rfl
          have k3 := hc 3 _ rfl
          have k4 := hc 4 _ rfl
          rw [Nat.add_zero] at k0
          have hgw : g < w1.heap.size := hg
          have ne1 : w1.heap.size ≠ g := by omega
          have HC := hide (hc)
          have HM1 := HM
          clear hc hl hg hyl hev hlast hn3 hj
          by_cases h2 : d.op = 2
          · have t2 : (d.op == 2) = true := by rw [beq_iff_eq]; exact h2
            have HQ : Hid (RV = ⟨0, ev.t, ⟨#[]⟩⟩ ∧ RE = 0) := hide ⟨by rw [← HRV.out]; unfold leafV; rw [if_neg h0, if_neg h3, if_neg h4, HL.out, if_neg (by rw [HM.out]; omega), if_pos h2, HLA.out], by rw [← HRE.out]; unfold leafE; rw [if_neg h0, if_neg h3, if_neg h4, HL.out, if_neg (by rw [HM.out]; omega), if_pos h2]⟩
            clear h0 h3 h4 h2 HRV HRE hm0
            go_wp2
            refine bodyPost_ret (v := .tuple #[.agg #[.int .i64 0, .int .i64 ev.t, .string ⟨#[]⟩], .int .i64 0]) (by rw [results_cell_tmp rfl]; go_simp) rfl ?_
            exact Ret.mk (by rw [HQ.out.1, HQ.out.2]; try rfl) (bthen (below_set3' HB.out (by omega) _ _ _) (below_laid _))
          · have t2 : (d.op == 2) = false := by rw [beq_eq_false_iff_ne]; exact h2
            have HFD := hide (fun w h => xfield_any w ev (.slice A3 n3 cap3) d.field hk h)
            have HQ := hide (show (if fieldE ev d.field ≠ 0 then fieldE ev d.field else checkC (fieldV ev d.field).q (fieldV ev d.field).n (fieldV ev d.field).s.size) = RE ∧ (if RE = 0 then fieldV ev d.field else V3.z) = RV by
              have e1 := HRE.out
              have e2 := HRV.out
              unfold leafV at e2
              rw [e1] at e2
              unfold leafE at e1
              rw [if_neg h0, if_neg h3, if_neg h4, HL.out, if_neg (by rw [HM.out]; omega), if_neg h2, HLA.out] at e1 e2
              exact ⟨e1, e2⟩)
            replace HSZ := hide (HSZ.out d.field)
            obtain ⟨fE, hfE⟩ : ∃ r, fieldE ev d.field = r := ⟨_, rfl⟩
            obtain ⟨fV, hfV⟩ : ∃ r, fieldV ev d.field = r := ⟨_, rfl⟩
            rw [hfE, hfV] at HFD HQ
            rw [hfV] at HSZ
            obtain ⟨fq, fn, fs⟩ := fV
            simp only at HQ HSZ
            clear h0 h3 h4 h2 HRV HRE hm0 hfE hfV
            go_wp2_with fail
            refine (HFD.out _ (HVL.out.keep rd_Vx (below_laid _))).mono ?_
            rintro e w2 ⟨rfl, hb⟩
            have hbw := bthen (below_laid _) hb
            replace HB := hide (bthen HB.out hbw)
            replace HR := hide (HR.out.keep hbw)
            clear hb hbw x0 x1 x2 x3 x4 x5 x6 x7 y0 y1 y2 y3 y4 y5 y6 y7 r0 r1 r2 g0 g1 g2 l0 l1 l2 k0 k1 k2 k3 k4
            obtain ⟨⟨r0, r1, r2⟩, g0, g1, g2⟩ := HR.out
            simp only [V3.z] at r0 r1 r2
            have l2 := World.block_lt_of_cell? w2 _ r0
            simp only at l2
            have HCK := hide (fun w => check_any fq fn fs w HSZ.out)
            by_cases hF : fE = 0
            · have tF : (fE == 0) = true := by rw [beq_iff_eq]; exact hF
              have HQ2 := hide (show checkC fq fn fs.size = RE ∧ (if RE = 0 then (⟨fq, fn, fs⟩ : V3) else V3.z) = RV by
                have := HQ.out
                rw [if_neg (by simpa using hF)] at this
                exact this)
              obtain ⟨c, hc⟩ : ∃ c, checkC fq fn fs.size = c := ⟨_, rfl⟩
              rw [hc] at HCK HQ2
              clear hF HQ hc HFD
              go_wp2_with fail
              refine (HCK.out _).mono ?_
              rintro e w3 ⟨rfl, hb⟩
              have hbw := bthen (below_laid _) hb
              obtain ⟨-, hz3, hx⟩ := step_box [.int .i64 fq, .int .i64 fn, .string fs] hb
              have b0 := hx 0 _ rfl
              have b1 := hx 1 _ rfl
              have b2 := hx 2 _ rfl
              replace HB := hide (bthen HB.out hbw)
              replace HR := hide (HR.out.keep hbw)
              clear hb hbw r0 r1 r2 g0 g1 g2 hx l2
              obtain ⟨⟨r0, r1, r2⟩, g0, g1, g2⟩ := HR.out
              simp only [V3.z] at r0 r1 r2
              have l2 := World.block_lt_of_cell? w3 _ r0
              simp only at l2
              by_cases hC : c = 0
              · have tC : (c != 0) = false := by rw [bne_eq_false_iff_eq]; exact hC
                have HQ : Hid (RV = ⟨fq, fn, fs⟩ ∧ RE = 0) := hide ⟨by rw [← HQ2.out.2, ← HQ2.out.1, if_pos hC], by rw [← HQ2.out.1]; exact hC⟩
                clear hC HQ2
                go_wp2
                refine bodyPost_ret (v := .tuple #[.agg #[.int .i64 fq, .int .i64 fn, .string fs], .int .i64 0]) (by rw [results_cell_tmp rfl]; go_simp) rfl ?_
                exact Ret.mk (by rw [HQ.out.1, HQ.out.2]; try rfl) (below_set3' HB.out (by omega) _ _ _)
              · have tC : (c != 0) = true := by rw [bne_iff_ne]; exact hC
                have HQ : Hid (RV = V3.z ∧ RE = c) := hide ⟨by rw [← HQ2.out.2, ← HQ2.out.1, if_neg hC], HQ2.out.1.symm⟩
                clear hC HQ2
                go_wp2
                refine bodyPost_ret (v := .tuple #[.agg #[.int .i64 0, .int .i64 0, .string ⟨#[]⟩], .int .i64 c]) (by rw [results_cell_tmp rfl]; go_simp) rfl ?_
                exact Ret.mk (by rw [HQ.out.1, HQ.out.2]; try rfl) (below_set3' HB.out (by omega) _ _ _)
            · have tF : (fE == 0) = false := by rw [beq_eq_false_iff_ne]; exact hF
              have tF2 : (fE != 0) = true := by rw [bne_iff_ne]; exact hF
              have HQ : Hid (RV = V3.z ∧ RE = fE) := hide (by
                have := HQ.out
                rw [if_pos hF] at this
                rw [← this.1, if_neg hF] at this
                exact ⟨this.2.symm, by rw [← HQ.out.1, if_pos hF]⟩)
              clear hF HFD
              go_wp2
              refine bodyPost_ret (v := .tuple #[.agg #[.int .i64 0, .int .i64 0, .string ⟨#[]⟩], .int .i64 fE]) (by rw [results_cell_tmp rfl]; go_simp) rfl ?_
              exact Ret.mk (by rw [HQ.out.1, HQ.out.2]; try rfl) (bthen (below_set3' HB.out (by omega) _ _ _) (below_laid _))
end
end Go.Proofs.Ytkcbjnhphekadaa
