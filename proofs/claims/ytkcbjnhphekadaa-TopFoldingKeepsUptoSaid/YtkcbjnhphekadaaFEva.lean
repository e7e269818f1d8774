/- Eval, and Truth, of an expression. -/
import Derived.Test.YtkcbjnhphekadaaFEvl
import Derived.Deep.RegionHeld3
namespace Go.Proofs.Ytkcbjnhphekadaa
open Go.RowKit
set_option linter.unusedVariables false
set_option linter.unusedSimpArgs false
def evalE (E : List (List Evx)) (t : Tr) : Int := if checkE t ≠ 0 then checkE t else (evalT (evLV E) t).2
def evalV (E : List (List Evx)) (t : Tr) : V3 := if checkE t ≠ 0 then V3.z else (evalT (evLV E) t).1
def MapN : World → Value → Prop := fun w v => ∃ mp, v = .map (some mp) ∧ Opz w mp
def EvN (u : Value) : World → Value → Prop := fun w v => ∃ mp, v = .agg (evC u (.map (some mp))).toArray ∧ Opz w mp
def truthB (E : List (List Evx)) (t : Tr) : Bool := decide (evalE E t = 0) && eqQ (evalV E t) (flagQ true)
section
variable (E : List (List Evx)) (hE : ∀ k, (evsQ E k).length ≤ 4096)
include hE
set_option maxRecDepth 100000 in
set_option maxHeartbeats 8000000 in
theorem xEval_any (t : Tr) (hn : nodesT t ≤ 1000) (w : World) (v : Value) (xs : List Value) (h1 : There RLx 1 w v E) (h : Tx w xs t) :
    Calls Try.prog 9 #[.agg xs.toArray, .agg #[v], .int .i64 (-1), .agg ([.int .i64 0, .int .i64 0, .int .i64 0, .int .i64 0, .slice none 0 0]).toArray] w (Ret (.tuple #[V3.v (evalV E t), .int .i64 (evalE E t)]) w) := by
  have HC := hide (fun w' h' => xcheck_any t w' xs h' hn)
  have HT := hide (fun (hg : GoodT t) w' mp h1 h2 h3 => xeval_any E hE t hg.ok w' v mp xs h1 h2 h3)
  have HG := hide (@check_good t)
  obtain ⟨CE, hCE⟩ : ∃ c, checkE t = c := ⟨_, rfl⟩
  have HQ0 := hide (show evalV E t = (if CE ≠ 0 then V3.z else (evalT (evLV E) t).1) ∧ evalE E t = (if CE ≠ 0 then CE else (evalT (evLV E) t).2) by unfold evalV evalE; rw [hCE]; exact ⟨rfl, rfl⟩)
  obtain ⟨RV, hRV⟩ : ∃ r, evalV E t = r := ⟨_, rfl⟩
  obtain ⟨re, hre⟩ : ∃ r, evalE E t = r := ⟨_, rfl⟩
  obtain ⟨EV, hEV⟩ : ∃ r, evalT (evLV E) t = r := ⟨_, rfl⟩
  rw [hRV, hre, hEV] at HQ0
  rw [hRV, hre]
  rw [hEV] at HT
  rw [hCE] at HC HG
  obtain ⟨⟨eq, en, es⟩, ee⟩ := EV
  simp only at HQ0 HT
  have H1 := hide h1
  have HX := hide h
  obtain ⟨d, args⟩ := t
  obtain ⟨v0, rfl, hl, hd⟩ := RTx.out h
  obtain ⟨A, cap, rfl⟩ := hl.form
  obtain ⟨A1, cap1, rfl⟩ := h1.form
  obtain ⟨m1, hm1⟩ : ∃ k, E.length = k := ⟨_, rfl⟩
  obtain ⟨m, hmm⟩ : ∃ m, args.length = m := ⟨_, rfl⟩
  rw [hm1] at H1 HT ⊢
  rw [hmm] at HC HT HX ⊢
  clear h h1 hl hd hmm hm1 hRV hre hEV hCE hn
  have hB1 := below_laid (w := w) (.cells ([.int .i64 d.op, .slice A m cap, .int .i64 d.var, .int .i64 d.field, .int .i64 d.kind, .int .i64 d.val.q, .int .i64 d.val.n, .string d.val.s]).toArray 30)
  have hB2 := bthen hB1 (below_laid (.cells #[.slice A1 m1 cap1] 37))
  have hB3 := bthen hB2 (below_laid (.cells ([.int .i64 0, .int .i64 0, .int .i64 0, .int .i64 0, .slice none 0 0]).toArray 50))
  have hB4 := bthen hB3 (below_laid (.cells #[.int .i64 0, .int .i64 0, .string ⟨#[]⟩] 28))
  have hx := (((Bxs.new w ([.int .i64 d.op, .slice A m cap, .int .i64 d.var, .int .i64 d.field, .int .i64 d.kind, .int .i64 d.val.q, .int .i64 d.val.n, .string d.val.s]) 30).keep (below_laid (.cells #[.slice A1 m1 cap1] 37))).keep (below_laid (.cells ([.int .i64 0, .int .i64 0, .int .i64 0, .int .i64 0, .slice none 0 0]).toArray 50))).keep (below_laid (.cells #[.int .i64 0, .int .i64 0, .string ⟨#[]⟩] 28))
  have hy := ((Bxs.new (w.alloc (.cells ([.int .i64 d.op, .slice A m cap, .int .i64 d.var, .int .i64 d.field, .int .i64 d.kind, .int .i64 d.val.q, .int .i64 d.val.n, .string d.val.s]).toArray 30)) [.slice A1 m1 cap1] 37).keep (below_laid (.cells ([.int .i64 0, .int .i64 0, .int .i64 0, .int .i64 0, .slice none 0 0]).toArray 50))).keep (below_laid (.cells #[.int .i64 0, .int .i64 0, .string ⟨#[]⟩] 28))
  rw [World.size_alloc] at hy
  have hz := (Bxs.new ((w.alloc (.cells ([.int .i64 d.op, .slice A m cap, .int .i64 d.var, .int .i64 d.field, .int .i64 d.kind, .int .i64 d.val.q, .int .i64 d.val.n, .string d.val.s]).toArray 30)).alloc (.cells #[.slice A1 m1 cap1] 37)) ([.int .i64 0, .int .i64 0, .int .i64 0, .int .i64 0, .slice none 0 0]) 50).keep (below_laid (.cells #[.int .i64 0, .int .i64 0, .string ⟨#[]⟩] 28))
  simp only [World.size_alloc] at hz
  have hr := Box3.new (((w.alloc (.cells ([.int .i64 d.op, .slice A m cap, .int .i64 d.var, .int .i64 d.field, .int .i64 d.kind, .int .i64 d.val.q, .int .i64 d.val.n, .string d.val.s]).toArray 30)).alloc (.cells #[.slice A1 m1 cap1] 37)).alloc (.cells ([.int .i64 0, .int .i64 0, .int .i64 0, .int .i64 0, .slice none 0 0]).toArray 50)) V3.z 28
  simp only [World.size_alloc] at hr
  have HBX := hide hx
  have HBY := hide hy
  have HBZ := hide hz
  have HR := hide hr
  have HB := hide hB4
  replace H1 := hide (H1.out.keep rd_Lx hB4)
  replace HX := hide (HX.out.grow hB4)
  clear hx hy hz hr hB1 hB2 hB3 hB4
  have a0 := HBX.out 0 _ rfl
  have a1 := HBX.out 1 _ rfl
  have a2 := HBX.out 2 _ rfl
  have a3 := HBX.out 3 _ rfl
  have a4 := HBX.out 4 _ rfl
  have a5 := HBX.out 5 _ rfl
  have a6 := HBX.out 6 _ rfl
  have a7 := HBX.out 7 _ rfl
  go_enter Try.func9, Try.ntmps9
  go_wp2_with fail
  refine (HC.out _ HX.out).mono ?_
  rintro e w1 ⟨rfl, hb⟩
  replace HB := hide (bthen HB.out hb)
  replace HBX := hide (HBX.out.keep hb)
  replace HBY := hide (HBY.out.keep hb)
  replace HBZ := hide (HBZ.out.keep hb)
  replace HR := hide (HR.out.keep hb)
  replace H1 := hide (H1.out.keep rd_Lx hb)
  replace HX := hide (HX.out.grow hb)
  clear hb a0 a1 a2 a3 a4 a5 a6 a7 HC
  obtain ⟨⟨r0, r1, r2⟩, g0, g1, g2⟩ := HR.out
  simp only [V3.z] at r0 r1 r2
  by_cases hE0 : CE = 0
  · have tE : (CE != 0) = false := by rw [bne_eq_false_iff_eq]; exact hE0
    have HQ := hide (show RV = ⟨eq, en, es⟩ ∧ re = ee by
      have := HQ0.out
      rw [if_neg (by simpa using hE0), if_neg (by simpa using hE0)] at this
      exact this)
    have HG2 := hide (HT.out (HG.out.1 hE0))
    clear hE0 HG HT HQ0
    go_wp2_with fail
    refine wp_region_grow 9 [17, 18, 19, 20, 21, 22, 23, 24, 25] [Fix (.agg #[.slice A1 m1 cap1]), Fix (.int .i64 (-1)), Fix (.agg #[.int .i64 0, .int .i64 0, .int .i64 0, .int .i64 0, .slice none 0 0]), MapN, EvN (.slice A1 m1 cap1), Fix (.agg #[.int .i64 d.op, .slice A m cap, .int .i64 d.var, .int .i64 d.field, .int .i64 d.kind, .int .i64 d.val.q, .int .i64 d.val.n, .string d.val.s]), Fix (.tuple #[.agg #[.int .i64 eq, .int .i64 en, .string es], .int .i64 ee]), Fix (.agg #[.int .i64 eq, .int .i64 en, .string es]), Fix (.int .i64 ee)] (by kernel_rfl) (by kernel_rfl) (by kernel_rfl) (by kernel_rfl) (by kernel_rfl) ?_ ?_ ?_
    · intro p hp
      simp only [List.mem_cons, List.not_mem_nil, or_false] at hp
      rcases hp with rfl | rfl | rfl | rfl | rfl | rfl | rfl | rfl | rfl
      all_goals first | exact (fun _ _ _ _ h => h) | exact (fun _ _ _ hb ⟨mp, e, h⟩ => ⟨mp, e, h.keep hb⟩)
    · intro j9 o9 hj9 ho x w5 hb hd
      have hjc : j9 = 0 ∨ j9 = 1 ∨ j9 = 2 ∨ j9 = 3 ∨ j9 = 4 ∨ j9 = 5 ∨ j9 = 6 ∨ j9 = 7 ∨ j9 = 8 := by omega
      rcases hjc with rfl | rfl | rfl | rfl | rfl | rfl | rfl | rfl | rfl
      all_goals obtain rfl := Option.some.inj ho
      all_goals generalize hK : (fun (a' : Act) (w' : World) => _) = K
      all_goals simp only [puts]
      · have z0 := keep1 hb (HBY.out 0 _ rfl)
        go_simp
        rw [← hK]
        exact ⟨.agg #[.slice A1 m1 cap1], (by simp only [puts]; go_simp), Below.refl _ _, rfl⟩
      · go_simp
        rw [← hK]
        exact ⟨.int .i64 (-1), (by simp only [puts]; go_simp), Below.refl _ _, rfl⟩
      · have z0 := keep1 hb (HBZ.out 0 _ rfl)
        have z1 := keep1 hb (HBZ.out 1 _ rfl)
        have z2 := keep1 hb (HBZ.out 2 _ rfl)
        have z3 := keep1 hb (HBZ.out 3 _ rfl)
        have z4 := keep1 hb (HBZ.out 4 _ rfl)
        go_simp
        rw [← hK]
        exact ⟨.agg #[.int .i64 0, .int .i64 0, .int .i64 0, .int .i64 0, .slice none 0 0], (by simp only [puts]; go_simp), Below.refl _ _, rfl⟩
      · go_simp
        go_at_call 20
        refine (opz_any _).mono ?_
        rintro en9 w9 ⟨mp, ⟨rfl, hbc⟩, hop⟩
        rw [← hK]
        exact ⟨.map (some mp), (by simp only [puts]; go_simp), hbc, mp, rfl, hop⟩
      · have e : x 17 = .agg #[.slice A1 m1 cap1] := hd 0 (by kernel_rfl)
        have e' : x 18 = .int .i64 (-1) := hd 1 (by kernel_rfl)
        have e'' : x 19 = .agg #[.int .i64 0, .int .i64 0, .int .i64 0, .int .i64 0, .slice none 0 0] := hd 2 (by kernel_rfl)
        obtain ⟨mp, e3, hop⟩ : MapN w5 (x 20) := hd 3 (by kernel_rfl)
        have HOP := hide hop
        clear hop
        go_simp
        rw [← hK]
        exact ⟨.agg (evC (.slice A1 m1 cap1) (.map (some mp))).toArray, (by simp only [puts]; go_simp), Below.refl _ _, mp, rfl, HOP.out⟩
      · have z0 := keep1 hb (HBX.out 0 _ rfl)
        have z1 := keep1 hb (HBX.out 1 _ rfl)
        have z2 := keep1 hb (HBX.out 2 _ rfl)
        have z3 := keep1 hb (HBX.out 3 _ rfl)
        have z4 := keep1 hb (HBX.out 4 _ rfl)
        have z5 := keep1 hb (HBX.out 5 _ rfl)
        have z6 := keep1 hb (HBX.out 6 _ rfl)
        have z7 := keep1 hb (HBX.out 7 _ rfl)
        go_simp
        rw [← hK]
        exact ⟨.agg #[.int .i64 d.op, .slice A m cap, .int .i64 d.var, .int .i64 d.field, .int .i64 d.kind, .int .i64 d.val.q, .int .i64 d.val.n, .string d.val.s], (by simp only [puts]; go_simp), Below.refl _ _, rfl⟩
      · obtain ⟨mp, e3, hop⟩ : EvN (.slice A1 m1 cap1) w5 (x 21) := hd 4 (by kernel_rfl)
        have e : x 22 = .agg #[.int .i64 d.op, .slice A m cap, .int .i64 d.var, .int .i64 d.field, .int .i64 d.kind, .int .i64 d.val.q, .int .i64 d.val.n, .string d.val.s] := hd 5 (by kernel_rfl)
        have HCL := hide (HG2.out w5 mp (H1.out.keep rd_Lx hb) hop (HX.out.grow hb))
        clear hop
        go_simp
        go_at_call 22
        refine HCL.out.mono ?_
        rintro en9 w9 ⟨rfl, hbc⟩
        rw [← hK]
        exact ⟨.tuple #[.agg #[.int .i64 eq, .int .i64 en, .string es], .int .i64 ee], (by simp only [puts]; go_simp), hbc, rfl⟩
      · have e : x 23 = .tuple #[.agg #[.int .i64 eq, .int .i64 en, .string es], .int .i64 ee] := hd 6 (by kernel_rfl)
        go_simp
        rw [← hK]
        exact ⟨.agg #[.int .i64 eq, .int .i64 en, .string es], (by simp only [puts]; go_simp), Below.refl _ _, rfl⟩
      · have e : x 23 = .tuple #[.agg #[.int .i64 eq, .int .i64 en, .string es], .int .i64 ee] := hd 6 (by kernel_rfl)
        go_simp
        rw [← hK]
        exact ⟨.int .i64 ee, (by simp only [puts]; go_simp), Below.refl _ _, rfl⟩
    · intro x w9 hb hP
      have e : x 24 = .agg #[.int .i64 eq, .int .i64 en, .string es] := hP 7 (by decide)
      have e' : x 25 = .int .i64 ee := hP 8 (by decide)
      have HWF := hide (bthen HB.out hb)
      have s0 := keep1 hb r0
      have s1 := keep1 hb r1
      have s2 := keep1 hb r2
      have l1 := World.block_lt_of_cell? w1 _ r0
      simp only at l1
      have f0 := ((bcell hb).2 (w.heap.size + 1 + 1 + 1) 0 l1).trans g0
      have f1 := ((bcell hb).2 (w.heap.size + 1 + 1 + 1) 1 l1).trans g1
      have f2 := ((bcell hb).2 (w.heap.size + 1 + 1 + 1) 2 l1).trans g2
      have l9 := World.block_lt_of_cell? w9 _ s0
      simp only at l9
      clear hP hb r0 r1 r2 g0 g1 g2 l1
      simp only [puts, Act.put, List.setIfInBounds_toArray, List.set_cons_succ, List.set_cons_zero, List.drop]
      go_wp2
      refine bodyPost_ret (v := .tuple #[.agg #[.int .i64 eq, .int .i64 en, .string es], .int .i64 ee]) (by rw [results_cell_tmp rfl]; go_simp) rfl ?_
      exact Ret.mk (by rw [HQ.out.1, HQ.out.2]; first | done | rfl) (below_set3' HWF.out (by omega) _ _ _)
  · have tE : (CE != 0) = true := by rw [bne_iff_ne]; exact hE0
    have HQ := hide (show RV = V3.z ∧ re = CE by
      have := HQ0.out
      rw [if_pos hE0, if_pos hE0] at this
      exact this)
    clear hE0 HG HT HQ0
    go_wp2
    refine bodyPost_ret (v := .tuple #[.agg #[.int .i64 0, .int .i64 0, .string ⟨#[]⟩], .int .i64 CE]) (by rw [results_cell_tmp rfl]; go_simp) rfl ?_
    exact Ret.mk (by rw [HQ.out.1, HQ.out.2]; first | done | rfl) (below_set3' HB.out (by omega) _ _ _)
set_option maxRecDepth 100000 in
set_option maxHeartbeats 8000000 in
theorem xTruth_any (t : Tr) (hn : nodesT t ≤ 1000) (w : World) (v : Value) (xs : List Value) (h1 : There RLx 1 w v E) (h : Tx w xs t) :
    Calls Try.prog 11 #[.agg xs.toArray, .agg #[v], .int .i64 (-1), .agg ([.int .i64 0, .int .i64 0, .int .i64 0, .int .i64 0, .slice none 0 0]).toArray] w (Ret (.bool (truthB E t)) w) := by
  have HC := hide (fun w' h1 h' => xEval_any E hE t hn w' v xs h1 h')
  obtain ⟨RB, hRB⟩ : ∃ b, truthB E t = b := ⟨_, rfl⟩
  have HQ0 := hide (show (decide (evalE E t = 0) && eqQ (evalV E t) (flagQ true)) = RB from hRB)
  rw [hRB]
  obtain ⟨RV, hRV⟩ : ∃ r, evalV E t = r := ⟨_, rfl⟩
  obtain ⟨re, hre⟩ : ∃ r, evalE E t = r := ⟨_, rfl⟩
  rw [hRV, hre] at HQ0 HC
  obtain ⟨rq, rn, rs⟩ := RV
  have H1 := hide h1
  have HX := hide h
  obtain ⟨d, args⟩ := t
  obtain ⟨v0, rfl, hl, hd⟩ := RTx.out h
  obtain ⟨A, cap, rfl⟩ := hl.form
  obtain ⟨A1, cap1, rfl⟩ := h1.form
  obtain ⟨m1, hm1⟩ : ∃ k, E.length = k := ⟨_, rfl⟩
  obtain ⟨m, hmm⟩ : ∃ m, args.length = m := ⟨_, rfl⟩
  rw [hm1] at H1 HC ⊢
  rw [hmm] at HC HX ⊢
  clear h h1 hl hd hmm hm1 hRV hre hRB hn
  have hB1 := below_laid (w := w) (.cells ([.int .i64 d.op, .slice A m cap, .int .i64 d.var, .int .i64 d.field, .int .i64 d.kind, .int .i64 d.val.q, .int .i64 d.val.n, .string d.val.s]).toArray 30)
  have hB2 := bthen hB1 (below_laid (.cells #[.slice A1 m1 cap1] 37))
  have hB3 := bthen hB2 (below_laid (.cells ([.int .i64 0, .int .i64 0, .int .i64 0, .int .i64 0, .slice none 0 0]).toArray 50))
  have HB := hide hB3
  replace H1 := hide (H1.out.keep rd_Lx hB3)
  replace HX := hide (HX.out.grow hB3)
  clear hB1 hB2 hB3
  go_enter Try.func11, Try.ntmps11
  go_wp2_with fail
  refine (HC.out _ H1.out HX.out).mono ?_
  rintro e w1 ⟨rfl, hb⟩
  replace HB := hide (bthen HB.out hb)
  clear hb HC
  by_cases hE0 : re = 0
  · have tE : (re == 0) = true := by rw [beq_iff_eq]; exact hE0
    have HQ := hide (show eqQ ⟨rq, rn, rs⟩ ⟨1, 1, ⟨#[]⟩⟩ = RB by
      have := HQ0.out
      rw [decide_eq_true hE0, Bool.true_and] at this
      exact this)
    have HFL := hide (fun w => flag_any w true)
    clear hE0 HQ0
    have hc := cells_lit w1 [.int .i64 rq, .int .i64 rn, .string rs] 28
    have c0 := hc 0 _ rfl
    have c1 := hc 1 _ rfl
    have c2 := hc 2 _ rfl
    have hba := below_laid (w := w1) (.cells #[.int .i64 rq, .int .i64 rn, .string rs] 28)
    have HS := hide (show rs.toList = [] ↔ rs = ⟨#[]⟩ from ⟨fun h => by
      rw [ByteArray.toList_eq] at h
      exact ByteArray.ext (Array.toList_inj.1 h), fun h => by rw [h, ByteArray.toList_eq]⟩)
    have hcase : (∃ b, b = RB ∧ b = false ∧ ¬ rq = 1) ∨ (∃ b, b = RB ∧ b = false ∧ rq = 1 ∧ ¬ rn = 1) ∨ (∃ b, b = RB ∧ b = false ∧ rq = 1 ∧ rn = 1 ∧ ¬ rs.toList = []) ∨ (∃ b, b = RB ∧ b = true ∧ rq = 1 ∧ rn = 1 ∧ rs.toList = []) := by
      by_cases h1 : rq = 1
      · by_cases h2 : rn = 1
        · by_cases h3 : rs.toList = []
          · exact .inr (.inr (.inr ⟨true, by rw [← HQ.out]; simp [eqQ, h1, h2, HS.out.1 h3], rfl, h1, h2, h3⟩))
          · exact .inr (.inr (.inl ⟨false, by rw [← HQ.out]; simp [eqQ, h1, h2]; exact fun h => h3 (HS.out.2 h), rfl, h1, h2, h3⟩))
        · exact .inr (.inl ⟨false, by rw [← HQ.out]; simp [eqQ, h1, h2], rfl, h1, h2⟩)
      · exact .inl ⟨false, by rw [← HQ.out]; simp [eqQ, h1], rfl, h1⟩
    rcases hcase with ⟨b, hq, rfl, h1⟩ | ⟨b, hq, rfl, rfl, h2⟩ | ⟨b, hq, rfl, rfl, rfl, h3⟩ | ⟨b, hq, rfl, rfl, rfl, h3⟩
    · replace HQ := hide hq
      clear hq HS
      go_wp2_with fail
      go_region_held3 (fun w' => w'.cell? ⟨w1.heap.size, 0, none⟩ = some (.int .i64 rq) ∧ w'.cell? ⟨w1.heap.size, 1, none⟩ = some (.int .i64 rn) ∧ w'.cell? ⟨w1.heap.size, 2, none⟩ = some (.string rs))
        (first | with_reducible exact ⟨keep1 hbK c0, keep1 hbK c1, keep1 hbK c2⟩ | (go_keep; done))
        ((go_at_call 26; refine (HFL.out _).mono ?_; rintro en w9 ⟨rfl, hb9⟩; have hbK := below_undrew hb9; simp only [V3.v, flagQ]))
      all_goals
        go_wp2
        go_ret
        exact Ret.mk (by rw [← HQ.out]; first | done | rfl) (bthen HB.out (bthen hba hbK))
    · replace HQ := hide hq
      clear hq HS
      go_wp2_with fail
      go_region_held3 (fun w' => w'.cell? ⟨w1.heap.size, 0, none⟩ = some (.int .i64 1) ∧ w'.cell? ⟨w1.heap.size, 1, none⟩ = some (.int .i64 rn) ∧ w'.cell? ⟨w1.heap.size, 2, none⟩ = some (.string rs))
        (first | with_reducible exact ⟨keep1 hbK c0, keep1 hbK c1, keep1 hbK c2⟩ | (go_keep; done))
        ((go_at_call 26; refine (HFL.out _).mono ?_; rintro en w9 ⟨rfl, hb9⟩; have hbK := below_undrew hb9; simp only [V3.v, flagQ]))
      all_goals
        go_wp2
        go_ret
        exact Ret.mk (by rw [← HQ.out]; first | done | rfl) (bthen HB.out (bthen hba hbK))
    · replace HQ := hide hq
      clear hq HS
      go_wp2_with fail
      go_region_held3 (fun w' => w'.cell? ⟨w1.heap.size, 0, none⟩ = some (.int .i64 1) ∧ w'.cell? ⟨w1.heap.size, 1, none⟩ = some (.int .i64 1) ∧ w'.cell? ⟨w1.heap.size, 2, none⟩ = some (.string rs))
        (first | with_reducible exact ⟨keep1 hbK c0, keep1 hbK c1, keep1 hbK c2⟩ | (go_keep; done))
        ((go_at_call 26; refine (HFL.out _).mono ?_; rintro en w9 ⟨rfl, hb9⟩; have hbK := below_undrew hb9; simp only [V3.v, flagQ]))
      all_goals
        go_wp2
        go_ret
        exact Ret.mk (by rw [← HQ.out]; first | done | rfl) (bthen HB.out (bthen hba hbK))
    · replace HQ := hide hq
      clear hq HS
      go_wp2_with fail
      go_region_held3 (fun w' => w'.cell? ⟨w1.heap.size, 0, none⟩ = some (.int .i64 1) ∧ w'.cell? ⟨w1.heap.size, 1, none⟩ = some (.int .i64 1) ∧ w'.cell? ⟨w1.heap.size, 2, none⟩ = some (.string rs))
        (first | with_reducible exact ⟨keep1 hbK c0, keep1 hbK c1, keep1 hbK c2⟩ | (go_keep; done))
        ((go_at_call 26; refine (HFL.out _).mono ?_; rintro en w9 ⟨rfl, hb9⟩; have hbK := below_undrew hb9; simp only [V3.v, flagQ]))
      all_goals
        go_wp2
        go_ret
        exact Ret.mk (by rw [← HQ.out]; first | done | rfl) (bthen HB.out (bthen hba hbK))
  · have tE : (re == 0) = false := by rw [beq_eq_false_iff_ne]; exact hE0
    have HQ := hide (show false = RB by
      have := HQ0.out
      rw [decide_eq_false hE0, Bool.false_and] at this
      exact this)
    clear hE0 HQ0
    go_wp2_with fail
    refine wp_region_held_drew (S := fun w' => True) (by kernel_rfl) trivial (fun hHeld => ?_)
    refine wpAnyH_take (i := 0) (v := ?_) rfl (by kernel_rfl) (by kernel_rfl) (by kernel_rfl) (fun _ _ _ h => h) (Or.inl ⟨by rfl, ?_⟩) (by assumption) ?_
    rotate_left
    · intro w hSw
      (try dsimp only at hSw)
      go_simp
      all_goals with_reducible rfl
    try simp only [List.getElem_toArray, List.getElem_cons_succ, List.getElem_cons_zero, Act.put, List.setIfInBounds_toArray, List.set_cons_zero, List.set_cons_succ]
    refine wpAnyH_take (i := 1) (v := ?_) rfl (by kernel_rfl) (by kernel_rfl) (by kernel_rfl) (fun _ _ _ h => h) (Or.inl ⟨by rfl, ?_⟩) (by assumption) ?_
    rotate_left
    · intro w hSw
      (try dsimp only at hSw)
      go_simp
      all_goals with_reducible rfl
    try simp only [List.getElem_toArray, List.getElem_cons_succ, List.getElem_cons_zero, Act.put, List.setIfInBounds_toArray, List.set_cons_zero, List.set_cons_succ]
    refine wpAnyH_take (i := 2) (v := ?_) rfl (by kernel_rfl) (by kernel_rfl) (by kernel_rfl) (fun _ _ _ h => h) (Or.inl ⟨by rfl, ?_⟩) (by assumption) ?_
    rotate_left
    · intro w hSw
      (try dsimp only at hSw)
      go_simp
      all_goals with_reducible rfl
    try simp only [List.getElem_toArray, List.getElem_cons_succ, List.getElem_cons_zero, Act.put, List.setIfInBounds_toArray, List.set_cons_zero, List.set_cons_succ]
    refine wpAnyH_take (i := 3) (v := undef) rfl (by kernel_rfl) (by kernel_rfl) (by kernel_rfl) (fun _ _ _ h => h) (Or.inr ⟨by rfl, rfl⟩) (by assumption) ?_
    try simp only [List.getElem_toArray, List.getElem_cons_succ, List.getElem_cons_zero, Act.put, List.setIfInBounds_toArray, List.set_cons_zero, List.set_cons_succ]
    refine wpAnyH_take (i := 4) (v := undef) rfl (by kernel_rfl) (by kernel_rfl) (by kernel_rfl) (fun _ _ _ h => h) (Or.inr ⟨by rfl, rfl⟩) (by assumption) ?_
    try simp only [List.getElem_toArray, List.getElem_cons_succ, List.getElem_cons_zero, Act.put, List.setIfInBounds_toArray, List.set_cons_zero, List.set_cons_succ]
    refine wpAnyH_take (i := 5) (v := undef) rfl (by kernel_rfl) (by kernel_rfl) (by kernel_rfl) (fun _ _ _ h => h) (Or.inr ⟨by rfl, rfl⟩) (by assumption) ?_
    try simp only [List.getElem_toArray, List.getElem_cons_succ, List.getElem_cons_zero, Act.put, List.setIfInBounds_toArray, List.set_cons_zero, List.set_cons_succ]
    refine wpAnyH_take (i := 6) (v := ?_) rfl (by kernel_rfl) (by kernel_rfl) (by kernel_rfl) (fun _ _ _ h => h) (Or.inl ⟨by rfl, ?_⟩) (by assumption) ?_
    rotate_left
    · intro w hSw
      (try dsimp only at hSw)
      go_simp
      all_goals with_reducible rfl
    try simp only [List.getElem_toArray, List.getElem_cons_succ, List.getElem_cons_zero, Act.put, List.setIfInBounds_toArray, List.set_cons_zero, List.set_cons_succ]
    refine wpAnyH_take (i := 7) (v := ?_) rfl (by kernel_rfl) (by kernel_rfl) (by kernel_rfl) (fun _ _ _ h => h) (Or.inl ⟨by rfl, ?_⟩) (by assumption) ?_
    rotate_left
    · intro w hSw
      (try dsimp only at hSw)
      go_simp
      all_goals with_reducible rfl
    try simp only [List.getElem_toArray, List.getElem_cons_succ, List.getElem_cons_zero, Act.put, List.setIfInBounds_toArray, List.set_cons_zero, List.set_cons_succ]
    refine wpAnyH_done (by kernel_rfl) ?_ _
    go_wp2
    go_ret
    exact Ret.mk (by rw [← HQ.out]; first | done | rfl) (bthen HB.out (below_laid _).drew)
end
end Go.Proofs.Ytkcbjnhphekadaa
