/- The law's function CoordinatorKeeps returns true. -/
import Derived.Test.YtihbonndinnohaaQPl
import Derived.Test.YtihbonndinnohaaQOpen
namespace Go.Proofs.Ytihbonndinnohaa
open Go.RowKit
set_option linter.unusedVariables false
set_option linter.unusedSimpArgs false

theorem own_op {w : World} {xs : List Value} {o : Oq} (h : ROq w (· < w.heap.size) xs o) : ∃ M m D d, xs = [.slice M o.marks.length m, .slice D o.engs.length d] := by
  obtain ⟨v, u, rfl, h1, h2, -⟩ := h
  obtain ⟨M, m, rfl⟩ := h1.form
  obtain ⟨D, d, rfl⟩ := h2.form
  exact ⟨M, m, D, d, rfl⟩
theorem roq_grow {w w' : World} {xs : List Value} {o : Oq} (h : ROq w (· < w.heap.size) xs o) (hb : Below w.heap.size w w') : ROq w' (· < w'.heap.size) xs o := rd_Oq.more (fun _ hx => Nat.lt_of_lt_of_le hx hb.size) (rd_Oq.keep (Kp.of_below hb) h)
/-- What a report has turned. -/
theorem rep_hv {c : Cq} {a0 a1 : Int} {o : Oq} (h : repE c a0 a1 = 0) {j k : Nat} (hj : j < c.atts.length) (hk : k < (attQ c j).hv.length) :
    (attQ (repC c a0 a1 o) j).hv.getD k true = ((attQ c j).hv.getD k true || (((attQ c j).num == a0) && ((k : Int) == a1))) := by
  obtain ⟨hc, hi, hw0, hw1, -, -⟩ := repE0 h
  have hs := findQ_spec (num := a0) (l := c.atts) hi
  rw [← attQ_get hi] at hs
  unfold repC
  rw [if_pos h, rep_at hi]
  by_cases e : j = findQ a0 c.atts
  · rw [if_pos e]
    subst e
    have hs' : ((attQ c (findQ a0 c.atts)).num == a0) = true := by rw [beq_iff_eq]; exact hs
    rw [hs', Bool.true_and]
    simp only [repA]
    rw [getD_set (by omega)]
    by_cases ek : k = a1.toNat
    · have : ((k : Int) == a1) = true := by rw [beq_iff_eq]; omega
      rw [if_pos ek, this, Bool.or_true]
    · have : ((k : Int) == a1) = false := by rw [beq_eq_false_iff_ne]; omega
      rw [if_neg ek, this, Bool.or_false]
  · rw [if_neg e]
    have hne : ((attQ c j).num == a0) = false := by
      rw [beq_eq_false_iff_ne]
      intro hh
      rcases Nat.lt_or_ge j (findQ a0 c.atts) with hlt | hge
      · have := nums_lt hc hlt hi; omega
      · have := nums_lt hc (i := findQ a0 c.atts) (j := j) (by omega) hj; omega
    rw [hne, Bool.false_and, Bool.or_false]
theorem rep_same {c : Cq} {a0 a1 : Int} {o : Oq} (h : repE c a0 a1 = 0) : (repC c a0 a1 o).next = c.next ∧ (repC c a0 a1 o).dur = c.dur ∧ (repC c a0 a1 o).atts.length = c.atts.length ∧ ∀ j, (attQ (repC c a0 a1 o) j).num = (attQ c j).num ∧ (attQ (repC c a0 a1 o) j).hv.length = (attQ c j).hv.length := by
  obtain ⟨hc, hi, -, -, -, -⟩ := repE0 h
  unfold repC
  rw [if_pos h]
  refine ⟨rfl, rfl, by simp, fun j => ?_⟩
  rw [rep_at hi]
  split <;> simp_all [repA]
theorem fin_none {c : Cq} {a0 : Int} (h : finE c a0 = 0) : finE (finC c a0) a0 = 6 := by
  unfold finE
  rw [if_neg (by rw [chk_fin h]; decide), if_pos (fin_gone h)]
theorem fin_rep {c : Cq} {a0 a1 : Int} (h : finE c a0 = 0) : repE (finC c a0) a0 a1 = 6 := by
  unfold repE
  rw [if_neg (by rw [chk_fin h]; decide), if_pos (fin_gone h)]
theorem finE_ways {c : Cq} {a0 : Int} (hc : chkQ c = 0) : finE c a0 = 0 ∨ finE c a0 = 6 ∨ finE c a0 = 14 ∨ finE c a0 = 21 := by
  unfold finE
  rw [if_neg (by rw [hc]; decide)]
  repeat' split
  all_goals simp
section
variable (w : World) (c : Cq)
set_option maxRecDepth 100000 in
set_option maxHeartbeats 16000000 in
theorem keeps_few (v : Value) (a0 a1 : Int) (xs : List Value) (o : Oq) (h : CoV w v c) (ho : ROq w (· < w.heap.size) xs o) (hn : inQ a0) (hf : fewQ c = false) : Calls Try.prog 5 #[v, .agg #[.int .i64 a0, .int .i64 a1], .agg xs.toArray] w (Ret (.bool true) w) := by
  obtain ⟨A, cap, rfl⟩ := coz_form h.z
  obtain ⟨M, om, D, od, rfl⟩ := own_op ho
  obtain ⟨w0, hw0⟩ : ∃ x, ((w.alloc (.cells #[.int .i64 c.next, .slice A c.atts.length cap, .int .i64 c.dur] 24)).alloc (.cells #[.int .i64 a0, .int .i64 a1] 38)).alloc (.cells #[.slice M o.marks.length om, .slice D o.engs.length od] 42) = x := ⟨_, rfl⟩
  have HB0 := hide (show Below w.heap.size w (((w.alloc (.cells #[.int .i64 c.next, .slice A c.atts.length cap, .int .i64 c.dur] 24)).alloc (.cells #[.int .i64 a0, .int .i64 a1] 38)).alloc (.cells #[.slice M o.marks.length om, .slice D o.engs.length od] 42)) from bA_alloc (bA_alloc (below_laid _) _) _)
  have HX0 := hide (((Bl.new w [.int .i64 c.next, .slice A c.atts.length cap, .int .i64 c.dur] 24).laid (.cells #[.int .i64 a0, .int .i64 a1] 38)).laid (.cells #[.slice M o.marks.length om, .slice D o.engs.length od] 42))
  have HT0 := hide (show Bl (((w.alloc (.cells #[.int .i64 c.next, .slice A c.atts.length cap, .int .i64 c.dur] 24)).alloc (.cells #[.int .i64 a0, .int .i64 a1] 38)).alloc (.cells #[.slice M o.marks.length om, .slice D o.engs.length od] 42)) (w.heap.size + 1) [.int .i64 a0, .int .i64 a1] by have := (Bl.new (w.alloc (.cells #[.int .i64 c.next, .slice A c.atts.length cap, .int .i64 c.dur] 24)) [.int .i64 a0, .int .i64 a1] 38).laid (.cells #[.slice M o.marks.length om, .slice D o.engs.length od] 42); simpa using this)
  have HO0 := hide (show Bl (((w.alloc (.cells #[.int .i64 c.next, .slice A c.atts.length cap, .int .i64 c.dur] 24)).alloc (.cells #[.int .i64 a0, .int .i64 a1] 38)).alloc (.cells #[.slice M o.marks.length om, .slice D o.engs.length od] 42)) (w.heap.size + 1 + 1) [.slice M o.marks.length om, .slice D o.engs.length od] by have := Bl.new ((w.alloc (.cells #[.int .i64 c.next, .slice A c.atts.length cap, .int .i64 c.dur] 24)).alloc (.cells #[.int .i64 a0, .int .i64 a1] 38)) [.slice M o.marks.length om, .slice D o.engs.length od] 42; simpa using this)
  rw [hw0] at HB0 HX0 HT0 HO0
  have HP := hide (fun w' (h9 : Below w0.heap.size w0 w') => And.intro (HX0.out.keep h9) (And.intro (HT0.out.keep h9) (And.intro (HO0.out.keep h9) (And.intro (h.grow (bthen HB0.out h9)) (And.intro (roq_grow ho (bthen HB0.out h9)) (bthen HB0.out h9))))))
  obtain ⟨-, -, -, hcx, -⟩ := HP.out w0 (Below.refl _ _)
  have HF := hide (fewc_any w0 c _ hcx)
  rw [hf] at HF
  clear hcx hf h ho HX0 HB0 HT0 HO0
  obtain ⟨⟨yy, ff, zzx⟩, -⟩ := HP.out w0 (Below.refl _ _)
  have x0 := yy 0 _ rfl
  have x1 := yy 1 _ rfl
  have x2 := yy 2 _ rfl
  clear yy ff
  go_enter Try.func5, Try.ntmps5
  go_wp2_with fail
  clear hw0
  have HS := hide (HF.out)
  go_wp2_with fail
  refine HS.out.mono ?_
  rintro e w1 ⟨rfl, hb⟩
  clear x0 x1 x2 zzx
  clear HS
  replace HP := hide (fun w' (h : Below w1.heap.size w1 w') => HP.out w' (bthen hb h))
  clear hb
  clear HF
  have HS2 := hide (awake_any w1)
  have HS := hide (HS2.out)
  go_wp2_with fail
  refine HS.out.mono ?_
  rintro e w2 ⟨rfl, hb⟩
  clear HS
  replace HP := hide (fun w' (h : Below w2.heap.size w2 w') => HP.out w' (bthen hb h))
  clear hb
  clear HS2
  go_wp2
  go_ret
  exact Ret.bool rfl (HP.out _ (Below.refl _ _)).2.2.2.2.2
set_option maxRecDepth 100000 in
set_option maxHeartbeats 16000000 in
theorem keeps_bad (v : Value) (a0 a1 : Int) (xs : List Value) (o : Oq) (h : CoV w v c) (ho : ROq w (· < w.heap.size) xs o) (hn : inQ a0) (hf : fewQ c = true) (hc : chkQ c ≠ 0) : Calls Try.prog 5 #[v, .agg #[.int .i64 a0, .int .i64 a1], .agg xs.toArray] w (Ret (.bool true) w) := by
  obtain ⟨A, cap, rfl⟩ := coz_form h.z
  obtain ⟨M, om, D, od, rfl⟩ := own_op ho
  obtain ⟨w0, hw0⟩ : ∃ x, ((w.alloc (.cells #[.int .i64 c.next, .slice A c.atts.length cap, .int .i64 c.dur] 24)).alloc (.cells #[.int .i64 a0, .int .i64 a1] 38)).alloc (.cells #[.slice M o.marks.length om, .slice D o.engs.length od] 42) = x := ⟨_, rfl⟩
  have HB0 := hide (show Below w.heap.size w (((w.alloc (.cells #[.int .i64 c.next, .slice A c.atts.length cap, .int .i64 c.dur] 24)).alloc (.cells #[.int .i64 a0, .int .i64 a1] 38)).alloc (.cells #[.slice M o.marks.length om, .slice D o.engs.length od] 42)) from bA_alloc (bA_alloc (below_laid _) _) _)
  have HX0 := hide (((Bl.new w [.int .i64 c.next, .slice A c.atts.length cap, .int .i64 c.dur] 24).laid (.cells #[.int .i64 a0, .int .i64 a1] 38)).laid (.cells #[.slice M o.marks.length om, .slice D o.engs.length od] 42))
  have HT0 := hide (show Bl (((w.alloc (.cells #[.int .i64 c.next, .slice A c.atts.length cap, .int .i64 c.dur] 24)).alloc (.cells #[.int .i64 a0, .int .i64 a1] 38)).alloc (.cells #[.slice M o.marks.length om, .slice D o.engs.length od] 42)) (w.heap.size + 1) [.int .i64 a0, .int .i64 a1] by have := (Bl.new (w.alloc (.cells #[.int .i64 c.next, .slice A c.atts.length cap, .int .i64 c.dur] 24)) [.int .i64 a0, .int .i64 a1] 38).laid (.cells #[.slice M o.marks.length om, .slice D o.engs.length od] 42); simpa using this)
  have HO0 := hide (show Bl (((w.alloc (.cells #[.int .i64 c.next, .slice A c.atts.length cap, .int .i64 c.dur] 24)).alloc (.cells #[.int .i64 a0, .int .i64 a1] 38)).alloc (.cells #[.slice M o.marks.length om, .slice D o.engs.length od] 42)) (w.heap.size + 1 + 1) [.slice M o.marks.length om, .slice D o.engs.length od] by have := Bl.new ((w.alloc (.cells #[.int .i64 c.next, .slice A c.atts.length cap, .int .i64 c.dur] 24)).alloc (.cells #[.int .i64 a0, .int .i64 a1] 38)) [.slice M o.marks.length om, .slice D o.engs.length od] 42; simpa using this)
  rw [hw0] at HB0 HX0 HT0 HO0
  have HP := hide (fun w' (h9 : Below w0.heap.size w0 w') => And.intro (HX0.out.keep h9) (And.intro (HT0.out.keep h9) (And.intro (HO0.out.keep h9) (And.intro (h.grow (bthen HB0.out h9)) (And.intro (roq_grow ho (bthen HB0.out h9)) (bthen HB0.out h9))))))
  obtain ⟨-, -, -, hcx, -⟩ := HP.out w0 (Below.refl _ _)
  have HF := hide (fewc_any w0 c _ hcx)
  rw [hf] at HF
  obtain ⟨E, hE⟩ : ∃ x, chkQ c = x := ⟨_, rfl⟩
  have HE := hide hE
  rw [hE] at hc
  have te : (E != 0) = true := by rw [bne_iff_ne]; exact hc
  clear hE hc
  clear hcx hf h ho HX0 HB0 HT0 HO0
  obtain ⟨⟨yy, ff, zzx⟩, -⟩ := HP.out w0 (Below.refl _ _)
  have x0 := yy 0 _ rfl
  have x1 := yy 1 _ rfl
  have x2 := yy 2 _ rfl
  clear yy ff
  go_enter Try.func5, Try.ntmps5
  go_wp2_with fail
  clear hw0
  have HS := hide (HF.out)
  go_wp2_with fail
  refine HS.out.mono ?_
  rintro e w1 ⟨rfl, hb⟩
  clear x0 x1 x2 zzx
  clear HS
  replace HP := hide (fun w' (h : Below w1.heap.size w1 w') => HP.out w' (bthen hb h))
  clear hb
  clear HF
  obtain ⟨⟨yy, ff, zzx⟩, -⟩ := HP.out w1 (Below.refl _ _)
  have x0 := yy 0 _ rfl
  have x1 := yy 1 _ rfl
  have x2 := yy 2 _ rfl
  clear yy ff
  obtain ⟨-, -, ⟨yy, ff, zzoo⟩, -⟩ := HP.out w1 (Below.refl _ _)
  have oo0 := yy 0 _ rfl
  have oo1 := yy 1 _ rfl
  clear yy ff
  obtain ⟨-, -, -, hcx, -⟩ := HP.out w1 (Below.refl _ _)
  have HS2 := hide (chk_any w1 _ c hcx)
  rw [HE.out] at HS2
  clear hcx
  have HS := hide (HS2.out)
  go_wp2_with fail
  refine HS.out.mono ?_
  rintro e w2 ⟨rfl, hb⟩
  clear x0 x1 x2 zzx oo0 oo1 zzoo
  clear HS
  replace HP := hide (fun w' (h : Below w2.heap.size w2 w') => HP.out w' (bthen hb h))
  clear hb
  clear HS2
  have HS2 := hide (awake_any w2)
  have HS := hide (HS2.out)
  go_wp2_with fail
  refine HS.out.mono ?_
  rintro e w3 ⟨rfl, hb⟩
  clear HS
  replace HP := hide (fun w' (h : Below w3.heap.size w3 w') => HP.out w' (bthen hb h))
  clear hb
  clear HS2
  go_wp2
  go_ret
  exact Ret.bool rfl (HP.out _ (Below.refl _ _)).2.2.2.2.2
set_option maxRecDepth 100000 in
set_option maxHeartbeats 16000000 in
theorem keeps_marks (v : Value) (a0 a1 : Int) (xs : List Value) (o : Oq) (h : CoV w v c) (ho : ROq w (· < w.heap.size) xs o) (hn : inQ a0) (hf : fewQ c = true) (hc : chkQ c = 0) (hm : 20 < o.marks.length) : Calls Try.prog 5 #[v, .agg #[.int .i64 a0, .int .i64 a1], .agg xs.toArray] w (Ret (.bool true) w) := by
  obtain ⟨A, cap, rfl⟩ := coz_form h.z
  obtain ⟨M, om, D, od, rfl⟩ := own_op ho
  obtain ⟨w0, hw0⟩ : ∃ x, ((w.alloc (.cells #[.int .i64 c.next, .slice A c.atts.length cap, .int .i64 c.dur] 24)).alloc (.cells #[.int .i64 a0, .int .i64 a1] 38)).alloc (.cells #[.slice M o.marks.length om, .slice D o.engs.length od] 42) = x := ⟨_, rfl⟩
  have HB0 := hide (show Below w.heap.size w (((w.alloc (.cells #[.int .i64 c.next, .slice A c.atts.length cap, .int .i64 c.dur] 24)).alloc (.cells #[.int .i64 a0, .int .i64 a1] 38)).alloc (.cells #[.slice M o.marks.length om, .slice D o.engs.length od] 42)) from bA_alloc (bA_alloc (below_laid _) _) _)
  have HX0 := hide (((Bl.new w [.int .i64 c.next, .slice A c.atts.length cap, .int .i64 c.dur] 24).laid (.cells #[.int .i64 a0, .int .i64 a1] 38)).laid (.cells #[.slice M o.marks.length om, .slice D o.engs.length od] 42))
  have HT0 := hide (show Bl (((w.alloc (.cells #[.int .i64 c.next, .slice A c.atts.length cap, .int .i64 c.dur] 24)).alloc (.cells #[.int .i64 a0, .int .i64 a1] 38)).alloc (.cells #[.slice M o.marks.length om, .slice D o.engs.length od] 42)) (w.heap.size + 1) [.int .i64 a0, .int .i64 a1] by have := (Bl.new (w.alloc (.cells #[.int .i64 c.next, .slice A c.atts.length cap, .int .i64 c.dur] 24)) [.int .i64 a0, .int .i64 a1] 38).laid (.cells #[.slice M o.marks.length om, .slice D o.engs.length od] 42); simpa using this)
  have HO0 := hide (show Bl (((w.alloc (.cells #[.int .i64 c.next, .slice A c.atts.length cap, .int .i64 c.dur] 24)).alloc (.cells #[.int .i64 a0, .int .i64 a1] 38)).alloc (.cells #[.slice M o.marks.length om, .slice D o.engs.length od] 42)) (w.heap.size + 1 + 1) [.slice M o.marks.length om, .slice D o.engs.length od] by have := Bl.new ((w.alloc (.cells #[.int .i64 c.next, .slice A c.atts.length cap, .int .i64 c.dur] 24)).alloc (.cells #[.int .i64 a0, .int .i64 a1] 38)) [.slice M o.marks.length om, .slice D o.engs.length od] 42; simpa using this)
  rw [hw0] at HB0 HX0 HT0 HO0
  have HP := hide (fun w' (h9 : Below w0.heap.size w0 w') => And.intro (HX0.out.keep h9) (And.intro (HT0.out.keep h9) (And.intro (HO0.out.keep h9) (And.intro (h.grow (bthen HB0.out h9)) (And.intro (roq_grow ho (bthen HB0.out h9)) (bthen HB0.out h9))))))
  obtain ⟨-, -, -, hcx, -⟩ := HP.out w0 (Below.refl _ _)
  have HF := hide (fewc_any w0 c _ hcx)
  rw [hf] at HF
  obtain ⟨mm, hmm⟩ : ∃ n, o.marks.length = n := ⟨_, rfl⟩
  obtain ⟨me, hme⟩ : ∃ n, o.engs.length = n := ⟨_, rfl⟩
  have hbm : o.marks.length ≤ 140737488351232 := ho.choose_spec.choose_spec.2.2.2.1
  have hbe : o.engs.length ≤ 140737488351232 := ho.choose_spec.choose_spec.2.2.2.2
  rw [hmm] at HP hbm hm
  rw [hme] at HP hbe 
  rw [hmm, hme] at hw0
  rw [hmm, hme]
  have HMM := hide hmm
  have HME := hide hme
  clear hmm hme
  have HCH := hide hc
  clear hc
  have t1 : decide ((20 : Int) < (mm : Int)) = true := decide_eq_true (by omega)
  clear hcx hf h ho HX0 HB0 HT0 HO0
  obtain ⟨⟨yy, ff, zzx⟩, -⟩ := HP.out w0 (Below.refl _ _)
  have x0 := yy 0 _ rfl
  have x1 := yy 1 _ rfl
  have x2 := yy 2 _ rfl
  clear yy ff
  go_enter Try.func5, Try.ntmps5
  go_wp2_with fail
  clear hw0
  have HS := hide (HF.out)
  go_wp2_with fail
  refine HS.out.mono ?_
  rintro e w1 ⟨rfl, hb⟩
  clear x0 x1 x2 zzx
  clear HS
  replace HP := hide (fun w' (h : Below w1.heap.size w1 w') => HP.out w' (bthen hb h))
  clear hb
  clear HF
  obtain ⟨⟨yy, ff, zzx⟩, -⟩ := HP.out w1 (Below.refl _ _)
  have x0 := yy 0 _ rfl
  have x1 := yy 1 _ rfl
  have x2 := yy 2 _ rfl
  clear yy ff
  obtain ⟨-, -, ⟨yy, ff, zzoo⟩, -⟩ := HP.out w1 (Below.refl _ _)
  have oo0 := yy 0 _ rfl
  have oo1 := yy 1 _ rfl
  clear yy ff
  obtain ⟨-, -, -, hcx, -⟩ := HP.out w1 (Below.refl _ _)
  have HS2 := hide (chk_any w1 _ c hcx)
  rw [HCH.out] at HS2
  clear hcx
  have HS := hide (HS2.out)
  go_wp2_with fail
  refine HS.out.mono ?_
  rintro e w2 ⟨rfl, hb⟩
  clear x0 x1 x2 zzx oo0 oo1 zzoo
  clear HS
  replace HP := hide (fun w' (h : Below w2.heap.size w2 w') => HP.out w' (bthen hb h))
  clear hb
  clear HS2
  obtain ⟨-, -, ⟨yy, ff, zzoo⟩, -⟩ := HP.out w2 (Below.refl _ _)
  have oo0 := yy 0 _ rfl
  have oo1 := yy 1 _ rfl
  clear yy ff
  have HS2 := hide (awake_any w2)
  have HS := hide (HS2.out)
  go_wp2_with fail
  refine HS.out.mono ?_
  rintro e w3 ⟨rfl, hb⟩
  clear oo0 oo1 zzoo
  clear HS
  replace HP := hide (fun w' (h : Below w3.heap.size w3 w') => HP.out w' (bthen hb h))
  clear hb
  clear HS2
  go_wp2
  go_ret
  exact Ret.bool rfl (HP.out _ (Below.refl _ _)).2.2.2.2.2
set_option maxRecDepth 100000 in
set_option maxHeartbeats 16000000 in
theorem keeps_engs (v : Value) (a0 a1 : Int) (xs : List Value) (o : Oq) (h : CoV w v c) (ho : ROq w (· < w.heap.size) xs o) (hn : inQ a0) (hf : fewQ c = true) (hc : chkQ c = 0) (hm : o.marks.length ≤ 20) (he : 20 < o.engs.length) : Calls Try.prog 5 #[v, .agg #[.int .i64 a0, .int .i64 a1], .agg xs.toArray] w (Ret (.bool true) w) := by
  obtain ⟨A, cap, rfl⟩ := coz_form h.z
  obtain ⟨M, om, D, od, rfl⟩ := own_op ho
  obtain ⟨w0, hw0⟩ : ∃ x, ((w.alloc (.cells #[.int .i64 c.next, .slice A c.atts.length cap, .int .i64 c.dur] 24)).alloc (.cells #[.int .i64 a0, .int .i64 a1] 38)).alloc (.cells #[.slice M o.marks.length om, .slice D o.engs.length od] 42) = x := ⟨_, rfl⟩
  have HB0 := hide (show Below w.heap.size w (((w.alloc (.cells #[.int .i64 c.next, .slice A c.atts.length cap, .int .i64 c.dur] 24)).alloc (.cells #[.int .i64 a0, .int .i64 a1] 38)).alloc (.cells #[.slice M o.marks.length om, .slice D o.engs.length od] 42)) from bA_alloc (bA_alloc (below_laid _) _) _)
  have HX0 := hide (((Bl.new w [.int .i64 c.next, .slice A c.atts.length cap, .int .i64 c.dur] 24).laid (.cells #[.int .i64 a0, .int .i64 a1] 38)).laid (.cells #[.slice M o.marks.length om, .slice D o.engs.length od] 42))
  have HT0 := hide (show Bl (((w.alloc (.cells #[.int .i64 c.next, .slice A c.atts.length cap, .int .i64 c.dur] 24)).alloc (.cells #[.int .i64 a0, .int .i64 a1] 38)).alloc (.cells #[.slice M o.marks.length om, .slice D o.engs.length od] 42)) (w.heap.size + 1) [.int .i64 a0, .int .i64 a1] by have := (Bl.new (w.alloc (.cells #[.int .i64 c.next, .slice A c.atts.length cap, .int .i64 c.dur] 24)) [.int .i64 a0, .int .i64 a1] 38).laid (.cells #[.slice M o.marks.length om, .slice D o.engs.length od] 42); simpa using this)
  have HO0 := hide (show Bl (((w.alloc (.cells #[.int .i64 c.next, .slice A c.atts.length cap, .int .i64 c.dur] 24)).alloc (.cells #[.int .i64 a0, .int .i64 a1] 38)).alloc (.cells #[.slice M o.marks.length om, .slice D o.engs.length od] 42)) (w.heap.size + 1 + 1) [.slice M o.marks.length om, .slice D o.engs.length od] by have := Bl.new ((w.alloc (.cells #[.int .i64 c.next, .slice A c.atts.length cap, .int .i64 c.dur] 24)).alloc (.cells #[.int .i64 a0, .int .i64 a1] 38)) [.slice M o.marks.length om, .slice D o.engs.length od] 42; simpa using this)
  rw [hw0] at HB0 HX0 HT0 HO0
  have HP := hide (fun w' (h9 : Below w0.heap.size w0 w') => And.intro (HX0.out.keep h9) (And.intro (HT0.out.keep h9) (And.intro (HO0.out.keep h9) (And.intro (h.grow (bthen HB0.out h9)) (And.intro (roq_grow ho (bthen HB0.out h9)) (bthen HB0.out h9))))))
  obtain ⟨-, -, -, hcx, -⟩ := HP.out w0 (Below.refl _ _)
  have HF := hide (fewc_any w0 c _ hcx)
  rw [hf] at HF
  obtain ⟨mm, hmm⟩ : ∃ n, o.marks.length = n := ⟨_, rfl⟩
  obtain ⟨me, hme⟩ : ∃ n, o.engs.length = n := ⟨_, rfl⟩
  have hbm : o.marks.length ≤ 140737488351232 := ho.choose_spec.choose_spec.2.2.2.1
  have hbe : o.engs.length ≤ 140737488351232 := ho.choose_spec.choose_spec.2.2.2.2
  rw [hmm] at HP hbm hm
  rw [hme] at HP hbe he
  rw [hmm, hme] at hw0
  rw [hmm, hme]
  have HMM := hide hmm
  have HME := hide hme
  clear hmm hme
  have HCH := hide hc
  clear hc
  have t1 : decide ((20 : Int) < (mm : Int)) = false := decide_eq_false (by omega)
  have t2 : decide ((20 : Int) < (me : Int)) = true := decide_eq_true (by omega)
  clear hcx hf h ho HX0 HB0 HT0 HO0
  obtain ⟨⟨yy, ff, zzx⟩, -⟩ := HP.out w0 (Below.refl _ _)
  have x0 := yy 0 _ rfl
  have x1 := yy 1 _ rfl
  have x2 := yy 2 _ rfl
  clear yy ff
  go_enter Try.func5, Try.ntmps5
  go_wp2_with fail
  clear hw0
  have HS := hide (HF.out)
  go_wp2_with fail
  refine HS.out.mono ?_
  rintro e w1 ⟨rfl, hb⟩
  clear x0 x1 x2 zzx
  clear HS
  replace HP := hide (fun w' (h : Below w1.heap.size w1 w') => HP.out w' (bthen hb h))
  clear hb
  clear HF
  obtain ⟨⟨yy, ff, zzx⟩, -⟩ := HP.out w1 (Below.refl _ _)
  have x0 := yy 0 _ rfl
  have x1 := yy 1 _ rfl
  have x2 := yy 2 _ rfl
  clear yy ff
  obtain ⟨-, -, ⟨yy, ff, zzoo⟩, -⟩ := HP.out w1 (Below.refl _ _)
  have oo0 := yy 0 _ rfl
  have oo1 := yy 1 _ rfl
  clear yy ff
  obtain ⟨-, -, -, hcx, -⟩ := HP.out w1 (Below.refl _ _)
  have HS2 := hide (chk_any w1 _ c hcx)
  rw [HCH.out] at HS2
  clear hcx
  have HS := hide (HS2.out)
  go_wp2_with fail
  refine HS.out.mono ?_
  rintro e w2 ⟨rfl, hb⟩
  clear x0 x1 x2 zzx oo0 oo1 zzoo
  clear HS
  replace HP := hide (fun w' (h : Below w2.heap.size w2 w') => HP.out w' (bthen hb h))
  clear hb
  clear HS2
  obtain ⟨-, -, ⟨yy, ff, zzoo⟩, -⟩ := HP.out w2 (Below.refl _ _)
  have oo0 := yy 0 _ rfl
  have oo1 := yy 1 _ rfl
  clear yy ff
  have HS2 := hide (awake_any w2)
  have HS := hide (HS2.out)
  go_wp2_with fail
  refine HS.out.mono ?_
  rintro e w3 ⟨rfl, hb⟩
  clear oo0 oo1 zzoo
  clear HS
  replace HP := hide (fun w' (h : Below w3.heap.size w3 w') => HP.out w' (bthen hb h))
  clear hb
  clear HS2
  go_wp2
  go_ret
  exact Ret.bool rfl (HP.out _ (Below.refl _ _)).2.2.2.2.2
set_option maxRecDepth 100000 in
set_option maxHeartbeats 16000000 in
theorem keeps_fail (v : Value) (a0 a1 : Int) (xs : List Value) (o : Oq) (h : CoV w v c) (ho : ROq w (· < w.heap.size) xs o) (hn : inQ a0) (hf : fewQ c = true) (hc : chkQ c = 0) (hm : o.marks.length ≤ 20) (he : o.engs.length ≤ 20) (hE : repE c a0 a1 ≠ 0) : Calls Try.prog 5 #[v, .agg #[.int .i64 a0, .int .i64 a1], .agg xs.toArray] w (Ret (.bool true) w) := by
  obtain ⟨A, cap, rfl⟩ := coz_form h.z
  obtain ⟨M, om, D, od, rfl⟩ := own_op ho
  obtain ⟨w0, hw0⟩ : ∃ x, ((w.alloc (.cells #[.int .i64 c.next, .slice A c.atts.length cap, .int .i64 c.dur] 24)).alloc (.cells #[.int .i64 a0, .int .i64 a1] 38)).alloc (.cells #[.slice M o.marks.length om, .slice D o.engs.length od] 42) = x := ⟨_, rfl⟩
  have HB0 := hide (show Below w.heap.size w (((w.alloc (.cells #[.int .i64 c.next, .slice A c.atts.length cap, .int .i64 c.dur] 24)).alloc (.cells #[.int .i64 a0, .int .i64 a1] 38)).alloc (.cells #[.slice M o.marks.length om, .slice D o.engs.length od] 42)) from bA_alloc (bA_alloc (below_laid _) _) _)
  have HX0 := hide (((Bl.new w [.int .i64 c.next, .slice A c.atts.length cap, .int .i64 c.dur] 24).laid (.cells #[.int .i64 a0, .int .i64 a1] 38)).laid (.cells #[.slice M o.marks.length om, .slice D o.engs.length od] 42))
  have HT0 := hide (show Bl (((w.alloc (.cells #[.int .i64 c.next, .slice A c.atts.length cap, .int .i64 c.dur] 24)).alloc (.cells #[.int .i64 a0, .int .i64 a1] 38)).alloc (.cells #[.slice M o.marks.length om, .slice D o.engs.length od] 42)) (w.heap.size + 1) [.int .i64 a0, .int .i64 a1] by have := (Bl.new (w.alloc (.cells #[.int .i64 c.next, .slice A c.atts.length cap, .int .i64 c.dur] 24)) [.int .i64 a0, .int .i64 a1] 38).laid (.cells #[.slice M o.marks.length om, .slice D o.engs.length od] 42); simpa using this)
  have HO0 := hide (show Bl (((w.alloc (.cells #[.int .i64 c.next, .slice A c.atts.length cap, .int .i64 c.dur] 24)).alloc (.cells #[.int .i64 a0, .int .i64 a1] 38)).alloc (.cells #[.slice M o.marks.length om, .slice D o.engs.length od] 42)) (w.heap.size + 1 + 1) [.slice M o.marks.length om, .slice D o.engs.length od] by have := Bl.new ((w.alloc (.cells #[.int .i64 c.next, .slice A c.atts.length cap, .int .i64 c.dur] 24)).alloc (.cells #[.int .i64 a0, .int .i64 a1] 38)) [.slice M o.marks.length om, .slice D o.engs.length od] 42; simpa using this)
  rw [hw0] at HB0 HX0 HT0 HO0
  have HP := hide (fun w' (h9 : Below w0.heap.size w0 w') => And.intro (HX0.out.keep h9) (And.intro (HT0.out.keep h9) (And.intro (HO0.out.keep h9) (And.intro (h.grow (bthen HB0.out h9)) (And.intro (roq_grow ho (bthen HB0.out h9)) (bthen HB0.out h9))))))
  obtain ⟨-, -, -, hcx, -⟩ := HP.out w0 (Below.refl _ _)
  have HF := hide (fewc_any w0 c _ hcx)
  rw [hf] at HF
  obtain ⟨m, hm9⟩ : ∃ n, c.atts.length = n := ⟨_, rfl⟩
  rw [hm9] at HP HF hw0 ⊢
  have HM := hide hm9
  have hm256 : m ≤ 256 := by have := (chk0 hc).2.2.2.2.1; omega
  clear hm9
  obtain ⟨E, hE9⟩ : ∃ x, repE c a0 a1 = x := ⟨_, rfl⟩
  have HRE := hide hE9
  rw [hE9] at hE
  have te : (E == 0) = false := by rw [beq_eq_false_iff_ne]; exact hE
  clear hE9 hE
  obtain ⟨mm, hmm⟩ : ∃ n, o.marks.length = n := ⟨_, rfl⟩
  obtain ⟨me, hme⟩ : ∃ n, o.engs.length = n := ⟨_, rfl⟩
  have hbm : o.marks.length ≤ 140737488351232 := ho.choose_spec.choose_spec.2.2.2.1
  have hbe : o.engs.length ≤ 140737488351232 := ho.choose_spec.choose_spec.2.2.2.2
  rw [hmm] at HP hbm hm
  rw [hme] at HP hbe he
  rw [hmm, hme] at hw0
  rw [hmm, hme]
  have HMM := hide hmm
  have HME := hide hme
  clear hmm hme
  have HCH := hide hc
  clear hc
  have t1 : decide ((20 : Int) < (mm : Int)) = false := decide_eq_false (by omega)
  have t2 : decide ((20 : Int) < (me : Int)) = false := decide_eq_false (by omega)
  have HLE := hide (And.intro hm he)
  have HNM := hide hn
  clear hn
  clear hcx hf h ho HX0 HB0 HT0 HO0
  obtain ⟨⟨yy, ff, zzx⟩, -⟩ := HP.out w0 (Below.refl _ _)
  have x0 := yy 0 _ rfl
  have x1 := yy 1 _ rfl
  have x2 := yy 2 _ rfl
  clear yy ff
  go_enter Try.func5, Try.ntmps5
  go_wp2_with fail
  clear hw0
  have HS := hide (HF.out)
  go_wp2_with fail
  refine HS.out.mono ?_
  rintro e w1 ⟨rfl, hb⟩
  clear x0 x1 x2 zzx
  clear HS
  replace HP := hide (fun w' (h : Below w1.heap.size w1 w') => HP.out w' (bthen hb h))
  clear hb
  clear HF
  obtain ⟨⟨yy, ff, zzx⟩, -⟩ := HP.out w1 (Below.refl _ _)
  have x0 := yy 0 _ rfl
  have x1 := yy 1 _ rfl
  have x2 := yy 2 _ rfl
  clear yy ff
  obtain ⟨-, -, ⟨yy, ff, zzoo⟩, -⟩ := HP.out w1 (Below.refl _ _)
  have oo0 := yy 0 _ rfl
  have oo1 := yy 1 _ rfl
  clear yy ff
  obtain ⟨-, -, -, hcx, -⟩ := HP.out w1 (Below.refl _ _)
  have HS2 := hide (chk_any w1 _ c hcx)
  rw [HCH.out] at HS2
  clear hcx
  have HS := hide (HS2.out)
  go_wp2_with fail
  refine HS.out.mono ?_
  rintro e w2 ⟨rfl, hb⟩
  clear x0 x1 x2 zzx oo0 oo1 zzoo
  clear HS
  replace HP := hide (fun w' (h : Below w2.heap.size w2 w') => HP.out w' (bthen hb h))
  clear hb
  clear HS2
  obtain ⟨⟨yy, ff, zzx⟩, -⟩ := HP.out w2 (Below.refl _ _)
  have x0 := yy 0 _ rfl
  have x1 := yy 1 _ rfl
  have x2 := yy 2 _ rfl
  clear yy ff
  obtain ⟨-, ⟨yy, ff, zzt⟩, -⟩ := HP.out w2 (Below.refl _ _)
  have t0 := yy 0 _ rfl
  have t1 := yy 1 _ rfl
  clear yy ff
  obtain ⟨-, -, ⟨yy, ff, zzoo⟩, -⟩ := HP.out w2 (Below.refl _ _)
  have oo0 := yy 0 _ rfl
  have oo1 := yy 1 _ rfl
  clear yy ff
  obtain ⟨-, -, -, hcx, hro, -⟩ := HP.out w2 (Below.refl _ _)
  have HS2 := hide (report_any w2 c _ a0 a1 o _ hcx hro (by have := HMM.out; have := HLE.out; omega) (by have := HME.out; have := HLE.out; omega))
  rw [HRE.out] at HS2
  clear hcx hro
  have HS := hide (HS2.out)
  go_wp2_with fail
  refine HS.out.mono ?_
  rintro e w3 ⟨V, rfl, hV, hb⟩
  clear x0 x1 x2 zzx t0 t1 zzt oo0 oo1 zzoo
  clear HS
  replace HP := hide (fun w' (h : Below w3.heap.size w3 w') => HP.out w' (bthen hb h))
  clear hb
  clear HS2
  obtain ⟨Ad, qd, hVV⟩ := coz_form hV.z
  subst hVV
  clear hV
  have HN := hide (Bl.new w3 [.int .i64 (repC c a0 a1 o).next, .slice Ad (repC c a0 a1 o).atts.length qd, .int .i64 (repC c a0 a1 o).dur] 24)
  replace HP := hide (fun w' (h : Below (w3.alloc (.cells #[.int .i64 (repC c a0 a1 o).next, .slice Ad (repC c a0 a1 o).atts.length qd, .int .i64 (repC c a0 a1 o).dur] 24)).heap.size (w3.alloc (.cells #[.int .i64 (repC c a0 a1 o).next, .slice Ad (repC c a0 a1 o).atts.length qd, .int .i64 (repC c a0 a1 o).dur] 24)) w') => And.intro (HN.out.keep h) (HP.out w' (bthen (below_laid _) h)))
  go_upto_region 4 with (fail)
  obtain ⟨byd, hbyd⟩ : ∃ b, w3.heap.size = b := ⟨_, rfl⟩
  obtain ⟨w4, hw⟩ : ∃ x, w3.alloc (.cells #[.int .i64 (repC c a0 a1 o).next, .slice Ad (repC c a0 a1 o).atts.length qd, .int .i64 (repC c a0 a1 o).dur] 24) = x := ⟨_, rfl⟩
  rw [hw, hbyd] at HP
  rw [hw, hbyd]
  clear hw hbyd HN
  obtain ⟨-, ⟨yy, ff, zzx⟩, -⟩ := HP.out w4 (Below.refl _ _)
  have x0 := yy 0 _ rfl
  have x1 := yy 1 _ rfl
  have x2 := yy 2 _ rfl
  clear yy ff
  obtain ⟨-, -, ⟨yy, ff, zzt⟩, -⟩ := HP.out w4 (Below.refl _ _)
  have t0 := yy 0 _ rfl
  have t1 := yy 1 _ rfl
  clear yy ff
  obtain ⟨-, -, -, ⟨yy, ff, zzoo⟩, -⟩ := HP.out w4 (Below.refl _ _)
  have oo0 := yy 0 _ rfl
  have oo1 := yy 1 _ rfl
  clear yy ff
  obtain ⟨-, -, -, -, hcx, -⟩ := HP.out w4 (Below.refl _ _)
  have HS3 := hide (finish_any w4 c _ a0 hcx HNM.out)
  clear hcx
  rcases finE_ways (a0 := a0) HCH.out with hg | hg | hg | hg
  · skip
    rw [hg] at HS3
    have HSF := hide (finE0 hg)
    have hp9 : ∃ p, m = p + 1 := ⟨m - 1, by have := HSF.out.2.1; have := HM.out; omega⟩
    obtain ⟨p, rfl⟩ := hp9
    have HG := hide hg
    have HFC : Hid (finC c a0 = ⟨c.next, c.atts.drop 1, a0⟩) := hide (by unfold finC; rw [if_pos hg])
    have HFL : Hid ((c.atts.drop 1).length = p) := hide (by rw [List.length_drop]; have := HM.out; omega)
    clear hg
    have HS := hide (HS3.out)
    go_wp2_with fail
    refine HS.out.mono ?_
    rintro e v1 ⟨V, rfl, hV, hb⟩
    clear x0 x1 x2 zzx t0 t1 zzt oo0 oo1 zzoo
    clear HS
    replace HP := hide (fun w' (h : Below v1.heap.size v1 w') => HP.out w' (bthen hb h))
    clear hb
    clear HS3
    obtain ⟨Af, qf, hVV⟩ := coz_form hV.z
    subst hVV
    rw [show (finC c a0).next = c.next by rw [HFC.out], show (finC c a0).atts.length = p by rw [HFC.out]; exact HFL.out, show (finC c a0).dur = a0 by rw [HFC.out]] at hV ⊢
    have HV := hide hV
    clear hV
    replace HP := hide (fun w' (h : Below v1.heap.size v1 w') => And.intro (HV.out.grow h) (HP.out w' h))
    clear HV
    have HN := hide (Bl.new v1 [.int .i64 (c.next), .slice Af (p) qf, .int .i64 (a0)] 24)
    replace HP := hide (fun w' (h : Below (v1.alloc (.cells #[.int .i64 (c.next), .slice Af (p) qf, .int .i64 (a0)] 24)).heap.size (v1.alloc (.cells #[.int .i64 (c.next), .slice Af (p) qf, .int .i64 (a0)] 24)) w') => And.intro (HN.out.keep h) (HP.out w' (bthen (below_laid _) h)))
    go_upto_region 23 with (fail)
    obtain ⟨byf, hbyf⟩ : ∃ b, v1.heap.size = b := ⟨_, rfl⟩
    obtain ⟨v2, hw⟩ : ∃ x, v1.alloc (.cells #[.int .i64 (c.next), .slice Af (p) qf, .int .i64 (a0)] 24) = x := ⟨_, rfl⟩
    rw [hw, hbyf] at HP
    rw [hw, hbyf]
    clear hw hbyf HN
    obtain ⟨⟨yy, ff, zzyf⟩, -⟩ := HP.out v2 (Below.refl _ _)
    have yf0 := yy 0 _ rfl
    have yf1 := yy 1 _ rfl
    have yf2 := yy 2 _ rfl
    clear yy ff
    obtain ⟨-, -, -, -, ⟨yy, ff, zzt⟩, -⟩ := HP.out v2 (Below.refl _ _)
    have t0 := yy 0 _ rfl
    have t1 := yy 1 _ rfl
    clear yy ff
    obtain ⟨-, -, -, -, -, ⟨yy, ff, zzoo⟩, -⟩ := HP.out v2 (Below.refl _ _)
    have oo0 := yy 0 _ rfl
    have oo1 := yy 1 _ rfl
    clear yy ff
    obtain ⟨-, -, -, ⟨yy, ff, zzx⟩, -⟩ := HP.out v2 (Below.refl _ _)
    have x0 := yy 0 _ rfl
    have x1 := yy 1 _ rfl
    have x2 := yy 2 _ rfl
    clear yy ff
    obtain ⟨-, hcf, -⟩ := HP.out v2 (Below.refl _ _)
    have HS2 := hide (finish_any v2 (finC c a0) _ a0 hcf HNM.out)
    rw [fin_none HG.out] at HS2
    clear hcf
    have HS := hide (HS2.out)
    go_wp2_with fail
    refine HS.out.mono ?_
    rintro e v3 ⟨V, rfl, hV, hb⟩
    clear yf0 yf1 yf2 zzyf t0 t1 zzt oo0 oo1 zzoo x0 x1 x2 zzx
    clear HS
    replace HP := hide (fun w' (h : Below v3.heap.size v3 w') => HP.out w' (bthen hb h))
    clear hb
    clear HS2
    obtain ⟨Ag, qg, hVV⟩ := coz_form hV.z
    subst hVV
    clear hV
    have HN := hide (Bl.new v3 [.int .i64 (finC (finC c a0) a0).next, .slice Ag (finC (finC c a0) a0).atts.length qg, .int .i64 (finC (finC c a0) a0).dur] 24)
    replace HP := hide (fun w' (h : Below (v3.alloc (.cells #[.int .i64 (finC (finC c a0) a0).next, .slice Ag (finC (finC c a0) a0).atts.length qg, .int .i64 (finC (finC c a0) a0).dur] 24)).heap.size (v3.alloc (.cells #[.int .i64 (finC (finC c a0) a0).next, .slice Ag (finC (finC c a0) a0).atts.length qg, .int .i64 (finC (finC c a0) a0).dur] 24)) w') => And.intro (HN.out.keep h) (HP.out w' (bthen (below_laid _) h)))
    go_upto_region 26 with (fail)
    obtain ⟨byg, hbyg⟩ : ∃ b, v3.heap.size = b := ⟨_, rfl⟩
    obtain ⟨v4, hw⟩ : ∃ x, v3.alloc (.cells #[.int .i64 (finC (finC c a0) a0).next, .slice Ag (finC (finC c a0) a0).atts.length qg, .int .i64 (finC (finC c a0) a0).dur] 24) = x := ⟨_, rfl⟩
    rw [hw, hbyg] at HP
    rw [hw, hbyg]
    clear hw hbyg HN
    obtain ⟨-, ⟨yy, ff, zzyf⟩, -⟩ := HP.out v4 (Below.refl _ _)
    have yf0 := yy 0 _ rfl
    have yf1 := yy 1 _ rfl
    have yf2 := yy 2 _ rfl
    clear yy ff
    obtain ⟨-, -, -, -, -, ⟨yy, ff, zzt⟩, -⟩ := HP.out v4 (Below.refl _ _)
    have t0 := yy 0 _ rfl
    have t1 := yy 1 _ rfl
    clear yy ff
    obtain ⟨-, -, -, -, -, -, ⟨yy, ff, zzoo⟩, -⟩ := HP.out v4 (Below.refl _ _)
    have oo0 := yy 0 _ rfl
    have oo1 := yy 1 _ rfl
    clear yy ff
    obtain ⟨-, -, -, -, ⟨yy, ff, zzx⟩, -⟩ := HP.out v4 (Below.refl _ _)
    have x0 := yy 0 _ rfl
    have x1 := yy 1 _ rfl
    have x2 := yy 2 _ rfl
    clear yy ff
    obtain ⟨-, -, hcf, -, -, -, -, -, hro, -⟩ := HP.out v4 (Below.refl _ _)
    have HS2 := hide (report_any v4 (finC c a0) _ a0 a1 o _ hcf hro (by have := HMM.out; have := HLE.out; omega) (by have := HME.out; have := HLE.out; omega))
    rw [fin_rep HG.out] at HS2
    clear hcf hro
    have HS := hide (HS2.out)
    go_wp2_with fail
    refine HS.out.mono ?_
    rintro e v5 ⟨V, rfl, hV, hb⟩
    clear yf0 yf1 yf2 zzyf t0 t1 zzt oo0 oo1 zzoo x0 x1 x2 zzx
    clear HS
    replace HP := hide (fun w' (h : Below v5.heap.size v5 w') => HP.out w' (bthen hb h))
    clear hb
    clear HS2
    obtain ⟨Ah, qh, hVV⟩ := coz_form hV.z
    subst hVV
    clear hV
    have HN := hide (Bl.new v5 [.int .i64 (repC (finC c a0) a0 a1 o).next, .slice Ah (repC (finC c a0) a0 a1 o).atts.length qh, .int .i64 (repC (finC c a0) a0 a1 o).dur] 24)
    replace HP := hide (fun w' (h : Below (v5.alloc (.cells #[.int .i64 (repC (finC c a0) a0 a1 o).next, .slice Ah (repC (finC c a0) a0 a1 o).atts.length qh, .int .i64 (repC (finC c a0) a0 a1 o).dur] 24)).heap.size (v5.alloc (.cells #[.int .i64 (repC (finC c a0) a0 a1 o).next, .slice Ah (repC (finC c a0) a0 a1 o).atts.length qh, .int .i64 (repC (finC c a0) a0 a1 o).dur] 24)) w') => And.intro (HN.out.keep h) (HP.out w' (bthen (below_laid _) h)))
    go_upto_region 27 with (fail)
    obtain ⟨byh, hbyh⟩ : ∃ b, v5.heap.size = b := ⟨_, rfl⟩
    obtain ⟨v6, hw⟩ : ∃ x, v5.alloc (.cells #[.int .i64 (repC (finC c a0) a0 a1 o).next, .slice Ah (repC (finC c a0) a0 a1 o).atts.length qh, .int .i64 (repC (finC c a0) a0 a1 o).dur] 24) = x := ⟨_, rfl⟩
    rw [hw, hbyh] at HP
    rw [hw, hbyh]
    clear hw hbyh HN
    have HS2 := hide (awake_any v6)
    have HS := hide (HS2.out)
    go_wp2_with fail
    refine HS.out.mono ?_
    rintro e v7 ⟨rfl, hb⟩
    clear HS
    replace HP := hide (fun w' (h : Below v7.heap.size v7 w') => HP.out w' (bthen hb h))
    clear hb
    clear HS2
    obtain ⟨-, -, ⟨yy, ff, zzyf⟩, -⟩ := HP.out v7 (Below.refl _ _)
    have yf0 := yy 0 _ rfl
    have yf1 := yy 1 _ rfl
    have yf2 := yy 2 _ rfl
    clear yy ff
    obtain ⟨-, -, -, -, -, -, ⟨yy, ff, zzt⟩, -⟩ := HP.out v7 (Below.refl _ _)
    have t0 := yy 0 _ rfl
    have t1 := yy 1 _ rfl
    clear yy ff
    obtain ⟨-, -, -, -, -, ⟨yy, ff, zzx⟩, -⟩ := HP.out v7 (Below.refl _ _)
    have x0 := yy 0 _ rfl
    have x1 := yy 1 _ rfl
    have x2 := yy 2 _ rfl
    clear yy ff
    go_wp2
    go_ret
    exact Ret.bool rfl (HP.out _ (Below.refl _ _)).2.2.2.2.2.2.2.2.2.2
  · skip
    rw [hg] at HS3
    clear hg
    have HS := hide (HS3.out)
    go_wp2_with fail
    refine HS.out.mono ?_
    rintro e v1 ⟨V, rfl, hV, hb⟩
    clear x0 x1 x2 zzx t0 t1 zzt oo0 oo1 zzoo
    clear HS
    replace HP := hide (fun w' (h : Below v1.heap.size v1 w') => HP.out w' (bthen hb h))
    clear hb
    clear HS3
    obtain ⟨Af, qf, hVV⟩ := coz_form hV.z
    subst hVV
    have HV := hide hV
    clear hV
    replace HP := hide (fun w' (h : Below v1.heap.size v1 w') => And.intro (HV.out.grow h) (HP.out w' h))
    clear HV
    have HN := hide (Bl.new v1 [.int .i64 ((finC c a0).next), .slice Af ((finC c a0).atts.length) qf, .int .i64 ((finC c a0).dur)] 24)
    replace HP := hide (fun w' (h : Below (v1.alloc (.cells #[.int .i64 ((finC c a0).next), .slice Af ((finC c a0).atts.length) qf, .int .i64 ((finC c a0).dur)] 24)).heap.size (v1.alloc (.cells #[.int .i64 ((finC c a0).next), .slice Af ((finC c a0).atts.length) qf, .int .i64 ((finC c a0).dur)] 24)) w') => And.intro (HN.out.keep h) (HP.out w' (bthen (below_laid _) h)))
    go_upto_region 23 with (fail)
    obtain ⟨byf, hbyf⟩ : ∃ b, v1.heap.size = b := ⟨_, rfl⟩
    obtain ⟨v2, hw⟩ : ∃ x, v1.alloc (.cells #[.int .i64 ((finC c a0).next), .slice Af ((finC c a0).atts.length) qf, .int .i64 ((finC c a0).dur)] 24) = x := ⟨_, rfl⟩
    rw [hw, hbyf] at HP
    rw [hw, hbyf]
    clear hw hbyf HN
    have HS2 := hide (awake_any v2)
    have HS := hide (HS2.out)
    go_wp2_with fail
    refine HS.out.mono ?_
    rintro e v3 ⟨rfl, hb⟩
    clear HS
    replace HP := hide (fun w' (h : Below v3.heap.size v3 w') => HP.out w' (bthen hb h))
    clear hb
    clear HS2
    go_wp2
    go_ret
    exact Ret.bool rfl (HP.out _ (Below.refl _ _)).2.2.2.2.2.2.2.2
  · skip
    rw [hg] at HS3
    clear hg
    have HS := hide (HS3.out)
    go_wp2_with fail
    refine HS.out.mono ?_
    rintro e v1 ⟨V, rfl, hV, hb⟩
    clear x0 x1 x2 zzx t0 t1 zzt oo0 oo1 zzoo
    clear HS
    replace HP := hide (fun w' (h : Below v1.heap.size v1 w') => HP.out w' (bthen hb h))
    clear hb
    clear HS3
    obtain ⟨Af, qf, hVV⟩ := coz_form hV.z
    subst hVV
    have HV := hide hV
    clear hV
    replace HP := hide (fun w' (h : Below v1.heap.size v1 w') => And.intro (HV.out.grow h) (HP.out w' h))
    clear HV
    have HN := hide (Bl.new v1 [.int .i64 ((finC c a0).next), .slice Af ((finC c a0).atts.length) qf, .int .i64 ((finC c a0).dur)] 24)
    replace HP := hide (fun w' (h : Below (v1.alloc (.cells #[.int .i64 ((finC c a0).next), .slice Af ((finC c a0).atts.length) qf, .int .i64 ((finC c a0).dur)] 24)).heap.size (v1.alloc (.cells #[.int .i64 ((finC c a0).next), .slice Af ((finC c a0).atts.length) qf, .int .i64 ((finC c a0).dur)] 24)) w') => And.intro (HN.out.keep h) (HP.out w' (bthen (below_laid _) h)))
    go_upto_region 23 with (fail)
    obtain ⟨byf, hbyf⟩ : ∃ b, v1.heap.size = b := ⟨_, rfl⟩
    obtain ⟨v2, hw⟩ : ∃ x, v1.alloc (.cells #[.int .i64 ((finC c a0).next), .slice Af ((finC c a0).atts.length) qf, .int .i64 ((finC c a0).dur)] 24) = x := ⟨_, rfl⟩
    rw [hw, hbyf] at HP
    rw [hw, hbyf]
    clear hw hbyf HN
    have HS2 := hide (awake_any v2)
    have HS := hide (HS2.out)
    go_wp2_with fail
    refine HS.out.mono ?_
    rintro e v3 ⟨rfl, hb⟩
    clear HS
    replace HP := hide (fun w' (h : Below v3.heap.size v3 w') => HP.out w' (bthen hb h))
    clear hb
    clear HS2
    go_wp2
    go_ret
    exact Ret.bool rfl (HP.out _ (Below.refl _ _)).2.2.2.2.2.2.2.2
  · skip
    rw [hg] at HS3
    clear hg
    have HS := hide (HS3.out)
    go_wp2_with fail
    refine HS.out.mono ?_
    rintro e v1 ⟨V, rfl, hV, hb⟩
    clear x0 x1 x2 zzx t0 t1 zzt oo0 oo1 zzoo
    clear HS
    replace HP := hide (fun w' (h : Below v1.heap.size v1 w') => HP.out w' (bthen hb h))
    clear hb
    clear HS3
    obtain ⟨Af, qf, hVV⟩ := coz_form hV.z
    subst hVV
    have HV := hide hV
    clear hV
    replace HP := hide (fun w' (h : Below v1.heap.size v1 w') => And.intro (HV.out.grow h) (HP.out w' h))
    clear HV
    have HN := hide (Bl.new v1 [.int .i64 ((finC c a0).next), .slice Af ((finC c a0).atts.length) qf, .int .i64 ((finC c a0).dur)] 24)
    replace HP := hide (fun w' (h : Below (v1.alloc (.cells #[.int .i64 ((finC c a0).next), .slice Af ((finC c a0).atts.length) qf, .int .i64 ((finC c a0).dur)] 24)).heap.size (v1.alloc (.cells #[.int .i64 ((finC c a0).next), .slice Af ((finC c a0).atts.length) qf, .int .i64 ((finC c a0).dur)] 24)) w') => And.intro (HN.out.keep h) (HP.out w' (bthen (below_laid _) h)))
    go_upto_region 23 with (fail)
    obtain ⟨byf, hbyf⟩ : ∃ b, v1.heap.size = b := ⟨_, rfl⟩
    obtain ⟨v2, hw⟩ : ∃ x, v1.alloc (.cells #[.int .i64 ((finC c a0).next), .slice Af ((finC c a0).atts.length) qf, .int .i64 ((finC c a0).dur)] 24) = x := ⟨_, rfl⟩
    rw [hw, hbyf] at HP
    rw [hw, hbyf]
    clear hw hbyf HN
    have HS2 := hide (awake_any v2)
    have HS := hide (HS2.out)
    go_wp2_with fail
    refine HS.out.mono ?_
    rintro e v3 ⟨rfl, hb⟩
    clear HS
    replace HP := hide (fun w' (h : Below v3.heap.size v3 w') => HP.out w' (bthen hb h))
    clear hb
    clear HS2
    go_wp2
    go_ret
    exact Ret.bool rfl (HP.out _ (Below.refl _ _)).2.2.2.2.2.2.2.2
set_option maxRecDepth 100000 in
set_option maxHeartbeats 16000000 in
theorem keeps_good (v : Value) (a0 a1 : Int) (xs : List Value) (o : Oq) (h : CoV w v c) (ho : ROq w (· < w.heap.size) xs o) (hn : inQ a0) (hf : fewQ c = true) (hc : chkQ c = 0) (hm : o.marks.length ≤ 20) (he : o.engs.length ≤ 20) (hE : repE c a0 a1 = 0) : Calls Try.prog 5 #[v, .agg #[.int .i64 a0, .int .i64 a1], .agg xs.toArray] w (Ret (.bool true) w) := by
  obtain ⟨A, cap, rfl⟩ := coz_form h.z
  obtain ⟨M, om, D, od, rfl⟩ := own_op ho
  obtain ⟨w0, hw0⟩ : ∃ x, ((w.alloc (.cells #[.int .i64 c.next, .slice A c.atts.length cap, .int .i64 c.dur] 24)).alloc (.cells #[.int .i64 a0, .int .i64 a1] 38)).alloc (.cells #[.slice M o.marks.length om, .slice D o.engs.length od] 42) = x := ⟨_, rfl⟩
  have HB0 := hide (show Below w.heap.size w (((w.alloc (.cells #[.int .i64 c.next, .slice A c.atts.length cap, .int .i64 c.dur] 24)).alloc (.cells #[.int .i64 a0, .int .i64 a1] 38)).alloc (.cells #[.slice M o.marks.length om, .slice D o.engs.length od] 42)) from bA_alloc (bA_alloc (below_laid _) _) _)
  have HX0 := hide (((Bl.new w [.int .i64 c.next, .slice A c.atts.length cap, .int .i64 c.dur] 24).laid (.cells #[.int .i64 a0, .int .i64 a1] 38)).laid (.cells #[.slice M o.marks.length om, .slice D o.engs.length od] 42))
  have HT0 := hide (show Bl (((w.alloc (.cells #[.int .i64 c.next, .slice A c.atts.length cap, .int .i64 c.dur] 24)).alloc (.cells #[.int .i64 a0, .int .i64 a1] 38)).alloc (.cells #[.slice M o.marks.length om, .slice D o.engs.length od] 42)) (w.heap.size + 1) [.int .i64 a0, .int .i64 a1] by have := (Bl.new (w.alloc (.cells #[.int .i64 c.next, .slice A c.atts.length cap, .int .i64 c.dur] 24)) [.int .i64 a0, .int .i64 a1] 38).laid (.cells #[.slice M o.marks.length om, .slice D o.engs.length od] 42); simpa using this)
  have HO0 := hide (show Bl (((w.alloc (.cells #[.int .i64 c.next, .slice A c.atts.length cap, .int .i64 c.dur] 24)).alloc (.cells #[.int .i64 a0, .int .i64 a1] 38)).alloc (.cells #[.slice M o.marks.length om, .slice D o.engs.length od] 42)) (w.heap.size + 1 + 1) [.slice M o.marks.length om, .slice D o.engs.length od] by have := Bl.new ((w.alloc (.cells #[.int .i64 c.next, .slice A c.atts.length cap, .int .i64 c.dur] 24)).alloc (.cells #[.int .i64 a0, .int .i64 a1] 38)) [.slice M o.marks.length om, .slice D o.engs.length od] 42; simpa using this)
  rw [hw0] at HB0 HX0 HT0 HO0
  have HP := hide (fun w' (h9 : Below w0.heap.size w0 w') => And.intro (HX0.out.keep h9) (And.intro (HT0.out.keep h9) (And.intro (HO0.out.keep h9) (And.intro (h.grow (bthen HB0.out h9)) (And.intro (roq_grow ho (bthen HB0.out h9)) (bthen HB0.out h9))))))
  obtain ⟨-, -, -, hcx, -⟩ := HP.out w0 (Below.refl _ _)
  have HF := hide (fewc_any w0 c _ hcx)
  rw [hf] at HF
  have HRE := hide hE
  have HSM := hide (rep_same (o := o) hE)
  have HRG := hide (rep_again (o := o) hE)
  have HRC := hide (chk_rep (o := o) hE)
  have HRH := hide (fun (j k : Nat) (hj : j < c.atts.length) (hk : k < (attQ c j).hv.length) => rep_hv (o := o) hE hj hk)
  obtain ⟨m, hm9⟩ : ∃ n, c.atts.length = n := ⟨_, rfl⟩
  rw [hm9] at HP HF hw0 ⊢
  have HM := hide hm9
  have hm256 : m ≤ 256 := by have := (chk0 hc).2.2.2.2.1; omega
  clear hm9 hE
  obtain ⟨mm, hmm⟩ : ∃ n, o.marks.length = n := ⟨_, rfl⟩
  obtain ⟨me, hme⟩ : ∃ n, o.engs.length = n := ⟨_, rfl⟩
  have hbm : o.marks.length ≤ 140737488351232 := ho.choose_spec.choose_spec.2.2.2.1
  have hbe : o.engs.length ≤ 140737488351232 := ho.choose_spec.choose_spec.2.2.2.2
  rw [hmm] at HP hbm hm
  rw [hme] at HP hbe he
  rw [hmm, hme] at hw0
  rw [hmm, hme]
  have HMM := hide hmm
  have HME := hide hme
  clear hmm hme
  have HCH := hide hc
  clear hc
  have t1 : decide ((20 : Int) < (mm : Int)) = false := decide_eq_false (by omega)
  have t2 : decide ((20 : Int) < (me : Int)) = false := decide_eq_false (by omega)
  have HLE := hide (And.intro hm he)
  have HNM := hide hn
  clear hn
  clear hcx hf h ho HX0 HB0 HT0 HO0
  obtain ⟨⟨yy, ff, zzx⟩, -⟩ := HP.out w0 (Below.refl _ _)
  have x0 := yy 0 _ rfl
  have x1 := yy 1 _ rfl
  have x2 := yy 2 _ rfl
  clear yy ff
  go_enter Try.func5, Try.ntmps5
  go_wp2_with fail
  clear hw0
  have HS := hide (HF.out)
  go_wp2_with fail
  refine HS.out.mono ?_
  rintro e w1 ⟨rfl, hb⟩
  clear x0 x1 x2 zzx
  clear HS
  replace HP := hide (fun w' (h : Below w1.heap.size w1 w') => HP.out w' (bthen hb h))
  clear hb
  clear HF
  obtain ⟨⟨yy, ff, zzx⟩, -⟩ := HP.out w1 (Below.refl _ _)
  have x0 := yy 0 _ rfl
  have x1 := yy 1 _ rfl
  have x2 := yy 2 _ rfl
  clear yy ff
  obtain ⟨-, -, ⟨yy, ff, zzoo⟩, -⟩ := HP.out w1 (Below.refl _ _)
  have oo0 := yy 0 _ rfl
  have oo1 := yy 1 _ rfl
  clear yy ff
  obtain ⟨-, -, -, hcx, -⟩ := HP.out w1 (Below.refl _ _)
  have HS2 := hide (chk_any w1 _ c hcx)
  rw [HCH.out] at HS2
  clear hcx
  have HS := hide (HS2.out)
  go_wp2_with fail
  refine HS.out.mono ?_
  rintro e w2 ⟨rfl, hb⟩
  clear x0 x1 x2 zzx oo0 oo1 zzoo
  clear HS
  replace HP := hide (fun w' (h : Below w2.heap.size w2 w') => HP.out w' (bthen hb h))
  clear hb
  clear HS2
  obtain ⟨⟨yy, ff, zzx⟩, -⟩ := HP.out w2 (Below.refl _ _)
  have x0 := yy 0 _ rfl
  have x1 := yy 1 _ rfl
  have x2 := yy 2 _ rfl
  clear yy ff
  obtain ⟨-, ⟨yy, ff, zzt⟩, -⟩ := HP.out w2 (Below.refl _ _)
  have t0 := yy 0 _ rfl
  have t1 := yy 1 _ rfl
  clear yy ff
  obtain ⟨-, -, ⟨yy, ff, zzoo⟩, -⟩ := HP.out w2 (Below.refl _ _)
  have oo0 := yy 0 _ rfl
  have oo1 := yy 1 _ rfl
  clear yy ff
  obtain ⟨-, -, -, hcx, hro, -⟩ := HP.out w2 (Below.refl _ _)
  have HS2 := hide (report_any w2 c _ a0 a1 o _ hcx hro (by have := HMM.out; have := HLE.out; omega) (by have := HME.out; have := HLE.out; omega))
  rw [HRE.out] at HS2
  clear hcx hro
  have HS := hide (HS2.out)
  go_wp2_with fail
  refine HS.out.mono ?_
  rintro e w3 ⟨V, rfl, hV, hb⟩
  clear x0 x1 x2 zzx t0 t1 zzt oo0 oo1 zzoo
  clear HS
  replace HP := hide (fun w' (h : Below w3.heap.size w3 w') => HP.out w' (bthen hb h))
  clear hb
  clear HS2
  obtain ⟨Ad, qd, hVV⟩ := coz_form hV.z
  subst hVV
  rw [HSM.out.1, HSM.out.2.1, HSM.out.2.2.1.trans HM.out] at hV ⊢
  have HV := hide hV
  clear hV
  obtain ⟨d, hd9⟩ : ∃ d, repC c a0 a1 o = d := ⟨_, rfl⟩
  rw [hd9] at HV HSM HRG HRC HRH
  clear hd9
  replace HP := hide (fun w' (h : Below w3.heap.size w3 w') => And.intro (HV.out.grow h) (HP.out w' h))
  clear HV
  have HN := hide (Bl.new w3 [.int .i64 c.next, .slice Ad m qd, .int .i64 c.dur] 24)
  replace HP := hide (fun w' (h : Below (w3.alloc (.cells #[.int .i64 c.next, .slice Ad m qd, .int .i64 c.dur] 24)).heap.size (w3.alloc (.cells #[.int .i64 c.next, .slice Ad m qd, .int .i64 c.dur] 24)) w') => And.intro (HN.out.keep h) (HP.out w' (bthen (below_laid _) h)))
  go_upto_region 4 with (fail)
  obtain ⟨byd, hbyd⟩ : ∃ b, w3.heap.size = b := ⟨_, rfl⟩
  obtain ⟨w4, hw⟩ : ∃ x, w3.alloc (.cells #[.int .i64 c.next, .slice Ad m qd, .int .i64 c.dur] 24) = x := ⟨_, rfl⟩
  rw [hw, hbyd] at HP
  rw [hw, hbyd]
  clear hw hbyd HN
  obtain ⟨⟨yy, ff, zzyd⟩, -⟩ := HP.out w4 (Below.refl _ _)
  have yd0 := yy 0 _ rfl
  have yd1 := yy 1 _ rfl
  have yd2 := yy 2 _ rfl
  clear yy ff
  obtain ⟨-, -, -, ⟨yy, ff, zzt⟩, -⟩ := HP.out w4 (Below.refl _ _)
  have t0 := yy 0 _ rfl
  have t1 := yy 1 _ rfl
  clear yy ff
  obtain ⟨-, -, -, -, ⟨yy, ff, zzoo⟩, -⟩ := HP.out w4 (Below.refl _ _)
  have oo0 := yy 0 _ rfl
  have oo1 := yy 1 _ rfl
  clear yy ff
  obtain ⟨-, -, ⟨yy, ff, zzx⟩, -⟩ := HP.out w4 (Below.refl _ _)
  have x0 := yy 0 _ rfl
  have x1 := yy 1 _ rfl
  have x2 := yy 2 _ rfl
  clear yy ff
  obtain ⟨-, hcd, -, -, -, -, hro, -⟩ := HP.out w4 (Below.refl _ _)
  have HS2 := hide (report_any w4 d _ a0 a1 o _ hcd hro (by have := HMM.out; have := HLE.out; omega) (by have := HME.out; have := HLE.out; omega))
  rw [HRG.out] at HS2
  clear hcd hro
  have HS := hide (HS2.out)
  go_wp2_with fail
  refine HS.out.mono ?_
  rintro e w5 ⟨V, rfl, hV, hb⟩
  clear yd0 yd1 yd2 zzyd t0 t1 zzt oo0 oo1 zzoo x0 x1 x2 zzx
  clear HS
  replace HP := hide (fun w' (h : Below w5.heap.size w5 w') => HP.out w' (bthen hb h))
  clear hb
  clear HS2
  obtain ⟨A9, q9, hVV⟩ := coz_form hV.z
  subst hVV
  clear hV
  have HN := hide (Bl.new w5 [.int .i64 (repC d a0 a1 o).next, .slice A9 (repC d a0 a1 o).atts.length q9, .int .i64 (repC d a0 a1 o).dur] 24)
  replace HP := hide (fun w' (h : Below (w5.alloc (.cells #[.int .i64 (repC d a0 a1 o).next, .slice A9 (repC d a0 a1 o).atts.length q9, .int .i64 (repC d a0 a1 o).dur] 24)).heap.size (w5.alloc (.cells #[.int .i64 (repC d a0 a1 o).next, .slice A9 (repC d a0 a1 o).atts.length q9, .int .i64 (repC d a0 a1 o).dur] 24)) w') => And.intro (HN.out.keep h) (HP.out w' (bthen (below_laid _) h)))
  go_upto_region 6 with (fail)
  obtain ⟨by9, hby9⟩ : ∃ b, w5.heap.size = b := ⟨_, rfl⟩
  obtain ⟨w6, hw⟩ : ∃ x, w5.alloc (.cells #[.int .i64 (repC d a0 a1 o).next, .slice A9 (repC d a0 a1 o).atts.length q9, .int .i64 (repC d a0 a1 o).dur] 24) = x := ⟨_, rfl⟩
  rw [hw, hby9] at HP
  rw [hw, hby9]
  clear hw hby9 HN
  obtain ⟨-, ⟨yy, ff, zzyd⟩, -⟩ := HP.out w6 (Below.refl _ _)
  have yd0 := yy 0 _ rfl
  have yd1 := yy 1 _ rfl
  have yd2 := yy 2 _ rfl
  clear yy ff
  obtain ⟨-, -, -, ⟨yy, ff, zzx⟩, -⟩ := HP.out w6 (Below.refl _ _)
  have x0 := yy 0 _ rfl
  have x1 := yy 1 _ rfl
  have x2 := yy 2 _ rfl
  clear yy ff
  obtain ⟨-, -, hcd, -⟩ := HP.out w6 (Below.refl _ _)
  have HS2 := hide (chk_any w6 _ d hcd)
  rw [HRC.out] at HS2
  clear hcd
  have HS := hide (HS2.out)
  go_wp2_with fail
  refine HS.out.mono ?_
  rintro e w7 ⟨rfl, hb⟩
  clear yd0 yd1 yd2 zzyd x0 x1 x2 zzx
  clear HS
  replace HP := hide (fun w' (h : Below w7.heap.size w7 w') => HP.out w' (bthen hb h))
  clear hb
  clear HS2
  obtain ⟨-, ⟨yy, ff, zzyd⟩, -⟩ := HP.out w7 (Below.refl _ _)
  have yd0 := yy 0 _ rfl
  have yd1 := yy 1 _ rfl
  have yd2 := yy 2 _ rfl
  clear yy ff
  obtain ⟨-, -, -, ⟨yy, ff, zzx⟩, -⟩ := HP.out w7 (Below.refl _ _)
  have x0 := yy 0 _ rfl
  have x1 := yy 1 _ rfl
  have x2 := yy 2 _ rfl
  clear yy ff
  obtain ⟨-, -, hcd, -, -, -, hcx, -⟩ := HP.out w7 (Below.refl _ _)
  obtain ⟨uu, e1, hl1, -⟩ := hcx
  cases e1
  obtain ⟨uu, e1, hl2, -⟩ := hcd
  have e2 : uu = .slice Ad m qd := by injection e1 with e1; have := congrArg (fun a : Array Value => a[1]?) e1; simpa using this.symm
  subst e2
  clear e1
  have HL1 := hide hl1
  have HL2 := hide hl2
  clear hl1 hl2
  have hm9 : (m : Int) ≤ 256 := by omega
  go_wp2
  go_loopw [98] (fun i wr => ∃ j : Nat, j ≤ m ∧ i = .int .i64 j ∧ Hid (Below w7.heap.size w7 wr)) (fun i _ => m - (intOf i).toNat)
  case atStart => exact ⟨0, Nat.zero_le _, rfl, hide (Below.refl _ _)⟩
  clear yd0 yd1 yd2 zzyd x0 x1 x2 zzx
  case round =>
    obtain ⟨j, hj, rfl, HB⟩ := hrel
    replace HP := hide (fun w' (h : Below wr.heap.size wr w') => HP.out w' (bthen HB.out h))
    by_cases hlt : j < m
    · skip
      obtain ⟨-, ⟨yy, ff, zzyd⟩, -⟩ := HP.out wr (Below.refl _ _)
      have yd0 := yy 0 _ rfl
      have yd1 := yy 1 _ rfl
      have yd2 := yy 2 _ rfl
      clear yy ff
      obtain ⟨-, -, -, ⟨yy, ff, zzx⟩, -⟩ := HP.out wr (Below.refl _ _)
      have x0 := yy 0 _ rfl
      have x1 := yy 1 _ rfl
      have x2 := yy 2 _ rfl
      clear yy ff
      obtain ⟨-, -, -, -, ⟨yy, ff, zzt⟩, -⟩ := HP.out wr (Below.refl _ _)
      have t0 := yy 0 _ rfl
      have t1 := yy 1 _ rfl
      clear yy ff
      have hjl : j < c.atts.length := by rw [HM.out]; exact hlt
      have hjl2 : j < d.atts.length := by rw [HSM.out.2.2.1]; exact hjl
      obtain ⟨g, off, xs9, eA, -⟩ := Lst.at_ HL1.out hjl
      subst eA
      obtain ⟨g', off', ys9, eA', -⟩ := Lst.at_ HL2.out hjl2
      subst eA'
      obtain ⟨hg, B1, B2, B3, c1, c2, c3, ha⟩ := att_at HL1.out hjl
      obtain ⟨hg', D1, D2, D3, e1, e2, e3, hbb⟩ := att_at HL2.out hjl2
      replace ha := ha.grow HB.out
      replace hbb := hbb.grow HB.out
      have k0 := ha.k0
      have k1 := ha.k1
      have k2 := ha.k2
      have k3 := ha.k3
      have n0 := hbb.k0
      have n1 := hbb.k1
      have n2 := hbb.k2
      have n3 := hbb.k3
      have h83 := (chk_good HCH.out j hjl).h8
      have hgw : g < wr.heap.size := World.block_lt_of_cell? wr _ k0
      have hgw' : g' < wr.heap.size := World.block_lt_of_cell? wr _ n0
      rw [(HSM.out.2.2.2 j).1] at n0
      rw [(HSM.out.2.2.2 j).2] at n3
      have HFL := hide (show ∀ k, k < (attQ c j).hv.length → ∃ z : Bool, (∃ g3 o3, B3 = some ⟨g3, o3, none⟩ ∧ wr.cell? ⟨g3, o3 + k, none⟩ = some (.bool z)) ∧ ∃ g4 o4, D3 = some ⟨g4, o4, none⟩ ∧ wr.cell? ⟨g4, o4 + k, none⟩ = some (.bool (z || (((attQ c j).num == a0) && ((k : Int) == a1)))) from fun k hk => by
        obtain ⟨g3, o3, ys, f3, -, -, hc3, hr3⟩ := Lst.at_ ha.l3 hk
        have hk2 : k < (attQ d j).hv.length := by rw [(HSM.out.2.2.2 j).2]; exact hk
        have hl4 := hbb.l3
        obtain ⟨g4, o4, zs, f4, -, -, hc4, hr4⟩ := Lst.at_ hl4 hk2
        have hz := HRH.out j k hjl hk
        rw [List.getD_eq_getElem?_getD, List.getD_eq_getElem?_getD, List.getElem?_eq_getElem hk, List.getElem?_eq_getElem hk2] at hz
        simp only [Option.getD_some] at hz
        have hr3' : ys = [.bool (attQ c j).hv[k]] := hr3
        have hr4' : zs = [.bool (attQ d j).hv[k]] := hr4
        have v3 := hc3 0 _ (by rw [hr3']; rfl)
        have v4 := hc4 0 _ (by rw [hr4']; rfl)
        rw [Nat.add_zero, Nat.mul_one] at v3 v4
        rw [hz] at v4
        exact ⟨_, ⟨g3, o3, f3, v3⟩, g4, o4, f4, v4⟩)
      have hu0 : (0 : Int) ≤ (j : Int) := by omega
      have hu1 : (j : Int) < (m : Int) := by omega
      obtain ⟨num, hnum⟩ : ∃ n, (attQ c j).num = n := ⟨_, rfl⟩
      obtain ⟨r1, hr1⟩ : ∃ n, (attQ c j).rds.length = n := ⟨_, rfl⟩
      obtain ⟨r2, hr2⟩ : ∃ n, (attQ c j).ops.length = n := ⟨_, rfl⟩
      obtain ⟨r3, hr3⟩ : ∃ n, (attQ c j).hv.length = n := ⟨_, rfl⟩
      obtain ⟨s1, hs1⟩ : ∃ n, (attQ d j).rds.length = n := ⟨_, rfl⟩
      obtain ⟨s2, hs2⟩ : ∃ n, (attQ d j).ops.length = n := ⟨_, rfl⟩
      rw [hnum] at k0 n0 HFL
      rw [hr1] at k1
      rw [hr2] at k2
      rw [hr3] at k3 n3 HFL h83
      rw [hs1] at n1
      rw [hs2] at n2
      clear ha hbb hnum hr1 hr2 hr3 hs1 hs2 hg hg'
      go_upto_region 14 with (fail)
      have HS0 := hide (Bl.new wr [.int .i64 num, .slice B1 r1 c1, .slice B2 r2 c2, .slice B3 r3 c3] 51)
      have HS1 := hide (Bl.new (wr.alloc (.cells #[.int .i64 num, .slice B1 r1 c1, .slice B2 r2 c2, .slice B3 r3 c3] 51)) [.int .i64 num, .slice D1 s1 e1, .slice D2 s2 e2, .slice D3 r3 e3] 51)
      replace HS0 := hide (HS0.out.laid (.cells #[.int .i64 num, .slice D1 s1 e1, .slice D2 s2 e2, .slice D3 r3 e3] 51))
      rw [World.size_alloc] at HS1
      have HB2 := hide (show Below wr.heap.size wr ((wr.alloc (.cells #[.int .i64 num, .slice B1 r1 c1, .slice B2 r2 c2, .slice B3 r3 c3] 51)).alloc (.cells #[.int .i64 num, .slice D1 s1 e1, .slice D2 s2 e2, .slice D3 r3 e3] 51)) from bA_alloc (below_laid _) _)
      obtain ⟨wy, hwy⟩ : ∃ x, (wr.alloc (.cells #[.int .i64 num, .slice B1 r1 c1, .slice B2 r2 c2, .slice B3 r3 c3] 51)).alloc (.cells #[.int .i64 num, .slice D1 s1 e1, .slice D2 s2 e2, .slice D3 r3 e3] 51) = x := ⟨_, rfl⟩
      rw [hwy] at HS0 HS1 HB2 ⊢
      clear hwy k0 k1 k2 k3 n0 n1 n2 n3
      replace HP := hide (fun w' (h : Below wy.heap.size wy w') => HP.out w' (bthen HB2.out h))
      clear yd0 yd1 yd2 zzyd x0 x1 x2 zzx t0 t1 zzt
      have q3 := HS0.out.c 3 _ rfl
      have hr39 : (r3 : Int) ≤ 8 := by omega
      go_wp2
      go_loopw [125] (fun i wr => ∃ k : Nat, k ≤ r3 ∧ i = .int .i64 k ∧ Hid (Below wy.heap.size wy wr)) (fun i _ => r3 - (intOf i).toNat)
      case atStart => exact ⟨0, Nat.zero_le _, rfl, hide (Below.refl _ _)⟩
      case round =>
        clear q3
        obtain ⟨k, hk, rfl, HB4⟩ := hrel
        by_cases hlt3 : k < r3
        · skip
          obtain ⟨z, ff1, ff2⟩ := HFL.out k hlt3
          obtain ⟨g3, o3, rfl, v3⟩ := ff1
          obtain ⟨g4, o4, rfl, v4⟩ := ff2
          replace v3 := keep1 (bthen HB2.out HB4.out) v3
          replace v4 := keep1 (bthen HB2.out HB4.out) v4
          have q0 := keep1 HB4.out (HS0.out.c 0 _ rfl)
          have q3 := keep1 HB4.out (HS0.out.c 3 _ rfl)
          have p3 := keep1 HB4.out (HS1.out.c 3 _ rfl)
          obtain ⟨-, -, -, -, ⟨tt, -, -⟩, -⟩ := HP.out wy (Below.refl _ _)
          have t0 := keep1 HB4.out (tt 0 _ rfl)
          have t1' := keep1 HB4.out (tt 1 _ rfl)
          have hv0 : (0 : Int) ≤ (k : Int) := by omega
          have hv1 : (k : Int) < (r3 : Int) := by omega
          clear tt
          cases hb1 : (num == a0) <;> cases hb2 : ((k : Int) == a1) <;> cases z
          all_goals
            rw [hb1, hb2] at v4
            simp only [Bool.and_true, Bool.true_and, Bool.and_false, Bool.false_and, Bool.or_false, Bool.false_or, Bool.or_true, Bool.true_or] at v4
            go_wp2
            go_quiet (fail)
            go_wp2
            go_roundw
            case rel => exact ⟨k + 1, by omega, by go_num, hide (below_drewN HB4.out _)⟩
            case measure => simp [intOf]; omega
        · skip
          obtain rfl : r3 = k := by omega
          have HB5 := hide (bthen HB.out (bthen HB2.out HB4.out))
          go_wp2
          go_roundw
          case rel => exact ⟨j + 1, by omega, by go_num, HB5⟩
          case measure => simp [intOf]; omega
    · skip
      obtain rfl : m = j := by omega
      obtain ⟨-, -, -, ⟨yy, ff, zzx⟩, -⟩ := HP.out wr (Below.refl _ _)
      have x0 := yy 0 _ rfl
      have x1 := yy 1 _ rfl
      have x2 := yy 2 _ rfl
      clear yy ff
      obtain ⟨-, -, -, -, ⟨yy, ff, zzt⟩, -⟩ := HP.out wr (Below.refl _ _)
      have t0 := yy 0 _ rfl
      have t1 := yy 1 _ rfl
      clear yy ff
      obtain ⟨-, -, -, -, -, ⟨yy, ff, zzoo⟩, -⟩ := HP.out wr (Below.refl _ _)
      have oo0 := yy 0 _ rfl
      have oo1 := yy 1 _ rfl
      clear yy ff
      obtain ⟨-, -, -, -, -, -, hcx, -⟩ := HP.out wr (Below.refl _ _)
      have HS3 := hide (finish_any wr c _ a0 hcx HNM.out)
      clear hcx
      rcases finE_ways (a0 := a0) HCH.out with hg | hg | hg | hg
      · skip
        rw [hg] at HS3
        have HSF := hide (finE0 hg)
        have hp9 : ∃ p, m = p + 1 := ⟨m - 1, by have := HSF.out.2.1; have := HM.out; omega⟩
        obtain ⟨p, rfl⟩ := hp9
        have HG := hide hg
        have HFC : Hid (finC c a0 = ⟨c.next, c.atts.drop 1, a0⟩) := hide (by unfold finC; rw [if_pos hg])
        have HFL : Hid ((c.atts.drop 1).length = p) := hide (by rw [List.length_drop]; have := HM.out; omega)
        clear hg
        have HS := hide (HS3.out)
        go_wp2_with fail
        refine HS.out.mono ?_
        rintro e v1 ⟨V, rfl, hV, hb⟩
        clear x0 x1 x2 zzx t0 t1 zzt oo0 oo1 zzoo
        clear HS
        replace HP := hide (fun w' (h : Below v1.heap.size v1 w') => HP.out w' (bthen hb h))
        clear hb
        clear HS3
        obtain ⟨Af, qf, hVV⟩ := coz_form hV.z
        subst hVV
        rw [show (finC c a0).next = c.next by rw [HFC.out], show (finC c a0).atts.length = p by rw [HFC.out]; exact HFL.out, show (finC c a0).dur = a0 by rw [HFC.out]] at hV ⊢
        have HV := hide hV
        clear hV
        replace HP := hide (fun w' (h : Below v1.heap.size v1 w') => And.intro (HV.out.grow h) (HP.out w' h))
        clear HV
        have HN := hide (Bl.new v1 [.int .i64 (c.next), .slice Af (p) qf, .int .i64 (a0)] 24)
        replace HP := hide (fun w' (h : Below (v1.alloc (.cells #[.int .i64 (c.next), .slice Af (p) qf, .int .i64 (a0)] 24)).heap.size (v1.alloc (.cells #[.int .i64 (c.next), .slice Af (p) qf, .int .i64 (a0)] 24)) w') => And.intro (HN.out.keep h) (HP.out w' (bthen (below_laid _) h)))
        go_upto_region 23 with (fail)
        obtain ⟨byf, hbyf⟩ : ∃ b, v1.heap.size = b := ⟨_, rfl⟩
        obtain ⟨v2, hw⟩ : ∃ x, v1.alloc (.cells #[.int .i64 (c.next), .slice Af (p) qf, .int .i64 (a0)] 24) = x := ⟨_, rfl⟩
        rw [hw, hbyf] at HP
        rw [hw, hbyf]
        clear hw hbyf HN
        obtain ⟨⟨yy, ff, zzyf⟩, -⟩ := HP.out v2 (Below.refl _ _)
        have yf0 := yy 0 _ rfl
        have yf1 := yy 1 _ rfl
        have yf2 := yy 2 _ rfl
        clear yy ff
        obtain ⟨-, -, -, -, -, -, ⟨yy, ff, zzt⟩, -⟩ := HP.out v2 (Below.refl _ _)
        have t0 := yy 0 _ rfl
        have t1 := yy 1 _ rfl
        clear yy ff
        obtain ⟨-, -, -, -, -, -, -, ⟨yy, ff, zzoo⟩, -⟩ := HP.out v2 (Below.refl _ _)
        have oo0 := yy 0 _ rfl
        have oo1 := yy 1 _ rfl
        clear yy ff
        obtain ⟨-, -, -, -, -, ⟨yy, ff, zzx⟩, -⟩ := HP.out v2 (Below.refl _ _)
        have x0 := yy 0 _ rfl
        have x1 := yy 1 _ rfl
        have x2 := yy 2 _ rfl
        clear yy ff
        obtain ⟨-, hcf, -⟩ := HP.out v2 (Below.refl _ _)
        have HS2 := hide (finish_any v2 (finC c a0) _ a0 hcf HNM.out)
        rw [fin_none HG.out] at HS2
        clear hcf
        have HS := hide (HS2.out)
        go_wp2_with fail
        refine HS.out.mono ?_
        rintro e v3 ⟨V, rfl, hV, hb⟩
        clear yf0 yf1 yf2 zzyf t0 t1 zzt oo0 oo1 zzoo x0 x1 x2 zzx
        clear HS
        replace HP := hide (fun w' (h : Below v3.heap.size v3 w') => HP.out w' (bthen hb h))
        clear hb
        clear HS2
        obtain ⟨Ag, qg, hVV⟩ := coz_form hV.z
        subst hVV
        clear hV
        have HN := hide (Bl.new v3 [.int .i64 (finC (finC c a0) a0).next, .slice Ag (finC (finC c a0) a0).atts.length qg, .int .i64 (finC (finC c a0) a0).dur] 24)
        replace HP := hide (fun w' (h : Below (v3.alloc (.cells #[.int .i64 (finC (finC c a0) a0).next, .slice Ag (finC (finC c a0) a0).atts.length qg, .int .i64 (finC (finC c a0) a0).dur] 24)).heap.size (v3.alloc (.cells #[.int .i64 (finC (finC c a0) a0).next, .slice Ag (finC (finC c a0) a0).atts.length qg, .int .i64 (finC (finC c a0) a0).dur] 24)) w') => And.intro (HN.out.keep h) (HP.out w' (bthen (below_laid _) h)))
        go_upto_region 26 with (fail)
        obtain ⟨byg, hbyg⟩ : ∃ b, v3.heap.size = b := ⟨_, rfl⟩
        obtain ⟨v4, hw⟩ : ∃ x, v3.alloc (.cells #[.int .i64 (finC (finC c a0) a0).next, .slice Ag (finC (finC c a0) a0).atts.length qg, .int .i64 (finC (finC c a0) a0).dur] 24) = x := ⟨_, rfl⟩
        rw [hw, hbyg] at HP
        rw [hw, hbyg]
        clear hw hbyg HN
        obtain ⟨-, ⟨yy, ff, zzyf⟩, -⟩ := HP.out v4 (Below.refl _ _)
        have yf0 := yy 0 _ rfl
        have yf1 := yy 1 _ rfl
        have yf2 := yy 2 _ rfl
        clear yy ff
        obtain ⟨-, -, -, -, -, -, -, ⟨yy, ff, zzt⟩, -⟩ := HP.out v4 (Below.refl _ _)
        have t0 := yy 0 _ rfl
        have t1 := yy 1 _ rfl
        clear yy ff
        obtain ⟨-, -, -, -, -, -, -, -, ⟨yy, ff, zzoo⟩, -⟩ := HP.out v4 (Below.refl _ _)
        have oo0 := yy 0 _ rfl
        have oo1 := yy 1 _ rfl
        clear yy ff
        obtain ⟨-, -, -, -, -, -, ⟨yy, ff, zzx⟩, -⟩ := HP.out v4 (Below.refl _ _)
        have x0 := yy 0 _ rfl
        have x1 := yy 1 _ rfl
        have x2 := yy 2 _ rfl
        clear yy ff
        obtain ⟨-, -, hcf, -, -, -, -, -, -, -, hro, -⟩ := HP.out v4 (Below.refl _ _)
        have HS2 := hide (report_any v4 (finC c a0) _ a0 a1 o _ hcf hro (by have := HMM.out; have := HLE.out; omega) (by have := HME.out; have := HLE.out; omega))
        rw [fin_rep HG.out] at HS2
        clear hcf hro
        have HS := hide (HS2.out)
        go_wp2_with fail
        refine HS.out.mono ?_
        rintro e v5 ⟨V, rfl, hV, hb⟩
        clear yf0 yf1 yf2 zzyf t0 t1 zzt oo0 oo1 zzoo x0 x1 x2 zzx
        clear HS
        replace HP := hide (fun w' (h : Below v5.heap.size v5 w') => HP.out w' (bthen hb h))
        clear hb
        clear HS2
        obtain ⟨Ah, qh, hVV⟩ := coz_form hV.z
        subst hVV
        clear hV
        have HN := hide (Bl.new v5 [.int .i64 (repC (finC c a0) a0 a1 o).next, .slice Ah (repC (finC c a0) a0 a1 o).atts.length qh, .int .i64 (repC (finC c a0) a0 a1 o).dur] 24)
        replace HP := hide (fun w' (h : Below (v5.alloc (.cells #[.int .i64 (repC (finC c a0) a0 a1 o).next, .slice Ah (repC (finC c a0) a0 a1 o).atts.length qh, .int .i64 (repC (finC c a0) a0 a1 o).dur] 24)).heap.size (v5.alloc (.cells #[.int .i64 (repC (finC c a0) a0 a1 o).next, .slice Ah (repC (finC c a0) a0 a1 o).atts.length qh, .int .i64 (repC (finC c a0) a0 a1 o).dur] 24)) w') => And.intro (HN.out.keep h) (HP.out w' (bthen (below_laid _) h)))
        go_upto_region 27 with (fail)
        obtain ⟨byh, hbyh⟩ : ∃ b, v5.heap.size = b := ⟨_, rfl⟩
        obtain ⟨v6, hw⟩ : ∃ x, v5.alloc (.cells #[.int .i64 (repC (finC c a0) a0 a1 o).next, .slice Ah (repC (finC c a0) a0 a1 o).atts.length qh, .int .i64 (repC (finC c a0) a0 a1 o).dur] 24) = x := ⟨_, rfl⟩
        rw [hw, hbyh] at HP
        rw [hw, hbyh]
        clear hw hbyh HN
        have HS2 := hide (awake_any v6)
        have HS := hide (HS2.out)
        go_wp2_with fail
        refine HS.out.mono ?_
        rintro e v7 ⟨rfl, hb⟩
        clear HS
        replace HP := hide (fun w' (h : Below v7.heap.size v7 w') => HP.out w' (bthen hb h))
        clear hb
        clear HS2
        obtain ⟨-, -, ⟨yy, ff, zzyf⟩, -⟩ := HP.out v7 (Below.refl _ _)
        have yf0 := yy 0 _ rfl
        have yf1 := yy 1 _ rfl
        have yf2 := yy 2 _ rfl
        clear yy ff
        obtain ⟨-, -, -, -, -, -, -, -, ⟨yy, ff, zzt⟩, -⟩ := HP.out v7 (Below.refl _ _)
        have t0 := yy 0 _ rfl
        have t1 := yy 1 _ rfl
        clear yy ff
        obtain ⟨-, -, -, -, -, -, -, ⟨yy, ff, zzx⟩, -⟩ := HP.out v7 (Below.refl _ _)
        have x0 := yy 0 _ rfl
        have x1 := yy 1 _ rfl
        have x2 := yy 2 _ rfl
        clear yy ff
        go_wp2
        go_ret
        exact Ret.bool rfl (HP.out _ (Below.refl _ _)).2.2.2.2.2.2.2.2.2.2.2.2
      · skip
        rw [hg] at HS3
        clear hg
        have HS := hide (HS3.out)
        go_wp2_with fail
        refine HS.out.mono ?_
        rintro e v1 ⟨V, rfl, hV, hb⟩
        clear x0 x1 x2 zzx t0 t1 zzt oo0 oo1 zzoo
        clear HS
        replace HP := hide (fun w' (h : Below v1.heap.size v1 w') => HP.out w' (bthen hb h))
        clear hb
        clear HS3
        obtain ⟨Af, qf, hVV⟩ := coz_form hV.z
        subst hVV
        have HV := hide hV
        clear hV
        replace HP := hide (fun w' (h : Below v1.heap.size v1 w') => And.intro (HV.out.grow h) (HP.out w' h))
        clear HV
        have HN := hide (Bl.new v1 [.int .i64 ((finC c a0).next), .slice Af ((finC c a0).atts.length) qf, .int .i64 ((finC c a0).dur)] 24)
        replace HP := hide (fun w' (h : Below (v1.alloc (.cells #[.int .i64 ((finC c a0).next), .slice Af ((finC c a0).atts.length) qf, .int .i64 ((finC c a0).dur)] 24)).heap.size (v1.alloc (.cells #[.int .i64 ((finC c a0).next), .slice Af ((finC c a0).atts.length) qf, .int .i64 ((finC c a0).dur)] 24)) w') => And.intro (HN.out.keep h) (HP.out w' (bthen (below_laid _) h)))
        go_upto_region 23 with (fail)
        obtain ⟨byf, hbyf⟩ : ∃ b, v1.heap.size = b := ⟨_, rfl⟩
        obtain ⟨v2, hw⟩ : ∃ x, v1.alloc (.cells #[.int .i64 ((finC c a0).next), .slice Af ((finC c a0).atts.length) qf, .int .i64 ((finC c a0).dur)] 24) = x := ⟨_, rfl⟩
        rw [hw, hbyf] at HP
        rw [hw, hbyf]
        clear hw hbyf HN
        have HS2 := hide (awake_any v2)
        have HS := hide (HS2.out)
        go_wp2_with fail
        refine HS.out.mono ?_
        rintro e v3 ⟨rfl, hb⟩
        clear HS
        replace HP := hide (fun w' (h : Below v3.heap.size v3 w') => HP.out w' (bthen hb h))
        clear hb
        clear HS2
        go_wp2
        go_ret
        exact Ret.bool rfl (HP.out _ (Below.refl _ _)).2.2.2.2.2.2.2.2.2.2
      · skip
        rw [hg] at HS3
        clear hg
        have HS := hide (HS3.out)
        go_wp2_with fail
        refine HS.out.mono ?_
        rintro e v1 ⟨V, rfl, hV, hb⟩
        clear x0 x1 x2 zzx t0 t1 zzt oo0 oo1 zzoo
        clear HS
        replace HP := hide (fun w' (h : Below v1.heap.size v1 w') => HP.out w' (bthen hb h))
        clear hb
        clear HS3
        obtain ⟨Af, qf, hVV⟩ := coz_form hV.z
        subst hVV
        have HV := hide hV
        clear hV
        replace HP := hide (fun w' (h : Below v1.heap.size v1 w') => And.intro (HV.out.grow h) (HP.out w' h))
        clear HV
        have HN := hide (Bl.new v1 [.int .i64 ((finC c a0).next), .slice Af ((finC c a0).atts.length) qf, .int .i64 ((finC c a0).dur)] 24)
        replace HP := hide (fun w' (h : Below (v1.alloc (.cells #[.int .i64 ((finC c a0).next), .slice Af ((finC c a0).atts.length) qf, .int .i64 ((finC c a0).dur)] 24)).heap.size (v1.alloc (.cells #[.int .i64 ((finC c a0).next), .slice Af ((finC c a0).atts.length) qf, .int .i64 ((finC c a0).dur)] 24)) w') => And.intro (HN.out.keep h) (HP.out w' (bthen (below_laid _) h)))
        go_upto_region 23 with (fail)
        obtain ⟨byf, hbyf⟩ : ∃ b, v1.heap.size = b := ⟨_, rfl⟩
        obtain ⟨v2, hw⟩ : ∃ x, v1.alloc (.cells #[.int .i64 ((finC c a0).next), .slice Af ((finC c a0).atts.length) qf, .int .i64 ((finC c a0).dur)] 24) = x := ⟨_, rfl⟩
        rw [hw, hbyf] at HP
        rw [hw, hbyf]
        clear hw hbyf HN
        have HS2 := hide (awake_any v2)
        have HS := hide (HS2.out)
        go_wp2_with fail
        refine HS.out.mono ?_
        rintro e v3 ⟨rfl, hb⟩
        clear HS
        replace HP := hide (fun w' (h : Below v3.heap.size v3 w') => HP.out w' (bthen hb h))
        clear hb
        clear HS2
        go_wp2
        go_ret
        exact Ret.bool rfl (HP.out _ (Below.refl _ _)).2.2.2.2.2.2.2.2.2.2
      · skip
        rw [hg] at HS3
        clear hg
        have HS := hide (HS3.out)
        go_wp2_with fail
        refine HS.out.mono ?_
        rintro e v1 ⟨V, rfl, hV, hb⟩
        clear x0 x1 x2 zzx t0 t1 zzt oo0 oo1 zzoo
        clear HS
        replace HP := hide (fun w' (h : Below v1.heap.size v1 w') => HP.out w' (bthen hb h))
        clear hb
        clear HS3
        obtain ⟨Af, qf, hVV⟩ := coz_form hV.z
        subst hVV
        have HV := hide hV
        clear hV
        replace HP := hide (fun w' (h : Below v1.heap.size v1 w') => And.intro (HV.out.grow h) (HP.out w' h))
        clear HV
        have HN := hide (Bl.new v1 [.int .i64 ((finC c a0).next), .slice Af ((finC c a0).atts.length) qf, .int .i64 ((finC c a0).dur)] 24)
        replace HP := hide (fun w' (h : Below (v1.alloc (.cells #[.int .i64 ((finC c a0).next), .slice Af ((finC c a0).atts.length) qf, .int .i64 ((finC c a0).dur)] 24)).heap.size (v1.alloc (.cells #[.int .i64 ((finC c a0).next), .slice Af ((finC c a0).atts.length) qf, .int .i64 ((finC c a0).dur)] 24)) w') => And.intro (HN.out.keep h) (HP.out w' (bthen (below_laid _) h)))
        go_upto_region 23 with (fail)
        obtain ⟨byf, hbyf⟩ : ∃ b, v1.heap.size = b := ⟨_, rfl⟩
        obtain ⟨v2, hw⟩ : ∃ x, v1.alloc (.cells #[.int .i64 ((finC c a0).next), .slice Af ((finC c a0).atts.length) qf, .int .i64 ((finC c a0).dur)] 24) = x := ⟨_, rfl⟩
        rw [hw, hbyf] at HP
        rw [hw, hbyf]
        clear hw hbyf HN
        have HS2 := hide (awake_any v2)
        have HS := hide (HS2.out)
        go_wp2_with fail
        refine HS.out.mono ?_
        rintro e v3 ⟨rfl, hb⟩
        clear HS
        replace HP := hide (fun w' (h : Below v3.heap.size v3 w') => HP.out w' (bthen hb h))
        clear hb
        clear HS2
        go_wp2
        go_ret
        exact Ret.bool rfl (HP.out _ (Below.refl _ _)).2.2.2.2.2.2.2.2.2.2
theorem keeps_law (v : Value) (a0 a1 : Int) (u : Value) (o : Oq) (h : CoV w v c) (ho : OpV w u o) (hn : inQ a0) : Calls Try.prog 5 #[v, .agg #[.int .i64 a0, .int .i64 a1], u] w (Ret (.bool true) w) := by
  obtain ⟨xs, rfl, ho⟩ := ho
  cases hf : fewQ c with
  | false => exact keeps_few w c v a0 a1 xs o h ho hn hf
  | true =>
    by_cases hc : chkQ c = 0
    · by_cases h1 : o.marks.length ≤ 20
      · by_cases h2 : o.engs.length ≤ 20
        · by_cases h3 : repE c a0 a1 = 0
          · exact keeps_good w c v a0 a1 xs o h ho hn hf hc h1 h2 h3
          · exact keeps_fail w c v a0 a1 xs o h ho hn hf hc h1 h2 h3
        · exact keeps_engs w c v a0 a1 xs o h ho hn hf hc h1 (by omega)
      · exact keeps_marks w c v a0 a1 xs o h ho hn hf hc (by omega)
    · exact keeps_bad w c v a0 a1 xs o h ho hn hf hc
end
end Go.Proofs.Ytihbonndinnohaa
