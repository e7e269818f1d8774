/- The law's function CoordinatorReports returns true. -/
import Derived.Test.YtihbonndinnohaaQPl
import Derived.Test.YtihbonndinnohaaQOpen
import Derived.Test.YtihbonndinnohaaQRRep2
namespace Go.Proofs.Ytihbonndinnohaa
open Go.RowKit
set_option linter.unusedVariables false
set_option linter.unusedSimpArgs false

theorem rreport_any (w : World) (c : Cq) (v : Value) (num wk : Int) (o : Oq) (xs : List Value) (h : CoV w v c) (ho : ROq w (· < w.heap.size) xs o) : Calls Try.prog 19 #[v, .int .i64 num, .int .i64 wk, .agg xs.toArray] w (RetC1 w (repC c num wk o) (repE c num wk)) := by
  by_cases hc : chkQ c = 0
  · by_cases hf : findQ num c.atts = c.atts.length
    · exact rrep_none w c v num wk o xs h ho hc hf
    · have hi : findQ num c.atts < c.atts.length := by have := findQ_le num c.atts; omega
      by_cases h1 : wk < 0
      · exact rrep_neg w c v num wk o xs h ho hc _ rfl hi h1
      · by_cases h2 : ((attQ c (findQ num c.atts)).hv.length : Int) ≤ wk
        · exact rrep_far w c v num wk o xs h ho hc _ rfl hi (by omega) h2
        · obtain ⟨k, rfl⟩ : ∃ k : Nat, wk = (k : Int) := ⟨wk.toNat, by omega⟩
          have hk : k < (attQ c (findQ num c.atts)).hv.length := by omega
          cases h3 : (attQ c (findQ num c.atts)).hv.getD k false with
          | true => exact rrep_dup w c v num k o xs h ho hc _ rfl hi hk h3
          | false =>
            by_cases h4 : 0 < findQ num c.atts ∧ (attQ c (findQ num c.atts - 1)).hv.getD k true = false
            · exact rrep_ord w c v num k o xs h ho hc _ rfl hi hk h3 h4.1 h4.2
            · exact rrep_good w c v num k o xs h ho hc _ rfl hi hk h3 (fun h0 => by
                cases h5 : (attQ c (findQ num c.atts - 1)).hv.getD k true with
                | true => rfl
                | false => exact absurd ⟨h0, h5⟩ h4)
  · exact rrep_bad w c v num wk o xs h ho hc
theorem own_op {w : World} {xs : List Value} {o : Oq} (h : ROq w (· < w.heap.size) xs o) : ∃ M m D d, xs = [.slice M o.marks.length m, .slice D o.engs.length d] := by
  obtain ⟨v, u, rfl, h1, h2, -⟩ := h
  obtain ⟨M, m, rfl⟩ := h1.form
  obtain ⟨D, d, rfl⟩ := h2.form
  exact ⟨M, m, D, d, rfl⟩
theorem roq_grow {w w' : World} {xs : List Value} {o : Oq} (h : ROq w (· < w.heap.size) xs o) (hb : Below w.heap.size w w') : ROq w' (· < w'.heap.size) xs o := rd_Oq.more (fun _ hx => Nat.lt_of_lt_of_le hx hb.size) (rd_Oq.keep (Kp.of_below hb) h)
section
variable (w : World) (c : Cq)
set_option maxRecDepth 100000 in
set_option maxHeartbeats 16000000 in
theorem reports_few (v : Value) (a0 a1 : Int) (xs : List Value) (o : Oq) (h : CoV w v c) (ho : ROq w (· < w.heap.size) xs o) (hf : fewQ c = false) : Calls Try.prog 4 #[v, .agg #[.int .i64 a0, .int .i64 a1], .agg xs.toArray] w (Ret (.bool true) w) := by
  obtain ⟨A, cap, rfl⟩ := coz_form h.z
  obtain ⟨M, om, D, od, rfl⟩ := own_op ho
  obtain ⟨w0, hw0⟩ : ∃ x, ((w.alloc (.cells #[.int .i64 c.next, .slice A c.atts.length cap, .int .i64 c.dur] 24)).alloc (.cells #[.int .i64 a0, .int .i64 a1] 38)).alloc (.cells #[.slice M o.marks.length om, .slice D o.engs.length od] 42) = x := ⟨_, rfl⟩
  have HB0 := hide (show Below w.heap.size w (((w.alloc (.cells #[.int .i64 c.next, .slice A c.atts.length cap, .int .i64 c.dur] 24)).alloc (.cells #[.int .i64 a0, .int .i64 a1] 38)).alloc (.cells #[.slice M o.marks.length om, .slice D o.engs.length od] 42)) from bA_alloc (bA_alloc (below_laid _) _) _)
  have HX0 := hide (((Bl.new w [.int .i64 c.next, .slice A c.atts.length cap, .int .i64 c.dur] 24).laid (.cells #[.int .i64 a0, .int .i64 a1] 38)).laid (.cells #[.slice M o.marks.length om, .slice D o.engs.length od] 42))
  have HT0 := hide (show Bl (((w.alloc (.cells #[.int .i64 c.next, .slice A c.atts.length cap, .int .i64 c.dur] 24)).alloc (.cells #[.int .i64 a0, .int .i64 a1] 38)).alloc (.cells #[.slice M o.marks.length om, .slice D o.engs.length od] 42)) (w.heap.size + 1) [.int .i64 a0, .int .i64 a1] by have := (Bl.new (w.alloc (.cells #[.int .i64 c.next, .slice A c.atts.length cap, .int .i64 c.dur] 24)) [.int .i64 a0, .int .i64 a1] 38).laid (.cells #[.slice M o.marks.length om, .slice D o.engs.length od] 42); simpa using this)
  have HO0 := hide (show Bl (((w.alloc (.cells #[.int .i64 c.next, .slice A c.atts.length cap, .int .i64 c.dur] 24)).alloc (.cells #[.int .i64 a0, .int .i64 a1] 38)).alloc (.cells #[.slice M o.marks.length om, .slice D o.engs.length od] 42)) (w.heap.size + 1 + 1) [.slice M o.marks.length om, .slice D o.engs.length od] by have := Bl.new ((w.alloc (.cells #[.int .i64 c.next, .slice A c.atts.length cap, .int .i64 c.dur] 24)).alloc (.cells #[.int .i64 a0, .int .i64 a1] 38)) [.slice M o.marks.length om, .slice D o.engs.length od] 42; simpa using this)
  rw [hw0] at HB0 HX0 HT0 HO0
  have HP := hide (fun w' (h9 : Below w0.heap.size w0 w') => And.intro (HX0.out.keep h9) (And.intro (HT0.out.keep h9) (And.intro (HO0.out.keep h9) (And.intro (h.grow (bthen HB0.out h9)) (And.intro (roq_grow ho (bthen HB0.out h9)) (bthen HB0.out h9))))))
  obtain ⟨-, -, -, hcx, -⟩ := HP.out w0 (Below.refl _ _)
  have HF := hide (fewc_any w0 c _ hcx)
  rw [hf] at HF
  clear hcx hf h ho HX0 HB0 HT0 HO0
  obtain ⟨⟨yy, ff, zzx⟩, -⟩ := HP.out w0 (Below.refl _ _)
  have x0 := yy 0 _ rfl
  have x1 := yy 1 _ rfl
  have x2 := yy 2 _ rfl
  clear yy ff
  go_enter Try.func4, Try.ntmps4
  go_wp2_with fail
  clear hw0
  have HS := hide (HF.out)
  go_wp2_with fail
  refine HS.out.mono ?_
  rintro e w1 ⟨rfl, hb⟩
  clear x0 x1 x2 zzx
  clear HS
  replace HP := hide (fun w' (h : Below w1.heap.size w1 w') => HP.out w' (bthen hb h))
  clear hb
  clear HF
  obtain ⟨⟨yy, ff, zzx⟩, -⟩ := HP.out w1 (Below.refl _ _)
  have x0 := yy 0 _ rfl
  have x1 := yy 1 _ rfl
  have x2 := yy 2 _ rfl
  clear yy ff
  obtain ⟨-, ⟨yy, ff, zzt⟩, -⟩ := HP.out w1 (Below.refl _ _)
  have t0 := yy 0 _ rfl
  have t1 := yy 1 _ rfl
  clear yy ff
  obtain ⟨-, -, ⟨yy, ff, zzoo⟩, -⟩ := HP.out w1 (Below.refl _ _)
  have oo0 := yy 0 _ rfl
  have oo1 := yy 1 _ rfl
  clear yy ff
  have HS2 := hide (awake_any w1)
  have HS := hide (HS2.out)
  go_wp2_with fail
  refine HS.out.mono ?_
  rintro e w2 ⟨rfl, hb⟩
  clear x0 x1 x2 zzx t0 t1 zzt oo0 oo1 zzoo
  clear HS
  replace HP := hide (fun w' (h : Below w2.heap.size w2 w') => HP.out w' (bthen hb h))
  clear hb
  clear HS2
  go_wp2
  go_ret
  exact Ret.bool rfl (HP.out _ (Below.refl _ _)).2.2.2.2.2
set_option maxRecDepth 100000 in
set_option maxHeartbeats 16000000 in
theorem reports_marks (v : Value) (a0 a1 : Int) (xs : List Value) (o : Oq) (h : CoV w v c) (ho : ROq w (· < w.heap.size) xs o) (hf : fewQ c = true) (hm : 20 < o.marks.length) : Calls Try.prog 4 #[v, .agg #[.int .i64 a0, .int .i64 a1], .agg xs.toArray] w (Ret (.bool true) w) := by
  obtain ⟨A, cap, rfl⟩ := coz_form h.z
  obtain ⟨M, om, D, od, rfl⟩ := own_op ho
  obtain ⟨w0, hw0⟩ : ∃ x, ((w.alloc (.cells #[.int .i64 c.next, .slice A c.atts.length cap, .int .i64 c.dur] 24)).alloc (.cells #[.int .i64 a0, .int .i64 a1] 38)).alloc (.cells #[.slice M o.marks.length om, .slice D o.engs.length od] 42) = x := ⟨_, rfl⟩
  have HB0 := hide (show Below w.heap.size w (((w.alloc (.cells #[.int .i64 c.next, .slice A c.atts.length cap, .int .i64 c.dur] 24)).alloc (.cells #[.int .i64 a0, .int .i64 a1] 38)).alloc (.cells #[.slice M o.marks.length om, .slice D o.engs.length od] 42)) from bA_alloc (bA_alloc (below_laid _) _) _)
  have HX0 := hide (((Bl.new w [.int .i64 c.next, .slice A c.atts.length cap, .int .i64 c.dur] 24).laid (.cells #[.int .i64 a0, .int .i64 a1] 38)).laid (.cells #[.slice M o.marks.length om, .slice D o.engs.length od] 42))
  have HT0 := hide (show Bl (((w.alloc (.cells #[.int .i64 c.next, .slice A c.atts.length cap, .int .i64 c.dur] 24)).alloc (.cells #[.int .i64 a0, .int .i64 a1] 38)).alloc (.cells #[.slice M o.marks.length om, .slice D o.engs.length od] 42)) (w.heap.size + 1) [.int .i64 a0, .int .i64 a1] by have := (Bl.new (w.alloc (.cells #[.int .i64 c.next, .slice A c.atts.length cap, .int .i64 c.dur] 24)) [.int .i64 a0, .int .i64 a1] 38).laid (.cells #[.slice M o.marks.length om, .slice D o.engs.length od] 42); simpa using this)
  have HO0 := hide (show Bl (((w.alloc (.cells #[.int .i64 c.next, .slice A c.atts.length cap, .int .i64 c.dur] 24)).alloc (.cells #[.int .i64 a0, .int .i64 a1] 38)).alloc (.cells #[.slice M o.marks.length om, .slice D o.engs.length od] 42)) (w.heap.size + 1 + 1) [.slice M o.marks.length om, .slice D o.engs.length od] by have := Bl.new ((w.alloc (.cells #[.int .i64 c.next, .slice A c.atts.length cap, .int .i64 c.dur] 24)).alloc (.cells #[.int .i64 a0, .int .i64 a1] 38)) [.slice M o.marks.length om, .slice D o.engs.length od] 42; simpa using this)
  rw [hw0] at HB0 HX0 HT0 HO0
  have HP := hide (fun w' (h9 : Below w0.heap.size w0 w') => And.intro (HX0.out.keep h9) (And.intro (HT0.out.keep h9) (And.intro (HO0.out.keep h9) (And.intro (h.grow (bthen HB0.out h9)) (And.intro (roq_grow ho (bthen HB0.out h9)) (bthen HB0.out h9))))))
  obtain ⟨-, -, -, hcx, -⟩ := HP.out w0 (Below.refl _ _)
  have HF := hide (fewc_any w0 c _ hcx)
  rw [hf] at HF
  obtain ⟨mm, hmm⟩ : ∃ n, o.marks.length = n := ⟨_, rfl⟩
  obtain ⟨me, hme⟩ : ∃ n, o.engs.length = n := ⟨_, rfl⟩
  have hbm : o.marks.length ≤ 140737488351232 := ho.choose_spec.choose_spec.2.2.2.1
  have hbe : o.engs.length ≤ 140737488351232 := ho.choose_spec.choose_spec.2.2.2.2
  rw [hmm] at HP hbm hm
  rw [hme] at HP hbe 
  rw [hmm, hme] at hw0
  rw [hmm, hme]
  have HMM := hide hmm
  have HME := hide hme
  clear hmm hme
  have t1 : decide ((20 : Int) < (mm : Int)) = true := decide_eq_true (by omega)
  clear hcx hf h ho HX0 HB0 HT0 HO0
  obtain ⟨⟨yy, ff, zzx⟩, -⟩ := HP.out w0 (Below.refl _ _)
  have x0 := yy 0 _ rfl
  have x1 := yy 1 _ rfl
  have x2 := yy 2 _ rfl
  clear yy ff
  go_enter Try.func4, Try.ntmps4
  go_wp2_with fail
  clear hw0
  have HS := hide (HF.out)
  go_wp2_with fail
  refine HS.out.mono ?_
  rintro e w1 ⟨rfl, hb⟩
  clear x0 x1 x2 zzx
  clear HS
  replace HP := hide (fun w' (h : Below w1.heap.size w1 w') => HP.out w' (bthen hb h))
  clear hb
  clear HF
  obtain ⟨⟨yy, ff, zzx⟩, -⟩ := HP.out w1 (Below.refl _ _)
  have x0 := yy 0 _ rfl
  have x1 := yy 1 _ rfl
  have x2 := yy 2 _ rfl
  clear yy ff
  obtain ⟨-, ⟨yy, ff, zzt⟩, -⟩ := HP.out w1 (Below.refl _ _)
  have t0 := yy 0 _ rfl
  have t1 := yy 1 _ rfl
  clear yy ff
  obtain ⟨-, -, ⟨yy, ff, zzoo⟩, -⟩ := HP.out w1 (Below.refl _ _)
  have oo0 := yy 0 _ rfl
  have oo1 := yy 1 _ rfl
  clear yy ff
  have HS2 := hide (awake_any w1)
  have HS := hide (HS2.out)
  go_wp2_with fail
  refine HS.out.mono ?_
  rintro e w3 ⟨rfl, hb⟩
  clear x0 x1 x2 zzx t0 t1 zzt oo0 oo1 zzoo
  clear HS
  replace HP := hide (fun w' (h : Below w3.heap.size w3 w') => HP.out w' (bthen hb h))
  clear hb
  clear HS2
  go_wp2
  go_ret
  exact Ret.bool rfl (HP.out _ (Below.refl _ _)).2.2.2.2.2
set_option maxRecDepth 100000 in
set_option maxHeartbeats 16000000 in
theorem reports_engs (v : Value) (a0 a1 : Int) (xs : List Value) (o : Oq) (h : CoV w v c) (ho : ROq w (· < w.heap.size) xs o) (hf : fewQ c = true) (hm : o.marks.length ≤ 20) (he : 20 < o.engs.length) : Calls Try.prog 4 #[v, .agg #[.int .i64 a0, .int .i64 a1], .agg xs.toArray] w (Ret (.bool true) w) := by
  obtain ⟨A, cap, rfl⟩ := coz_form h.z
  obtain ⟨M, om, D, od, rfl⟩ := own_op ho
  obtain ⟨w0, hw0⟩ : ∃ x, ((w.alloc (.cells #[.int .i64 c.next, .slice A c.atts.length cap, .int .i64 c.dur] 24)).alloc (.cells #[.int .i64 a0, .int .i64 a1] 38)).alloc (.cells #[.slice M o.marks.length om, .slice D o.engs.length od] 42) = x := ⟨_, rfl⟩
  have HB0 := hide (show Below w.heap.size w (((w.alloc (.cells #[.int .i64 c.next, .slice A c.atts.length cap, .int .i64 c.dur] 24)).alloc (.cells #[.int .i64 a0, .int .i64 a1] 38)).alloc (.cells #[.slice M o.marks.length om, .slice D o.engs.length od] 42)) from bA_alloc (bA_alloc (below_laid _) _) _)
  have HX0 := hide (((Bl.new w [.int .i64 c.next, .slice A c.atts.length cap, .int .i64 c.dur] 24).laid (.cells #[.int .i64 a0, .int .i64 a1] 38)).laid (.cells #[.slice M o.marks.length om, .slice D o.engs.length od] 42))
  have HT0 := hide (show Bl (((w.alloc (.cells #[.int .i64 c.next, .slice A c.atts.length cap, .int .i64 c.dur] 24)).alloc (.cells #[.int .i64 a0, .int .i64 a1] 38)).alloc (.cells #[.slice M o.marks.length om, .slice D o.engs.length od] 42)) (w.heap.size + 1) [.int .i64 a0, .int .i64 a1] by have := (Bl.new (w.alloc (.cells #[.int .i64 c.next, .slice A c.atts.length cap, .int .i64 c.dur] 24)) [.int .i64 a0, .int .i64 a1] 38).laid (.cells #[.slice M o.marks.length om, .slice D o.engs.length od] 42); simpa using this)
  have HO0 := hide (show Bl (((w.alloc (.cells #[.int .i64 c.next, .slice A c.atts.length cap, .int .i64 c.dur] 24)).alloc (.cells #[.int .i64 a0, .int .i64 a1] 38)).alloc (.cells #[.slice M o.marks.length om, .slice D o.engs.length od] 42)) (w.heap.size + 1 + 1) [.slice M o.marks.length om, .slice D o.engs.length od] by have := Bl.new ((w.alloc (.cells #[.int .i64 c.next, .slice A c.atts.length cap, .int .i64 c.dur] 24)).alloc (.cells #[.int .i64 a0, .int .i64 a1] 38)) [.slice M o.marks.length om, .slice D o.engs.length od] 42; simpa using this)
  rw [hw0] at HB0 HX0 HT0 HO0
  have HP := hide (fun w' (h9 : Below w0.heap.size w0 w') => And.intro (HX0.out.keep h9) (And.intro (HT0.out.keep h9) (And.intro (HO0.out.keep h9) (And.intro (h.grow (bthen HB0.out h9)) (And.intro (roq_grow ho (bthen HB0.out h9)) (bthen HB0.out h9))))))
  obtain ⟨-, -, -, hcx, -⟩ := HP.out w0 (Below.refl _ _)
  have HF := hide (fewc_any w0 c _ hcx)
  rw [hf] at HF
  obtain ⟨mm, hmm⟩ : ∃ n, o.marks.length = n := ⟨_, rfl⟩
  obtain ⟨me, hme⟩ : ∃ n, o.engs.length = n := ⟨_, rfl⟩
  have hbm : o.marks.length ≤ 140737488351232 := ho.choose_spec.choose_spec.2.2.2.1
  have hbe : o.engs.length ≤ 140737488351232 := ho.choose_spec.choose_spec.2.2.2.2
  rw [hmm] at HP hbm hm
  rw [hme] at HP hbe he
  rw [hmm, hme] at hw0
  rw [hmm, hme]
  have HMM := hide hmm
  have HME := hide hme
  clear hmm hme
  have t1 : decide ((20 : Int) < (mm : Int)) = false := decide_eq_false (by omega)
  have t2 : decide ((20 : Int) < (me : Int)) = true := decide_eq_true (by omega)
  clear hcx hf h ho HX0 HB0 HT0 HO0
  obtain ⟨⟨yy, ff, zzx⟩, -⟩ := HP.out w0 (Below.refl _ _)
  have x0 := yy 0 _ rfl
  have x1 := yy 1 _ rfl
  have x2 := yy 2 _ rfl
  clear yy ff
  go_enter Try.func4, Try.ntmps4
  go_wp2_with fail
  clear hw0
  have HS := hide (HF.out)
  go_wp2_with fail
  refine HS.out.mono ?_
  rintro e w1 ⟨rfl, hb⟩
  clear x0 x1 x2 zzx
  clear HS
  replace HP := hide (fun w' (h : Below w1.heap.size w1 w') => HP.out w' (bthen hb h))
  clear hb
  clear HF
  obtain ⟨⟨yy, ff, zzx⟩, -⟩ := HP.out w1 (Below.refl _ _)
  have x0 := yy 0 _ rfl
  have x1 := yy 1 _ rfl
  have x2 := yy 2 _ rfl
  clear yy ff
  obtain ⟨-, ⟨yy, ff, zzt⟩, -⟩ := HP.out w1 (Below.refl _ _)
  have t0 := yy 0 _ rfl
  have t1 := yy 1 _ rfl
  clear yy ff
  obtain ⟨-, -, ⟨yy, ff, zzoo⟩, -⟩ := HP.out w1 (Below.refl _ _)
  have oo0 := yy 0 _ rfl
  have oo1 := yy 1 _ rfl
  clear yy ff
  have HS2 := hide (awake_any w1)
  have HS := hide (HS2.out)
  go_wp2_with fail
  refine HS.out.mono ?_
  rintro e w3 ⟨rfl, hb⟩
  clear x0 x1 x2 zzx t0 t1 zzt oo0 oo1 zzoo
  clear HS
  replace HP := hide (fun w' (h : Below w3.heap.size w3 w') => HP.out w' (bthen hb h))
  clear hb
  clear HS2
  go_wp2
  go_ret
  exact Ret.bool rfl (HP.out _ (Below.refl _ _)).2.2.2.2.2
set_option maxRecDepth 100000 in
set_option maxHeartbeats 16000000 in
theorem reports_main (v : Value) (a0 a1 : Int) (xs : List Value) (o : Oq) (h : CoV w v c) (ho : ROq w (· < w.heap.size) xs o) (hf : fewQ c = true) (hm : o.marks.length ≤ 20) (he : o.engs.length ≤ 20) : Calls Try.prog 4 #[v, .agg #[.int .i64 a0, .int .i64 a1], .agg xs.toArray] w (Ret (.bool true) w) := by
  obtain ⟨A, cap, rfl⟩ := coz_form h.z
  obtain ⟨M, om, D, od, rfl⟩ := own_op ho
  obtain ⟨w0, hw0⟩ : ∃ x, ((w.alloc (.cells #[.int .i64 c.next, .slice A c.atts.length cap, .int .i64 c.dur] 24)).alloc (.cells #[.int .i64 a0, .int .i64 a1] 38)).alloc (.cells #[.slice M o.marks.length om, .slice D o.engs.length od] 42) = x := ⟨_, rfl⟩
  have HB0 := hide (show Below w.heap.size w (((w.alloc (.cells #[.int .i64 c.next, .slice A c.atts.length cap, .int .i64 c.dur] 24)).alloc (.cells #[.int .i64 a0, .int .i64 a1] 38)).alloc (.cells #[.slice M o.marks.length om, .slice D o.engs.length od] 42)) from bA_alloc (bA_alloc (below_laid _) _) _)
  have HX0 := hide (((Bl.new w [.int .i64 c.next, .slice A c.atts.length cap, .int .i64 c.dur] 24).laid (.cells #[.int .i64 a0, .int .i64 a1] 38)).laid (.cells #[.slice M o.marks.length om, .slice D o.engs.length od] 42))
  have HT0 := hide (show Bl (((w.alloc (.cells #[.int .i64 c.next, .slice A c.atts.length cap, .int .i64 c.dur] 24)).alloc (.cells #[.int .i64 a0, .int .i64 a1] 38)).alloc (.cells #[.slice M o.marks.length om, .slice D o.engs.length od] 42)) (w.heap.size + 1) [.int .i64 a0, .int .i64 a1] by have := (Bl.new (w.alloc (.cells #[.int .i64 c.next, .slice A c.atts.length cap, .int .i64 c.dur] 24)) [.int .i64 a0, .int .i64 a1] 38).laid (.cells #[.slice M o.marks.length om, .slice D o.engs.length od] 42); simpa using this)
  have HO0 := hide (show Bl (((w.alloc (.cells #[.int .i64 c.next, .slice A c.atts.length cap, .int .i64 c.dur] 24)).alloc (.cells #[.int .i64 a0, .int .i64 a1] 38)).alloc (.cells #[.slice M o.marks.length om, .slice D o.engs.length od] 42)) (w.heap.size + 1 + 1) [.slice M o.marks.length om, .slice D o.engs.length od] by have := Bl.new ((w.alloc (.cells #[.int .i64 c.next, .slice A c.atts.length cap, .int .i64 c.dur] 24)).alloc (.cells #[.int .i64 a0, .int .i64 a1] 38)) [.slice M o.marks.length om, .slice D o.engs.length od] 42; simpa using this)
  rw [hw0] at HB0 HX0 HT0 HO0
  have HP := hide (fun w' (h9 : Below w0.heap.size w0 w') => And.intro (HX0.out.keep h9) (And.intro (HT0.out.keep h9) (And.intro (HO0.out.keep h9) (And.intro (h.grow (bthen HB0.out h9)) (And.intro (roq_grow ho (bthen HB0.out h9)) (bthen HB0.out h9))))))
  obtain ⟨-, -, -, hcx, -⟩ := HP.out w0 (Below.refl _ _)
  have HF := hide (fewc_any w0 c _ hcx)
  rw [hf] at HF
  obtain ⟨mm, hmm⟩ : ∃ n, o.marks.length = n := ⟨_, rfl⟩
  obtain ⟨me, hme⟩ : ∃ n, o.engs.length = n := ⟨_, rfl⟩
  have hbm : o.marks.length ≤ 140737488351232 := ho.choose_spec.choose_spec.2.2.2.1
  have hbe : o.engs.length ≤ 140737488351232 := ho.choose_spec.choose_spec.2.2.2.2
  rw [hmm] at HP hbm hm
  rw [hme] at HP hbe he
  rw [hmm, hme] at hw0
  rw [hmm, hme]
  have HMM := hide hmm
  have HME := hide hme
  clear hmm hme
  have t1 : decide ((20 : Int) < (mm : Int)) = false := decide_eq_false (by omega)
  have t2 : decide ((20 : Int) < (me : Int)) = false := decide_eq_false (by omega)
  have HLE := hide (And.intro hm he)
  obtain ⟨K, hK9⟩ : ∃ x, repC c a0 a1 o = x := ⟨_, rfl⟩
  obtain ⟨E, hE9⟩ : ∃ x, repE c a0 a1 = x := ⟨_, rfl⟩
  have HKK := hide (And.intro hK9 hE9)
  clear hK9 hE9
  clear hcx hf h ho HX0 HB0 HT0 HO0
  obtain ⟨⟨yy, ff, zzx⟩, -⟩ := HP.out w0 (Below.refl _ _)
  have x0 := yy 0 _ rfl
  have x1 := yy 1 _ rfl
  have x2 := yy 2 _ rfl
  clear yy ff
  go_enter Try.func4, Try.ntmps4
  go_wp2_with fail
  clear hw0
  have HS := hide (HF.out)
  go_wp2_with fail
  refine HS.out.mono ?_
  rintro e w1 ⟨rfl, hb⟩
  clear x0 x1 x2 zzx
  clear HS
  replace HP := hide (fun w' (h : Below w1.heap.size w1 w') => HP.out w' (bthen hb h))
  clear hb
  clear HF
  obtain ⟨⟨yy, ff, zzx⟩, -⟩ := HP.out w1 (Below.refl _ _)
  have x0 := yy 0 _ rfl
  have x1 := yy 1 _ rfl
  have x2 := yy 2 _ rfl
  clear yy ff
  obtain ⟨-, ⟨yy, ff, zzt⟩, -⟩ := HP.out w1 (Below.refl _ _)
  have t0 := yy 0 _ rfl
  have t1 := yy 1 _ rfl
  clear yy ff
  obtain ⟨-, -, ⟨yy, ff, zzoo⟩, -⟩ := HP.out w1 (Below.refl _ _)
  have oo0 := yy 0 _ rfl
  have oo1 := yy 1 _ rfl
  clear yy ff
  obtain ⟨-, -, -, hcx, hro, -⟩ := HP.out w1 (Below.refl _ _)
  have HS2 := hide (report_any w1 c _ a0 a1 o _ hcx hro (by have := HMM.out; have := HLE.out; omega) (by have := HME.out; have := HLE.out; omega))
  rw [HKK.out.1, HKK.out.2] at HS2
  clear hcx hro
  have HS := hide (HS2.out)
  go_wp2_with fail
  refine HS.out.mono ?_
  rintro e w2 ⟨V, rfl, hV, hb⟩
  clear x0 x1 x2 zzx t0 t1 zzt oo0 oo1 zzoo
  clear HS
  replace HP := hide (fun w' (h : Below w2.heap.size w2 w') => HP.out w' (bthen hb h))
  clear hb
  clear HS2
  obtain ⟨Aa, qa, rfl⟩ := coz_form hV.z
  have HV := hide hV
  clear hV
  replace HP := hide (fun w' (h : Below w2.heap.size w2 w') => And.intro (HV.out.grow h) (HP.out w' h))
  clear HV
  have HN := hide (Bl.new w2 [.int .i64 K.next, .slice Aa K.atts.length qa, .int .i64 K.dur] 24)
  replace HP := hide (fun w' (h : Below (w2.alloc (.cells #[.int .i64 K.next, .slice Aa K.atts.length qa, .int .i64 K.dur] 24)).heap.size (w2.alloc (.cells #[.int .i64 K.next, .slice Aa K.atts.length qa, .int .i64 K.dur] 24)) w') => And.intro (HN.out.keep h) (HP.out w' (bthen (below_laid _) h)))
  go_upto_region 4 with (fail)
  obtain ⟨bya, hbya⟩ : ∃ b, w2.heap.size = b := ⟨_, rfl⟩
  obtain ⟨w3, hw⟩ : ∃ x, w2.alloc (.cells #[.int .i64 K.next, .slice Aa K.atts.length qa, .int .i64 K.dur] 24) = x := ⟨_, rfl⟩
  rw [hw, hbya] at HP
  rw [hw, hbya]
  clear hw hbya HN
  obtain ⟨-, -, -, -, -, hcx, hro, -⟩ := HP.out w3 (Below.refl _ _)
  have HS2 := hide (rreport_any w3 c _ a0 a1 o _ hcx hro)
  rw [HKK.out.1, HKK.out.2] at HS2
  clear hcx hro
  obtain ⟨-, -, ⟨yy, ff, zzx⟩, -⟩ := HP.out w3 (Below.refl _ _)
  have x0 := yy 0 _ rfl
  have x1 := yy 1 _ rfl
  have x2 := yy 2 _ rfl
  clear yy ff
  obtain ⟨-, -, -, ⟨yy, ff, zzt⟩, -⟩ := HP.out w3 (Below.refl _ _)
  have t0 := yy 0 _ rfl
  have t1 := yy 1 _ rfl
  clear yy ff
  obtain ⟨-, -, -, -, ⟨yy, ff, zzoo⟩, -⟩ := HP.out w3 (Below.refl _ _)
  have oo0 := yy 0 _ rfl
  have oo1 := yy 1 _ rfl
  clear yy ff
  have HS := hide (HS2.out)
  go_wp2_with fail
  refine HS.out.mono ?_
  rintro e w4 ⟨V, rfl, hV, hb⟩
  clear x0 x1 x2 zzx t0 t1 zzt oo0 oo1 zzoo
  clear HS
  replace HP := hide (fun w' (h : Below w4.heap.size w4 w') => HP.out w' (bthen hb h))
  clear hb
  clear HS2
  obtain ⟨Ab, qb, rfl⟩ := coz_form hV.z
  have HV := hide hV
  clear hV
  replace HP := hide (fun w' (h : Below w4.heap.size w4 w') => And.intro (HV.out.grow h) (HP.out w' h))
  clear HV
  have HN := hide (Bl.new w4 [.int .i64 K.next, .slice Ab K.atts.length qb, .int .i64 K.dur] 24)
  replace HP := hide (fun w' (h : Below (w4.alloc (.cells #[.int .i64 K.next, .slice Ab K.atts.length qb, .int .i64 K.dur] 24)).heap.size (w4.alloc (.cells #[.int .i64 K.next, .slice Ab K.atts.length qb, .int .i64 K.dur] 24)) w') => And.intro (HN.out.keep h) (HP.out w' (bthen (below_laid _) h)))
  go_upto_region 5 with (fail)
  obtain ⟨byb, hbyb⟩ : ∃ b, w4.heap.size = b := ⟨_, rfl⟩
  obtain ⟨w5, hw⟩ : ∃ x, w4.alloc (.cells #[.int .i64 K.next, .slice Ab K.atts.length qb, .int .i64 K.dur] 24) = x := ⟨_, rfl⟩
  rw [hw, hbyb] at HP
  rw [hw, hbyb]
  clear hw hbyb HN
  have HS2 := hide (awake_any w5)
  have HS := hide (HS2.out)
  go_wp2_with fail
  refine HS.out.mono ?_
  rintro e w6 ⟨rfl, hb⟩
  clear HS
  replace HP := hide (fun w' (h : Below w6.heap.size w6 w') => HP.out w' (bthen hb h))
  clear hb
  clear HS2
  obtain ⟨-, -, ⟨yy, ff, zzya⟩, -⟩ := HP.out w6 (Below.refl _ _)
  have ya0 := yy 0 _ rfl
  have ya1 := yy 1 _ rfl
  have ya2 := yy 2 _ rfl
  clear yy ff
  obtain ⟨⟨yy, ff, zzyb⟩, -⟩ := HP.out w6 (Below.refl _ _)
  have yb0 := yy 0 _ rfl
  have yb1 := yy 1 _ rfl
  have yb2 := yy 2 _ rfl
  clear yy ff
  obtain ⟨-, hcb, -, hca, -⟩ := HP.out w6 (Below.refl _ _)
  have HS2 := hide (same_any w6 K _ _ hca hcb)
  clear hca hcb
  have HS := hide (HS2.out)
  go_wp2_with fail
  refine HS.out.mono ?_
  rintro e w7 ⟨rfl, hb⟩
  clear ya0 ya1 ya2 zzya yb0 yb1 yb2 zzyb
  clear HS
  replace HP := hide (fun w' (h : Below w7.heap.size w7 w') => HP.out w' (bthen hb h))
  clear hb
  clear HS2
  go_wp2
  go_ret
  exact Ret.bool rfl (HP.out _ (Below.refl _ _)).2.2.2.2.2.2.2.2.2
theorem reports_law (v : Value) (a0 a1 : Int) (u : Value) (o : Oq) (h : CoV w v c) (ho : OpV w u o) : Calls Try.prog 4 #[v, .agg #[.int .i64 a0, .int .i64 a1], u] w (Ret (.bool true) w) := by
  obtain ⟨xs, rfl, ho⟩ := ho
  cases hf : fewQ c with
  | false => exact reports_few w c v a0 a1 xs o h ho hf
  | true =>
    by_cases h1 : o.marks.length ≤ 20
    · by_cases h2 : o.engs.length ≤ 20
      · exact reports_main w c v a0 a1 xs o h ho hf h1 h2
      · exact reports_engs w c v a0 a1 xs o h ho hf h1 (by omega)
    · exact reports_marks w c v a0 a1 xs o h ho hf (by omega)
end
end Go.Proofs.Ytihbonndinnohaa
