/- Trigger of the reference: where it fails. -/
import Derived.Test.YtihbonndinnohaaQTrig
namespace Go.Proofs.Ytihbonndinnohaa
open Go.RowKit
set_option linter.unusedVariables false
set_option linter.unusedSimpArgs false
section
variable (w : World) (c : Cq)
set_option maxRecDepth 100000 in
set_option maxHeartbeats 8000000 in
theorem rtrig_bad (v rv : Value) (rds : List Rq) (n : Int) (h : CoV w v c) (hr : Lq w 6 RRq rv rds) (hbad : trigE c rds.length n ≠ 0) : Calls Try.prog 12 #[v, rv, .int .i64 n] w (RetC2 w (trigC c rds n) (trigN c rds.length n) (trigE c rds.length n)) := by
  have HC : Hid (trigC c rds n = Cq.z) := hide (by unfold trigC; rw [if_neg hbad])
  have HN : Hid (trigN c rds.length n = 0) := hide (by unfold trigN; rw [if_neg hbad])
  obtain ⟨A', cap', rfl⟩ := hr.form
  have hrl := hr.len
  unfold maxLen at hrl
  obtain ⟨u, rfl, hl, hq1, hq2⟩ := id h
  obtain ⟨A, cap, rfl⟩ := hl.form
  have HB := hide (show Below w.heap.size w ((w.alloc (.cells #[.int .i64 c.next, .slice A c.atts.length cap, .int .i64 c.dur] 24)).alloc (.cells #[.int .i64 0, .slice none 0 0, .int .i64 0] 24)) from bA_alloc (below_laid _) _)
  have HX := hide ((Bl.new w [.int .i64 c.next, .slice A c.atts.length cap, .int .i64 c.dur] 24).laid (.cells #[.int .i64 0, .slice none 0 0, .int .i64 0] 24))
  have HY := hide (show Bl ((w.alloc (.cells #[.int .i64 c.next, .slice A c.atts.length cap, .int .i64 c.dur] 24)).alloc (.cells #[.int .i64 0, .slice none 0 0, .int .i64 0] 24)) (w.heap.size + 1) [.int .i64 0, .slice none 0 0, .int .i64 0] by have := Bl.new (w.alloc (.cells #[.int .i64 c.next, .slice A c.atts.length cap, .int .i64 c.dur] 24)) [.int .i64 0, .slice none 0 0, .int .i64 0] 24; simpa using this)
  have HK := hide (rchk_any ((w.alloc (.cells #[.int .i64 c.next, .slice A c.atts.length cap, .int .i64 c.dur] 24)).alloc (.cells #[.int .i64 0, .slice none 0 0, .int .i64 0] 24)) c _ ((h.laid _).laid _))
  have hmx := hl.len
  unfold maxLen at hmx
  by_cases hc : chkQ c = 0
  · have hE0 : trigE c rds.length n = fitQ c rds.length n := by unfold trigE; rw [if_neg (by simp [hc])]
    rw [hc] at HK
    rw [hE0]
    rw [hE0] at hbad
    obtain ⟨nr, hnr⟩ : ∃ n, rds.length = n := ⟨_, rfl⟩
    rw [hnr] at HN hrl hbad ⊢
    obtain ⟨b1, b2, b3, b4, b5, b6⟩ := chk0 hc
    by_cases p1 : nr < 1 ∨ 8 < nr ∨ n < 1 ∨ 8 < n
    · have hE : fitQ c nr n = 5 := by unfold fitQ; rw [if_pos p1]
      rw [hE]
      clear hbad hE hE0 hc h hl hr hq1 hq2 hnr b6
      by_cases q1 : nr < 1
      · have t1 : decide ((nr : Int) < 1) = true := decide_eq_true (by omega)
        clear p1 q1
        go_enter Try.func12, Try.ntmps12
        go_wp2_with fail
        refine HK.out.mono ?_
        rintro e w1 ⟨rfl, hb⟩
        replace HX := hide (HX.out.keep hb)
        replace HY := hide (HY.out.keep hb)
        replace HB := hide (bthen HB.out hb)
        clear hb
        obtain ⟨x, -, zx⟩ := HX.out
        obtain ⟨y, v, zy⟩ := HY.out
        have x0 := x 0 _ rfl
        have x1 := x 1 _ rfl
        have x2 := x 2 _ rfl
        have y0 := y 0 _ rfl
        have y1 := y 1 _ rfl
        have y2 := y 2 _ rfl
        have v0 := v 0
        have v1 := v 1
        have v2 := v 2
        clear x y v zx
        go_wp2
        refine bodyPost_ret (v := .tuple #[.agg #[.int .i64 0, .slice none 0 0, .int .i64 0], .int .i64 0, .int .i64 5]) (by rw [results_ctt rfl]; go_simp) rfl ?_
        exact RetC2.zero HC.out HN.out rfl (((HB.out.setCell (p := ⟨w.heap.size + 1, 0, none⟩) (Nat.le_succ _) _).setCell (p := ⟨w.heap.size + 1, 1, none⟩) (Nat.le_succ _) _).setCell (p := ⟨w.heap.size + 1, 2, none⟩) (Nat.le_succ _) _)
      · have t1 : decide ((nr : Int) < 1) = false := decide_eq_false (by omega)
        by_cases q2 : 8 < nr
        · have t2 : decide ((8 : Int) < (nr : Int)) = true := decide_eq_true (by omega)
          clear p1 q1 q2
          go_enter Try.func12, Try.ntmps12
          go_wp2_with fail
          refine HK.out.mono ?_
          rintro e w1 ⟨rfl, hb⟩
          replace HX := hide (HX.out.keep hb)
          replace HY := hide (HY.out.keep hb)
          replace HB := hide (bthen HB.out hb)
          clear hb
          obtain ⟨x, -, zx⟩ := HX.out
          obtain ⟨y, v, zy⟩ := HY.out
          have x0 := x 0 _ rfl
          have x1 := x 1 _ rfl
          have x2 := x 2 _ rfl
          have y0 := y 0 _ rfl
          have y1 := y 1 _ rfl
          have y2 := y 2 _ rfl
          have v0 := v 0
          have v1 := v 1
          have v2 := v 2
          clear x y v zx
          go_wp2
          refine bodyPost_ret (v := .tuple #[.agg #[.int .i64 0, .slice none 0 0, .int .i64 0], .int .i64 0, .int .i64 5]) (by rw [results_ctt rfl]; go_simp) rfl ?_
          exact RetC2.zero HC.out HN.out rfl (((HB.out.setCell (p := ⟨w.heap.size + 1, 0, none⟩) (Nat.le_succ _) _).setCell (p := ⟨w.heap.size + 1, 1, none⟩) (Nat.le_succ _) _).setCell (p := ⟨w.heap.size + 1, 2, none⟩) (Nat.le_succ _) _)
        · have t2 : decide ((8 : Int) < (nr : Int)) = false := decide_eq_false (by omega)
          by_cases q3 : n < 1
          · have t3 : decide (n < 1) = true := decide_eq_true q3
            clear p1 q1 q2 q3
            go_enter Try.func12, Try.ntmps12
            go_wp2_with fail
            refine HK.out.mono ?_
            rintro e w1 ⟨rfl, hb⟩
            replace HX := hide (HX.out.keep hb)
            replace HY := hide (HY.out.keep hb)
            replace HB := hide (bthen HB.out hb)
            clear hb
            obtain ⟨x, -, zx⟩ := HX.out
            obtain ⟨y, v, zy⟩ := HY.out
            have x0 := x 0 _ rfl
            have x1 := x 1 _ rfl
            have x2 := x 2 _ rfl
            have y0 := y 0 _ rfl
            have y1 := y 1 _ rfl
            have y2 := y 2 _ rfl
            have v0 := v 0
            have v1 := v 1
            have v2 := v 2
            clear x y v zx
            go_wp2
            refine bodyPost_ret (v := .tuple #[.agg #[.int .i64 0, .slice none 0 0, .int .i64 0], .int .i64 0, .int .i64 5]) (by rw [results_ctt rfl]; go_simp) rfl ?_
            exact RetC2.zero HC.out HN.out rfl (((HB.out.setCell (p := ⟨w.heap.size + 1, 0, none⟩) (Nat.le_succ _) _).setCell (p := ⟨w.heap.size + 1, 1, none⟩) (Nat.le_succ _) _).setCell (p := ⟨w.heap.size + 1, 2, none⟩) (Nat.le_succ _) _)
          · have t3 : decide (n < 1) = false := decide_eq_false q3
            have t4 : decide (8 < n) = true := decide_eq_true (by omega)
            clear p1 q1 q2 q3
            go_enter Try.func12, Try.ntmps12
            go_wp2_with fail
            refine HK.out.mono ?_
            rintro e w1 ⟨rfl, hb⟩
            replace HX := hide (HX.out.keep hb)
            replace HY := hide (HY.out.keep hb)
            replace HB := hide (bthen HB.out hb)
            clear hb
            obtain ⟨x, -, zx⟩ := HX.out
            obtain ⟨y, v, zy⟩ := HY.out
            have x0 := x 0 _ rfl
            have x1 := x 1 _ rfl
            have x2 := x 2 _ rfl
            have y0 := y 0 _ rfl
            have y1 := y 1 _ rfl
            have y2 := y 2 _ rfl
            have v0 := v 0
            have v1 := v 1
            have v2 := v 2
            clear x y v zx
            go_wp2
            refine bodyPost_ret (v := .tuple #[.agg #[.int .i64 0, .slice none 0 0, .int .i64 0], .int .i64 0, .int .i64 5]) (by rw [results_ctt rfl]; go_simp) rfl ?_
            exact RetC2.zero HC.out HN.out rfl (((HB.out.setCell (p := ⟨w.heap.size + 1, 0, none⟩) (Nat.le_succ _) _).setCell (p := ⟨w.heap.size + 1, 1, none⟩) (Nat.le_succ _) _).setCell (p := ⟨w.heap.size + 1, 2, none⟩) (Nat.le_succ _) _)
    · have t1 : decide ((nr : Int) < 1) = false := decide_eq_false (by omega)
      have t2 : decide ((8 : Int) < (nr : Int)) = false := decide_eq_false (by omega)
      have t3 : decide (n < 1) = false := decide_eq_false (by omega)
      have t4 : decide (8 < n) = false := decide_eq_false (by omega)
      have hE1 : fitQ c nr n = if 0 < c.atts.length ∧ ((attQ c 0).rds.length ≠ nr ∨ ((attQ c 0).hv.length : Int) ≠ n) then 15 else if c.atts.length = 256 then 27 else if c.next = 1099511627776 then 17 else 0 := by unfold fitQ; rw [if_neg p1]
      rcases Nat.eq_zero_or_pos c.atts.length with h0 | h0
      · have hE : fitQ c nr n = if c.next = 1099511627776 then 17 else 0 := by rw [hE1, if_neg (by omega), if_neg (by omega)]
        have p3 : c.next = 1099511627776 := by
          by_cases e : c.next = 1099511627776
          · exact e
          · rw [hE, if_neg e] at hbad; exact absurd rfl hbad
        rw [hE, if_pos p3]
        rw [h0] at HB HX HY HK ⊢
        have t5 : (c.next == 1099511627776) = true := by rw [beq_iff_eq]; exact p3
        clear hbad hE hE0 hE1 hc h hl hr hq1 hq2 hnr b6 p3 h0 hmx p1
        obtain ⟨nx, hnx⟩ : ∃ x, c.next = x := ⟨_, rfl⟩
        rw [hnx] at HB HX HY HK t5 b1 b2 b4 ⊢
        clear hnx
        go_enter Try.func12, Try.ntmps12
        go_wp2_with fail
        refine HK.out.mono ?_
        rintro e w1 ⟨rfl, hb⟩
        replace HX := hide (HX.out.keep hb)
        replace HY := hide (HY.out.keep hb)
        replace HB := hide (bthen HB.out hb)
        clear hb
        obtain ⟨x, -, zx⟩ := HX.out
        obtain ⟨y, v, zy⟩ := HY.out
        have x0 := x 0 _ rfl
        have x1 := x 1 _ rfl
        have x2 := x 2 _ rfl
        have y0 := y 0 _ rfl
        have y1 := y 1 _ rfl
        have y2 := y 2 _ rfl
        have v0 := v 0
        have v1 := v 1
        have v2 := v 2
        clear x y v zx
        go_wp2
        refine bodyPost_ret (v := .tuple #[.agg #[.int .i64 0, .slice none 0 0, .int .i64 0], .int .i64 0, .int .i64 17]) (by rw [results_ctt rfl]; go_simp) rfl ?_
        exact RetC2.zero HC.out HN.out rfl (((HB.out.setCell (p := ⟨w.heap.size + 1, 0, none⟩) (Nat.le_succ _) _).setCell (p := ⟨w.heap.size + 1, 1, none⟩) (Nat.le_succ _) _).setCell (p := ⟨w.heap.size + 1, 2, none⟩) (Nat.le_succ _) _)
      · obtain ⟨g, off, xs, eA, -⟩ := Lst.at_ hl (j := 0) h0
        subst eA
        obtain ⟨hg, A1, A2, A3, c1, c2, c3, ha⟩ := att_at hl h0
        rw [Nat.zero_mul, Nat.add_zero] at ha
        have k1 := ha.k1
        have k3 := ha.k3
        have h8 := err0 (b6 0 h0)
        obtain ⟨r1, hr1⟩ : ∃ x, (attQ c 0).rds.length = x := ⟨_, rfl⟩
        obtain ⟨r3, hr3⟩ : ∃ x, (attQ c 0).hv.length = x := ⟨_, rfl⟩
        obtain ⟨m, hm⟩ : ∃ m, c.atts.length = m := ⟨_, rfl⟩
        obtain ⟨nx, hnx⟩ : ∃ x, c.next = x := ⟨_, rfl⟩
        rw [hr1] at k1 hE1 h8
        rw [hr3] at k3 hE1 h8
        rw [hm] at hE1 h0 hmx HB HX HY HK ⊢
        rw [hnx] at hE1 HB HX HY HK ⊢
        have m0 : (0 : Int) < (m : Int) := by omega
        have m1 : decide (0 < m) = true := decide_eq_true h0
        have m2 : decide ((0 : Int) < (m : Int)) = true := decide_eq_true m0
        clear ha hr1 hr3 hm hnx hE0 hc h hl hr hq1 hq2 hnr b1 b2 b3 b4 b5 b6 p1
        by_cases q1 : r1 = nr
        · have e1 : ((r1 : Int) != (nr : Int)) = false := by rw [bne_eq_false_iff_eq]; omega
          by_cases q3 : (r3 : Int) = n
          · have e3 : ((r3 : Int) != n) = false := by rw [bne_eq_false_iff_eq]; exact q3
            have hE : fitQ c nr n = if m = 256 then 27 else if nx = 1099511627776 then 17 else 0 := by rw [hE1, if_neg (by omega)]
            by_cases q4 : m = 256
            · have t5 : ((m : Int) == 256) = true := by rw [beq_iff_eq]; omega
              rw [hE, if_pos q4]
              clear hbad hE hE1 q1 q3 q4 h8
              go_enter Try.func12, Try.ntmps12
              go_wp2_with fail
              refine HK.out.mono ?_
              rintro e w1 ⟨rfl, hb⟩
              replace HX := hide (HX.out.keep hb)
              replace HY := hide (HY.out.keep hb)
              replace HB := hide (bthen HB.out hb)
              clear hb
              obtain ⟨x, -, zx⟩ := HX.out
              obtain ⟨y, v, zy⟩ := HY.out
              have x0 := x 0 _ rfl
              have x1 := x 1 _ rfl
              have x2 := x 2 _ rfl
              have y0 := y 0 _ rfl
              have y1 := y 1 _ rfl
              have y2 := y 2 _ rfl
              have v0 := v 0
              have v1 := v 1
              have v2 := v 2
              clear x y v zx
              replace k1 := keep1 HB.out k1
              replace k3 := keep1 HB.out k3
              go_wp2
              refine bodyPost_ret (v := .tuple #[.agg #[.int .i64 0, .slice none 0 0, .int .i64 0], .int .i64 0, .int .i64 27]) (by rw [results_ctt rfl]; go_simp) rfl ?_
              exact RetC2.zero HC.out HN.out rfl (((HB.out.setCell (p := ⟨w.heap.size + 1, 0, none⟩) (Nat.le_succ _) _).setCell (p := ⟨w.heap.size + 1, 1, none⟩) (Nat.le_succ _) _).setCell (p := ⟨w.heap.size + 1, 2, none⟩) (Nat.le_succ _) _)
            · have t5 : ((m : Int) == 256) = false := by rw [beq_eq_false_iff_ne]; omega
              have p3 : nx = 1099511627776 := by
                by_cases e : nx = 1099511627776
                · exact e
                · rw [hE, if_neg q4, if_neg e] at hbad; exact absurd rfl hbad
              rw [hE, if_neg q4, if_pos p3]
              have t6 : (nx == 1099511627776) = true := by rw [beq_iff_eq]; exact p3
              clear hbad hE hE1 q1 q3 q4 p3 h8
              go_enter Try.func12, Try.ntmps12
              go_wp2_with fail
              refine HK.out.mono ?_
              rintro e w1 ⟨rfl, hb⟩
              replace HX := hide (HX.out.keep hb)
              replace HY := hide (HY.out.keep hb)
              replace HB := hide (bthen HB.out hb)
              clear hb
              obtain ⟨x, -, zx⟩ := HX.out
              obtain ⟨y, v, zy⟩ := HY.out
              have x0 := x 0 _ rfl
              have x1 := x 1 _ rfl
              have x2 := x 2 _ rfl
              have y0 := y 0 _ rfl
              have y1 := y 1 _ rfl
              have y2 := y 2 _ rfl
              have v0 := v 0
              have v1 := v 1
              have v2 := v 2
              clear x y v zx
              replace k1 := keep1 HB.out k1
              replace k3 := keep1 HB.out k3
              go_wp2
              refine bodyPost_ret (v := .tuple #[.agg #[.int .i64 0, .slice none 0 0, .int .i64 0], .int .i64 0, .int .i64 17]) (by rw [results_ctt rfl]; go_simp) rfl ?_
              exact RetC2.zero HC.out HN.out rfl (((HB.out.setCell (p := ⟨w.heap.size + 1, 0, none⟩) (Nat.le_succ _) _).setCell (p := ⟨w.heap.size + 1, 1, none⟩) (Nat.le_succ _) _).setCell (p := ⟨w.heap.size + 1, 2, none⟩) (Nat.le_succ _) _)
          · have e3 : ((r3 : Int) != n) = true := by rw [bne_iff_ne]; exact q3
            rw [hE1, if_pos ⟨h0, .inr q3⟩]
            clear hbad hE1 q1 q3 h8
            go_enter Try.func12, Try.ntmps12
            go_wp2_with fail
            refine HK.out.mono ?_
            rintro e w1 ⟨rfl, hb⟩
            replace HX := hide (HX.out.keep hb)
            replace HY := hide (HY.out.keep hb)
            replace HB := hide (bthen HB.out hb)
            clear hb
            obtain ⟨x, -, zx⟩ := HX.out
            obtain ⟨y, v, zy⟩ := HY.out
            have x0 := x 0 _ rfl
            have x1 := x 1 _ rfl
            have x2 := x 2 _ rfl
            have y0 := y 0 _ rfl
            have y1 := y 1 _ rfl
            have y2 := y 2 _ rfl
            have v0 := v 0
            have v1 := v 1
            have v2 := v 2
            clear x y v zx
            replace k1 := keep1 HB.out k1
            replace k3 := keep1 HB.out k3
            go_wp2
            refine bodyPost_ret (v := .tuple #[.agg #[.int .i64 0, .slice none 0 0, .int .i64 0], .int .i64 0, .int .i64 15]) (by rw [results_ctt rfl]; go_simp) rfl ?_
            exact RetC2.zero HC.out HN.out rfl (((HB.out.setCell (p := ⟨w.heap.size + 1, 0, none⟩) (Nat.le_succ _) _).setCell (p := ⟨w.heap.size + 1, 1, none⟩) (Nat.le_succ _) _).setCell (p := ⟨w.heap.size + 1, 2, none⟩) (Nat.le_succ _) _)
        · have e1 : ((r1 : Int) != (nr : Int)) = true := by rw [bne_iff_ne]; omega
          rw [hE1, if_pos ⟨h0, .inl q1⟩]
          clear hbad hE1 q1 h8
          go_enter Try.func12, Try.ntmps12
          go_wp2_with fail
          refine HK.out.mono ?_
          rintro e w1 ⟨rfl, hb⟩
          replace HX := hide (HX.out.keep hb)
          replace HY := hide (HY.out.keep hb)
          replace HB := hide (bthen HB.out hb)
          clear hb
          obtain ⟨x, -, zx⟩ := HX.out
          obtain ⟨y, v, zy⟩ := HY.out
          have x0 := x 0 _ rfl
          have x1 := x 1 _ rfl
          have x2 := x 2 _ rfl
          have y0 := y 0 _ rfl
          have y1 := y 1 _ rfl
          have y2 := y 2 _ rfl
          have v0 := v 0
          have v1 := v 1
          have v2 := v 2
          clear x y v zx
          replace k1 := keep1 HB.out k1
          replace k3 := keep1 HB.out k3
          go_wp2
          refine bodyPost_ret (v := .tuple #[.agg #[.int .i64 0, .slice none 0 0, .int .i64 0], .int .i64 0, .int .i64 15]) (by rw [results_ctt rfl]; go_simp) rfl ?_
          exact RetC2.zero HC.out HN.out rfl (((HB.out.setCell (p := ⟨w.heap.size + 1, 0, none⟩) (Nat.le_succ _) _).setCell (p := ⟨w.heap.size + 1, 1, none⟩) (Nat.le_succ _) _).setCell (p := ⟨w.heap.size + 1, 2, none⟩) (Nat.le_succ _) _)
  · have hE : trigE c rds.length n = chkQ c := by unfold trigE; rw [if_pos hc]
    rw [hE] at hbad ⊢
    obtain ⟨E, hEE⟩ : ∃ E, chkQ c = E := ⟨_, rfl⟩
    rw [hEE] at HK hbad ⊢
    have te : (E != 0) = true := by rw [bne_iff_ne]; exact hbad
    clear hbad hEE hE hc h hl hr hq1 hq2
    go_enter Try.func12, Try.ntmps12
    go_wp2_with fail
    refine HK.out.mono ?_
    rintro e w1 ⟨rfl, hb⟩
    replace HX := hide (HX.out.keep hb)
    replace HY := hide (HY.out.keep hb)
    replace HB := hide (bthen HB.out hb)
    clear hb
    obtain ⟨x, -, zx⟩ := HX.out
    obtain ⟨y, v, zy⟩ := HY.out
    have x0 := x 0 _ rfl
    have x1 := x 1 _ rfl
    have x2 := x 2 _ rfl
    have y0 := y 0 _ rfl
    have y1 := y 1 _ rfl
    have y2 := y 2 _ rfl
    have v0 := v 0
    have v1 := v 1
    have v2 := v 2
    clear x y v zx
    go_wp2
    refine bodyPost_ret (v := .tuple #[.agg #[.int .i64 0, .slice none 0 0, .int .i64 0], .int .i64 0, .int .i64 E]) (by rw [results_ctt rfl]; go_simp) rfl ?_
    exact RetC2.zero HC.out HN.out rfl (((HB.out.setCell (p := ⟨w.heap.size + 1, 0, none⟩) (Nat.le_succ _) _).setCell (p := ⟨w.heap.size + 1, 1, none⟩) (Nat.le_succ _) _).setCell (p := ⟨w.heap.size + 1, 2, none⟩) (Nat.le_succ _) _)
end
end Go.Proofs.Ytihbonndinnohaa
