/- The reference's Cancel and Resume; Resume of the program; complete. -/
import Derived.Test.YtihbonndinnohaaQSmall
namespace Go.Proofs.Ytihbonndinnohaa
open Go.RowKit
set_option linter.unusedVariables false
set_option linter.unusedSimpArgs false
section
variable (w : World) (c : Cq)
set_option maxRecDepth 100000 in
set_option maxHeartbeats 4000000 in
theorem rcancel_any (v : Value) (h : CoV w v c) : Calls Try.prog 26 #[v] w (RetC1 w (canC c) (chkQ c)) := by
  obtain ⟨u, rfl, hl, hq1, hq2⟩ := id h
  obtain ⟨A, cap, rfl⟩ := hl.form
  have HK := hide (rchk_any _ c _ (CoV.laid (CoV.laid h (.cells #[.int .i64 c.next, .slice A c.atts.length cap, .int .i64 c.dur] 24)) (.cells #[.int .i64 0, .slice none 0 0, .int .i64 0] 24)))
  by_cases hc : chkQ c = 0
  · obtain ⟨b1, b2, b3, b4, -⟩ := chk0 hc
    have HC : Hid (canC c = ⟨c.dur + 1, [], c.dur⟩) := hide (by unfold canC; rw [if_pos hc])
    have b5 : c.dur < 1099511627776 := by omega
    rw [hc] at HK ⊢
    clear hc h hl
    go_enter Try.func26, Try.ntmps26
    go_wp2_with fail
    refine HK.out.mono ?_
    rintro e w1 ⟨rfl, hb⟩
    obtain ⟨hb1, hz1, hx1⟩ := step_box [.int .i64 0, .slice none 0 0, .int .i64 0] hb
    have u0 := hx1 0 _ rfl
    have u1 := hx1 1 _ rfl
    have u2 := hx1 2 _ rfl
    have v0 := step_frozen [.int .i64 0, .slice none 0 0, .int .i64 0] hb 0
    have v1 := step_frozen [.int .i64 0, .slice none 0 0, .int .i64 0] hb 1
    have v2 := step_frozen [.int .i64 0, .slice none 0 0, .int .i64 0] hb 2
    obtain ⟨hb2, hz2, hx2⟩ := step_box [.int .i64 c.next, .slice A c.atts.length cap, .int .i64 c.dur] hb1
    have y0 := hx2 0 _ rfl
    have y1 := hx2 1 _ rfl
    have y2 := hx2 2 _ rfl
    have HB1 := hide hb2
    simp only [World.size_alloc] at u0 u1 u2 v0 v1 v2 hz1
    clear hx1 hx2 hb hb1 hb2
    go_wp2
    refine bodyPost_ret (v := .tuple #[.agg #[.int .i64 (c.dur + 1), .slice none 0 0, .int .i64 c.dur], .int .i64 0]) (by rw [results_ct rfl]; go_simp) rfl ?_
    exact RetC1.bare HC.out (by unfold inQ; omega) (by unfold inQ; omega) rfl (((HB1.out.setCell (p := ⟨w.heap.size + 1, 0, none⟩) (Nat.le_succ _) _).setCell (p := ⟨w.heap.size + 1, 1, none⟩) (Nat.le_succ _) _).setCell (p := ⟨w.heap.size + 1, 2, none⟩) (Nat.le_succ _) _)
  · have HC : Hid (canC c = Cq.z) := hide (by unfold canC; rw [if_neg hc])
    have te : (chkQ c != 0) = true := by rw [bne_iff_ne]; exact hc
    obtain ⟨E, hE⟩ : ∃ E, chkQ c = E := ⟨_, rfl⟩
    rw [hE] at HK te ⊢
    clear hc hE h hl
    go_enter Try.func26, Try.ntmps26
    go_wp2_with fail
    refine HK.out.mono ?_
    rintro e w1 ⟨rfl, hb⟩
    obtain ⟨hb1, hz1, hx1⟩ := step_box [.int .i64 0, .slice none 0 0, .int .i64 0] hb
    have u0 := hx1 0 _ rfl
    have u1 := hx1 1 _ rfl
    have u2 := hx1 2 _ rfl
    have v0 := step_frozen [.int .i64 0, .slice none 0 0, .int .i64 0] hb 0
    have v1 := step_frozen [.int .i64 0, .slice none 0 0, .int .i64 0] hb 1
    have v2 := step_frozen [.int .i64 0, .slice none 0 0, .int .i64 0] hb 2
    obtain ⟨hb2, hz2, hx2⟩ := step_box [.int .i64 c.next, .slice A c.atts.length cap, .int .i64 c.dur] hb1
    have y0 := hx2 0 _ rfl
    have y1 := hx2 1 _ rfl
    have y2 := hx2 2 _ rfl
    have HB1 := hide hb2
    simp only [World.size_alloc] at u0 u1 u2 v0 v1 v2 hz1
    clear hx1 hx2 hb hb1 hb2
    go_wp2
    refine bodyPost_ret (v := .tuple #[.agg #[.int .i64 0, .slice none 0 0, .int .i64 0], .int .i64 E]) (by rw [results_ct rfl]; go_simp) rfl ?_
    exact RetC1.zero HC.out rfl (((HB1.out.setCell (p := ⟨w.heap.size + 1, 0, none⟩) (Nat.le_succ _) _).setCell (p := ⟨w.heap.size + 1, 1, none⟩) (Nat.le_succ _) _).setCell (p := ⟨w.heap.size + 1, 2, none⟩) (Nat.le_succ _) _)
set_option maxRecDepth 100000 in
set_option maxHeartbeats 4000000 in
theorem resume_any (v : Value) (num : Int) (h : CoV w v c) : Calls Try.prog 27 #[v, .int .i64 num] w (RetC1 w (resC c num) (resE c num)) := by
  obtain ⟨u, rfl, hl, hq1, hq2⟩ := id h
  obtain ⟨A, cap, rfl⟩ := hl.form
  have HK := hide (chk_any _ _ c (CoV.laid (CoV.laid h (.cells #[.int .i64 c.next, .slice A c.atts.length cap, .int .i64 c.dur] 24)) (.cells #[.int .i64 0, .slice none 0 0, .int .i64 0] 24)))
  by_cases hc : chkQ c = 0
  · have hE0 : resE c num = if num < 0 ∨ 1099511627776 ≤ num then 2 else 0 := by unfold resE; rw [if_neg (by simp [hc])]
    by_cases hr : num < 0 ∨ 1099511627776 ≤ num
    · have HE : Hid (resE c num = 2) := hide (by rw [hE0, if_pos hr])
      have HC : Hid (resC c num = Cq.z) := hide (by unfold resC; rw [HE.out]; rfl)
      rw [HE.out]
      rw [hc] at HK
      have HBT := hide (btw_any num 0 1099511627775)
      rw [show btw num 0 1099511627775 = false by simp [btw]; omega] at HBT
      clear hc h hl hE0 hr
      go_enter Try.func27, Try.ntmps27
      go_wp2_with fail
      refine HK.out.mono ?_
      rintro e w1 ⟨rfl, hb⟩
      obtain ⟨hb1, hz1, hx1⟩ := step_box [.int .i64 0, .slice none 0 0, .int .i64 0] hb
      have u0 := hx1 0 _ rfl
      have u1 := hx1 1 _ rfl
      have u2 := hx1 2 _ rfl
      have v0 := step_frozen [.int .i64 0, .slice none 0 0, .int .i64 0] hb 0
      have v1 := step_frozen [.int .i64 0, .slice none 0 0, .int .i64 0] hb 1
      have v2 := step_frozen [.int .i64 0, .slice none 0 0, .int .i64 0] hb 2
      obtain ⟨hb2, hz2, hx2⟩ := step_box [.int .i64 c.next, .slice A c.atts.length cap, .int .i64 c.dur] hb1
      have y0 := hx2 0 _ rfl
      have y1 := hx2 1 _ rfl
      have y2 := hx2 2 _ rfl
      have HB1 := hide hb2
      simp only [World.size_alloc] at u0 u1 u2 v0 v1 v2 hz1
      clear hx1 hx2 hb hb1 hb2
      go_wp2_with fail
      refine (HBT.out _).mono ?_
      rintro e w2 ⟨rfl, rfl⟩
      go_wp2
      refine bodyPost_ret (v := .tuple #[.agg #[.int .i64 0, .slice none 0 0, .int .i64 0], .int .i64 2]) (by rw [results_ct rfl]; go_simp) rfl ?_
      exact RetC1.zero HC.out rfl (((HB1.out.setCell (p := ⟨w.heap.size + 1, 0, none⟩) (Nat.le_succ _) _).setCell (p := ⟨w.heap.size + 1, 1, none⟩) (Nat.le_succ _) _).setCell (p := ⟨w.heap.size + 1, 2, none⟩) (Nat.le_succ _) _)
    · have HE : Hid (resE c num = 0) := hide (by rw [hE0, if_neg hr])
      have HC : Hid (resC c num = ⟨num + 1, [], num⟩) := hide (by unfold resC; rw [if_pos HE.out])
      have g0 : 0 ≤ num := by omega
      have g1 : num < 1099511627776 := by omega
      rw [HE.out]
      rw [hc] at HK
      have HBT := hide (btw_any num 0 1099511627775)
      rw [show btw num 0 1099511627775 = true by simp [btw]; omega] at HBT
      have HR := hide (fun w' => resumed_any w' num g0 (by omega))
      clear hc h hl hE0 hr
      go_enter Try.func27, Try.ntmps27
      go_wp2_with fail
      refine HK.out.mono ?_
      rintro e w1 ⟨rfl, hb⟩
      obtain ⟨hb1, hz1, hx1⟩ := step_box [.int .i64 0, .slice none 0 0, .int .i64 0] hb
      have u0 := hx1 0 _ rfl
      have u1 := hx1 1 _ rfl
      have u2 := hx1 2 _ rfl
      have v0 := step_frozen [.int .i64 0, .slice none 0 0, .int .i64 0] hb 0
      have v1 := step_frozen [.int .i64 0, .slice none 0 0, .int .i64 0] hb 1
      have v2 := step_frozen [.int .i64 0, .slice none 0 0, .int .i64 0] hb 2
      obtain ⟨hb2, hz2, hx2⟩ := step_box [.int .i64 c.next, .slice A c.atts.length cap, .int .i64 c.dur] hb1
      have y0 := hx2 0 _ rfl
      have y1 := hx2 1 _ rfl
      have y2 := hx2 2 _ rfl
      have HB1 := hide hb2
      simp only [World.size_alloc] at u0 u1 u2 v0 v1 v2 hz1
      clear hx1 hx2 hb hb1 hb2
      go_wp2_with fail
      refine (HBT.out _).mono ?_
      rintro e w2 ⟨rfl, rfl⟩
      go_wp2_with fail
      refine (HR.out _).mono ?_
      rintro e w2 ⟨rfl, hb3⟩
      have x0 := keep1 hb3 u0
      have x1 := keep1 hb3 u1
      have x2 := keep1 hb3 u2
      have z0 := ((bcell hb3).2 _ 0 (by omega)).trans v0
      have z1 := ((bcell hb3).2 _ 1 (by omega)).trans v1
      have z2 := ((bcell hb3).2 _ 2 (by omega)).trans v2
      have HB3 := hide (bthen HB1.out hb3)
      clear hb3 u0 u1 u2 v0 v1 v2 y0 y1 y2
      go_wp2
      refine bodyPost_ret (v := .tuple #[.agg #[.int .i64 (num + 1), .slice none 0 0, .int .i64 num], .int .i64 0]) (by rw [results_ct rfl]; go_simp) rfl ?_
      exact RetC1.bare HC.out (by unfold inQ; omega) (by unfold inQ; omega) rfl (((HB3.out.setCell (p := ⟨w.heap.size + 1, 0, none⟩) (Nat.le_succ _) _).setCell (p := ⟨w.heap.size + 1, 1, none⟩) (Nat.le_succ _) _).setCell (p := ⟨w.heap.size + 1, 2, none⟩) (Nat.le_succ _) _)
  · have hE0 : resE c num = chkQ c := by unfold resE; rw [if_pos hc]
    have HC : Hid (resC c num = Cq.z) := hide (by unfold resC; rw [if_neg (by rw [hE0]; exact hc)])
    rw [hE0]
    have te : (chkQ c != 0) = true := by rw [bne_iff_ne]; exact hc
    obtain ⟨E, hE⟩ : ∃ E, chkQ c = E := ⟨_, rfl⟩
    rw [hE] at HK te ⊢
    clear hc hE h hl hE0
    go_enter Try.func27, Try.ntmps27
    go_wp2_with fail
    refine HK.out.mono ?_
    rintro e w1 ⟨rfl, hb⟩
    obtain ⟨hb1, hz1, hx1⟩ := step_box [.int .i64 0, .slice none 0 0, .int .i64 0] hb
    have u0 := hx1 0 _ rfl
    have u1 := hx1 1 _ rfl
    have u2 := hx1 2 _ rfl
    have v0 := step_frozen [.int .i64 0, .slice none 0 0, .int .i64 0] hb 0
    have v1 := step_frozen [.int .i64 0, .slice none 0 0, .int .i64 0] hb 1
    have v2 := step_frozen [.int .i64 0, .slice none 0 0, .int .i64 0] hb 2
    obtain ⟨hb2, hz2, hx2⟩ := step_box [.int .i64 c.next, .slice A c.atts.length cap, .int .i64 c.dur] hb1
    have y0 := hx2 0 _ rfl
    have y1 := hx2 1 _ rfl
    have y2 := hx2 2 _ rfl
    have HB1 := hide hb2
    simp only [World.size_alloc] at u0 u1 u2 v0 v1 v2 hz1
    clear hx1 hx2 hb hb1 hb2
    go_wp2
    refine bodyPost_ret (v := .tuple #[.agg #[.int .i64 0, .slice none 0 0, .int .i64 0], .int .i64 E]) (by rw [results_ct rfl]; go_simp) rfl ?_
    exact RetC1.zero HC.out rfl (((HB1.out.setCell (p := ⟨w.heap.size + 1, 0, none⟩) (Nat.le_succ _) _).setCell (p := ⟨w.heap.size + 1, 1, none⟩) (Nat.le_succ _) _).setCell (p := ⟨w.heap.size + 1, 2, none⟩) (Nat.le_succ _) _)
set_option maxRecDepth 100000 in
set_option maxHeartbeats 4000000 in
theorem rresume_any (v : Value) (num : Int) (h : CoV w v c) : Calls Try.prog 28 #[v, .int .i64 num] w (RetC1 w (resC c num) (resE c num)) := by
  obtain ⟨u, rfl, hl, hq1, hq2⟩ := id h
  obtain ⟨A, cap, rfl⟩ := hl.form
  have HK := hide (rchk_any _ c _ (CoV.laid (CoV.laid h (.cells #[.int .i64 c.next, .slice A c.atts.length cap, .int .i64 c.dur] 24)) (.cells #[.int .i64 0, .slice none 0 0, .int .i64 0] 24)))
  by_cases hc : chkQ c = 0
  · have hE0 : resE c num = if num < 0 ∨ 1099511627776 ≤ num then 2 else 0 := by unfold resE; rw [if_neg (by simp [hc])]
    by_cases hr : num < 0 ∨ 1099511627776 ≤ num
    · have HE : Hid (resE c num = 2) := hide (by rw [hE0, if_pos hr])
      have HC : Hid (resC c num = Cq.z) := hide (by unfold resC; rw [HE.out]; rfl)
      rw [HE.out]
      rw [hc] at HK
      clear hc h hl hE0
      have hr2 : num < 0 ∨ (¬ num < 0 ∧ 1099511627776 ≤ num) := by omega
      rcases hr2 with h1 | ⟨h1, h2⟩
      · have t1 : decide (num < 0) = true := decide_eq_true h1
        clear h1 hr
        go_enter Try.func28, Try.ntmps28
        go_wp2_with fail
        refine HK.out.mono ?_
        rintro e w1 ⟨rfl, hb⟩
        obtain ⟨hb1, hz1, hx1⟩ := step_box [.int .i64 0, .slice none 0 0, .int .i64 0] hb
        have u0 := hx1 0 _ rfl
        have u1 := hx1 1 _ rfl
        have u2 := hx1 2 _ rfl
        have v0 := step_frozen [.int .i64 0, .slice none 0 0, .int .i64 0] hb 0
        have v1 := step_frozen [.int .i64 0, .slice none 0 0, .int .i64 0] hb 1
        have v2 := step_frozen [.int .i64 0, .slice none 0 0, .int .i64 0] hb 2
        obtain ⟨hb2, hz2, hx2⟩ := step_box [.int .i64 c.next, .slice A c.atts.length cap, .int .i64 c.dur] hb1
        have y0 := hx2 0 _ rfl
        have y1 := hx2 1 _ rfl
        have y2 := hx2 2 _ rfl
        have HB1 := hide hb2
        simp only [World.size_alloc] at u0 u1 u2 v0 v1 v2 hz1
        clear hx1 hx2 hb hb1 hb2
        go_wp2
        refine bodyPost_ret (v := .tuple #[.agg #[.int .i64 0, .slice none 0 0, .int .i64 0], .int .i64 2]) (by rw [results_ct rfl]; go_simp) rfl ?_
        exact RetC1.zero HC.out rfl (((HB1.out.setCell (p := ⟨w.heap.size + 1, 0, none⟩) (Nat.le_succ _) _).setCell (p := ⟨w.heap.size + 1, 1, none⟩) (Nat.le_succ _) _).setCell (p := ⟨w.heap.size + 1, 2, none⟩) (Nat.le_succ _) _)
      · have t1 : decide (num < 0) = false := decide_eq_false h1
        have t2 : decide (1099511627776 ≤ num) = true := decide_eq_true h2
        clear h1 h2 hr
        go_enter Try.func28, Try.ntmps28
        go_wp2_with fail
        refine HK.out.mono ?_
        rintro e w1 ⟨rfl, hb⟩
        obtain ⟨hb1, hz1, hx1⟩ := step_box [.int .i64 0, .slice none 0 0, .int .i64 0] hb
        have u0 := hx1 0 _ rfl
        have u1 := hx1 1 _ rfl
        have u2 := hx1 2 _ rfl
        have v0 := step_frozen [.int .i64 0, .slice none 0 0, .int .i64 0] hb 0
        have v1 := step_frozen [.int .i64 0, .slice none 0 0, .int .i64 0] hb 1
        have v2 := step_frozen [.int .i64 0, .slice none 0 0, .int .i64 0] hb 2
        obtain ⟨hb2, hz2, hx2⟩ := step_box [.int .i64 c.next, .slice A c.atts.length cap, .int .i64 c.dur] hb1
        have y0 := hx2 0 _ rfl
        have y1 := hx2 1 _ rfl
        have y2 := hx2 2 _ rfl
        have HB1 := hide hb2
        simp only [World.size_alloc] at u0 u1 u2 v0 v1 v2 hz1
        clear hx1 hx2 hb hb1 hb2
        go_wp2
        refine bodyPost_ret (v := .tuple #[.agg #[.int .i64 0, .slice none 0 0, .int .i64 0], .int .i64 2]) (by rw [results_ct rfl]; go_simp) rfl ?_
        exact RetC1.zero HC.out rfl (((HB1.out.setCell (p := ⟨w.heap.size + 1, 0, none⟩) (Nat.le_succ _) _).setCell (p := ⟨w.heap.size + 1, 1, none⟩) (Nat.le_succ _) _).setCell (p := ⟨w.heap.size + 1, 2, none⟩) (Nat.le_succ _) _)
    · have HE : Hid (resE c num = 0) := hide (by rw [hE0, if_neg hr])
      have HC : Hid (resC c num = ⟨num + 1, [], num⟩) := hide (by unfold resC; rw [if_pos HE.out])
      have g0 : 0 ≤ num := by omega
      have g1 : num < 1099511627776 := by omega
      rw [HE.out]
      rw [hc] at HK
      have t1 : decide (num < 0) = false := decide_eq_false (by omega)
      have t2 : decide (1099511627776 ≤ num) = false := decide_eq_false (by omega)
      clear hc h hl hE0 hr
      go_enter Try.func28, Try.ntmps28
      go_wp2_with fail
      refine HK.out.mono ?_
      rintro e w1 ⟨rfl, hb⟩
      obtain ⟨hb1, hz1, hx1⟩ := step_box [.int .i64 0, .slice none 0 0, .int .i64 0] hb
      have u0 := hx1 0 _ rfl
      have u1 := hx1 1 _ rfl
      have u2 := hx1 2 _ rfl
      have v0 := step_frozen [.int .i64 0, .slice none 0 0, .int .i64 0] hb 0
      have v1 := step_frozen [.int .i64 0, .slice none 0 0, .int .i64 0] hb 1
      have v2 := step_frozen [.int .i64 0, .slice none 0 0, .int .i64 0] hb 2
      obtain ⟨hb2, hz2, hx2⟩ := step_box [.int .i64 c.next, .slice A c.atts.length cap, .int .i64 c.dur] hb1
      have y0 := hx2 0 _ rfl
      have y1 := hx2 1 _ rfl
      have y2 := hx2 2 _ rfl
      have HB1 := hide hb2
      simp only [World.size_alloc] at u0 u1 u2 v0 v1 v2 hz1
      clear hx1 hx2 hb hb1 hb2
      go_wp2
      refine bodyPost_ret (v := .tuple #[.agg #[.int .i64 (num + 1), .slice none 0 0, .int .i64 num], .int .i64 0]) (by rw [results_ct rfl]; go_simp) rfl ?_
      exact RetC1.bare HC.out (by unfold inQ; omega) (by unfold inQ; omega) rfl (((HB1.out.setCell (p := ⟨w.heap.size + 1, 0, none⟩) (Nat.le_succ _) _).setCell (p := ⟨w.heap.size + 1, 1, none⟩) (Nat.le_succ _) _).setCell (p := ⟨w.heap.size + 1, 2, none⟩) (Nat.le_succ _) _)
  · have hE0 : resE c num = chkQ c := by unfold resE; rw [if_pos hc]
    have HC : Hid (resC c num = Cq.z) := hide (by unfold resC; rw [if_neg (by rw [hE0]; exact hc)])
    rw [hE0]
    have te : (chkQ c != 0) = true := by rw [bne_iff_ne]; exact hc
    obtain ⟨E, hE⟩ : ∃ E, chkQ c = E := ⟨_, rfl⟩
    rw [hE] at HK te ⊢
    clear hc hE h hl hE0
    go_enter Try.func28, Try.ntmps28
    go_wp2_with fail
    refine HK.out.mono ?_
    rintro e w1 ⟨rfl, hb⟩
    obtain ⟨hb1, hz1, hx1⟩ := step_box [.int .i64 0, .slice none 0 0, .int .i64 0] hb
    have u0 := hx1 0 _ rfl
    have u1 := hx1 1 _ rfl
    have u2 := hx1 2 _ rfl
    have v0 := step_frozen [.int .i64 0, .slice none 0 0, .int .i64 0] hb 0
    have v1 := step_frozen [.int .i64 0, .slice none 0 0, .int .i64 0] hb 1
    have v2 := step_frozen [.int .i64 0, .slice none 0 0, .int .i64 0] hb 2
    obtain ⟨hb2, hz2, hx2⟩ := step_box [.int .i64 c.next, .slice A c.atts.length cap, .int .i64 c.dur] hb1
    have y0 := hx2 0 _ rfl
    have y1 := hx2 1 _ rfl
    have y2 := hx2 2 _ rfl
    have HB1 := hide hb2
    simp only [World.size_alloc] at u0 u1 u2 v0 v1 v2 hz1
    clear hx1 hx2 hb hb1 hb2
    go_wp2
    refine bodyPost_ret (v := .tuple #[.agg #[.int .i64 0, .slice none 0 0, .int .i64 0], .int .i64 E]) (by rw [results_ct rfl]; go_simp) rfl ?_
    exact RetC1.zero HC.out rfl (((HB1.out.setCell (p := ⟨w.heap.size + 1, 0, none⟩) (Nat.le_succ _) _).setCell (p := ⟨w.heap.size + 1, 1, none⟩) (Nat.le_succ _) _).setCell (p := ⟨w.heap.size + 1, 2, none⟩) (Nat.le_succ _) _)
end
end Go.Proofs.Ytihbonndinnohaa
