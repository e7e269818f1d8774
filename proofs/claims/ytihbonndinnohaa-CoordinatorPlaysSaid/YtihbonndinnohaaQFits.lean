/- coordinator.fits. -/
import Derived.Test.YtihbonndinnohaaQGrow
namespace Go.Proofs.Ytihbonndinnohaa
open Go.RowKit
set_option linter.unusedVariables false
set_option linter.unusedSimpArgs false
section
variable (w : World) (c : Cq)
theorem fits_bad1 (v : Value) (nr : Nat) (n : Int) (h : CoV w v c) (p1 : ¬ (1 ≤ nr ∧ nr ≤ 8)) : Calls Try.prog 32 #[v, .int .i64 nr, .int .i64 n] w (Ret (.int .i64 (fitQ c nr n)) w) := by
  obtain ⟨u, rfl, hl, hq1, hq2⟩ := id h
  obtain ⟨A, cap, rfl⟩ := hl.form
  have HE : Hid (fitQ c nr n = 5) := hide (by unfold fitQ; rw [if_pos (by omega)])
  have b1 : btw (nr : Int) 1 8 = false := by simp [btw]; omega
  have p2 : True := trivial
  have hE := p2
  have hE0 := p2
  obtain ⟨m, hm⟩ : ∃ m, c.atts.length = m := ⟨_, rfl⟩
  rw [hm]
  clear hm
  clear hl h p1 p2 hE hE0
  go_enter Try.func32, Try.ntmps32
  go_wp2_with (go_at_call 36; refine (btw_any _ _ _ _).mono ?_; rintro e w' ⟨rfl, rfl⟩)
  go_ret
  exact Ret.int HE.out.symm (below_laid _)
theorem fits_bad2 (v : Value) (nr : Nat) (n : Int) (h : CoV w v c) (p1 : 1 ≤ nr ∧ nr ≤ 8) (p2 : ¬ (1 ≤ n ∧ n ≤ 8)) : Calls Try.prog 32 #[v, .int .i64 nr, .int .i64 n] w (Ret (.int .i64 (fitQ c nr n)) w) := by
  obtain ⟨u, rfl, hl, hq1, hq2⟩ := id h
  obtain ⟨A, cap, rfl⟩ := hl.form
  have HE : Hid (fitQ c nr n = 5) := hide (by unfold fitQ; rw [if_pos (by omega)])
  have b1 : btw (nr : Int) 1 8 = true := btw_t (by omega) (by omega)
  have b2 : btw n 1 8 = false := by simp [btw]; omega
  have hE : True := trivial
  have hE0 := hE
  obtain ⟨m, hm⟩ : ∃ m, c.atts.length = m := ⟨_, rfl⟩
  rw [hm]
  clear hm
  clear hl h p1 p2 hE hE0
  go_enter Try.func32, Try.ntmps32
  go_wp2_with (go_at_call 36; refine (btw_any _ _ _ _).mono ?_; rintro e w' ⟨rfl, rfl⟩)
  go_ret
  exact Ret.int HE.out.symm (below_laid _)
set_option maxRecDepth 100000 in
set_option maxHeartbeats 4000000 in
/-- Behind the first test. -/
theorem fits_good (v : Value) (nr : Nat) (n : Int) (h : CoV w v c) (p1 : 1 ≤ nr ∧ nr ≤ 8) (p2 : 1 ≤ n ∧ n ≤ 8) : Calls Try.prog 32 #[v, .int .i64 nr, .int .i64 n] w (Ret (.int .i64 (fitQ c nr n)) w) := by
  obtain ⟨u, rfl, hl, hq1, hq2⟩ := id h
  obtain ⟨A, cap, rfl⟩ := hl.form
  have b1 : btw (nr : Int) 1 8 = true := btw_t (by omega) (by omega)
  have b2 : btw n 1 8 = true := btw_t p2.1 p2.2
  have hE0 : fitQ c nr n = if 0 < c.atts.length ∧ ((attQ c 0).rds.length ≠ nr ∨ ((attQ c 0).hv.length : Int) ≠ n) then 15 else if c.atts.length = 256 then 27 else if c.next = 1099511627776 then 17 else 0 := by unfold fitQ; rw [if_neg (by omega)]
  have hmx := hl.len
  unfold maxLen at hmx
  by_cases h0 : c.atts.length = 0
  · have hE : fitQ c nr n = if c.next = 1099511627776 then 17 else 0 := by rw [hE0, if_neg (by omega), if_neg (by omega)]
    rw [h0] at hl ⊢
    clear h0 hmx
    obtain ⟨nx, hnx⟩ : ∃ x, c.next = x := ⟨_, rfl⟩
    rw [hnx] at hE ⊢
    obtain ⟨du, hdu⟩ : ∃ x, c.dur = x := ⟨_, rfl⟩
    rw [hdu]
    clear hnx hdu hq1 hq2
    by_cases p3 : nx = 1099511627776
    · have HE : Hid (fitQ c nr n = 17) := hide (by rw [hE, if_pos p3])
      have t1 : (nx == 1099511627776) = true := by rw [beq_iff_eq]; exact p3
      clear p3
      clear hl h p1 p2 hE hE0
      go_enter Try.func32, Try.ntmps32
      go_wp2_with (go_at_call 36; refine (btw_any _ _ _ _).mono ?_; rintro e w' ⟨rfl, rfl⟩)
      go_ret
      exact Ret.int HE.out.symm (below_laid _)
    · have HE : Hid (fitQ c nr n = 0) := hide (by rw [hE, if_neg p3])
      have t1 : (nx == 1099511627776) = false := by rw [beq_eq_false_iff_ne]; exact p3
      clear p3
      clear hl h p1 p2 hE hE0
      go_enter Try.func32, Try.ntmps32
      go_wp2_with (go_at_call 36; refine (btw_any _ _ _ _).mono ?_; rintro e w' ⟨rfl, rfl⟩)
      go_ret
      exact Ret.int HE.out.symm (below_laid _)
  · have h0' : 0 < c.atts.length := by omega
    obtain ⟨g, off, xs, eA, -⟩ := Lst.at_ hl (j := 0) h0'
    subst eA
    obtain ⟨hg, A1, A2, A3, c1, c2, c3, ha⟩ := att_at hl h0'
    rw [Nat.zero_mul, Nat.add_zero] at ha
    have k1 := ha.k1
    have k3 := ha.k3
    have z1 := ha.l1.len
    have z3 := ha.l3.len
    unfold maxLen at z1 z3
    obtain ⟨r1, hr1⟩ : ∃ x, (attQ c 0).rds.length = x := ⟨_, rfl⟩
    obtain ⟨r3, hr3⟩ : ∃ x, (attQ c 0).hv.length = x := ⟨_, rfl⟩
    obtain ⟨m, hm⟩ : ∃ m, c.atts.length = m := ⟨_, rfl⟩
    obtain ⟨nx, hnx⟩ : ∃ x, c.next = x := ⟨_, rfl⟩
    obtain ⟨du, hdu⟩ : ∃ x, c.dur = x := ⟨_, rfl⟩
    rw [hr1] at k1 hE0 z1
    rw [hr3] at k3 hE0 z3
    rw [hm] at hE0 h0' hmx ⊢
    rw [hnx] at hE0 ⊢
    rw [hdu]
    clear ha hr1 hr3 hm hnx hdu hq1 hq2 h0
    have m0 : (0 : Int) < (m : Int) := by omega
    have t0 : decide (0 < m) = true := decide_eq_true h0'
    have m1 : (m : Int) ≤ 9223372036854775807 := by omega
    by_cases q1 : r1 = nr
    · have e1 : ((r1 : Int) != (nr : Int)) = false := by rw [bne_eq_false_iff_eq]; omega
      by_cases q3 : (r3 : Int) = n
      · have e3 : ((r3 : Int) != n) = false := by rw [bne_eq_false_iff_eq]; exact q3
        have hE : fitQ c nr n = if m = 256 then 27 else if nx = 1099511627776 then 17 else 0 := by rw [hE0, if_neg (by omega)]
        clear q1 q3
        by_cases q4 : m = 256
        · have HE : Hid (fitQ c nr n = 27) := hide (by rw [hE, if_pos q4])
          have t4 : ((m : Int) == 256) = true := by rw [beq_iff_eq]; omega
          clear q4
          clear hl h p1 p2 hE hE0
          go_enter Try.func32, Try.ntmps32
          go_wp2_with (go_at_call 36; refine (btw_any _ _ _ _).mono ?_; rintro e w' ⟨rfl, rfl⟩)
          go_ret
          exact Ret.int HE.out.symm (below_laid _)
        · have t4 : ((m : Int) == 256) = false := by rw [beq_eq_false_iff_ne]; omega
          by_cases p3 : nx = 1099511627776
          · have HE : Hid (fitQ c nr n = 17) := hide (by rw [hE, if_neg q4, if_pos p3])
            have t1 : (nx == 1099511627776) = true := by rw [beq_iff_eq]; exact p3
            clear p3 q4
            clear hl h p1 p2 hE hE0
            go_enter Try.func32, Try.ntmps32
            go_wp2_with (go_at_call 36; refine (btw_any _ _ _ _).mono ?_; rintro e w' ⟨rfl, rfl⟩)
            go_ret
            exact Ret.int HE.out.symm (below_laid _)
          · have HE : Hid (fitQ c nr n = 0) := hide (by rw [hE, if_neg q4, if_neg p3])
            have t1 : (nx == 1099511627776) = false := by rw [beq_eq_false_iff_ne]; exact p3
            clear p3 q4
            clear hl h p1 p2 hE hE0
            go_enter Try.func32, Try.ntmps32
            go_wp2_with (go_at_call 36; refine (btw_any _ _ _ _).mono ?_; rintro e w' ⟨rfl, rfl⟩)
            go_ret
            exact Ret.int HE.out.symm (below_laid _)
      · have e3 : ((r3 : Int) != n) = true := by rw [bne_iff_ne]; exact q3
        have HE : Hid (fitQ c nr n = 15) := hide (by rw [hE0, if_pos ⟨h0', .inr q3⟩])
        have hE := h0'
        clear q1 q3
        clear hl h p1 p2 hE hE0
        go_enter Try.func32, Try.ntmps32
        go_wp2_with (go_at_call 36; refine (btw_any _ _ _ _).mono ?_; rintro e w' ⟨rfl, rfl⟩)
        go_ret
        exact Ret.int HE.out.symm (below_laid _)
    · have e1 : ((r1 : Int) != (nr : Int)) = true := by rw [bne_iff_ne]; omega
      have HE : Hid (fitQ c nr n = 15) := hide (by rw [hE0, if_pos ⟨h0', .inl q1⟩])
      have hE := h0'
      clear q1
      clear hl h p1 p2 hE hE0
      go_enter Try.func32, Try.ntmps32
      go_wp2_with (go_at_call 36; refine (btw_any _ _ _ _).mono ?_; rintro e w' ⟨rfl, rfl⟩)
      go_ret
      exact Ret.int HE.out.symm (below_laid _)
theorem fits_any (v : Value) (nr : Nat) (n : Int) (h : CoV w v c) : Calls Try.prog 32 #[v, .int .i64 nr, .int .i64 n] w (Ret (.int .i64 (fitQ c nr n)) w) := by
  by_cases p1 : 1 ≤ nr ∧ nr ≤ 8
  · by_cases p2 : 1 ≤ n ∧ n ≤ 8
    · exact fits_good w c v nr n h p1 p2
    · exact fits_bad2 w c v nr n h p1 p2
  · exact fits_bad1 w c v nr n h p1
end
end Go.Proofs.Ytihbonndinnohaa
