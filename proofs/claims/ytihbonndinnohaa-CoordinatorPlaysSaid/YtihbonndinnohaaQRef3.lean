/- The reference's Check, Find, Complete, attempts; Few. -/
import Derived.Test.YtihbonndinnohaaQRef2
namespace Go.Proofs.Ytihbonndinnohaa
open Go.RowKit
set_option linter.unusedVariables false
set_option linter.unusedSimpArgs false
section
variable (w : World) (c : Cq)
theorem ratt_any (g off cap i : Nat) (hl : Lq w 4 RAq (.slice (some ⟨g, off, none⟩) c.atts.length cap) c.atts) (hn : c.atts.length ≤ 256) (hi : i < c.atts.length) (hp : ∀ q, q < i → errQ c q = 0) :
    Calls Try.prog 39 #[.agg #[.int .i64 c.next, .slice (some ⟨g, off, none⟩) c.atts.length cap, .int .i64 c.dur], .int .i64 (i : Int)] w (Ret (.int .i64 (errQ c i)) w) := by
  obtain ⟨hg, A1, A2, A3, c1, c2, c3, ha⟩ := att_at hl hi
  obtain ⟨-, D1, D2, D3, d1, d2, d3, hd⟩ := att_at (x := 0) hl (by omega)
  rw [Nat.zero_mul, Nat.add_zero] at hd
  by_cases h0 : errN c i = 0
  · by_cases hi0 : i = 0
    · exact ratt_ok w c g off _ cap i A1 A2 A3 D1 D2 D3 none none none c1 c2 c3 d1 d2 d3 0 0 0 hn hi ha hd (fun h => by omega) h0
    · obtain ⟨-, P1, P2, P3, p1, p2, p3, hpp⟩ := att_at (x := i - 1) hl (by omega)
      obtain ⟨-, -, h3, -, -⟩ := err_zero (hp (i - 1) (by omega))
      obtain ⟨-, -, e3, -⟩ := ok3_len h3
      obtain ⟨-, -, -, -, -, -, -, -, e8, -⟩ := errN_ok h0
      exact ratt_ok w c g off _ cap i A1 A2 A3 D1 D2 D3 P1 P2 P3 c1 c2 c3 d1 d2 d3 p1 p2 p3 hn hi ha hd (fun _ => ⟨hpp, by omega⟩) h0
  · rw [errN_bad h0]
    have m1 := Lst.len ha.l1
    have m2 := Lst.len ha.l2
    have m3 := Lst.len ha.l3
    unfold maxLen at m1 m2 m3
    refine ratt_bad w c.next c.dur (attQ c i).num (leastQ c i) (attQ c 0).num g off _ cap i A1 A2 A3 D1 D2 D3 _ _ _ _ _ _ c1 c2 c3 d1 d2 d3 hi (by omega) ha.k0 ha.k1 ha.k2 ha.k3 hd.k0 hd.k1 hd.k2 hd.k3 hg ?_ ⟨by omega, by omega, by omega⟩ h0
    by_cases hi0 : i = 0
    · exact .inl ⟨hi0, by unfold leastQ; rw [if_pos hi0]⟩
    · obtain ⟨-, P1, P2, P3, p1, p2, p3, hpp⟩ := att_at (x := i - 1) hl (by omega)
      exact .inr ⟨by omega, by unfold leastQ; rw [if_neg hi0]; exact hpp.k0⟩
theorem chkQ_cases : (chkQ c = 2 ∧ (c.next < 1 ∨ 1099511627776 < c.next ∨ c.dur < 0 ∨ c.next ≤ c.dur)) ∨ (1 ≤ c.next ∧ c.next ≤ 1099511627776 ∧ 0 ≤ c.dur ∧ c.dur < c.next ∧ ((chkQ c = 5 ∧ 256 < c.atts.length) ∨ (chkQ c = firstE (errQ c) 0 c.atts.length ∧ c.atts.length ≤ 256))) := by
  unfold chkQ numsOk
  by_cases h : 1 ≤ c.next ∧ c.next ≤ 1099511627776 ∧ 0 ≤ c.dur ∧ c.dur < c.next
  · right
    refine ⟨h.1, h.2.1, h.2.2.1, h.2.2.2, ?_⟩
    rw [if_neg (by simp; omega)]
    by_cases hm : 256 < c.atts.length
    · left; rw [if_pos hm]; exact ⟨rfl, hm⟩
    · right; rw [if_neg hm]; exact ⟨rfl, by omega⟩
  · left
    rw [if_pos (by simp; omega)]
    exact ⟨rfl, by omega⟩
set_option maxRecDepth 100000 in
set_option maxHeartbeats 4000000 in
theorem rchk_any (v : Value) (h : CoV w v c) : Calls Try.prog 14 #[v] w (Ret (.int .i64 (chkQ c)) w) := by
  obtain ⟨u, rfl, hl, -⟩ := h
  obtain ⟨A, cap, rfl⟩ := hl.form
  have hmx := Lst.len hl
  unfold maxLen at hmx
  have HBX := hide (below_laid (w := w) (.cells #[.int .i64 c.next, .slice A c.atts.length cap, .int .i64 c.dur] 24))
  rcases chkQ_cases c with ⟨hE, h2⟩ | ⟨b1, b2, b3, b4, h5⟩
  · have HE := hide hE
    clear hE hl
    have t1 : c.next < 1 ∨ (¬ c.next < 1 ∧ 1099511627776 < c.next) ∨ (¬ c.next < 1 ∧ ¬ 1099511627776 < c.next ∧ c.dur < 0) ∨ (¬ c.next < 1 ∧ ¬ 1099511627776 < c.next ∧ ¬ c.dur < 0 ∧ c.next ≤ c.dur) := by omega
    clear h2
    rcases t1 with h | ⟨h, h'⟩ | ⟨h, h', h''⟩ | ⟨h, h', h'', h3⟩
    · have t1 : decide (c.next < 1) = true := decide_eq_true h
      clear h
      go_enter Try.func14, Try.ntmps14
      go_wp2
      go_ret
      exact Ret.int HE.out.symm HBX.out
    · have t1 : decide (c.next < 1) = false := decide_eq_false h
      have t2 : decide (1099511627776 < c.next) = true := decide_eq_true h'
      clear h h'
      go_enter Try.func14, Try.ntmps14
      go_wp2
      go_ret
      exact Ret.int HE.out.symm HBX.out
    · have t1 : decide (c.next < 1) = false := decide_eq_false h
      have t2 : decide (1099511627776 < c.next) = false := decide_eq_false h'
      have t3 : decide (c.dur < 0) = true := decide_eq_true h''
      clear h h' h''
      go_enter Try.func14, Try.ntmps14
      go_wp2
      go_ret
      exact Ret.int HE.out.symm HBX.out
    · have t1 : decide (c.next < 1) = false := decide_eq_false h
      have t2 : decide (1099511627776 < c.next) = false := decide_eq_false h'
      have t3 : decide (c.dur < 0) = false := decide_eq_false h''
      have t4 : decide (c.next ≤ c.dur) = true := decide_eq_true h3
      clear h h' h'' h3
      go_enter Try.func14, Try.ntmps14
      go_wp2
      go_ret
      exact Ret.int HE.out.symm HBX.out
  · have t1 : decide (c.next < 1) = false := decide_eq_false (by omega)
    have t2 : decide (1099511627776 < c.next) = false := decide_eq_false (by omega)
    have t3 : decide (c.dur < 0) = false := decide_eq_false (by omega)
    have t4 : decide (c.next ≤ c.dur) = false := decide_eq_false (by omega)
    rcases h5 with ⟨hE, hm⟩ | ⟨hE, hm⟩
    · have HE := hide hE
      have t5 : decide ((256 : Int) < (c.atts.length : Int)) = true := decide_eq_true (by omega)
      clear hE hl
      go_enter Try.func14, Try.ntmps14
      go_wp2
      go_ret
      exact Ret.int HE.out.symm HBX.out
    · have HE := hide hE
      have HL := hide hl
      have HR := hide (fun (w' : World) (hb : Below w.heap.size w w') g off (i : Nat) (hA : A = some ⟨g, off, none⟩) (hi : i < c.atts.length) hp => ratt_any w' c g off cap i (by subst hA; exact hl.grow rd_Aq hb) hm hi hp)
      clear hE hl
      obtain ⟨E, hEE⟩ : ∃ E, chkQ c = E := ⟨_, rfl⟩
      rw [hEE] at HE ⊢
      obtain ⟨m, hmm⟩ : ∃ m, c.atts.length = m := ⟨_, rfl⟩
      rw [hmm] at hm HL HR HE HBX hmx ⊢
      have HM := hide hmm
      clear hEE hmm
      have t5 : decide ((256 : Int) < (m : Int)) = false := decide_eq_false (by omega)
      have x0 := cells_lit w [.int .i64 c.next, .slice A m cap, .int .i64 c.dur] 24
      go_enter Try.func14, Try.ntmps14
      go_wp2
      obtain ⟨W0, hW⟩ : ∃ W0, w.alloc (.cells #[.int .i64 c.next, .slice A m cap, .int .i64 c.dur] 24) = W0 := ⟨_, rfl⟩
      have hz0 : W0.heap.size = w.heap.size + 1 := by rw [← hW]; simp
      rw [hW] at x0 HBX ⊢
      have y0 := x0 0 _ rfl
      have y1 := x0 1 _ rfl
      have y2 := x0 2 _ rfl
      clear hW x0
      go_loopw [3] (fun i wr => ∃ j : Nat, j ≤ m ∧ i = .int .i64 j ∧ Hid (Below W0.heap.size W0 wr) ∧ Hid (∀ q, q < j → errQ c q = 0)) (fun i _ => m - (intOf i).toNat)
      case atStart => exact ⟨0, Nat.zero_le _, rfl, hide (Below.refl _ _), hide fun q hq => absurd hq (Nat.not_lt_zero _)⟩
      case round =>
        obtain ⟨j, hj, rfl, HB, HQ⟩ := hrel
        have z0 := keep1 HB.out y0
        have z1 := keep1 HB.out y1
        have z2 := keep1 HB.out y2
        have HBT := hide (HBX.out.trans (HB.out.mono (by omega)))
        by_cases hlt : j < m
        · obtain ⟨g, off, xs, eA, -⟩ := Lst.at_ HL.out (j := j) (by rw [HM.out]; exact hlt)
          subst eA
          have HC := hide (HR.out wr HBT.out g off j rfl hlt HQ.out)
          by_cases he : errQ c j = 0
          · rw [he] at HC
            have HQ2 : Hid (∀ q, q < j + 1 → errQ c q = 0) := hide fun q hq => by
              by_cases e : q = j
              · rw [e]; exact he
              · exact HQ.out q (by omega)
            clear he
            go_wp2_with fail
            refine HC.out.mono ?_
            rintro e w3 ⟨rfl, hb3⟩
            have HB3 := hide (bthen HB.out hb3)
            go_wp2
            go_roundw
            case rel => exact ⟨j + 1, by omega, by go_num, HB3, HQ2⟩
            case measure => simp [intOf]; omega
          · have HX : Hid (errQ c j = E) := hide (by rw [HE.out]; exact (firstE_hit (E := errQ c) (n := m) (k := 0) (j := j) (Nat.zero_le _) (by omega) (fun i _ h => HQ.out i h) he).symm)
            have te : (errQ c j != 0) = true := by rw [bne_iff_ne]; exact he
            obtain ⟨er, her⟩ : ∃ er, errQ c j = er := ⟨_, rfl⟩
            rw [her] at HC HX te
            clear he her
            go_wp2_with fail
            refine HC.out.mono ?_
            rintro e w3 ⟨rfl, hb3⟩
            go_wp2
            go_ret
            exact Ret.int HX.out (bthen HBT.out hb3)
        · obtain rfl : j = m := by omega
          have HX : Hid (0 = E) := hide (by rw [HE.out]; exact (firstE_all fun i _ h => HQ.out i (by simpa using h)).symm)
          go_wp2
          go_ret
          exact Ret.int HX.out HBT.out
set_option maxRecDepth 100000 in
set_option maxHeartbeats 4000000 in
theorem rfind_any (v : Value) (num : Int) (h : CoV w v c) (hn : c.atts.length ≤ 256) : Calls Try.prog 43 #[v, .int .i64 num] w (Ret (.int .i64 (if findQ num c.atts = c.atts.length then -1 else (findQ num c.atts : Int))) w) := by
  obtain ⟨u, rfl, hl, -⟩ := h
  obtain ⟨A, cap, rfl⟩ := hl.form
  have HL := hide hl
  obtain ⟨R, hR⟩ : ∃ R : Int, (if findQ num c.atts = c.atts.length then -1 else (findQ num c.atts : Int)) = R := ⟨_, rfl⟩
  have HR := hide hR
  rw [hR]
  clear hl hR
  obtain ⟨m, hmm⟩ : ∃ m, c.atts.length = m := ⟨_, rfl⟩
  rw [hmm] at HL HR hn ⊢
  have HM := hide hmm
  clear hmm
  have HBX := hide (below_laid (w := w) (.cells #[.int .i64 c.next, .slice A m cap, .int .i64 c.dur] 24))
  go_enter Try.func43, Try.ntmps43
  go_wp2
  go_loop [5] (fun i => ∃ j : Nat, j ≤ m ∧ i = .int .i64 j ∧ Hid (∀ q, q < j → (attQ c q).num ≠ num)) (fun i => m - (intOf i).toNat)
  case atStart => exact ⟨0, Nat.zero_le _, rfl, hide fun q hq => absurd hq (Nat.not_lt_zero _)⟩
  case round =>
    obtain ⟨j, hj, rfl, HQ⟩ := hrel
    by_cases hlt : j < m
    · have hjl : j < c.atts.length := by rw [HM.out]; exact hlt
      obtain ⟨g, off, xs, eA, -⟩ := Lst.at_ HL.out (j := j) hjl
      subst eA
      obtain ⟨hg, A1, A2, A3, c1, c2, c3, ha⟩ := att_at HL.out hjl
      have k0 := ha.k0
      have hu0 : (0 : Int) ≤ (j : Int) := by omega
      have hu1 : (j : Int) < (m : Int) := by omega
      by_cases he : (attQ c j).num = num
      · have HX : Hid ((j : Int) = R) := hide (by
          have hf : findQ num c.atts = j := findQ_hit hjl (fun q hq => by rw [← attQ_get]; exact HQ.out q hq) (by rw [← attQ_get]; exact he)
          rw [← HR.out, hf, if_neg (by omega)])
        have te : ((attQ c j).num == num) = true := by rw [beq_iff_eq]; exact he
        obtain ⟨y, hy⟩ : ∃ y, (attQ c j).num = y := ⟨_, rfl⟩
        rw [hy] at k0 te
        clear ha he hy
        go_wp2
        go_ret
        exact Ret.int HX.out HBX.out
      · have HQ2 : Hid (∀ q, q < j + 1 → (attQ c q).num ≠ num) := hide fun q hq => by
          by_cases e : q = j
          · rw [e]; exact he
          · exact HQ.out q (by omega)
        have te : ((attQ c j).num == num) = false := by rw [beq_eq_false_iff_ne]; exact he
        obtain ⟨y, hy⟩ : ∃ y, (attQ c j).num = y := ⟨_, rfl⟩
        rw [hy] at k0 te
        clear ha he hy
        go_wp2
        go_round
        case rel => exact ⟨j + 1, by omega, by go_num, HQ2⟩
        case measure => simp [intOf]; omega
    · obtain rfl : j = m := by omega
      have HX : Hid (-1 = R) := hide (by
        have hf : findQ num c.atts = c.atts.length := findQ_none fun q hq => by rw [← attQ_get]; exact HQ.out q (by rw [← HM.out]; exact hq)
        rw [← HR.out, if_pos (by rw [hf, HM.out])])
      go_wp2
      go_ret
      exact Ret.int HX.out HBX.out
end
end Go.Proofs.Ytihbonndinnohaa
