/- The reference's Few. -/
import Derived.Test.YtihbonndinnohaaQSame2
namespace Go.Proofs.Ytihbonndinnohaa
open Go.RowKit
set_option linter.unusedVariables false
set_option linter.unusedSimpArgs false
def f20 (a : Aq) : Bool := decide (a.rds.length ≤ 20) && decide (a.hv.length ≤ 20) && decide (a.ops.length ≤ 20)
def fewQ (c : Cq) : Bool := (List.range (min c.atts.length 300)).all (fun i => f20 (attQ c i)) && decide (c.atts.length ≤ 300)
section
variable (w : World) (c : Cq)
set_option maxRecDepth 100000 in
set_option maxHeartbeats 8000000 in
theorem fewc_any (v : Value) (h : CoV w v c) : Calls Try.prog 9 #[v] w (Ret (.bool (fewQ c)) w) := by
  obtain ⟨u, rfl, hl, -⟩ := h
  obtain ⟨A, cap, rfl⟩ := hl.form
  have hmx := Lst.len hl
  unfold maxLen at hmx
  have HL := hide hl
  have HF : Hid (fewQ c = ((List.range (min c.atts.length 300)).all (fun i => f20 (attQ c i)) && decide (c.atts.length ≤ 300))) := hide rfl
  obtain ⟨R, hR⟩ : ∃ R, fewQ c = R := ⟨_, rfl⟩
  rw [hR] at HF ⊢
  obtain ⟨m, hmm⟩ : ∃ m, c.atts.length = m := ⟨_, rfl⟩
  rw [hmm] at HL HF hmx ⊢
  have HM := hide hmm
  have hm9 : (m : Int) ≤ 9223372036854775807 := by omega
  clear hl hR hmm hmx
  have HBX := hide (below_laid (w := w) (.cells #[.int .i64 c.next, .slice A m cap, .int .i64 c.dur] 24))
  go_enter Try.func9, Try.ntmps9
  go_wp2
  go_loop [3] (fun i => ∃ j : Nat, j ≤ min m 300 ∧ i = .int .i64 j ∧ Hid (∀ q, q < j → f20 (attQ c q) = true)) (fun i => m - (intOf i).toNat)
  case atStart => exact ⟨0, Nat.zero_le _, rfl, hide fun q hq => absurd hq (Nat.not_lt_zero _)⟩
  case round =>
    obtain ⟨j, hj, rfl, HQ⟩ := hrel
    by_cases hlt : j < min m 300
    · have hjm : j < m := by omega
      have hj3 : (j : Int) < 300 := by omega
      have hjl : j < c.atts.length := by rw [HM.out]; exact hjm
      obtain ⟨g, off, xs, eA, -⟩ := Lst.at_ HL.out (j := j) hjl
      subst eA
      obtain ⟨hg, A1, A2, A3, c1, c2, c3, ha⟩ := att_at HL.out hjl
      have k1 := ha.k1
      have k2 := ha.k2
      have k3 := ha.k3
      have w1 := Lst.len ha.l1
      have w2 := Lst.len ha.l2
      have w3 := Lst.len ha.l3
      unfold maxLen at w1 w2 w3
      have hu0 : (0 : Int) ≤ (j : Int) := by omega
      have hu1 : (j : Int) < (m : Int) := by omega
      have HG := hide (show f20 (attQ c j) = (decide ((attQ c j).rds.length ≤ 20) && decide ((attQ c j).hv.length ≤ 20) && decide ((attQ c j).ops.length ≤ 20)) from rfl)
      have HN := hide (fun (h : f20 (attQ c j) = true) => show ∀ q, q < j + 1 → f20 (attQ c q) = true from fun q hq => by
        by_cases e : q = j
        · rw [e]; exact h
        · exact HQ.out q (by omega))
      have HNO := hide (fun (h : f20 (attQ c j) = false) => show R = false by rw [HF.out, all_not (q := j) hlt h]; rfl)
      obtain ⟨n1, hn1⟩ : ∃ n, (attQ c j).rds.length = n := ⟨_, rfl⟩
      obtain ⟨n2, hn2⟩ : ∃ n, (attQ c j).ops.length = n := ⟨_, rfl⟩
      obtain ⟨n3, hn3⟩ : ∃ n, (attQ c j).hv.length = n := ⟨_, rfl⟩
      rw [hn1] at k1 w1 HG
      rw [hn2] at k2 w2 HG
      rw [hn3] at k3 w3 HG
      clear ha hn1 hn2 hn3
      by_cases q1 : n1 ≤ 20
      · by_cases q3 : n3 ≤ 20
        · by_cases q2 : n2 ≤ 20
          · have HX := hide (HN.out (by rw [HG.out]; simp [q1, q2, q3]))
            have t1 : decide ((20 : Int) < (n1 : Int)) = false := decide_eq_false (by omega)
            have t2 : decide ((20 : Int) < (n3 : Int)) = false := decide_eq_false (by omega)
            have t3 : decide ((20 : Int) < (n2 : Int)) = false := decide_eq_false (by omega)
            clear q1 q2 q3
            go_wp2
            go_round
            case rel => exact ⟨j + 1, by omega, by go_num, HX⟩
            case measure => simp [intOf]; omega
          · have HX := hide (HNO.out (by rw [HG.out]; simp [q2]))
            have t1 : decide ((20 : Int) < (n1 : Int)) = false := decide_eq_false (by omega)
            have t2 : decide ((20 : Int) < (n3 : Int)) = false := decide_eq_false (by omega)
            have t3 : decide ((20 : Int) < (n2 : Int)) = true := decide_eq_true (by omega)
            clear q1 q2 q3
            go_wp2
            go_ret
            exact Ret.bool HX.out.symm HBX.out
        · have HX := hide (HNO.out (by rw [HG.out]; simp [q3]))
          have t1 : decide ((20 : Int) < (n1 : Int)) = false := decide_eq_false (by omega)
          have t2 : decide ((20 : Int) < (n3 : Int)) = true := decide_eq_true (by omega)
          clear q1 q3
          go_wp2
          go_ret
          exact Ret.bool HX.out.symm HBX.out
      · have HX := hide (HNO.out (by rw [HG.out]; simp [q1]))
        have t1 : decide ((20 : Int) < (n1 : Int)) = true := decide_eq_true (by omega)
        clear q1
        go_wp2
        go_ret
        exact Ret.bool HX.out.symm HBX.out
    · obtain rfl : j = min m 300 := by omega
      have HX : Hid (R = decide (m ≤ 300)) := hide (by rw [HF.out, all_to HQ.out, Bool.true_and])
      by_cases h3 : m ≤ 300
      · have HY : Hid (R = true) := hide (by rw [HX.out]; exact decide_eq_true h3)
        have t3 : decide ((m : Int) ≤ 300) = true := decide_eq_true (by omega)
        obtain ⟨k, hk⟩ : ∃ k, min m 300 = k := ⟨_, rfl⟩
        rw [hk]
        obtain rfl : k = m := by omega
        clear hk hj hlt h3
        go_wp2
        go_ret
        exact Ret.bool HY.out.symm HBX.out
      · have HY : Hid (R = false) := hide (by rw [HX.out]; exact decide_eq_false h3)
        have t3 : decide ((m : Int) ≤ 300) = false := decide_eq_false (by omega)
        obtain ⟨k, hk⟩ : ∃ k, min m 300 = k := ⟨_, rfl⟩
        rw [hk]
        obtain rfl : k = 300 := by omega
        have t4 : decide ((300 : Int) < (m : Int)) = true := decide_eq_true (by omega)
        clear hk hj hlt h3
        go_wp2
        go_ret
        exact Ret.bool HY.out.symm HBX.out
end
end Go.Proofs.Ytihbonndinnohaa
