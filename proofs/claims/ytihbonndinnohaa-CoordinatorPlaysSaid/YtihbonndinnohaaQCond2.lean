/- coordinator.conditions: the flags and the operators. -/
import Derived.Test.YtihbonndinnohaaQCond
import Derived.Laws.EntriesVeiled
namespace Go.Proofs.Ytihbonndinnohaa
open Go.RowKit
set_option linter.unusedVariables false
set_option linter.unusedSimpArgs false
theorem all_to {f : Nat → Bool} {n : Nat} (h : ∀ q, q < n → f q = true) : (List.range n).all f = true := by
  rw [List.all_eq_true]
  intro q hq
  exact h q (List.mem_range.1 hq)
theorem all_not {f : Nat → Bool} {n q : Nat} (hq : q < n) (h : f q = false) : (List.range n).all f = false := by
  rw [List.all_eq_false]
  exact ⟨q, List.mem_range.2 hq, by simp [h]⟩
def f4 (ops : List Oq) (hv : List Bool) (q : Nat) : Bool := hv.getD q true || bareQ (ops.getD q Oq.z)
def f5 (hv bh : List Bool) (q : Nat) : Bool := !hv.getD q false || bh.getD q true
set_option maxRecDepth 100000 in
set_option maxHeartbeats 4000000 in
theorem c5_any (w : World) (g o : Nat) (A O : Option Addr) (c d : Nat) (ops : List Oq) (hv : List Bool) (hlen : ops.length = hv.length) (h8 : hv.length ≤ 8) (ha : w.cell? ⟨g, o + 3, none⟩ = some (.slice A hv.length c)) (ho : w.cell? ⟨g, o + 2, none⟩ = some (.slice O ops.length d))
    (hO : Lq w 2 ROq (.slice O ops.length d) ops) (hA : Lq w 1 RBq (.slice A hv.length c) hv) (pb : Value) :
    Calls Try.prog 54 #[.pointer (some ⟨g, o, none⟩), pb] w (Ret (.bool ((List.range hv.length).all (f4 ops hv))) w) := by
  have HO := hide hO
  have HA := hide hA
  have HL := hide hlen
  rw [hlen] at ho HO
  obtain ⟨m, hm⟩ : ∃ m, hv.length = m := ⟨_, rfl⟩
  rw [hm] at ha ho h8 HO HA HL ⊢
  have HM := hide hm
  clear hO hA hlen hm
  have HB0 := hide (Below.refl w.heap.size w)
  go_enter Try.func54, Try.ntmps54
  go_wp2
  go_loopw [12] (fun i wr => ∃ j : Nat, j ≤ m ∧ i = .int .i64 j ∧ Hid (Below w.heap.size w wr) ∧ Hid (∀ q, q < j → f4 ops hv q = true)) (fun i _ => m - (intOf i).toNat)
  case atStart => exact ⟨0, Nat.zero_le _, rfl, HB0, hide fun q hq => absurd hq (Nat.not_lt_zero _)⟩
  case round =>
    clear HB0
    obtain ⟨j, hj, rfl, HB, HQ⟩ := hrel
    by_cases hlt : j < m
    · have hjo : j < ops.length := by rw [HL.out]; exact hlt
      have hja : j < hv.length := by rw [HM.out]; exact hlt
      obtain ⟨g2, off2, xs, e2, hz2, hl2, hc2, hr2⟩ := Lst.at_ HO.out hjo
      cases e2
      obtain ⟨g3, off3, ys, e3, hz3, hl3, hc3, hr3⟩ := Lst.at_ HA.out hja
      cases e3
      have HF : Hid (f4 ops hv j = (hv[j] || bareQ ops[j])) := hide (by simp [f4, hja, hjo])
      obtain ⟨y, hy⟩ : ∃ y, ops[j] = y := ⟨_, rfl⟩
      obtain ⟨b, hb⟩ : ∃ b, hv[j] = b := ⟨_, rfl⟩
      rw [hy] at hr2 HF
      rw [hb] at hr3 HF
      clear hy hb
      obtain ⟨v, u, rfl, hlm, hle, hm1, hm2⟩ := hr2
      obtain rfl := hr3
      have HBQ : Hid (bareQ y = (decide (y.marks.length = 0) && decide (y.engs.length = 0))) := hide rfl
      obtain ⟨E1, p1, rfl⟩ := hlm.form
      obtain ⟨E2, p2, rfl⟩ := hle.form
      obtain ⟨n1, hn1⟩ : ∃ n, y.marks.length = n := ⟨_, rfl⟩
      obtain ⟨n2, hn2⟩ : ∃ n, y.engs.length = n := ⟨_, rfl⟩
      rw [hn1] at hm1 HBQ hc2
      rw [hn2] at hm2 HBQ hc2
      have k0 := keep1 HB.out (hc2 0 _ rfl)
      have k1 := keep1 HB.out (hc2 1 _ rfl)
      have b0 := keep1 HB.out (hc3 0 _ rfl)
      have b3 := keep1 HB.out ha
      rw [Nat.add_zero] at k0
      have hgl : g < wr.heap.size := World.block_lt_of_cell? wr _ b3
      have hgl3 : g3 < wr.heap.size := World.block_lt_of_cell? wr _ b0
      rw [Nat.add_zero, Nat.mul_one] at b0
      have hu0 : (0 : Int) ≤ (j : Int) := by omega
      have hu1 : (j : Int) < (m : Int) := by omega
      clear hlm hle hc2 hc3 hl2 hl3 hn1 hn2
      cases b
      · by_cases hs : (0 : Int) < (n1 : Int) + (n2 : Int)
        · have HX : Hid ((List.range m).all (f4 ops hv) = false) := hide (all_not hlt (by rw [HF.out, HBQ.out]; simp; omega))
          have hs' : decide ((0 : Int) < (n1 : Int) + (n2 : Int)) = true := decide_eq_true hs
          clear hs
          go_wp2
          go_ret
          exact Ret.bool HX.out.symm (bthen HB.out (below_laid _))
        · have HX : Hid (∀ q, q < j + 1 → f4 ops hv q = true) := hide (fun q hq => by
            by_cases e : q = j
            · subst e; rw [HF.out, HBQ.out]; simp; omega
            · exact HQ.out q (by omega))
          have hs' : decide ((0 : Int) < (n1 : Int) + (n2 : Int)) = false := decide_eq_false hs
          have HB2 := hide (bthen HB.out (below_laid (.cells #[.slice E1 n1 p1, .slice E2 n2 p2] 42)))
          clear hs
          go_wp2
          go_roundw
          case rel => exact ⟨j + 1, by omega, by go_num, HB2, HX⟩
          case measure => simp [intOf]; omega
      · have HX : Hid (∀ q, q < j + 1 → f4 ops hv q = true) := hide (fun q hq => by
          by_cases e : q = j
          · subst e; rw [HF.out]; simp
          · exact HQ.out q (by omega))
        have HB2 := hide (bthen HB.out (below_laid (.cells #[.slice E1 n1 p1, .slice E2 n2 p2] 42)))
        go_wp2
        go_roundw
        case rel => exact ⟨j + 1, by omega, by go_num, HB2, HX⟩
        case measure => simp [intOf]; omega
    · obtain rfl : j = m := by omega
      have HX : Hid ((List.range j).all (f4 ops hv) = true) := hide (all_to HQ.out)
      go_wp2
      go_ret
      exact Ret.bool HX.out.symm HB.out
set_option maxRecDepth 100000 in
set_option maxHeartbeats 4000000 in
theorem c6_none (w : World) (g o : Nat) (A : Option Addr) (c : Nat) (hv : List Bool) (h8 : hv.length ≤ 8) (ha : w.cell? ⟨g, o + 3, none⟩ = some (.slice A hv.length c)) (hA : Lq w 1 RBq (.slice A hv.length c) hv) :
    Calls Try.prog 55 #[.pointer (some ⟨g, o, none⟩), .pointer none] w (Ret (.bool true) w) := by
  have HA := hide hA
  obtain ⟨m, hm⟩ : ∃ m, hv.length = m := ⟨_, rfl⟩
  rw [hm] at ha h8 HA
  have HM := hide hm
  clear hA hm
  go_enter Try.func55, Try.ntmps55
  go_wp2
  go_loop [12] (fun i => ∃ j : Nat, j ≤ m ∧ i = .int .i64 j) (fun i => m - (intOf i).toNat)
  case atStart => exact ⟨0, Nat.zero_le _, rfl⟩
  case round =>
    obtain ⟨j, hj, rfl⟩ := hrel
    by_cases hlt : j < m
    · have hja : j < hv.length := by rw [HM.out]; exact hlt
      obtain ⟨g3, off3, ys, e3, hz3, hl3, hc3, hr3⟩ := Lst.at_ HA.out hja
      cases e3
      obtain ⟨b, hb⟩ : ∃ b, hv[j] = b := ⟨_, rfl⟩
      rw [hb] at hr3
      clear hb
      obtain rfl := hr3
      have b0 := hc3 0 _ rfl
      rw [Nat.add_zero, Nat.mul_one] at b0
      have hu0 : (0 : Int) ≤ (j : Int) := by omega
      have hu1 : (j : Int) < (m : Int) := by omega
      clear hc3 hl3
      cases b
      · go_wp2
        go_round
        case rel => exact ⟨j + 1, by omega, by go_num⟩
        case measure => simp [intOf]; omega
      · go_wp2
        go_round
        case rel => exact ⟨j + 1, by omega, by go_num⟩
        case measure => simp [intOf]; omega
    · obtain rfl : j = m := by omega
      go_wp2
      go_ret
      exact Ret.bool rfl (Below.refl _ _)
set_option maxRecDepth 100000 in
set_option maxHeartbeats 4000000 in
theorem c6_some (w : World) (g o p : Nat) (A B : Option Addr) (c d : Nat) (hv bh : List Bool) (hlen : bh.length = hv.length) (h8 : hv.length ≤ 8) (ha : w.cell? ⟨g, o + 3, none⟩ = some (.slice A hv.length c)) (hp : w.cell? ⟨g, p + 3, none⟩ = some (.slice B bh.length d))
    (hA : Lq w 1 RBq (.slice A hv.length c) hv) (hB : Lq w 1 RBq (.slice B bh.length d) bh) :
    Calls Try.prog 55 #[.pointer (some ⟨g, o, none⟩), .pointer (some ⟨g, p, none⟩)] w (Ret (.bool ((List.range hv.length).all (f5 hv bh))) w) := by
  have HA := hide hA
  have HP := hide hB
  have HL := hide hlen
  rw [hlen] at hp HP
  obtain ⟨m, hm⟩ : ∃ m, hv.length = m := ⟨_, rfl⟩
  rw [hm] at ha hp h8 HA HP HL ⊢
  have HM := hide hm
  clear hA hB hlen hm
  go_enter Try.func55, Try.ntmps55
  go_wp2
  go_loop [12] (fun i => ∃ j : Nat, j ≤ m ∧ i = .int .i64 j ∧ Hid (∀ q, q < j → f5 hv bh q = true)) (fun i => m - (intOf i).toNat)
  case atStart => exact ⟨0, Nat.zero_le _, rfl, hide fun q hq => absurd hq (Nat.not_lt_zero _)⟩
  case round =>
    obtain ⟨j, hj, rfl, HQ⟩ := hrel
    by_cases hlt : j < m
    · have hja : j < hv.length := by rw [HM.out]; exact hlt
      have hjb : j < bh.length := by rw [HL.out]; exact hlt
      obtain ⟨g3, off3, ys, e3, hz3, hl3, hc3, hr3⟩ := Lst.at_ HA.out hja
      cases e3
      obtain ⟨g4, off4, zs, e4, hz4, hl4, hc4, hr4⟩ := Lst.at_ HP.out hjb
      cases e4
      have HF : Hid (f5 hv bh j = (!hv[j] || bh[j])) := hide (by simp [f5, hja, hjb])
      obtain ⟨b, hb⟩ : ∃ b, hv[j] = b := ⟨_, rfl⟩
      obtain ⟨b', hb'⟩ : ∃ b, bh[j] = b := ⟨_, rfl⟩
      rw [hb] at hr3 HF
      rw [hb'] at hr4 HF
      clear hb hb'
      obtain rfl := hr3
      obtain rfl := hr4
      have b0 := hc3 0 _ rfl
      have d0 := hc4 0 _ rfl
      rw [Nat.add_zero, Nat.mul_one] at b0 d0
      have hu0 : (0 : Int) ≤ (j : Int) := by omega
      have hu1 : (j : Int) < (m : Int) := by omega
      clear hc3 hl3 hc4 hl4
      have HN := hide (fun (h : f5 hv bh j = true) => show ∀ q, q < j + 1 → f5 hv bh q = true from fun q hq => by
        by_cases e : q = j
        · subst e; exact h
        · exact HQ.out q (by omega))
      cases b
      · have HX := hide (HN.out (by rw [HF.out]; rfl))
        cases b'
        all_goals
          go_wp2
          go_round
          case rel => exact ⟨j + 1, by omega, by go_num, HX⟩
          case measure => simp [intOf]; omega
      · cases b'
        · have HX : Hid ((List.range m).all (f5 hv bh) = false) := hide (all_not hlt (by rw [HF.out]; rfl))
          go_wp2
          go_ret
          exact Ret.bool HX.out.symm (Below.refl _ _)
        · have HX := hide (HN.out (by rw [HF.out]; rfl))
          go_wp2
          go_round
          case rel => exact ⟨j + 1, by omega, by go_num, HX⟩
          case measure => simp [intOf]; omega
    · obtain rfl : j = m := by omega
      have HX : Hid ((List.range j).all (f5 hv bh) = true) := hide (all_to HQ.out)
      go_wp2
      go_ret
      exact Ret.bool HX.out.symm (Below.refl _ _)
set_option maxRecDepth 100000 in
set_option maxHeartbeats 1000000 in
theorem conditions_any (n : Int) (v : Value) (k : Int) (w : World) (hv : v.oneCell' = true) : Calls Try.prog 37 #[.agg #[.int .i64 n, v, .int .i64 k]] w fun e w' => e = .returned (.slice (some ⟨w.heap.size + 2, 0, none⟩) 5 5) ∧
    w' = ((w.alloc (.cells #[.int .i64 n, v, .int .i64 k] 24)).alloc (.cells #[.func (.func 50) #[] #[.pointer (some ⟨w.heap.size, 0, none⟩)]] 107)).alloc (.cells #[.func (.func 51) #[] #[.pointer (some ⟨w.heap.size, 0, none⟩)], .int .i64 14, .func (.func 52) #[] #[.pointer (some ⟨w.heap.size + 1, 0, none⟩)], .int .i64 15, .func (.func 53) #[] #[.pointer (some ⟨w.heap.size + 1, 0, none⟩)], .int .i64 15, .func (.func 54) #[] #[], .int .i64 3, .func (.func 55) #[] #[], .int .i64 21] 89) := by
  go_enter Try.func37, Try.ntmps37
  go_wp2
  go_ret
  exact ⟨rfl, rfl⟩
end Go.Proofs.Ytihbonndinnohaa
