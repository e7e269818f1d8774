/- The reference's attempt behind its first tests; its Check. -/
import Derived.Test.YtihbonndinnohaaQRef
namespace Go.Proofs.Ytihbonndinnohaa
open Go.RowKit
set_option linter.unusedVariables false
set_option linter.unusedSimpArgs false
section
variable (w : World) (c : Cq) (g off n cap i : Nat) (A1 A2 A3 D1 D2 D3 P1 P2 P3 : Option Addr) (c1 c2 c3 d1 d2 d3 p1 p2 p3 : Nat)
set_option maxRecDepth 100000 in
set_option maxHeartbeats 16000000 in
theorem ratt_ok (hn : n ≤ 256) (hi : i < n) (ha : AtQ w g (off + i * 4) (attQ c i) A1 A2 A3 c1 c2 c3) (hf : AtQ w g off (attQ c 0) D1 D2 D3 d1 d2 d3) (hp : 0 < i → AtQ w g (off + (i - 1) * 4) (attQ c (i - 1)) P1 P2 P3 p1 p2 p3 ∧ (attQ c (i - 1)).hv.length = (attQ c i).hv.length) (hok : errN c i = 0) :
    Calls Try.prog 39 #[.agg #[.int .i64 c.next, .slice (some ⟨g, off, none⟩) n cap, .int .i64 c.dur], .int .i64 (i : Int)] w (Ret (.int .i64 (errQ c i)) w) := by
  obtain ⟨hQ, e1, e2, e3, e4, e5, e6, e7, e8, e9⟩ := errN_ok hok
  have HP := hide hp
  have HQ := hide hQ
  have HN0 := hide (show 0 < i → leastQ c i = (attQ c (i - 1)).num from fun h => by unfold leastQ; rw [if_neg (by omega)])
  have HN1 := hide (show i = 0 → leastQ c i = c.dur from fun h => by unfold leastQ; rw [if_pos h])
  have HG4 : Hid (ok4 c i = (List.range (attQ c i).hv.length).all (f4 (attQ c i).ops (attQ c i).hv)) := hide rfl
  have HG5 := hide (show 0 < i → ok5 c i = (List.range (attQ c i).hv.length).all (f5 (attQ c i).hv (attQ c (i - 1)).hv) from fun h => by unfold ok5; rw [show decide (i = 0) = false from decide_eq_false (by omega), Bool.false_or]; rfl)
  have HG0 := hide (show i = 0 → ok5 c i = true from fun h => by unfold ok5; rw [show decide (i = 0) = true from decide_eq_true h, Bool.true_or])
  have HO := hide ha.l2
  have HV := hide ha.l3
  have k0 := ha.k0
  have k1 := ha.k1
  have k2 := ha.k2
  have k3 := ha.k3
  have f0 := hf.k0
  have f1 := hf.k1
  have f2 := hf.k2
  have f3 := hf.k3
  have hg : g < w.heap.size := World.block_lt_of_cell? w _ k0
  have HL := hide e9
  rw [e9] at HO k2
  rw [← e8] at f3
  rw [← e5] at f1
  clear hp hQ ha hf hok e5 e8 e9
  obtain ⟨next, hnx⟩ : ∃ x, c.next = x := ⟨_, rfl⟩
  obtain ⟨dur, hdu⟩ : ∃ x, c.dur = x := ⟨_, rfl⟩
  obtain ⟨a, hae⟩ : ∃ x, attQ c i = x := ⟨_, rfl⟩
  obtain ⟨p, hpe⟩ : ∃ x, attQ c (i - 1) = x := ⟨_, rfl⟩
  obtain ⟨lst, hle⟩ : ∃ x, leastQ c i = x := ⟨_, rfl⟩
  obtain ⟨x0, hx0⟩ : ∃ x, (attQ c 0).num = x := ⟨_, rfl⟩
  obtain ⟨fo, hfo⟩ : ∃ x, (attQ c 0).ops.length = x := ⟨_, rfl⟩
  obtain ⟨E, hE⟩ : ∃ x, errQ c i = x := ⟨_, rfl⟩
  rw [hnx] at e2 ⊢
  rw [hdu] at HN1 ⊢
  rw [hae] at HP HG4 HG5 HO HV HL k0 k1 k2 k3 e1 e2 e3 e4 e6 e7 f1 f3
  rw [hpe] at HP HN0 HG5
  rw [hle] at HN0 HN1 e1
  rw [hx0] at f0
  rw [hfo] at f2
  rw [hE] at HQ ⊢
  clear hnx hdu hae hpe hle hx0 hfo hE
  obtain ⟨m, hm⟩ : ∃ m, a.hv.length = m := ⟨_, rfl⟩
  obtain ⟨r, hr⟩ : ∃ r, a.rds.length = r := ⟨_, rfl⟩
  obtain ⟨num, hnum⟩ : ∃ x, a.num = x := ⟨_, rfl⟩
  have HM := hide hm
  rw [hm] at HP HG4 HG5 HO HV HL k2 k3 e6 e7 f3
  rw [hr] at e3 e4 k1 f1
  rw [hnum] at e1 e2 k0
  clear hm hr hnum
  have hu0 : (0 : Int) ≤ (i : Int) := by omega
  have hu1 : (i : Int) < (n : Int) := by omega
  have hn0 : (0 : Int) < (n : Int) := by omega
  have b0 : decide (num ≤ lst) = false := decide_eq_false (by omega)
  have b1 : decide (next ≤ num) = false := decide_eq_false (by omega)
  have b2 : decide ((r : Int) < 1) = false := decide_eq_false (by omega)
  have b3 : decide ((8 : Int) < (r : Int)) = false := decide_eq_false (by omega)
  have b5 : decide ((m : Int) < 1) = false := decide_eq_false (by omega)
  have b6 : decide ((8 : Int) < (m : Int)) = false := decide_eq_false (by omega)
  by_cases h0 : i = 0
  · have hd : decide (0 < i) = false := decide_eq_false (by omega)
    obtain rfl := HN1.out h0
    have HI0 := hide h0
    clear h0 HP HG5 HN0
    go_enter Try.func39, Try.ntmps39
    go_wp2
    obtain ⟨W0, hW⟩ : ∃ W0, ((w.alloc (.cells #[.int .i64 next, .slice (some ⟨g, off, none⟩) n cap, .int .i64 lst] 24)).alloc (.cells #[.int .i64 num, .slice A1 r c1, .slice A2 m c2, .slice A3 m c3] 51)).alloc (.cells #[.int .i64 x0, .slice D1 r d1, .slice D2 fo d2, .slice D3 m d3] 51) = W0 := ⟨_, rfl⟩
    have HBW := hide (show Below w.heap.size w W0 by rw [← hW]; exact ((below_laid _).alloc (by simp) _).alloc (by simp only [World.size_alloc]; omega) _)
    have hzW : W0.heap.size = w.heap.size + 3 := by rw [← hW]; simp
    have xa : ∀ j u, ([.int .i64 num, .slice A1 r c1, .slice A2 m c2, .slice A3 m c3] : List Value)[j]? = some u → W0.cell? ⟨w.heap.size + 1, j, none⟩ = some u := by
      intro j u hj
      rw [← hW, World.cell?_alloc_lt _ _ _ (by simp)]
      have := cells_lit (w.alloc (.cells #[.int .i64 next, .slice (some ⟨g, off, none⟩) n cap, .int .i64 lst] 24)) [.int .i64 num, .slice A1 r c1, .slice A2 m c2, .slice A3 m c3] 51 j u hj
      simpa using this
    have xc : W0.cell? ⟨w.heap.size, 1, none⟩ = some (.slice (some ⟨g, off, none⟩) n cap) := by
      rw [← hW, World.cell?_alloc_lt _ _ _ (by simp only [World.size_alloc]; omega), World.cell?_alloc_lt _ _ _ (by simp)]
      exact cells_lit w [.int .i64 next, .slice (some ⟨g, off, none⟩) n cap, .int .i64 lst] _ 1 _ rfl
    have xa2 := xa 2 _ rfl
    have xa3 := xa 3 _ rfl
    rw [hW]
    clear hW xa k0 k1 k2 k3 f0 f1 f2 f3 b0 b1 b2 b3 b5 b6
    go_loopw [8] (fun i wr => ∃ j : Nat, j ≤ m ∧ i = .int .i64 j ∧ Hid (Below W0.heap.size W0 wr) ∧ Hid (∀ q, q < j → f4 a.ops a.hv q = true)) (fun i _ => m - (intOf i).toNat)
    case atStart => exact ⟨0, Nat.zero_le _, rfl, hide (Below.refl _ _), hide fun q hq => absurd hq (Nat.not_lt_zero _)⟩
    case round =>
      obtain ⟨j, hj, rfl, HB, HQ4⟩ := hrel
      have y2 := keep1 HB.out xa2
      have y3 := keep1 HB.out xa3
      have HBT := hide (HBW.out.trans (HB.out.mono (by omega)))
      by_cases hlt : j < m
      · have hjo : j < a.ops.length := by rw [HL.out]; exact hlt
        have hja : j < a.hv.length := by rw [HM.out]; exact hlt
        obtain ⟨g2, off2, xs, e2', hz2, hl2, hc2, hr2⟩ := Lst.at_ HO.out hjo
        cases e2'
        obtain ⟨g3, off3, ys, e3', hz3, hl3, hc3, hr3⟩ := Lst.at_ HV.out hja
        cases e3'
        have HF : Hid (f4 a.ops a.hv j = (a.hv[j] || bareQ a.ops[j])) := hide (by simp [f4, hja, hjo])
        obtain ⟨y, hy⟩ : ∃ y, a.ops[j] = y := ⟨_, rfl⟩
        obtain ⟨b, hb⟩ : ∃ b, a.hv[j] = b := ⟨_, rfl⟩
        rw [hy] at hr2 HF
        rw [hb] at hr3 HF
        clear hy hb
        obtain ⟨v, u, rfl, hlm, hle, hm1, hm2⟩ := hr2
        obtain rfl := hr3
        have HBQ : Hid (bareQ y = (decide (y.marks.length = 0) && decide (y.engs.length = 0))) := hide rfl
        obtain ⟨E1, q1, rfl⟩ := hlm.form
        obtain ⟨E2, q2, rfl⟩ := hle.form
        obtain ⟨n1, hn1⟩ : ∃ n, y.marks.length = n := ⟨_, rfl⟩
        obtain ⟨n2, hn2⟩ : ∃ n, y.engs.length = n := ⟨_, rfl⟩
        rw [hn1] at hm1 HBQ hc2
        rw [hn2] at hm2 HBQ hc2
        have z0 := keep1 HBT.out (hc2 0 _ rfl)
        have z1 := keep1 HBT.out (hc2 1 _ rfl)
        have v0 := keep1 HBT.out (hc3 0 _ rfl)
        rw [Nat.add_zero] at z0
        rw [Nat.add_zero, Nat.mul_one] at v0
        have ju0 : (0 : Int) ≤ (j : Int) := by omega
        have ju1 : (j : Int) < (m : Int) := by omega
        have HN := hide (fun (h : f4 a.ops a.hv j = true) => show ∀ q, q < j + 1 → f4 a.ops a.hv q = true from fun q hq => by
          by_cases e : q = j
          · subst e; exact h
          · exact HQ4.out q (by omega))
        have HKB := hide (fun w' => bare_any w' E1 E2 n1 q1 n2 q2 hm1 hm2)
        clear hlm hle hc2 hc3 hl2 hl3 hn1 hn2
        cases b
        · cases hbq : (decide (n1 = 0) && decide (n2 = 0))
          · rw [hbq] at HKB HBQ
            have HX : Hid (E = 3) := hide (by rw [HQ.out, if_pos]; rw [HG4.out]; exact all_not hlt (by rw [HF.out, HBQ.out]; rfl))
            clear hbq
            go_wp2_with fail
            refine (HKB.out _).mono ?_
            rintro e w3 ⟨rfl, hb3⟩
            go_wp2
            go_ret
            exact Ret.int HX.out.symm (bthen HBT.out hb3)
          · rw [hbq] at HKB HBQ
            have HX := hide (HN.out (by rw [HF.out, HBQ.out]; rfl))
            clear hbq
            go_wp2_with fail
            refine (HKB.out _).mono ?_
            rintro e w3 ⟨rfl, hb3⟩
            have HB3 := hide (bthen HB.out hb3)
            go_wp2
            go_roundw
            case rel => exact ⟨j + 1, by omega, by go_num, HB3, HX⟩
            case measure => simp [intOf]; omega
        · have HX := hide (HN.out (by rw [HF.out]; rfl))
          go_wp2
          go_roundw
          case rel => exact ⟨j + 1, by omega, by go_num, HB, HX⟩
          case measure => simp [intOf]; omega
      · obtain rfl : j = m := by omega
        have H4 : Hid (ok4 c i = true) := hide (by rw [HG4.out]; exact all_to HQ4.out)
        clear HG4 HQ4
        have HX : Hid (E = 0) := hide (by rw [HQ.out, H4.out, HG0.out HI0.out]; rfl)
        have hj0 : (0 : Int) < (j : Int) := by omega
        go_wp2
        refine wp_loop_rounds 1 ?_
        rw [rounds_succ]
        go_wp2
        go_ret
        exact Ret.int HX.out.symm HBT.out
  · have hd : decide (0 < i) = true := decide_eq_true (by omega)
    have HI0 := hide (show 0 < i by omega)
    have hs0 : (0 : Int) ≤ (i : Int) - 1 := by omega
    have hs1 : (i : Int) - 1 < (n : Int) := by omega
    have hT : ((i : Int) - 1).toNat = i - 1 := by omega
    have q0 : w.cell? ⟨g, off + (i - 1) * 4, none⟩ = some (.int .i64 lst) := by rw [HN0.out HI0.out]; exact (HP.out HI0.out).1.k0
    clear h0 HN1 HG0
    go_enter Try.func39, Try.ntmps39
    go_wp2
    obtain ⟨W0, hW⟩ : ∃ W0, ((w.alloc (.cells #[.int .i64 next, .slice (some ⟨g, off, none⟩) n cap, .int .i64 dur] 24)).alloc (.cells #[.int .i64 num, .slice A1 r c1, .slice A2 m c2, .slice A3 m c3] 51)).alloc (.cells #[.int .i64 x0, .slice D1 r d1, .slice D2 fo d2, .slice D3 m d3] 51) = W0 := ⟨_, rfl⟩
    have HBW := hide (show Below w.heap.size w W0 by rw [← hW]; exact ((below_laid _).alloc (by simp) _).alloc (by simp only [World.size_alloc]; omega) _)
    have hzW : W0.heap.size = w.heap.size + 3 := by rw [← hW]; simp
    have xa : ∀ j u, ([.int .i64 num, .slice A1 r c1, .slice A2 m c2, .slice A3 m c3] : List Value)[j]? = some u → W0.cell? ⟨w.heap.size + 1, j, none⟩ = some u := by
      intro j u hj
      rw [← hW, World.cell?_alloc_lt _ _ _ (by simp)]
      have := cells_lit (w.alloc (.cells #[.int .i64 next, .slice (some ⟨g, off, none⟩) n cap, .int .i64 dur] 24)) [.int .i64 num, .slice A1 r c1, .slice A2 m c2, .slice A3 m c3] 51 j u hj
      simpa using this
    have xc : W0.cell? ⟨w.heap.size, 1, none⟩ = some (.slice (some ⟨g, off, none⟩) n cap) := by
      rw [← hW, World.cell?_alloc_lt _ _ _ (by simp only [World.size_alloc]; omega), World.cell?_alloc_lt _ _ _ (by simp)]
      exact cells_lit w [.int .i64 next, .slice (some ⟨g, off, none⟩) n cap, .int .i64 dur] _ 1 _ rfl
    have xa2 := xa 2 _ rfl
    have xa3 := xa 3 _ rfl
    rw [hW]
    clear hW xa k0 k1 k2 k3 f0 f1 f2 f3 b0 b1 b2 b3 b5 b6
    go_loopw [8] (fun i wr => ∃ j : Nat, j ≤ m ∧ i = .int .i64 j ∧ Hid (Below W0.heap.size W0 wr) ∧ Hid (∀ q, q < j → f4 a.ops a.hv q = true)) (fun i _ => m - (intOf i).toNat)
    case atStart => exact ⟨0, Nat.zero_le _, rfl, hide (Below.refl _ _), hide fun q hq => absurd hq (Nat.not_lt_zero _)⟩
    case round =>
      obtain ⟨j, hj, rfl, HB, HQ4⟩ := hrel
      have y2 := keep1 HB.out xa2
      have y3 := keep1 HB.out xa3
      have HBT := hide (HBW.out.trans (HB.out.mono (by omega)))
      by_cases hlt : j < m
      · have hjo : j < a.ops.length := by rw [HL.out]; exact hlt
        have hja : j < a.hv.length := by rw [HM.out]; exact hlt
        obtain ⟨g2, off2, xs, e2', hz2, hl2, hc2, hr2⟩ := Lst.at_ HO.out hjo
        cases e2'
        obtain ⟨g3, off3, ys, e3', hz3, hl3, hc3, hr3⟩ := Lst.at_ HV.out hja
        cases e3'
        have HF : Hid (f4 a.ops a.hv j = (a.hv[j] || bareQ a.ops[j])) := hide (by simp [f4, hja, hjo])
        obtain ⟨y, hy⟩ : ∃ y, a.ops[j] = y := ⟨_, rfl⟩
        obtain ⟨b, hb⟩ : ∃ b, a.hv[j] = b := ⟨_, rfl⟩
        rw [hy] at hr2 HF
        rw [hb] at hr3 HF
        clear hy hb
        obtain ⟨v, u, rfl, hlm, hle, hm1, hm2⟩ := hr2
        obtain rfl := hr3
        have HBQ : Hid (bareQ y = (decide (y.marks.length = 0) && decide (y.engs.length = 0))) := hide rfl
        obtain ⟨E1, q1, rfl⟩ := hlm.form
        obtain ⟨E2, q2, rfl⟩ := hle.form
        obtain ⟨n1, hn1⟩ : ∃ n, y.marks.length = n := ⟨_, rfl⟩
        obtain ⟨n2, hn2⟩ : ∃ n, y.engs.length = n := ⟨_, rfl⟩
        rw [hn1] at hm1 HBQ hc2
        rw [hn2] at hm2 HBQ hc2
        have z0 := keep1 HBT.out (hc2 0 _ rfl)
        have z1 := keep1 HBT.out (hc2 1 _ rfl)
        have v0 := keep1 HBT.out (hc3 0 _ rfl)
        rw [Nat.add_zero] at z0
        rw [Nat.add_zero, Nat.mul_one] at v0
        have ju0 : (0 : Int) ≤ (j : Int) := by omega
        have ju1 : (j : Int) < (m : Int) := by omega
        have HN := hide (fun (h : f4 a.ops a.hv j = true) => show ∀ q, q < j + 1 → f4 a.ops a.hv q = true from fun q hq => by
          by_cases e : q = j
          · subst e; exact h
          · exact HQ4.out q (by omega))
        have HKB := hide (fun w' => bare_any w' E1 E2 n1 q1 n2 q2 hm1 hm2)
        clear hlm hle hc2 hc3 hl2 hl3 hn1 hn2
        cases b
        · cases hbq : (decide (n1 = 0) && decide (n2 = 0))
          · rw [hbq] at HKB HBQ
            have HX : Hid (E = 3) := hide (by rw [HQ.out, if_pos]; rw [HG4.out]; exact all_not hlt (by rw [HF.out, HBQ.out]; rfl))
            clear hbq
            go_wp2_with fail
            refine (HKB.out _).mono ?_
            rintro e w3 ⟨rfl, hb3⟩
            go_wp2
            go_ret
            exact Ret.int HX.out.symm (bthen HBT.out hb3)
          · rw [hbq] at HKB HBQ
            have HX := hide (HN.out (by rw [HF.out, HBQ.out]; rfl))
            clear hbq
            go_wp2_with fail
            refine (HKB.out _).mono ?_
            rintro e w3 ⟨rfl, hb3⟩
            have HB3 := hide (bthen HB.out hb3)
            go_wp2
            go_roundw
            case rel => exact ⟨j + 1, by omega, by go_num, HB3, HX⟩
            case measure => simp [intOf]; omega
        · have HX := hide (HN.out (by rw [HF.out]; rfl))
          go_wp2
          go_roundw
          case rel => exact ⟨j + 1, by omega, by go_num, HB, HX⟩
          case measure => simp [intOf]; omega
      · obtain rfl : j = m := by omega
        have H4 : Hid (ok4 c i = true) := hide (by rw [HG4.out]; exact all_to HQ4.out)
        clear HG4 HQ4
        have y1 := keep1 HB.out xc
        obtain ⟨hpa, hpl⟩ := HP.out HI0.out
        have hg3 := keep1 HBT.out hpa.k3
        have HPL := hide hpl
        have HPV := hide hpa.l3
        rw [hpl] at hg3 HPV
        clear hpa hpl
        go_wp2
        go_loop [9] (fun i => ∃ q : Nat, q ≤ j ∧ i = .int .i64 q ∧ Hid (∀ z, z < q → f5 a.hv p.hv z = true)) (fun i => j - (intOf i).toNat)
        case atStart => exact ⟨0, Nat.zero_le _, rfl, hide fun q hq => absurd hq (Nat.not_lt_zero _)⟩
        case round =>
          obtain ⟨q, hq, rfl, HQ5⟩ := hrel
          by_cases hlt2 : q < j
          · have hja : q < a.hv.length := by rw [HM.out]; exact hlt2
            have hjb : q < p.hv.length := by rw [HPL.out]; exact hlt2
            obtain ⟨g3, off3, ys, e3', hz3, hl3, hc3, hr3⟩ := Lst.at_ HV.out hja
            cases e3'
            obtain ⟨g4, off4, zs, e4', hz4, hl4, hc4, hr4⟩ := Lst.at_ HPV.out hjb
            cases e4'
            have HF : Hid (f5 a.hv p.hv q = (!a.hv[q] || p.hv[q])) := hide (by simp [f5, hja, hjb])
            obtain ⟨b, hb⟩ : ∃ b, a.hv[q] = b := ⟨_, rfl⟩
            obtain ⟨b', hb'⟩ : ∃ b, p.hv[q] = b := ⟨_, rfl⟩
            rw [hb] at hr3 HF
            rw [hb'] at hr4 HF
            clear hb hb'
            obtain rfl := hr3
            obtain rfl := hr4
            have v0 := keep1 HBT.out (hc3 0 _ rfl)
            have v1 := keep1 HBT.out (hc4 0 _ rfl)
            rw [Nat.add_zero, Nat.mul_one] at v0 v1
            have ju0 : (0 : Int) ≤ (q : Int) := by omega
            have ju1 : (q : Int) < (j : Int) := by omega
            clear hc3 hl3 hc4 hl4
            have HN := hide (fun (h : f5 a.hv p.hv q = true) => show ∀ z, z < q + 1 → f5 a.hv p.hv z = true from fun z hz => by
              by_cases e : z = q
              · subst e; exact h
              · exact HQ5.out z (by omega))
            cases b
            · have HX := hide (HN.out (by rw [HF.out]; rfl))
              go_wp2
              go_round
              case rel => exact ⟨q + 1, by omega, by go_num, HX⟩
              case measure => simp [intOf]; omega
            · cases b'
              · have HX : Hid (E = 21) := hide (by
                  have h5 : ok5 c i = false := by rw [HG5.out HI0.out]; exact all_not hlt2 (by rw [HF.out]; rfl)
                  rw [HQ.out, H4.out, h5]; rfl)
                go_wp2
                go_ret
                exact Ret.int HX.out.symm HBT.out
              · have HX := hide (HN.out (by rw [HF.out]; rfl))
                go_wp2
                go_round
                case rel => exact ⟨q + 1, by omega, by go_num, HX⟩
                case measure => simp [intOf]; omega
          · obtain rfl : q = j := by omega
            have HX : Hid (E = 0) := hide (by
              have h5 : ok5 c i = true := by rw [HG5.out HI0.out]; exact all_to HQ5.out
              rw [HQ.out, H4.out, h5]; rfl)
            go_wp2
            go_ret
            exact Ret.int HX.out.symm HBT.out
end
end Go.Proofs.Ytihbonndinnohaa
