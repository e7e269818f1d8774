/- The law that moves turn one assignment into another. -/
import Derived.Test.YtoafjlfidgjgbaaShifts
namespace Go.Proofs.Ytoafjlfidgjgbaa
open Go.RowKit
set_option linter.unusedVariables false
set_option linter.unusedSimpArgs false

set_option maxRecDepth 100000 in
set_option maxHeartbeats 2000000 in
theorem shifts_law (p q : Int) (a b : Nat) (w : World) (hp : p.tmod 8 = (a : Int)) (hq : q.tmod 8 = (b : Int)) (ha : a < 8) (hb : b < 8) :
    Calls Try.prog 6 #[.int .u8 p, .int .u8 q] w (Ret (.bool true) w) := by
  obtain ⟨L, B, N, hN, eL, eB, eN, eN', eC, eC', hLl, hab, hback, hat⟩ := sh_facts ha hb
  have hm1 := moves_any ((a : Int) + 1) ((b : Int) + 1)
  have hm2 := moves_any ((b : Int) + 1) ((a : Int) + 1)
  rw [eL, eN, eC] at hm1
  rw [eB, eN', eC'] at hm2
  have M1 := hide hm1
  have M2 := hide hm2
  have HBK := hide hback
  have HAT := hide hat
  have HL := hide hLl
  have HAB := hide hab
  clear eL eB eN eN' eC eC' hm1 hm2 hback hat hLl hab
  have t0 : ((a : Int) + 1 == (b : Int) + 1) = decide (a = b) := by rw [Bool.eq_iff_iff]; simp; omega
  go_enter Try.func6, Try.ntmps6
  go_wp2_with fail
  refine (M1.out _).mono ?_
  rintro e w1 ⟨u, rfl, hu, hb1⟩
  have HU := hide (Row.of_own hu)
  clear hu
  go_wp2_with fail
  refine (M2.out _).mono ?_
  rintro e w2 ⟨v, rfl, hv, hb2⟩
  have HV := hide (Row.of_own hv)
  clear hv
  have HU2 := hide ((HU.out.below hb2).more hb2.size)
  have HB2 := hide (bthen hb1 hb2)
  clear hb1 hb2 HU
  obtain ⟨A, cap, rfl⟩ := HU2.out.form
  obtain ⟨A', cap', rfl⟩ := HV.out.form
  have t1 : (decide (a = b) && decide (0 < N)) = false := by
    by_cases he : a = b
    · rw [HAB.out he]; simp
    · simp [he]
  generalize decide (a = b) = t at *
  have HT := hide t1
  clear t1
  have goal1 : t = true → decide (0 < N) = false := fun h => by have := HT.out; rw [h] at this; simpa using this
  cases t
  · clear goal1
    go_wp2_with fail
    go_loopw [64] (fun i wr => ∃ k : Nat, k ≤ N ∧ i = .int .i64 k ∧ Below w2.heap.size w2 wr) (fun i _ => N - (intOf i).toNat)
    case atStart => exact ⟨0, by omega, rfl, Below.refl _ _⟩
    case round =>
      obtain ⟨k, hk, rfl, hbr⟩ := hrel
      have HBR := hide hbr
      have hzr := hbr.size
      by_cases hlt : k < N
      · obtain ⟨p1, o1, c1, e1, h1, _, hc1⟩ := HU2.out.at_ (by omega)
        obtain ⟨p2, o2, c2, e2, h2, _, hc2⟩ := HV.out.at_ (by omega)
        cases e1
        cases e2
        obtain ⟨x0, x1, x2, ⟨a0, a1, a2⟩, b0, b1, b2⟩ := HBK.out k hlt
        have rd : ∀ {l : List Int} {p o j : Nat} {x : Int}, p < w2.heap.size → (∀ j u, (ints l)[j]? = some u → w2.cell? ⟨p, o + j, none⟩ = some u) → l[j]? = some x → wr.cell? ⟨p, o + j, none⟩ = some (.int .i64 x) := fun hp h hx => by
          rw [(bcell HBR.out).1 _ _ hp]; exact h _ _ (by simp [ints, hx])
        have d0 := rd h1 hc1 a0
        have d1 := rd h1 hc1 a1
        have d2 := rd h1 hc1 a2
        have f0 := rd h2 hc2 b0
        have f1 := rd h2 hc2 b1
        have f2 := rd h2 hc2 b2
        rw [← Nat.add_assoc] at d1 d2 f1 f2
        have hp1 : p1 < wr.heap.size := by omega
        have hp2 : p2 < wr.heap.size := by omega
        have e3 := eq3 x0 x2 x1 x0 x2 x1
        clear hbr rd a0 a1 a2 b0 b1 b2 hc1 hc2
        go_wp2_with fail
        go_quiet (fail)
        go_wp2
        go_roundw
        case rel => exact ⟨k + 1, by omega, by go_num, below_drewN (HBR.out.alloc HBR.out.size _) _⟩
        case measure => simp [intOf]; omega
      · obtain rfl : N = k := by omega
        clear hbr
        go_wp2_with fail
        go_loopw [82] (fun i wr => ∃ g : Nat, g ≤ 16 ∧ i = .int .i64 g ∧ Below w2.heap.size w2 wr) (fun i _ => 16 - (intOf i).toNat)
        case atStart => exact ⟨0, by omega, rfl, HBR.out⟩
        case round =>
          obtain ⟨g, hg, rfl, hbr⟩ := hrel
          have HBR := hide hbr
          have hzr := hbr.size
          clear hbr
          by_cases hlt : g < 16
          · go_wp2_with fail
            refine (worker_any _ _ _).mono ?_
            rw [show workerE (g : Int) ((a : Int) + 1) = 0 from if_pos (by omega)]
            rintro e w3 ⟨rfl, hb3⟩
            obtain ⟨hc3, hf3⟩ := bcell hb3
            have hz3 : wr.heap.size < w3.heap.size := by have := hb3.size; simp at this; omega
            go_wp2_with fail
            refine (worker_any _ _ _).mono ?_
            rw [show workerE (g : Int) ((b : Int) + 1) = 0 from if_pos (by omega)]
            rintro e w4 ⟨rfl, hb4⟩
            have box4 : w4.cell? ⟨wr.heap.size, 0, none⟩ = some (.int .i64 (g : Int)) := by
              rw [(bcell hb4).1 _ _ hz3, hc3 _ _ (by simp)]
              exact cells_lit wr [.int .i64 (g : Int)] _ 0 _ rfl
            have HB4 := hide ((HBR.out.alloc HBR.out.size _).trans ((bthen hb3 hb4).mono (by simp; omega)))
            have hz4 : wr.heap.size < w4.heap.size := Nat.lt_of_lt_of_le hz3 hb4.size
            clear hc3 hf3 hb3 hb4
            go_wp2_with fail
            refine (indexfunc_any _ N L (firsts L N) (g : Int) _ _ (by omega) (by simp [firsts]) (firsts_at HL.out) ((HU2.out.below HB4.out).more HB4.out.size) hz4 box4).mono ?_
            rcases HAT.out g hlt with ⟨hneg, hxy⟩ | ⟨k, hkN, hidx, hX, hY, hne⟩
            · rintro e w5 ⟨rfl, hb5⟩
              rw [hxy]
              generalize idx (g : Int) (firsts L N) 0 = at_ at hneg
              generalize workerV (g : Int) ((b : Int) + 1) = y
              have HB5 := hide (bthen HB4.out hb5)
              clear hxy hb5 box4
              go_wp2_with fail
              go_roundw
              case rel => exact ⟨g + 1, by omega, by go_num, HB5.out⟩
              case measure => simp [intOf]; omega
            · rw [hidx]
              rintro e w5 ⟨rfl, hb5⟩
              obtain ⟨p1, o1, c1, e1, h1, _, hc1⟩ := HU2.out.at_ (by omega)
              cases e1
              have HB5 := hide (bthen HB4.out hb5)
              have rd : ∀ {j : Nat} {x : Int}, L[j]? = some x → w5.cell? ⟨p1, o1 + j, none⟩ = some (.int .i64 x) := fun hx => by
                rw [(bcell HB5.out).1 _ _ h1]; exact hc1 _ _ (by simp [ints, hx])
              have d1 := rd hX
              have d2 := rd hY
              rw [← Nat.add_assoc] at d1 d2
              generalize workerV (g : Int) ((b : Int) + 1) = y at *
              generalize workerV (g : Int) ((a : Int) + 1) = x at *
              have t2 : (x == y) = false := by simpa using hne
              clear rd hX hY hb5 hc1 hne box4 hidx
              go_wp2_with fail
              go_roundw
              case rel => exact ⟨g + 1, by omega, by go_num, HB5.out⟩
              case measure => simp [intOf]; omega
          · obtain rfl : g = 16 := by omega
            go_wp2_with fail
            refine (awake_any _).mono ?_
            rintro e w5 ⟨rfl, hb5⟩
            go_wp2
            go_ret
            exact Ret.bool rfl (bthen (bthen HB2.out HBR.out) hb5)
  · have g1 := goal1 rfl
    clear goal1
    go_wp2_with fail
    go_loopw [64] (fun i wr => ∃ k : Nat, k ≤ N ∧ i = .int .i64 k ∧ Below w2.heap.size w2 wr) (fun i _ => N - (intOf i).toNat)
    case atStart => exact ⟨0, by omega, rfl, Below.refl _ _⟩
    case round =>
      obtain ⟨k, hk, rfl, hbr⟩ := hrel
      have HBR := hide hbr
      have hzr := hbr.size
      by_cases hlt : k < N
      · obtain ⟨p1, o1, c1, e1, h1, _, hc1⟩ := HU2.out.at_ (by omega)
        obtain ⟨p2, o2, c2, e2, h2, _, hc2⟩ := HV.out.at_ (by omega)
        cases e1
        cases e2
        obtain ⟨x0, x1, x2, ⟨a0, a1, a2⟩, b0, b1, b2⟩ := HBK.out k hlt
        have rd : ∀ {l : List Int} {p o j : Nat} {x : Int}, p < w2.heap.size → (∀ j u, (ints l)[j]? = some u → w2.cell? ⟨p, o + j, none⟩ = some u) → l[j]? = some x → wr.cell? ⟨p, o + j, none⟩ = some (.int .i64 x) := fun hp h hx => by
          rw [(bcell HBR.out).1 _ _ hp]; exact h _ _ (by simp [ints, hx])
        have d0 := rd h1 hc1 a0
        have d1 := rd h1 hc1 a1
        have d2 := rd h1 hc1 a2
        have f0 := rd h2 hc2 b0
        have f1 := rd h2 hc2 b1
        have f2 := rd h2 hc2 b2
        rw [← Nat.add_assoc] at d1 d2 f1 f2
        have hp1 : p1 < wr.heap.size := by omega
        have hp2 : p2 < wr.heap.size := by omega
        have e3 := eq3 x0 x2 x1 x0 x2 x1
        clear hbr rd a0 a1 a2 b0 b1 b2 hc1 hc2
        go_wp2_with fail
        go_quiet (fail)
        go_wp2
        go_roundw
        case rel => exact ⟨k + 1, by omega, by go_num, below_drewN (HBR.out.alloc HBR.out.size _) _⟩
        case measure => simp [intOf]; omega
      · obtain rfl : N = k := by omega
        clear hbr
        go_wp2_with fail
        go_loopw [82] (fun i wr => ∃ g : Nat, g ≤ 16 ∧ i = .int .i64 g ∧ Below w2.heap.size w2 wr) (fun i _ => 16 - (intOf i).toNat)
        case atStart => exact ⟨0, by omega, rfl, HBR.out⟩
        case round =>
          obtain ⟨g, hg, rfl, hbr⟩ := hrel
          have HBR := hide hbr
          have hzr := hbr.size
          clear hbr
          by_cases hlt : g < 16
          · go_wp2_with fail
            refine (worker_any _ _ _).mono ?_
            rw [show workerE (g : Int) ((a : Int) + 1) = 0 from if_pos (by omega)]
            rintro e w3 ⟨rfl, hb3⟩
            obtain ⟨hc3, hf3⟩ := bcell hb3
            have hz3 : wr.heap.size < w3.heap.size := by have := hb3.size; simp at this; omega
            go_wp2_with fail
            refine (worker_any _ _ _).mono ?_
            rw [show workerE (g : Int) ((b : Int) + 1) = 0 from if_pos (by omega)]
            rintro e w4 ⟨rfl, hb4⟩
            have box4 : w4.cell? ⟨wr.heap.size, 0, none⟩ = some (.int .i64 (g : Int)) := by
              rw [(bcell hb4).1 _ _ hz3, hc3 _ _ (by simp)]
              exact cells_lit wr [.int .i64 (g : Int)] _ 0 _ rfl
            have HB4 := hide ((HBR.out.alloc HBR.out.size _).trans ((bthen hb3 hb4).mono (by simp; omega)))
            have hz4 : wr.heap.size < w4.heap.size := Nat.lt_of_lt_of_le hz3 hb4.size
            clear hc3 hf3 hb3 hb4
            go_wp2_with fail
            refine (indexfunc_any _ N L (firsts L N) (g : Int) _ _ (by omega) (by simp [firsts]) (firsts_at HL.out) ((HU2.out.below HB4.out).more HB4.out.size) hz4 box4).mono ?_
            rcases HAT.out g hlt with ⟨hneg, hxy⟩ | ⟨k, hkN, hidx, hX, hY, hne⟩
            · rintro e w5 ⟨rfl, hb5⟩
              rw [hxy]
              generalize idx (g : Int) (firsts L N) 0 = at_ at hneg
              generalize workerV (g : Int) ((b : Int) + 1) = y
              have HB5 := hide (bthen HB4.out hb5)
              clear hxy hb5 box4
              go_wp2_with fail
              go_roundw
              case rel => exact ⟨g + 1, by omega, by go_num, HB5.out⟩
              case measure => simp [intOf]; omega
            · rw [hidx]
              rintro e w5 ⟨rfl, hb5⟩
              obtain ⟨p1, o1, c1, e1, h1, _, hc1⟩ := HU2.out.at_ (by omega)
              cases e1
              have HB5 := hide (bthen HB4.out hb5)
              have rd : ∀ {j : Nat} {x : Int}, L[j]? = some x → w5.cell? ⟨p1, o1 + j, none⟩ = some (.int .i64 x) := fun hx => by
                rw [(bcell HB5.out).1 _ _ h1]; exact hc1 _ _ (by simp [ints, hx])
              have d1 := rd hX
              have d2 := rd hY
              rw [← Nat.add_assoc] at d1 d2
              generalize workerV (g : Int) ((b : Int) + 1) = y at *
              generalize workerV (g : Int) ((a : Int) + 1) = x at *
              have t2 : (x == y) = false := by simpa using hne
              clear rd hX hY hb5 hc1 hne box4 hidx
              go_wp2_with fail
              go_roundw
              case rel => exact ⟨g + 1, by omega, by go_num, HB5.out⟩
              case measure => simp [intOf]; omega
          · obtain rfl : g = 16 := by omega
            go_wp2_with fail
            refine (awake_any _).mono ?_
            rintro e w5 ⟨rfl, hb5⟩
            go_wp2
            go_ret
            exact Ret.bool rfl (bthen (bthen HB2.out HBR.out) hb5)
end Go.Proofs.Ytoafjlfidgjgbaa
