/- The law of the ranges: they cover all key groups. -/
import Derived.Test.YtoafjlfidgjgbaaAwake
import Derived.Test.YtoafjlfidgjgbaaRRange
namespace Go.Proofs.Ytoafjlfidgjgbaa
open Go.RowKit
set_option linter.unusedVariables false
set_option linter.unusedSimpArgs false

/-- Where worker k's range begins; the least and the greatest size so far. -/
def cN (m : Nat) : Nat → Nat
  | 0 => 0
  | k + 1 => (rf (sel (k : Int) ((m : Int) + 1) 16)).2.toNat
def cL (m : Nat) : Nat → Nat
  | 0 => 16
  | k + 1 => min (cL m k) ((rf (sel (k : Int) ((m : Int) + 1) 16)).2.toNat - (rf (sel (k : Int) ((m : Int) + 1) 16)).1.toNat)
def cM (m : Nat) : Nat → Nat
  | 0 => 0
  | k + 1 => max (cM m k) ((rf (sel (k : Int) ((m : Int) + 1) 16)).2.toNat - (rf (sel (k : Int) ((m : Int) + 1) 16)).1.toNat)
theorem c_next : ∀ m ∈ List.range 8, ∀ k ∈ List.range (m + 1), (rf (sel (k : Int) ((m : Int) + 1) 16)).1.toNat = cN m k := by decide +kernel
theorem c_end : ∀ m ∈ List.range 8, cN m (m + 1) = 16 ∧ cM m (m + 1) - cL m (m + 1) ≤ 1 ∧ cL m (m + 1) ≤ 16 ∧ cM m (m + 1) ≤ 16 ∧ cL m (m + 1) = 16 / (m + 1) := by decide +kernel
theorem c_le : ∀ m ∈ List.range 8, ∀ k ∈ List.range (m + 2), cL m k ≤ 16 ∧ cM m k ≤ 16 ∧ cN m k ≤ 16 := by decide +kernel
theorem c_facts {m k : Nat} (hm : m < 8) (hk : k < m + 1) : ∃ F L : Nat, rngX k ((m : Int) + 1) = F ∧ rngY k ((m : Int) + 1) = L ∧ rngE k ((m : Int) + 1) = 0 ∧ cN m k = F ∧ F ≤ L ∧ L ≤ 16 ∧ cN m (k + 1) = L ∧
    cL m (k + 1) = min (cL m k) (L - F) ∧ cM m (k + 1) = max (cM m k) (L - F) ∧ cL m k ≤ 16 ∧ cM m k ≤ 16 ∧
    ∀ g : Nat, F ≤ g → g < L → workerV g ((m : Int) + 1) = k ∧ workerE g ((m : Int) + 1) = 0 := by
  have hin : (1 ≤ (m : Int) + 1 ∧ (m : Int) + 1 ≤ 8) ∧ 0 ≤ (k : Int) ∧ (k : Int) < (m : Int) + 1 := by omega
  obtain ⟨F, L, e, h1, h2, h3, _, _, hmid, _⟩ := rng_facts hin.1.1 hin.1.2 hin.2.1 hin.2.2
  have hn := c_next m (by simp; omega) k (by simp; omega)
  have hl := c_le m (by simp; omega) k (by simp; omega)
  rw [e] at hn
  refine ⟨F, L, ?_, ?_, if_pos hin, ?_, h1, h2, ?_, ?_, ?_, hl.1, hl.2.1, fun g hg hg' => ?_⟩
  · rw [show rngX k ((m : Int) + 1) = _ from if_pos hin, e]
  · rw [show rngY k ((m : Int) + 1) = _ from if_pos hin, e]
  · rw [← hn]; simp
  · rw [cN, e]; simp
  · rw [cL, e]; simp
  · rw [cM, e]; simp
  · have hw : 0 ≤ (g : Int) ∧ (g : Int) < 16 ∧ 1 ≤ (m : Int) + 1 ∧ (m : Int) + 1 ≤ 8 := by omega
    exact ⟨(if_pos hw).trans (hmid g hg hg'), if_pos hw⟩

set_option maxHeartbeats 400000 in
theorem covers_law (n : Int) (m : Nat) (w : World) (hn : n.tmod 8 = (m : Int)) (hm : m < 8) :
    Calls Try.prog 9 #[.int .u8 n] w (Ret (.bool true) w) := by
  go_enter Try.func9, Try.ntmps9
  go_wp2_with fail
  go_loopw [4, 5, 6, 19] (fun v l o i wr => ∃ k : Nat, k ≤ m + 1 ∧ v = .int .i64 (cN m k) ∧ l = .int .i64 (cL m k) ∧ o = .int .i64 (cM m k) ∧ i = .int .i64 k ∧ Below w.heap.size w wr) (fun _ _ _ i _ => m + 1 - (intOf i).toNat)
  case atStart => exact ⟨0, by omega, rfl, rfl, rfl, rfl, Below.refl _ _⟩
  case round =>
    obtain ⟨k, hk, rfl, rfl, rfl, rfl, hB⟩ := hrel
    by_cases hlt : k < m + 1
    · obtain ⟨F, L, hX, hY, hE, hF, hFL, hL, hN', hL', hM', hl, hm16, hmid⟩ := c_facts hm hlt
      have HB := hide hB
      have HN := hide hN'
      have HL := hide hL'
      have HM := hide hM'
      have HMID := hide hmid
      clear hB hN' hL' hM' hmid
      have hEX := hX
      go_wp2_with fail
      refine (range_any _ _ _).mono ?_
      rw [hX, hY, hE]
      rintro e w1 ⟨rfl, hb1⟩
      have HB1 := hide (HB.out.trans (hb1.mono HB.out.size))
      clear hX hY hE hEX hb1
      have q1 : decide (L < F) = false := by simpa using hFL
      have q2 : decide ((16 : Int) < (L : Int)) = false := by simp; omega
      go_wp2_with fail
      go_loopw [11] (fun i wr => ∃ g : Nat, F ≤ g ∧ g ≤ L ∧ i = .int .i64 g ∧ Below w.heap.size w wr) (fun i _ => L - (intOf i).toNat)
      case atStart => exact ⟨F, by omega, by omega, rfl, HB1.out⟩
      case round =>
        obtain ⟨g, hg1, hg2, rfl, hB2⟩ := hrel
        by_cases hlt2 : g < L
        · obtain ⟨eV, eE⟩ := HMID.out g hg1 hlt2
          have HB2 := hide hB2
          clear hB2
          go_wp2_with fail
          refine (worker_any _ _ _).mono ?_
          rw [eV, eE]
          rintro e w2 ⟨rfl, hb2⟩
          have HB3 := hide (HB2.out.trans (hb2.mono HB2.out.size))
          clear hb2 eV eE
          go_wp2_with fail
          go_roundw
          case rel => exact ⟨g + 1, by omega, by omega, by go_num, HB3.out⟩
          case measure => simp [intOf]; omega
        · obtain rfl : g = L := by omega
          have HB2 := hide hB2
          clear hB2
          go_wp2_with fail
          go_roundw
          case rel => exact ⟨k + 1, by omega, by rw [HN.out], by rw [HL.out]; go_num, by rw [HM.out]; go_num, by go_num, HB2.out⟩
          case measure => simp [intOf]; omega
    · obtain rfl : k = m + 1 := by omega
      obtain ⟨e1, e2, e3, e4, e5⟩ := c_end m (by simp; omega)
      rw [e1]
      generalize cL m (m + 1) = lv at *
      generalize cM m (m + 1) = mv at *
      have t1 : ((lv : Int) == 16 / ((m : Int) + 1)) = true := by rw [beq_iff_eq, e5]; simp
      have t2 : decide ((mv : Int) - (lv : Int) ≤ 1) = true := by simp; omega
      clear e5 e2
      have HB := hide hB
      clear hB
      go_wp2_with fail
      refine (awake_any _).mono ?_
      rintro e w5 ⟨rfl, hb5⟩
      go_wp2
      go_ret
      exact Ret.bool rfl (bthen HB.out hb5)
end Go.Proofs.Ytoafjlfidgjgbaa
