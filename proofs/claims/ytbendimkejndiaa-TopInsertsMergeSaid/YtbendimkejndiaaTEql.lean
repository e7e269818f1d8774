/- slices.Equal, of values. -/
import Derived.Test.YtbendimkejndiaaTSame2
namespace Go.Proofs.Ytbendimkejndiaa
open Go.RowKit
set_option linter.unusedVariables false
set_option linter.unusedSimpArgs false
section
variable (w : World)
set_option maxRecDepth 100000 in
set_option maxHeartbeats 4000000 in
theorem sleq_any (v u : Value) (l k : List V3) {Z Y : Nat → Prop} (hv : Lst w Z 3 RV0 v l) (hu : Lst w Y 3 RV0 u k) : Calls Try.prog 60 #[v, u] w (RetIff (l = k) w) := by
  obtain ⟨A, cap, rfl⟩ := hv.form
  obtain ⟨B, cap2, rfl⟩ := hu.form
  have hlen := hv.len
  have hlen2 := hu.len
  unfold maxLen at hlen hlen2
  by_cases hl : l.length = k.length
  · have HV := hide hv
    have HU := hide hu
    obtain ⟨m, hm⟩ : ∃ m, l.length = m := ⟨_, rfl⟩
    have hm2 : k.length = m := by omega
    rw [hm] at HV
    rw [hm2] at HU
    rw [hm, hm2]
    have HM := hide hm
    have HM2 := hide hm2
    have hml : m ≤ 9223372036854775807 := by omega
    clear hv hu hm hm2 hl hlen hlen2
    go_enter Try.func60, Try.ntmps60
    go_wp2
    go_loopw [13] (fun i wr => ∃ j : Nat, j ≤ m ∧ i = .int .i64 j ∧ Hid (l.take j = k.take j) ∧ Hid (Below w.heap.size w wr)) (fun i _ => m - (intOf i).toNat)
    case atStart => exact ⟨0, by omega, rfl, hide rfl, hide (Below.refl _ _)⟩
    case round =>
      obtain ⟨j, hj, rfl, HE, HB⟩ := hrel
      by_cases hlt : j < m
      · have hjl : j < l.length := by rw [HM.out]; exact hlt
        have hjk : j < k.length := by rw [HM2.out]; exact hlt
        obtain ⟨g, off, xs, e2, hg, hxl, hc, hR⟩ := HV.out.at_ hjl
        cases e2
        obtain ⟨g', off', ys, e3, hg', hyl, hc', hR'⟩ := HU.out.at_ hjk
        cases e3
        have HYS := hide (fun h => take_eq hjl hjk HE.out h)
        have HNO : Hid (l[j] ≠ k[j] → l ≠ k) := hide (fun h e => h (by subst e; rfl))
        obtain ⟨x, hx⟩ : ∃ x, l[j] = x := ⟨_, rfl⟩
        obtain ⟨y, hy⟩ : ∃ y, k[j] = y := ⟨_, rfl⟩
        rw [hx] at hR HYS HNO
        rw [hy] at hR' HYS HNO
        obtain ⟨rfl, -, -⟩ := hR
        obtain ⟨rfl, -, -⟩ := hR'
        have k0 := keep1 HB.out (hc 0 _ rfl)
        have k1 := keep1 HB.out (hc 1 _ rfl)
        have k2 := keep1 HB.out (hc 2 _ rfl)
        have m0 := keep1 HB.out (hc' 0 _ rfl)
        have m1 := keep1 HB.out (hc' 1 _ rfl)
        have m2 := keep1 HB.out (hc' 2 _ rfl)
        rw [Nat.add_zero] at k0 m0
        have hu0 : (0 : Int) ≤ (j : Int) := by omega
        have hu1 : (j : Int) < (m : Int) := by omega
        obtain ⟨xq, xn, xt⟩ := x
        obtain ⟨yq, yn, yt⟩ := y
        simp only at k0 k1 k2 m0 m1 m2
        clear hx hy hc hxl hc' hyl
        by_cases c1 : xq = yq
        · subst c1
          by_cases c2 : xn = yn
          · subst c2
            by_cases c3 : xt.toList = yt.toList
            · obtain rfl : xt = yt := toList_inj c3
              have HE2 := hide (HYS.out rfl)
              clear c3
              go_wp2_with fail
              go_region
              all_goals
                go_wp2
                go_roundw
                case rel => exact ⟨j + 1, by omega, by go_num, HE2, hide HB.out.drew⟩
                case measure => simp [intOf]; omega
            · have HF : Hid (l ≠ k) := hide (HNO.out (fun h => c3 (by injection h with _ _ h; rw [h])))
              go_wp2_with fail
              go_region
              all_goals
                go_wp2
                go_ret
                exact RetIff.no HF.out HB.out.drew
          · have HF : Hid (l ≠ k) := hide (HNO.out (fun h => c2 (by injection h)))
            go_wp2_with fail
            go_region
            all_goals
              go_wp2
              go_ret
              exact RetIff.no HF.out HB.out.drew
        · have HF : Hid (l ≠ k) := hide (HNO.out (fun h => c1 (by injection h)))
          go_wp2_with fail
          go_region
          all_goals
            go_wp2
            go_ret
            exact RetIff.no HF.out HB.out.drew
      · obtain rfl : j = m := by omega
        have HF : Hid (l = k) := hide (by
          have := HE.out
          rwa [List.take_of_length_le (by rw [HM.out]; exact Nat.le_refl _), List.take_of_length_le (by rw [HM2.out]; exact Nat.le_refl _)] at this)
        go_wp2
        go_ret
        exact RetIff.yes HF.out HB.out
  · have HF : Hid (l ≠ k) := hide (fun h => hl (by rw [h]))
    have t1 : ((l.length : Int) != (k.length : Int)) = true := bne_iff_ne.2 (by omega)
    clear hv hu hl
    go_enter Try.func60, Try.ntmps60
    go_wp2
    go_ret
    exact RetIff.no HF.out (Below.refl _ _)
end
end Go.Proofs.Ytbendimkejndiaa
