/- Same, of lists of events. -/
import Derived.Test.YtbendimkejndiaaTEq
namespace Go.Proofs.Ytbendimkejndiaa
open Go.RowKit
set_option linter.unusedVariables false
set_option linter.unusedSimpArgs false
theorem evt_eq (x : Evt) : (⟨x.a, x.b, x.c, x.d, x.vs⟩ : Evt) = x := rfl
section
variable (w : World)
set_option maxRecDepth 100000 in
set_option maxHeartbeats 4000000 in
theorem same_any (v u : Value) (l k : List Evt) (hv : Lst w (· < w.heap.size) 5 REv0 v l) (hu : Lst w (· < w.heap.size) 5 REv0 u k) : Calls Try.prog 8 #[v, u] w (RetIff (l = k) w) := by
  obtain ⟨A, cap, rfl⟩ := hv.form
  obtain ⟨B, cap2, rfl⟩ := hu.form
  have hlen := hv.len
  have hlen2 := hu.len
  unfold maxLen at hlen hlen2
  by_cases hl : l.length = k.length
  · have HV := hide hv
    have HU := hide hu
    obtain ⟨m, hm⟩ : ∃ m, l.length = m := ⟨_, rfl⟩
    have hm2 : k.length = m := by omega
    rw [hm] at HV
    rw [hm2] at HU
    rw [hm, hm2]
    have HM := hide hm
    have HM2 := hide hm2
    have hml : m ≤ 9223372036854775807 := by omega
    clear hv hu hm hm2 hl hlen hlen2
    go_enter Try.func8, Try.ntmps8
    go_wp2
    go_loopw [5] (fun i wr => ∃ j : Nat, j ≤ m ∧ i = .int .i64 j ∧ Hid (l.take j = k.take j) ∧ Hid (Below w.heap.size w wr)) (fun i _ => m - (intOf i).toNat)
    case atStart => exact ⟨0, by omega, rfl, hide rfl, hide (Below.refl _ _)⟩
    case round =>
      obtain ⟨j, hj, rfl, HE, HB⟩ := hrel
      by_cases hlt : j < m
      · have hjl : j < l.length := by rw [HM.out]; exact hlt
        have hjk : j < k.length := by rw [HM2.out]; exact hlt
        obtain ⟨g, off, xs, e2, hg, hxl, hc, hR⟩ := HV.out.at_ hjl
        cases e2
        obtain ⟨g', off', ys, e3, hg', hyl, hc', hR'⟩ := HU.out.at_ hjk
        cases e3
        have HYS := hide (fun h => take_eq hjl hjk HE.out h)
        have HNO : Hid (l[j] ≠ k[j] → l ≠ k) := hide (fun h e => h (by subst e; rfl))
        obtain ⟨x, hx⟩ : ∃ x, l[j] = x := ⟨_, rfl⟩
        obtain ⟨y, hy⟩ : ∃ y, k[j] = y := ⟨_, rfl⟩
        rw [hx] at hR HYS HNO
        rw [hy] at hR' HYS HNO
        obtain ⟨vx, rfl, hvx, -⟩ := hR
        obtain ⟨vy, rfl, hvy, -⟩ := hR'
        obtain ⟨A1, p1, rfl⟩ := hvx.form
        obtain ⟨A2, p2, rfl⟩ := hvy.form
        have k0 := keep1 HB.out (hc 0 _ rfl)
        have k1 := keep1 HB.out (hc 1 _ rfl)
        have k2 := keep1 HB.out (hc 2 _ rfl)
        have k3 := keep1 HB.out (hc 3 _ rfl)
        have k4 := keep1 HB.out (hc 4 _ rfl)
        have m0 := keep1 HB.out (hc' 0 _ rfl)
        have m1 := keep1 HB.out (hc' 1 _ rfl)
        have m2 := keep1 HB.out (hc' 2 _ rfl)
        have m3 := keep1 HB.out (hc' 3 _ rfl)
        have m4 := keep1 HB.out (hc' 4 _ rfl)
        rw [Nat.add_zero] at k0 m0
        have hu0 : (0 : Int) ≤ (j : Int) := by omega
        have hu1 : (j : Int) < (m : Int) := by omega
        have HEQ := hide (fun (w' : World) (h : Below w.heap.size w w') => equal_any w' x y A1 A2 p1 p2 ((hvx.keep rd_V0 (Kp.of_below h)).more rd_V0 (fun b hb => Nat.lt_of_lt_of_le hb h.size)) ((hvy.keep rd_V0 (Kp.of_below h)).more rd_V0 (fun b hb => Nat.lt_of_lt_of_le hb h.size)))
        clear hx hy hc hxl hc' hyl hvx hvy
        go_wp2_with fail
        go_region_held3 (fun w' => (w'.cell? ⟨g, off + j * 5, none⟩ = some (.int .i64 x.a) ∧ w'.cell? ⟨g, off + j * 5 + 1, none⟩ = some (.int .i64 x.b) ∧ w'.cell? ⟨g, off + j * 5 + 2, none⟩ = some (.int .i64 x.c) ∧ w'.cell? ⟨g, off + j * 5 + 3, none⟩ = some (.int .i64 x.d) ∧ w'.cell? ⟨g, off + j * 5 + 4, none⟩ = some (.slice A1 x.vs.length p1)) ∧ (w'.cell? ⟨g', off' + j * 5, none⟩ = some (.int .i64 y.a) ∧ w'.cell? ⟨g', off' + j * 5 + 1, none⟩ = some (.int .i64 y.b) ∧ w'.cell? ⟨g', off' + j * 5 + 2, none⟩ = some (.int .i64 y.c) ∧ w'.cell? ⟨g', off' + j * 5 + 3, none⟩ = some (.int .i64 y.d) ∧ w'.cell? ⟨g', off' + j * 5 + 4, none⟩ = some (.slice A2 y.vs.length p2)))
          (first
            | with_reducible exact ⟨⟨keep1 hb2 k0, keep1 hb2 k1, keep1 hb2 k2, keep1 hb2 k3, keep1 hb2 k4⟩, keep1 hb2 m0, keep1 hb2 m1, keep1 hb2 m2, keep1 hb2 m3, keep1 hb2 m4⟩
            | (go_keep; done))
          ((go_at_call 22; refine (HEQ.out _ HB.out.drew).mono ?_; rintro en w3 ⟨bb, hbb, rfl, hb'⟩; have hb2 : Below wr.heap.size wr w3 := below_undrew hb'; have HBB := hide hbb; clear hbb))
        have HB3 := hide (bthen HB.out hb2)
        cases bb
        · have HF : Hid (l ≠ k) := hide (HNO.out (fun h => by have := HBB.out.2 h; cases this))
          go_wp2
          go_ret
          exact RetIff.no HF.out HB3.out
        · have HE2 := hide (HYS.out (HBB.out.1 rfl))
          go_wp2
          go_roundw
          case rel => exact ⟨j + 1, by omega, by go_num, HE2, HB3⟩
          case measure => simp [intOf]; omega
      · obtain rfl : j = m := by omega
        have HF : Hid (l = k) := hide (by
          have := HE.out
          rwa [List.take_of_length_le (by rw [HM.out]; exact Nat.le_refl _), List.take_of_length_le (by rw [HM2.out]; exact Nat.le_refl _)] at this)
        go_wp2
        go_ret
        exact RetIff.yes HF.out HB.out
  · have HF : Hid (l ≠ k) := hide (fun h => hl (by rw [h]))
    have t1 : ((l.length : Int) != (k.length : Int)) = true := bne_iff_ne.2 (by omega)
    have t2 : (l.length != k.length) = true := bne_iff_ne.2 hl
    have t3 : ¬ (l.length : Int) = (k.length : Int) := by omega
    clear hv hu hl
    go_enter Try.func8, Try.ntmps8
    go_wp2
    go_ret
    exact RetIff.no HF.out (Below.refl _ _)
end
end Go.Proofs.Ytbendimkejndiaa
