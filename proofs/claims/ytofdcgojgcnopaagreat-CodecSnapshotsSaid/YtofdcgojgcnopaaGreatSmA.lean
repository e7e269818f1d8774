/- SameConfig. SameEngine. FewEngine; what it bounds. Arguments, opened: engines. -/
import Derived.Test.YtofdcgojgcnopaaGreatCSame2
import Derived.Test.YtofdcgojgcnopaaGreatDRel2
import Derived.Deep.RegionHeld3
import Derived.Test.YtofdcgojgcnopaaGreatCFew
import Derived.Test.YtofdcgojgcnopaaGreatWBase
import Derived.Test.YtofdcgojgcnopaaGreatCOpen
namespace Go.Proofs.YtofdcgojgcnopaaGreat
open Go.RowKit
set_option linter.unusedVariables false
set_option linter.unusedSimpArgs false
section
variable (w : World)
set_option maxRecDepth 100000 in
set_option maxHeartbeats 8000000 in
theorem samecf_any (x y : Cfg) (xs ys : List Value) (hx : RCf w (· < w.heap.size) xs x) (hy : RCf w (· < w.heap.size) ys y) : Calls Tryz.prog 86 #[.agg xs.toArray, .agg ys.toArray] w (RetIff (x = y) w) := by
  obtain ⟨sx, bx, qx⟩ := x
  obtain ⟨sy, by_, qy⟩ := y
  obtain ⟨u1, u2, rfl, h1, h2, -⟩ := hx
  obtain ⟨v1, v2, rfl, k1, k2, -⟩ := hy
  obtain ⟨A1, c1, rfl⟩ := h1.form
  obtain ⟨A2, c2, rfl⟩ := h2.form
  obtain ⟨B1, d1, rfl⟩ := k1.form
  obtain ⟨B2, d2, rfl⟩ := k2.form
  simp only at *
  by_cases e1 : sx = sy
  · subst e1
    by_cases e2 : bx.length = by_.length
    · by_cases e3 : qx.length = qy.length
      · have g1 := h1.len
        have g2 := h2.len
        unfold maxLen at g1 g2
        obtain ⟨n1, hn1⟩ : ∃ n, bx.length = n := ⟨_, rfl⟩
        obtain ⟨n2, hn2⟩ : ∃ n, qx.length = n := ⟨_, rfl⟩
        have hm1 : by_.length = n1 := by omega
        have hm2 : qy.length = n2 := by omega
        rw [hn1] at h1 g1 ⊢
        rw [hn2] at h2 g2 ⊢
        rw [hm1] at k1 ⊢
        rw [hm2] at k2 ⊢
        have HMn1 := hide hn1
        have HMn2 := hide hn2
        have HNn1 := hide hm1
        have HNn2 := hide hm2
        have hB := (below_laid (w := w) (.cells #[.int .i64 sx, .slice A1 n1 c1, .slice A2 n2 c2] 83)).alloc (by simp) (.cells #[.int .i64 sx, .slice B1 n1 d1, .slice B2 n2 d2] 83)
        have hX := fun c u h => keep1 (below_laid (.cells #[.int .i64 sx, .slice B1 n1 d1, .slice B2 n2 d2] 83)) (cells_lit w [.int .i64 sx, .slice A1 n1 c1, .slice A2 n2 c2] 83 c u h)
        have hY := cells_lit (w.alloc (.cells #[.int .i64 sx, .slice A1 n1 c1, .slice A2 n2 c2] 83)) [.int .i64 sx, .slice B1 n1 d1, .slice B2 n2 d2] 83
        rw [World.size_alloc] at hY
        clear hn1 hn2 hm1 hm2 e2 e3
        go_enter Tryz.func86, Tryz.ntmps86
        go_wp2
        obtain ⟨W0, hW⟩ : ∃ W0, (w.alloc (.cells #[.int .i64 sx, .slice A1 n1 c1, .slice A2 n2 c2] 83)).alloc (.cells #[.int .i64 sx, .slice B1 n1 d1, .slice B2 n2 d2] 83) = W0 := ⟨_, rfl⟩
        rw [hW] at hB hX hY ⊢
        have HB00 := hide hB
        have HBX : Hid (∀ c u, ([.int .i64 sx, .slice A1 n1 c1, .slice A2 n2 c2] : List Value)[c]? = some u → W0.cell? ⟨w.heap.size, c, none⟩ = some u) := hide hX
        have HBY : Hid (∀ c u, ([.int .i64 sx, .slice B1 n1 d1, .slice B2 n2 d2] : List Value)[c]? = some u → W0.cell? ⟨w.heap.size + 1, c, none⟩ = some u) := hide hY
        have HL1 := hide (h1.keep rd_Bn (Kp.of_below hB))
        have HL2 := hide (h2.keep rd_Sr (Kp.of_below hB))
        have HK1 := hide (k1.keep rd_Bn (Kp.of_below hB))
        have HK2 := hide (k2.keep rd_Sr (Kp.of_below hB))
        clear hW hB hX hY h1 h2 k1 k2
        go_loopw [5] (fun i wr => ∃ j : Nat, j ≤ n1 ∧ i = .int .i64 j ∧ Hid (bx.take j = by_.take j) ∧ Hid (Below W0.heap.size W0 wr)) (fun i _ => n1 - (intOf i).toNat)
        case atStart => exact ⟨0, by omega, rfl, hide rfl, hide (Below.refl _ _)⟩
        case round =>
          obtain ⟨j, hj, rfl, HE, HB⟩ := hrel
          have hx := fun c u h => keep1 HB.out (HBX.out c u h)
          have hy := fun c u h => keep1 HB.out (HBY.out c u h)
          have b1 := hx 1 _ rfl
          have d1 := hy 1 _ rfl
          clear hx hy
          by_cases hlt : j < n1
          · have hjl : j < bx.length := by rw [HMn1.out]; exact hlt
            have hjk : j < by_.length := by rw [HNn1.out]; exact hlt
            obtain ⟨g, off, xs, e2, hg, hxl, hc, hR⟩ := HL1.out.at_ hjl
            cases e2
            obtain ⟨g', off', ys, e3, hg', hyl, hc', hR'⟩ := HK1.out.at_ hjk
            cases e3
            have HYS := hide (fun h => take_eq hjl hjk HE.out h)
            have HNO : Hid (bx[j] ≠ by_[j] → bx ≠ by_) := hide (fun h e => h (by subst e; rfl))
            obtain ⟨p, hp⟩ : ∃ p, bx[j] = p := ⟨_, rfl⟩
            obtain ⟨r, hr⟩ : ∃ r, by_[j] = r := ⟨_, rfl⟩
            rw [hp] at hR HYS HNO
            rw [hr] at hR' HYS HNO
            obtain ⟨rfl, -⟩ := hR
            obtain ⟨rfl, -⟩ := hR'
            have k0 := keep1 HB.out (hc 0 _ rfl)
            have m0 := keep1 HB.out (hc' 0 _ rfl)
            have k1 := keep1 HB.out (hc 1 _ rfl)
            have m1 := keep1 HB.out (hc' 1 _ rfl)
            have k2 := keep1 HB.out (hc 2 _ rfl)
            have m2 := keep1 HB.out (hc' 2 _ rfl)
            have k3 := keep1 HB.out (hc 3 _ rfl)
            have m3 := keep1 HB.out (hc' 3 _ rfl)
            rw [Nat.add_zero] at k0 m0
            have hu0 : (0 : Int) ≤ (j : Int) := by omega
            have hu1 : (j : Int) < (n1 : Int) := by omega
            obtain ⟨pv, pt, ps, pq⟩ := p
            obtain ⟨rv, rt, rs, rq⟩ := r
            simp only at k0 m0 k1 m1 k2 m2 k3 m3
            clear hp hr hc hxl hc' hyl
            by_cases q0 : pv = rv
            · subst q0
              by_cases q1 : pt = rt
              · subst q1
                by_cases q2 : ps = rs
                · subst q2
                  by_cases q3 : pq = rq
                  · subst q3
                    have HE2 := hide (HYS.out rfl)
                    go_wp2_with fail
                    go_quiet (fail)
                    go_wp2
                    go_roundw
                    case rel => exact ⟨j + 1, by omega, by go_num, HE2, hide (below_drewN HB.out _)⟩
                    case measure => simp [intOf]; omega
                  · have HF := hide (fun h : (⟨sx, bx, qx⟩ : Cfg) = ⟨sx, by_, qy⟩ => (HNO.out (fun h => q3 (by injection h))) (by injection h))
                    have tne : (pq == rq) = false := beq_eq_false_iff_ne.2 q3
                    go_wp2_with fail
                    go_quiet (fail)
                    go_wp2
                    go_ret
                    exact RetIff.no HF.out (below_drewN (HB00.out.trans (HB.out.mono HB00.out.size)) _)
                · have HF := hide (fun h : (⟨sx, bx, qx⟩ : Cfg) = ⟨sx, by_, qy⟩ => (HNO.out (fun h => q2 (by injection h))) (by injection h))
                  have tne : (ps == rs) = false := beq_eq_false_iff_ne.2 q2
                  go_wp2_with fail
                  go_quiet (fail)
                  go_wp2
                  go_ret
                  exact RetIff.no HF.out (below_drewN (HB00.out.trans (HB.out.mono HB00.out.size)) _)
              · have HF := hide (fun h : (⟨sx, bx, qx⟩ : Cfg) = ⟨sx, by_, qy⟩ => (HNO.out (fun h => q1 (by injection h))) (by injection h))
                have tne : (pt == rt) = false := beq_eq_false_iff_ne.2 q1
                go_wp2_with fail
                go_quiet (fail)
                go_wp2
                go_ret
                exact RetIff.no HF.out (below_drewN (HB00.out.trans (HB.out.mono HB00.out.size)) _)
            · have HF := hide (fun h : (⟨sx, bx, qx⟩ : Cfg) = ⟨sx, by_, qy⟩ => (HNO.out (fun h => q0 (by injection h))) (by injection h))
              have tne : (pv == rv) = false := beq_eq_false_iff_ne.2 q0
              go_wp2_with fail
              go_quiet (fail)
              go_wp2
              go_ret
              exact RetIff.no HF.out (below_drewN (HB00.out.trans (HB.out.mono HB00.out.size)) _)
          · obtain rfl : j = n1 := by omega
            have HQ1 : Hid (bx = by_) := hide (by
              have := HE.out
              rwa [List.take_of_length_le (by rw [HMn1.out]; exact Nat.le_refl _), List.take_of_length_le (by rw [HNn1.out]; exact Nat.le_refl _)] at this)
            go_wp2
            go_loopw [6] (fun i wr => ∃ j : Nat, j ≤ n2 ∧ i = .int .i64 j ∧ Hid (qx.take j = qy.take j) ∧ Hid (Below W0.heap.size W0 wr)) (fun i _ => n2 - (intOf i).toNat)
            case atStart => exact ⟨0, by omega, rfl, hide rfl, HB⟩
            case round =>
              obtain ⟨j, hj, rfl, HE, HB⟩ := hrel
              have hx := fun c u h => keep1 HB.out (HBX.out c u h)
              have hy := fun c u h => keep1 HB.out (HBY.out c u h)
              have b2 := hx 2 _ rfl
              have d2 := hy 2 _ rfl
              clear hx hy
              by_cases hlt : j < n2
              · have hjl : j < qx.length := by rw [HMn2.out]; exact hlt
                have hjk : j < qy.length := by rw [HNn2.out]; exact hlt
                obtain ⟨g, off, xs, e2, hg, hxl, hc, hR⟩ := HL2.out.at_ hjl
                cases e2
                obtain ⟨g', off', ys, e3, hg', hyl, hc', hR'⟩ := HK2.out.at_ hjk
                cases e3
                have HYS := hide (fun h => take_eq hjl hjk HE.out h)
                have HNO : Hid (qx[j] ≠ qy[j] → qx ≠ qy) := hide (fun h e => h (by subst e; rfl))
                obtain ⟨p, hp⟩ : ∃ p, qx[j] = p := ⟨_, rfl⟩
                obtain ⟨r, hr⟩ : ∃ r, qy[j] = r := ⟨_, rfl⟩
                rw [hp] at hR HYS HNO
                rw [hr] at hR' HYS HNO
                obtain ⟨rfl, -⟩ := hR
                obtain ⟨rfl, -⟩ := hR'
                have k0 := keep1 HB.out (hc 0 _ rfl)
                have m0 := keep1 HB.out (hc' 0 _ rfl)
                have k1 := keep1 HB.out (hc 1 _ rfl)
                have m1 := keep1 HB.out (hc' 1 _ rfl)
                rw [Nat.add_zero] at k0 m0
                have hu0 : (0 : Int) ≤ (j : Int) := by omega
                have hu1 : (j : Int) < (n2 : Int) := by omega
                obtain ⟨ps, pt⟩ := p
                obtain ⟨rs, rt⟩ := r
                simp only at k0 m0 k1 m1
                clear hp hr hc hxl hc' hyl
                by_cases q0 : ps = rs
                · subst q0
                  by_cases q1 : pt = rt
                  · subst q1
                    have HE2 := hide (HYS.out rfl)
                    go_wp2_with fail
                    go_quiet (fail)
                    go_wp2
                    go_roundw
                    case rel => exact ⟨j + 1, by omega, by go_num, HE2, hide (below_drewN HB.out _)⟩
                    case measure => simp [intOf]; omega
                  · have HF := hide (fun h : (⟨sx, bx, qx⟩ : Cfg) = ⟨sx, by_, qy⟩ => (HNO.out (fun h => q1 (by injection h))) (by injection h))
                    have tne : (pt == rt) = false := beq_eq_false_iff_ne.2 q1
                    go_wp2_with fail
                    go_quiet (fail)
                    go_wp2
                    go_ret
                    exact RetIff.no HF.out (below_drewN (HB00.out.trans (HB.out.mono HB00.out.size)) _)
                · have HF := hide (fun h : (⟨sx, bx, qx⟩ : Cfg) = ⟨sx, by_, qy⟩ => (HNO.out (fun h => q0 (by injection h))) (by injection h))
                  have tne : (ps == rs) = false := beq_eq_false_iff_ne.2 q0
                  go_wp2_with fail
                  go_quiet (fail)
                  go_wp2
                  go_ret
                  exact RetIff.no HF.out (below_drewN (HB00.out.trans (HB.out.mono HB00.out.size)) _)
              · obtain rfl : j = n2 := by omega
                have HQ2 : Hid (qx = qy) := hide (by
                  have := HE.out
                  rwa [List.take_of_length_le (by rw [HMn2.out]; exact Nat.le_refl _), List.take_of_length_le (by rw [HNn2.out]; exact Nat.le_refl _)] at this)
                have HF : Hid ((⟨sx, bx, qx⟩ : Cfg) = ⟨sx, by_, qy⟩) := hide (by rw [HQ1.out, HQ2.out])
                go_wp2
                go_ret
                exact RetIff.yes HF.out (HB00.out.trans (HB.out.mono HB00.out.size))
      · skip
        have HF : Hid ((⟨sx, bx, qx⟩ : Cfg) ≠ ⟨sx, by_, qy⟩) := hide (fun h => e3 (congrArg (fun z : Cfg => z.ss.length) h))
        have t3 : ((bx.length : Int) != (by_.length : Int)) = false := bne_eq_false_iff_eq.2 (by omega)
        have t4 : ((qx.length : Int) != (qy.length : Int)) = true := bne_iff_ne.2 (by omega)
        clear h1 h2 k1 k2 e2 e3
        go_enter Tryz.func86, Tryz.ntmps86
        go_wp2
        go_ret
        exact RetIff.no HF.out ((below_laid _).alloc (by simp) _)
    · skip
      have HF : Hid ((⟨sx, bx, qx⟩ : Cfg) ≠ ⟨sx, by_, qy⟩) := hide (fun h => e2 (congrArg (fun z : Cfg => z.bs.length) h))
      have t4 : ((bx.length : Int) != (by_.length : Int)) = true := bne_iff_ne.2 (by omega)
      clear h1 h2 k1 k2 e2
      go_enter Tryz.func86, Tryz.ntmps86
      go_wp2
      go_ret
      exact RetIff.no HF.out ((below_laid _).alloc (by simp) _)
  · skip
    have HF : Hid ((⟨sx, bx, qx⟩ : Cfg) ≠ ⟨sy, by_, qy⟩) := hide (fun h => e1 (congrArg Cfg.st h))
    have t1 : (sx != sy) = true := bne_iff_ne.2 e1
    clear h1 h2 k1 k2 e1
    go_enter Tryz.func86, Tryz.ntmps86
    go_wp2
    go_ret
    exact RetIff.no HF.out ((below_laid _).alloc (by simp) _)
end
end Go.Proofs.YtofdcgojgcnopaaGreat

namespace Go.Proofs.YtofdcgojgcnopaaGreat
open Go.RowKit
set_option linter.unusedVariables false
set_option linter.unusedSimpArgs false
section
variable (w : World)
set_option maxRecDepth 100000 in
set_option maxHeartbeats 8000000 in
theorem sameen_any (x y : Eng) (xs ys : List Value) (hx : REn w (· < w.heap.size) xs x) (hy : REn w (· < w.heap.size) ys y) : Calls Tryz.prog 61 #[.agg xs.toArray, .agg ys.toArray] w (RetIff (x = y) w) := by
  obtain ⟨sx, bx, qx, rx⟩ := x
  obtain ⟨sy, by_, qy, ry⟩ := y
  obtain ⟨u1, u2, u3, rfl, h1, h2, h3, -⟩ := hx
  obtain ⟨v1, v2, v3, rfl, k1, k2, k3, -⟩ := hy
  obtain ⟨A1, c1, rfl⟩ := h1.form
  obtain ⟨A2, c2, rfl⟩ := h2.form
  obtain ⟨A3, c3, rfl⟩ := h3.form
  obtain ⟨B1, d1, rfl⟩ := k1.form
  obtain ⟨B2, d2, rfl⟩ := k2.form
  obtain ⟨B3, d3, rfl⟩ := k3.form
  simp only at *
  by_cases e1 : sx = sy
  · subst e1
    by_cases e2 : qx.length = qy.length
    · have g2 := h2.len
      unfold maxLen at g2
      obtain ⟨n2, hn2⟩ : ∃ n, qx.length = n := ⟨_, rfl⟩
      have hm2 : qy.length = n2 := by omega
      rw [hn2] at h2 g2 ⊢
      rw [hm2] at k2 ⊢
      have HM := hide hn2
      have HN := hide hm2
      have hB := (below_laid (w := w) (.cells #[.int .i64 sx, .slice A1 bx.length c1, .slice A2 n2 c2, .slice A3 rx.length c3] 53)).alloc (by simp) (.cells #[.int .i64 sx, .slice B1 by_.length d1, .slice B2 n2 d2, .slice B3 ry.length d3] 53)
      have hX := fun c u h => keep1 (below_laid (.cells #[.int .i64 sx, .slice B1 by_.length d1, .slice B2 n2 d2, .slice B3 ry.length d3] 53)) (cells_lit w [.int .i64 sx, .slice A1 bx.length c1, .slice A2 n2 c2, .slice A3 rx.length c3] 53 c u h)
      have hY := cells_lit (w.alloc (.cells #[.int .i64 sx, .slice A1 bx.length c1, .slice A2 n2 c2, .slice A3 rx.length c3] 53)) [.int .i64 sx, .slice B1 by_.length d1, .slice B2 n2 d2, .slice B3 ry.length d3] 53
      rw [World.size_alloc] at hY
      clear hn2 hm2 e2
      go_enter Tryz.func61, Tryz.ntmps61
      go_wp2
      obtain ⟨W0, hW⟩ : ∃ W0, (w.alloc (.cells #[.int .i64 sx, .slice A1 bx.length c1, .slice A2 n2 c2, .slice A3 rx.length c3] 53)).alloc (.cells #[.int .i64 sx, .slice B1 by_.length d1, .slice B2 n2 d2, .slice B3 ry.length d3] 53) = W0 := ⟨_, rfl⟩
      rw [hW] at hB hX hY ⊢
      have HB00 := hide hB
      have HBX : Hid (∀ c u, ([.int .i64 sx, .slice A1 bx.length c1, .slice A2 n2 c2, .slice A3 rx.length c3] : List Value)[c]? = some u → W0.cell? ⟨w.heap.size, c, none⟩ = some u) := hide hX
      have HBY : Hid (∀ c u, ([.int .i64 sx, .slice B1 by_.length d1, .slice B2 n2 d2, .slice B3 ry.length d3] : List Value)[c]? = some u → W0.cell? ⟨w.heap.size + 1, c, none⟩ = some u) := hide hY
      have HS1 := hide (fun (w' : World) (h : Below W0.heap.size W0 w') => same_any w' _ _ bx by_ ((h1.grow rd_Ev0 hB).grow rd_Ev0 h) ((k1.grow rd_Ev0 hB).grow rd_Ev0 h))
      have HS3 := hide (fun (w' : World) (h : Below W0.heap.size W0 w') => same_any w' _ _ rx ry ((h3.grow rd_Ev0 hB).grow rd_Ev0 h) ((k3.grow rd_Ev0 hB).grow rd_Ev0 h))
      have HV := hide (h2.grow rd_Cf hB)
      have HU := hide (k2.grow rd_Cf hB)
      clear hW hB hX hY h1 h2 h3 k1 k2 k3
      go_loopw [5] (fun i wr => ∃ j : Nat, j ≤ n2 ∧ i = .int .i64 j ∧ Hid (qx.take j = qy.take j) ∧ Hid (Below W0.heap.size W0 wr)) (fun i _ => n2 - (intOf i).toNat)
      case atStart => exact ⟨0, by omega, rfl, hide rfl, hide (Below.refl _ _)⟩
      case round =>
        obtain ⟨j, hj, rfl, HE, HB⟩ := hrel
        have hx := fun c u h => keep1 HB.out (HBX.out c u h)
        have hy := fun c u h => keep1 HB.out (HBY.out c u h)
        have x1 := hx 1 _ rfl
        have x2 := hx 2 _ rfl
        have x3 := hx 3 _ rfl
        have y1 := hy 1 _ rfl
        have y2 := hy 2 _ rfl
        have y3 := hy 3 _ rfl
        clear hx hy
        by_cases hlt : j < n2
        · have hjl : j < qx.length := by rw [HM.out]; exact hlt
          have hjk : j < qy.length := by rw [HN.out]; exact hlt
          have hv2 := HV.out
          have hu2 := HU.out
          obtain ⟨g, off, xs, e2, hg, hxl, hc, hR⟩ := hv2.at_ hjl
          cases e2
          obtain ⟨g', off', ys, e3, hg', hyl, hc', hR'⟩ := hu2.at_ hjk
          cases e3
          have HYS := hide (fun h => take_eq hjl hjk HE.out h)
          have HNO : Hid (qx[j] ≠ qy[j] → qx ≠ qy) := hide (fun h e => h (by subst e; rfl))
          obtain ⟨p, hp⟩ : ∃ p, qx[j] = p := ⟨_, rfl⟩
          obtain ⟨r, hr⟩ : ∃ r, qy[j] = r := ⟨_, rfl⟩
          rw [hp] at hR HYS HNO
          rw [hr] at hR' HYS HNO
          have HEQ := hide (fun (w' : World) (h : Below W0.heap.size W0 w') => samecf_any w' p r _ _ (rd_Cf.more (fun b hb => Nat.lt_of_lt_of_le hb h.size) (rd_Cf.keep (Kp.of_below h) hR)) (rd_Cf.more (fun b hb => Nat.lt_of_lt_of_le hb h.size) (rd_Cf.keep (Kp.of_below h) hR')))
          obtain ⟨va, vb, rfl, hva, hvb, -⟩ := hR
          obtain ⟨vc, vd, rfl, hvc, hvd, -⟩ := hR'
          obtain ⟨E1, p1, rfl⟩ := hva.form
          obtain ⟨E2, p2, rfl⟩ := hvb.form
          obtain ⟨E3, p3, rfl⟩ := hvc.form
          obtain ⟨E4, p4, rfl⟩ := hvd.form
          have k0 := keep1 HB.out (hc 0 _ rfl)
          have k1 := keep1 HB.out (hc 1 _ rfl)
          have k2 := keep1 HB.out (hc 2 _ rfl)
          have m0 := keep1 HB.out (hc' 0 _ rfl)
          have m1 := keep1 HB.out (hc' 1 _ rfl)
          have m2 := keep1 HB.out (hc' 2 _ rfl)
          rw [Nat.add_zero] at k0 m0
          have hu0 : (0 : Int) ≤ (j : Int) := by omega
          have hu1 : (j : Int) < (n2 : Int) := by omega
          clear hp hr hc hxl hc' hyl hva hvb hvc hvd hv2 hu2
          go_wp2_with fail
          go_region_held3 (fun w' => (w'.cell? ⟨w.heap.size, 2, none⟩ = some (.slice (some ⟨g, off, none⟩) n2 c2) ∧ w'.cell? ⟨w.heap.size + 1, 2, none⟩ = some (.slice (some ⟨g', off', none⟩) n2 d2) ∧ w'.cell? ⟨g, off + j * 3, none⟩ = some (.int .i64 p.st) ∧ w'.cell? ⟨g, off + j * 3 + 1, none⟩ = some (.slice E1 p.bs.length p1) ∧ w'.cell? ⟨g, off + j * 3 + 2, none⟩ = some (.slice E2 p.ss.length p2)) ∧ w'.cell? ⟨g', off' + j * 3, none⟩ = some (.int .i64 r.st) ∧ w'.cell? ⟨g', off' + j * 3 + 1, none⟩ = some (.slice E3 r.bs.length p3) ∧ w'.cell? ⟨g', off' + j * 3 + 2, none⟩ = some (.slice E4 r.ss.length p4))
            (first
              | with_reducible exact ⟨⟨keep1 hb2 x2, keep1 hb2 y2, keep1 hb2 k0, keep1 hb2 k1, keep1 hb2 k2⟩, keep1 hb2 m0, keep1 hb2 m1, keep1 hb2 m2⟩
              | (go_keep; done))
            ((go_at_call 86; refine (HEQ.out _ HB.out.drew).mono ?_; rintro en w3 ⟨bb, hbb, rfl, hb'⟩; have hb2 : Below wr.heap.size wr w3 := below_undrew hb'; have HBB := hide hbb; clear hbb))
          have HB3 := hide (bthen HB.out hb2)
          cases bb
          · have HF : Hid ((⟨sx, bx, qx, rx⟩ : Eng) ≠ ⟨sx, by_, qy, ry⟩) := hide (fun h => HNO.out (fun h => by have := HBB.out.2 h; cases this) (congrArg Eng.runs h))
            go_wp2
            go_ret
            exact RetIff.no HF.out (HB00.out.trans (HB3.out.mono HB00.out.size))
          · have HE2 := hide (HYS.out (HBB.out.1 rfl))
            go_wp2
            go_roundw
            case rel => exact ⟨j + 1, by omega, by go_num, HE2, HB3⟩
            case measure => simp [intOf]; omega
        · obtain rfl : j = n2 := by omega
          have HQ : Hid (qx = qy) := hide (by
            have := HE.out
            rwa [List.take_of_length_le (by rw [HM.out]; exact Nat.le_refl _), List.take_of_length_le (by rw [HN.out]; exact Nat.le_refl _)] at this)
          go_wp2_with fail
          refine (HS1.out _ HB.out).mono ?_
          rintro en w3 ⟨bb, hbb, rfl, hb⟩
          have HB3 := hide (bthen HB.out hb)
          have HBB := hide hbb
          have z3 := keep1 hb x3
          have z4 := keep1 hb y3
          clear hb hbb x1 x2 x3 y1 y2 y3
          cases bb
          · have HF : Hid ((⟨sx, bx, qx, rx⟩ : Eng) ≠ ⟨sx, by_, qy, ry⟩) := hide (fun h => by have := HBB.out.2 (congrArg Eng.wait h); cases this)
            go_wp2
            go_ret
            exact RetIff.no HF.out (HB00.out.trans (HB3.out.mono HB00.out.size))
          · go_wp2_with fail
            refine (HS3.out _ HB3.out).mono ?_
            rintro en w4 ⟨cc, hcc, rfl, hb⟩
            have HB4 := hide (bthen HB3.out hb)
            have HCC := hide hcc
            clear hb hcc z3 z4
            cases cc
            · have HF : Hid ((⟨sx, bx, qx, rx⟩ : Eng) ≠ ⟨sx, by_, qy, ry⟩) := hide (fun h => by have := HCC.out.2 (congrArg Eng.held h); cases this)
              go_wp2
              go_ret
              exact RetIff.no HF.out (HB00.out.trans (HB4.out.mono HB00.out.size))
            · have HF : Hid ((⟨sx, bx, qx, rx⟩ : Eng) = ⟨sx, by_, qy, ry⟩) := hide (by rw [(by first | exact HBB.out.1 rfl | exact HBB.out.1 trivial : bx = by_), (by first | exact HCC.out.1 rfl | exact HCC.out.1 trivial : rx = ry), HQ.out])
              go_wp2
              go_ret
              exact RetIff.yes HF.out (HB00.out.trans (HB4.out.mono HB00.out.size))
    · have HF : Hid ((⟨sx, bx, qx, rx⟩ : Eng) ≠ ⟨sx, by_, qy, ry⟩) := hide (fun h => e2 (congrArg (fun z : Eng => z.runs.length) h))
      have t1 : ((qx.length : Int) != (qy.length : Int)) = true := bne_iff_ne.2 (by omega)
      clear h1 h2 h3 k1 k2 k3 e2
      go_enter Tryz.func61, Tryz.ntmps61
      go_wp2
      go_ret
      exact RetIff.no HF.out ((below_laid _).alloc (by simp) _)
  · have HF : Hid ((⟨sx, bx, qx, rx⟩ : Eng) ≠ ⟨sy, by_, qy, ry⟩) := hide (fun h => e1 (congrArg Eng.mark h))
    have t1 : (sx != sy) = true := bne_iff_ne.2 e1
    clear h1 h2 h3 k1 k2 k3 e1
    go_enter Tryz.func61, Tryz.ntmps61
    go_wp2
    go_ret
    exact RetIff.no HF.out ((below_laid _).alloc (by simp) _)
end
end Go.Proofs.YtofdcgojgcnopaaGreat

namespace Go.Proofs.YtofdcgojgcnopaaGreat
open Go.RowKit
set_option linter.unusedVariables false
set_option linter.unusedSimpArgs false
def fewC (c : Cfg) : Bool := decide (c.bs.length ≤ 12) && decide (c.ss.length ≤ 12)
def fewG (x : Eng) : Bool := x.runs.all fewC && (decide (x.runs.length ≤ 12) && (fewE x.wait && fewE x.held))
theorem few_en {w : World} {Z : Nat → Prop} {xs : List Value} {x : Eng} (h : REn w Z xs x) (hf : fewG x = true) : REnW w Z xs x := by
  unfold fewG at hf
  simp only [Bool.and_eq_true] at hf
  obtain ⟨u, v, t, e, h1, h2, h3, hg⟩ := h
  exact ⟨u, v, t, e, few_lst h1 hf.2.2.1, h2, few_lst h3 hf.2.2.2, hg⟩
theorem few_enw {x : Eng} (hf : fewG x = true) : wtEn x ≤ 300000 := by
  unfold fewG at hf
  simp only [Bool.and_eq_true, decide_eq_true_eq, List.all_eq_true] at hf
  obtain ⟨h1, h2, h3, h4⟩ := hf
  have a := few_wt h3
  have b := few_wt h4
  have c := sum_le (f := wtCf) (n := 750) (l := x.runs) (fun y hy => by
    have := h1 y hy
    unfold fewC at this
    simp only [Bool.and_eq_true, decide_eq_true_eq] at this
    have d := sum_le (f := wtBn) (n := 40) (l := y.bs) (fun _ _ => Nat.le_refl _)
    have e := sum_le (f := wtSr) (n := 20) (l := y.ss) (fun _ _ => Nat.le_refl _)
    unfold wtCf
    omega)
  unfold wtEn
  omega
section
variable (w : World)
set_option maxRecDepth 100000 in
set_option maxHeartbeats 8000000 in
theorem fewen_any (x : Eng) (xs : List Value) (hx : REn w (· < w.heap.size) xs x) : Calls Tryz.prog 11 #[.agg xs.toArray] w (Ret (.bool (fewG x)) w) := by
  obtain ⟨sx, bx, qx, rx⟩ := x
  obtain ⟨u1, u2, u3, rfl, h1, h2, h3, -⟩ := hx
  obtain ⟨A1, c1, rfl⟩ := h1.form
  obtain ⟨A2, c2, rfl⟩ := h2.form
  obtain ⟨A3, c3, rfl⟩ := h3.form
  simp only at *
  have g2 := h2.len
  unfold maxLen at g2
  have HFQ : Hid (fewG ⟨sx, bx, qx, rx⟩ = (qx.all fewC && (decide (qx.length ≤ 12) && (fewE bx && fewE rx)))) := hide rfl
  rw [HFQ.out]
  obtain ⟨n2, hn2⟩ : ∃ n, qx.length = n := ⟨_, rfl⟩
  rw [hn2] at h2 g2 ⊢
  have HM := hide hn2
  have hB := below_laid (w := w) (.cells #[.int .i64 sx, .slice A1 bx.length c1, .slice A2 n2 c2, .slice A3 rx.length c3] 53)
  have hX := cells_lit w [.int .i64 sx, .slice A1 bx.length c1, .slice A2 n2 c2, .slice A3 rx.length c3] 53
  clear hn2
  go_enter Tryz.func11, Tryz.ntmps11
  go_wp2
  obtain ⟨W0, hW⟩ : ∃ W0, (w.alloc (.cells #[.int .i64 sx, .slice A1 bx.length c1, .slice A2 n2 c2, .slice A3 rx.length c3] 53)) = W0 := ⟨_, rfl⟩
  rw [hW] at ⊢
  have hX : ∀ c u, ([.int .i64 sx, .slice A1 bx.length c1, .slice A2 n2 c2, .slice A3 rx.length c3] : List Value)[c]? = some u → W0.cell? ⟨w.heap.size, c, none⟩ = some u := by rw [← hW]; exact hX
  have hB : Below w.heap.size w W0 := by rw [← hW]; exact hB
  have HB00 := hide hB
  have HF1 := hide (few_any W0 _ bx (h1.keep rd_Ev0 (Kp.of_below hB)))
  have HF3 := hide (few_any W0 _ rx (h3.keep rd_Ev0 (Kp.of_below hB)))
  have HV := hide (h2.keep rd_Cf (Kp.of_below hB))
  have x1 := hX 1 _ rfl
  have x2 := hX 2 _ rfl
  have x3 := hX 3 _ rfl
  clear hW hB hX h1 h2 h3
  go_loop [3] (fun i => ∃ j : Nat, j ≤ n2 ∧ j ≤ 12 ∧ i = .int .i64 j ∧ Hid ((qx.take j).all fewC = true)) (fun i => n2 - (intOf i).toNat)
  case atStart => exact ⟨0, by omega, by omega, rfl, hide rfl⟩
  case round =>
    obtain ⟨j, hj, hj4, rfl, HA⟩ := hrel
    by_cases hlt : j < n2 ∧ j < 12
    · have hjl : j < qx.length := by rw [HM.out]; exact hlt.1
      obtain ⟨g, off, ys, e2, hg, hxl, hc, hR⟩ := HV.out.at_ hjl
      cases e2
      have HNO := hide (fun h => all_no (p := fewC) hjl h)
      have HYS := hide (fun h => all_take (p := fewC) hjl HA.out h)
      obtain ⟨p, hp⟩ : ∃ p, qx[j] = p := ⟨_, rfl⟩
      rw [hp] at hR HNO HYS
      obtain ⟨va, vb, rfl, hva, hvb, -⟩ := hR
      obtain ⟨E1, p1, rfl⟩ := hva.form
      obtain ⟨E2, p2, rfl⟩ := hvb.form
      have k1 := hc 1 _ rfl
      have k2 := hc 2 _ rfl
      have hl1 := hva.len
      have hl2 := hvb.len
      unfold maxLen at hl1 hl2
      obtain ⟨a, ha⟩ : ∃ a, p.bs.length = a := ⟨_, rfl⟩
      obtain ⟨b, hb⟩ : ∃ b, p.ss.length = b := ⟨_, rfl⟩
      have HFC : Hid (fewC p = (decide (a ≤ 12) && decide (b ≤ 12))) := hide (by unfold fewC; rw [ha, hb])
      rw [ha] at k1 hl1
      rw [hb] at k2 hl2
      have hu0 : (0 : Int) ≤ (j : Int) := by omega
      have hu1 : (j : Int) < (n2 : Int) := by omega
      have hu2 : (j : Int) < 12 := by omega
      clear hp hc hxl ha hb hva hvb
      by_cases s1 : a ≤ 12
      · have t1 : decide ((12 : Int) < (a : Int)) = false := decide_eq_false (by omega)
        by_cases s2 : b ≤ 12
        · have t2 : decide ((12 : Int) < (b : Int)) = false := decide_eq_false (by omega)
          have HA2 := hide (HYS.out (by rw [HFC.out, decide_eq_true s1, decide_eq_true s2]; rfl))
          go_wp2
          go_round
          case rel => exact ⟨j + 1, by omega, by omega, by go_num, HA2⟩
          case measure => simp [intOf]; omega
        · have t2 : decide ((12 : Int) < (b : Int)) = true := decide_eq_true (by omega)
          have HF : Hid (qx.all fewC = false) := hide (HNO.out (by rw [HFC.out, decide_eq_false s2, Bool.and_false]))
          go_wp2
          go_ret
          exact Ret.bool (by rw [HF.out]; rfl) HB00.out
      · have t1 : decide ((12 : Int) < (a : Int)) = true := decide_eq_true (by omega)
        have HF : Hid (qx.all fewC = false) := hide (HNO.out (by rw [HFC.out, decide_eq_false s1, Bool.false_and]))
        go_wp2
        go_ret
        exact Ret.bool (by rw [HF.out]; rfl) HB00.out
    · by_cases h12 : n2 ≤ 12
      · obtain rfl : j = n2 := by omega
        have HAL : Hid (qx.all fewC = true) := hide (by
          have := HA.out
          rwa [List.take_of_length_le (by rw [HM.out]; exact Nat.le_refl _)] at this)
        have t1 : decide ((j : Int) ≤ 12) = true := decide_eq_true (by omega)
        have HD : Hid (decide (j ≤ 12) = true) := hide (decide_eq_true h12)
        have HFR : Hid ((qx.all fewC && (decide (j ≤ 12) && (fewE bx && fewE rx))) = (fewE bx && fewE rx)) := hide (by rw [HAL.out, HD.out]; rfl)
        go_wp2_with fail
        refine HF1.out.mono ?_
        rintro en w3 ⟨rfl, rfl⟩
        cases hfb : fewE bx
        · have HFB := hide hfb
          clear hfb
          go_wp2
          go_ret
          exact Ret.bool (by rw [HFR.out, HFB.out]; rfl) HB00.out
        · have HFB := hide hfb
          clear hfb
          go_wp2_with fail
          refine HF3.out.mono ?_
          rintro en w4 ⟨rfl, rfl⟩
          go_wp2
          go_ret
          exact Ret.bool (by rw [HFR.out, HFB.out]; rfl) HB00.out
      · have t1 : decide ((n2 : Int) ≤ 12) = false := decide_eq_false (by omega)
        have HD : Hid (decide (n2 ≤ 12) = false) := hide (decide_eq_false h12)
        have hj12 : j = 12 := by omega
        subst hj12
        go_wp2
        all_goals
          go_ret
          exact Ret.bool (by first | rfl | (rw [HD.out]; simp)) HB00.out
end
end Go.Proofs.YtofdcgojgcnopaaGreat

namespace Go.Proofs.YtofdcgojgcnopaaGreat
open Go.ChangeShapes Go.WideShapes Go.ChangeAt Go.RowKit Go.Deep
set_option linter.unusedVariables false
set_option linter.unusedSimpArgs false
variable {H : Type} {enc : TypeId × Value → H} {w : World} {base : Nat} {sp : Nat → Bool} {held : Bool}
theorem len4 {α : Type} {l : List α} (h : l.length = 4) : ∃ a b c d, l = [a, b, c, d] := by
  match l, h with
  | [a, b, c, d], _ => exact ⟨a, b, c, d, rfl⟩
theorem len2 {α : Type} {l : List α} (h : l.length = 2) : ∃ a b, l = [a, b] := by
  match l, h with
  | [a, b], _ => exact ⟨a, b, rfl⟩
theorem cells_ref : Tryz.prog.cellsOf 154 = 3 := by kernel_rfl
theorem cells_binding : Tryz.prog.cellsOf 156 = 4 := by kernel_rfl
theorem cells_start : Tryz.prog.cellsOf 158 = 2 := by kernel_rfl
theorem cells_config : Tryz.prog.cellsOf 83 = 3 := by kernel_rfl
theorem cells_engine : Tryz.prog.cellsOf 53 = 4 := by kernel_rfl
theorem cells_events : Tryz.prog.cellsOf 50 = 1 := by kernel_rfl
theorem cells_bindings : Tryz.prog.cellsOf 80 = 1 := by kernel_rfl
theorem cells_starts : Tryz.prog.cellsOf 81 = 1 := by kernel_rfl
theorem cells_configs : Tryz.prog.cellsOf 51 = 1 := by kernel_rfl
instance : Inhabited Bnd := ⟨⟨0, 0, 0, 0⟩⟩
instance : Inhabited Srt := ⟨⟨0, 0⟩⟩
instance : Inhabited Cfg := ⟨⟨0, [], []⟩⟩
instance : Inhabited Eng := ⟨⟨0, [], [], []⟩⟩
theorem trod_ref {fuel : Nat} {cs : List Value} {x : DataW H × List MemPlace} (h : DataW.trod enc Tryz.prog w base sp held fuel 154 cs = some x) : ∃ a b c, cs = [.int .i64 a, .int .i64 b, .int .i64 c] ∧ inI a ∧ inI b ∧ inI c := by
  obtain ⟨xs, n, -, -, hlen, hxl, hf⟩ := DataW.trod_struct Tryz.underlying154 h
  rw [cells_ref] at hlen
  obtain ⟨c0, c1, c2, rfl⟩ := len3 hlen
  obtain ⟨y0, y1, y2, rfl⟩ := len3 hxl
  have h0 : DataW.trod enc Tryz.prog w base sp held n 3 [c0] = some y0 := by have := hf 0 _ rfl; simpa [cells_int] using this
  have h1 : DataW.trod enc Tryz.prog w base sp held n 3 [c1] = some y1 := by have := hf 1 _ rfl; simpa [cells_int] using this
  have h2 : DataW.trod enc Tryz.prog w base sp held n 3 [c2] = some y2 := by have := hf 2 _ rfl; simpa [cells_int] using this
  obtain ⟨a, rfl, ha⟩ := trod_i h0
  obtain ⟨b, rfl, hb⟩ := trod_i h1
  obtain ⟨c, rfl, hc⟩ := trod_i h2
  exact ⟨a, b, c, rfl, ha, hb, hc⟩
theorem trod_binding {fuel : Nat} {cs : List Value} {x : DataW H × List MemPlace} (h : DataW.trod enc Tryz.prog w base sp held fuel 156 cs = some x) : ∃ d : Bnd, RBn w (· < w.heap.size) cs d := by
  obtain ⟨xs, n, -, -, hlen, hxl, hf⟩ := DataW.trod_struct Tryz.underlying156 h
  rw [cells_binding] at hlen
  obtain ⟨c0, c1, c2, c3, rfl⟩ := len4 hlen
  obtain ⟨y0, y1, rfl⟩ := len2 hxl
  have h0 : DataW.trod enc Tryz.prog w base sp held n 3 [c0] = some y0 := by have := hf 0 _ rfl; simpa [cells_int] using this
  have h1 : DataW.trod enc Tryz.prog w base sp held n 154 [c1, c2, c3] = some y1 := by have := hf 1 _ rfl; simpa [cells_int, cells_ref] using this
  obtain ⟨a, rfl, ha⟩ := trod_i h0
  obtain ⟨b, c, d, e, hb, hc, hd⟩ := trod_ref h1
  simp only [List.cons.injEq, and_true] at e
  obtain ⟨rfl, rfl, rfl⟩ := e
  exact ⟨⟨a, b, c, d⟩, rfl, ha, hb, hc, hd⟩
theorem trod_start {fuel : Nat} {cs : List Value} {x : DataW H × List MemPlace} (h : DataW.trod enc Tryz.prog w base sp held fuel 158 cs = some x) : ∃ d : Srt, RSr w (· < w.heap.size) cs d := by
  obtain ⟨xs, n, -, -, hlen, hxl, hf⟩ := DataW.trod_struct Tryz.underlying158 h
  rw [cells_start] at hlen
  obtain ⟨c0, c1, rfl⟩ := len2 hlen
  obtain ⟨y0, y1, rfl⟩ := len2 hxl
  have h0 : DataW.trod enc Tryz.prog w base sp held n 3 [c0] = some y0 := by have := hf 0 _ rfl; simpa [cells_int] using this
  have h1 : DataW.trod enc Tryz.prog w base sp held n 3 [c1] = some y1 := by have := hf 1 _ rfl; simpa [cells_int] using this
  obtain ⟨a, rfl, ha⟩ := trod_i h0
  obtain ⟨b, rfl, hb⟩ := trod_i h1
  exact ⟨⟨a, b⟩, rfl, ha, hb⟩
theorem trod_lst {α : Type} [Inhabited α] {R : World → (Nat → Prop) → List Value → α → Prop} {t e : TypeId} {sz : Nat} (hu : Tryz.prog.underlying t = some (.slice e)) (hc : Tryz.prog.cellsOf e = sz) (hsz : 0 < sz)
    (hR : ∀ {fuel cs x}, DataW.trod enc Tryz.prog w base sp held fuel e cs = some x → ∃ d : α, R w (· < w.heap.size) cs d) {fuel : Nat} {c : Value} {x : DataW H × List MemPlace} (h : DataW.trod enc Tryz.prog w base sp held fuel t [c] = some x) : ∃ l : List α, Lst w (· < w.heap.size) sz R c l := by
  obtain ⟨v, l, e, hl⟩ := lst_trod (R := R) hu hc hsz hR h
  simp only [List.cons.injEq, and_true] at e
  subst e
  exact ⟨l, hl⟩
theorem trod_config {fuel : Nat} {cs : List Value} {x : DataW H × List MemPlace} (h : DataW.trod enc Tryz.prog w base sp held fuel 83 cs = some x) : ∃ d : Cfg, RCf w (· < w.heap.size) cs d := by
  obtain ⟨xs, n, -, -, hlen, hxl, hf⟩ := DataW.trod_struct Tryz.underlying83 h
  rw [cells_config] at hlen
  obtain ⟨c0, c1, c2, rfl⟩ := len3 hlen
  obtain ⟨y0, y1, y2, rfl⟩ := len3 hxl
  have h0 : DataW.trod enc Tryz.prog w base sp held n 3 [c0] = some y0 := by have := hf 0 _ rfl; simpa [cells_int] using this
  have h1 : DataW.trod enc Tryz.prog w base sp held n 80 [c1] = some y1 := by have := hf 1 _ rfl; simpa [cells_int, cells_bindings] using this
  have h2 : DataW.trod enc Tryz.prog w base sp held n 81 [c2] = some y2 := by have := hf 2 _ rfl; simpa [cells_int, cells_bindings, cells_starts] using this
  obtain ⟨a, rfl, ha⟩ := trod_i h0
  obtain ⟨l, hl⟩ := trod_lst (R := RBn) Tryz.underlying80 cells_binding (by decide) (fun h => trod_binding h) h1
  obtain ⟨k, hk⟩ := trod_lst (R := RSr) Tryz.underlying81 cells_start (by decide) (fun h => trod_start h) h2
  exact ⟨⟨a, l, k⟩, c1, c2, rfl, hl, hk, ha⟩
theorem trod_engine {fuel : Nat} {cs : List Value} {x : DataW H × List MemPlace} (h : DataW.trod enc Tryz.prog w base sp held fuel 53 cs = some x) : ∃ d : Eng, REn w (· < w.heap.size) cs d := by
  obtain ⟨xs, n, -, -, hlen, hxl, hf⟩ := DataW.trod_struct Tryz.underlying53 h
  rw [cells_engine] at hlen
  obtain ⟨c0, c1, c2, c3, rfl⟩ := len4 hlen
  obtain ⟨y0, y1, y2, y3, rfl⟩ := len4 hxl
  have h0 : DataW.trod enc Tryz.prog w base sp held n 3 [c0] = some y0 := by have := hf 0 _ rfl; simpa [cells_int] using this
  have h1 : DataW.trod enc Tryz.prog w base sp held n 50 [c1] = some y1 := by have := hf 1 _ rfl; simpa [cells_int, cells_events] using this
  have h2 : DataW.trod enc Tryz.prog w base sp held n 51 [c2] = some y2 := by have := hf 2 _ rfl; simpa [cells_int, cells_events, cells_configs] using this
  have h3 : DataW.trod enc Tryz.prog w base sp held n 50 [c3] = some y3 := by have := hf 3 _ rfl; simpa [cells_int, cells_events, cells_configs] using this
  obtain ⟨a, rfl, ha⟩ := trod_i h0
  obtain ⟨l, hl⟩ := trod_lst (R := REv0) Tryz.underlying50 cells_event (by decide) (fun h => trod_event h) h1
  obtain ⟨k, hk⟩ := trod_lst (R := RCf) Tryz.underlying51 cells_config (by decide) (fun h => trod_config h) h2
  obtain ⟨m, hm⟩ := trod_lst (R := REv0) Tryz.underlying50 cells_event (by decide) (fun h => trod_event h) h3
  exact ⟨⟨a, l, k, m⟩, c1, c2, c3, rfl, hl, hk, hm, ha⟩
set_option maxRecDepth 100000 in
theorem open_engine {r : Reach} {b0 : Nat} {v : Value} {d : DataW H} {ps : List MemPlace} (hval : Value.okWide Tryz.prog w r b0 53 v) (hd : DataW.Trod enc Tryz.prog w base sp held 53 v d ps) :
    ∃ (xs : List Value) (x : Eng), v = .agg xs.toArray ∧ REn w (· < w.heap.size) xs x := by
  obtain ⟨cs, rfl, hsz⟩ := okWide_struct Tryz.underlying53 hval
  obtain ⟨fuel, hf⟩ := hd
  obtain ⟨x, hx⟩ := trod_engine hf
  exact ⟨cs.toList, x, by simp, hx⟩
end Go.Proofs.YtofdcgojgcnopaaGreat
