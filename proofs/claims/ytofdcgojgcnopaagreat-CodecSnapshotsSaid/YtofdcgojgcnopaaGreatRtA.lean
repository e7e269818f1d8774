/- sameInts and sameReader, of equal lists and readers. sameOperator and Same, of equal operators and snapshots. Few, of snapshots; what it bounds. What a snapshot that can be encoded holds can be encoded; what reads is well-formed. -/
import Derived.Test.YtofdcgojgcnopaaGreatCSame2
import Derived.Test.YtofdcgojgcnopaaGreatDRel2
import Derived.Deep.Cut
import Derived.Deep.CutRange
import Derived.Deep.RegionHeld3
import Derived.Test.YtofdcgojgcnopaaGreatSmA
import Derived.Test.YtofdcgojgcnopaaGreatWBase2
import Derived.Test.YtofdcgojgcnopaaGreatDmgPl
namespace Go.Proofs.YtofdcgojgcnopaaGreat
open Go.RowKit
set_option linter.unusedVariables false
set_option linter.unusedSimpArgs false
section
variable (w : World)
set_option maxRecDepth 100000 in
set_option maxHeartbeats 8000000 in
theorem smi_any (v u : Value) (l : List Int) (hv : Lst w (· < w.heap.size) 1 RIn v l) (hu : Lst w (· < w.heap.size) 1 RIn u l) : Calls Tryz.prog 60 #[v, u] w (Ret (.bool true) w) := by
  obtain ⟨A, cap, rfl⟩ := hv.form
  obtain ⟨B, cap2, rfl⟩ := hu.form
  have hlen := hv.len
  unfold maxLen at hlen
  have HV := hide hv
  have HU := hide hu
  obtain ⟨m, hm⟩ : ∃ m, l.length = m := ⟨_, rfl⟩
  rw [hm] at HV HU hlen ⊢
  have HM := hide hm
  clear hv hu hm
  go_enter Tryz.func60, Tryz.ntmps60
  go_wp2
  go_loopw [5] (fun i wr => ∃ j : Nat, j ≤ m ∧ i = .int .i64 j ∧ Hid (Below w.heap.size w wr)) (fun i _ => m - (intOf i).toNat)
  case atStart => exact ⟨0, by omega, rfl, hide (Below.refl _ _)⟩
  case round =>
    obtain ⟨j, hj, rfl, HB⟩ := hrel
    by_cases hlt : j < m
    · have hjl : j < l.length := by rw [HM.out]; exact hlt
      obtain ⟨g, off, xs, e2, hg, hxl, hc, hR⟩ := HV.out.at_ hjl
      cases e2
      obtain ⟨g', off', ys, e3, hg', hyl, hc', hR'⟩ := HU.out.at_ hjl
      cases e3
      obtain ⟨p, hp⟩ : ∃ p, l[j] = p := ⟨_, rfl⟩
      rw [hp] at hR hR'
      obtain ⟨rfl, -⟩ := hR
      obtain ⟨rfl, -⟩ := hR'
      have k0 := keep1 HB.out (hc 0 _ rfl)
      have m0 := keep1 HB.out (hc' 0 _ rfl)
      rw [Nat.add_zero, Nat.mul_one] at k0 m0
      have hu0 : (0 : Int) ≤ (j : Int) := by omega
      have hu1 : (j : Int) < (m : Int) := by omega
      clear hp hc hc' hxl hyl
      go_wp2_with fail
      go_quiet (fail)
      go_wp2
      go_roundw
      case rel => exact ⟨j + 1, by omega, by go_num, hide (below_drewN HB.out _)⟩
      case measure => simp [intOf]; omega
    · obtain rfl : j = m := by omega
      go_wp2
      go_ret
      exact Ret.bool rfl HB.out
theorem laid4 (w : World) (a b c d : List Value) (t s u v : TypeId) : Below w.heap.size w ((((w.alloc (.cells a.toArray t)).alloc (.cells b.toArray s)).alloc (.cells c.toArray u)).alloc (.cells d.toArray v)).drew ∧
    (∀ i x, a[i]? = some x → ((((w.alloc (.cells a.toArray t)).alloc (.cells b.toArray s)).alloc (.cells c.toArray u)).alloc (.cells d.toArray v)).drew.cell? ⟨w.heap.size, i, none⟩ = some x) ∧
    (∀ i x, b[i]? = some x → ((((w.alloc (.cells a.toArray t)).alloc (.cells b.toArray s)).alloc (.cells c.toArray u)).alloc (.cells d.toArray v)).drew.cell? ⟨w.heap.size + 1, i, none⟩ = some x) ∧
    (∀ i x, c[i]? = some x → ((((w.alloc (.cells a.toArray t)).alloc (.cells b.toArray s)).alloc (.cells c.toArray u)).alloc (.cells d.toArray v)).drew.cell? ⟨w.heap.size + 1 + 1, i, none⟩ = some x) ∧
    (∀ i x, d[i]? = some x → ((((w.alloc (.cells a.toArray t)).alloc (.cells b.toArray s)).alloc (.cells c.toArray u)).alloc (.cells d.toArray v)).drew.cell? ⟨w.heap.size + 1 + 1 + 1, i, none⟩ = some x) := by
  have h1 := cells_lit w a t
  have h2 := cells_lit (w.alloc (.cells a.toArray t)) b s
  have h3 := cells_lit ((w.alloc (.cells a.toArray t)).alloc (.cells b.toArray s)) c u
  have h4 := cells_lit (((w.alloc (.cells a.toArray t)).alloc (.cells b.toArray s)).alloc (.cells c.toArray u)) d v
  simp only [World.size_alloc] at h2 h3 h4
  refine ⟨((((below_laid _).alloc (by simp) _).alloc (by simp; omega) _).alloc (by simp; omega) _).drew, fun i x h => ?_, fun i x h => ?_, fun i x h => ?_, fun i x h => h4 i x h⟩
  · exact keep1 (below_laid _) (keep1 (below_laid _) (keep1 (below_laid _) (h1 i x h)))
  · exact keep1 (below_laid _) (keep1 (below_laid _) (h2 i x h))
  · exact keep1 (below_laid _) (h3 i x h)
/-- Two boxes, each with its cells. -/
def Two (w : World) (P Q : Nat) (xs ys : List Value) : Prop := (∀ c u, xs[c]? = some u → w.cell? ⟨P, c, none⟩ = some u) ∧ ∀ c u, ys[c]? = some u → w.cell? ⟨Q, c, none⟩ = some u
theorem two_pre {a b : Value} {r : List Value} {c : Nat} {u : Value} (h : ([a, b] : List Value)[c]? = some u) : (a :: b :: r)[c]? = some u := by
  match c, h with
  | 0, h => exact h
  | 1, h => exact h
  | _ + 2, h => simp at h
set_option maxRecDepth 100000 in
set_option maxHeartbeats 8000000 in
theorem smrd_any (x : Rdr) (xs ys : List Value) (hx : RRd w (· < w.heap.size) xs x) (hy : RRd w (· < w.heap.size) ys x) : Calls Tryz.prog 26 #[.agg xs.toArray, .agg ys.toArray] w (Ret (.bool true) w) := by
  obtain ⟨src, of, nx, bey, pts, mk⟩ := x
  obtain ⟨u1, u2, rfl, h1, h2, -⟩ := hx
  obtain ⟨v1, v2, rfl, k1, k2, -⟩ := hy
  obtain ⟨A1, c1, rfl⟩ := h1.form
  obtain ⟨A2, c2, rfl⟩ := h2.form
  obtain ⟨B1, d1, rfl⟩ := k1.form
  obtain ⟨B2, d2, rfl⟩ := k2.form
  simp only at *
  have g2 := h2.len
  unfold maxLen at g2
  obtain ⟨n1, hn1⟩ : ∃ n, bey.length = n := ⟨_, rfl⟩
  obtain ⟨n2, hn2⟩ : ∃ n, pts.length = n := ⟨_, rfl⟩
  rw [hn1] at h1 k1 ⊢
  rw [hn2] at h2 k2 g2 ⊢
  have HM := hide hn2
  clear hn1 hn2
  have HH := hide (And.intro (And.intro h1 h2) (And.intro k1 k2))
  clear h1 h2 k1 k2
  go_enter Tryz.func26, Tryz.ntmps26
  go_upto_region 1 with (fail)
  go_cut [5, 6] from 8 to 11 (fun p q wx => ∃ P Q, p = .pointer (some ⟨P, 0, none⟩) ∧ q = .pointer (some ⟨Q, 0, none⟩) ∧ Hid (Below w.heap.size w wx ∧ Two wx w.heap.size (w.heap.size + 1) [.int .i64 src, .int .i64 of] [.int .i64 src, .int .i64 of] ∧ Two wx P Q [.int .i64 nx, .slice A1 n1 c1, .slice A2 n2 c2, .int .i64 mk] [.int .i64 nx, .slice B1 n1 d1, .slice B2 n2 d2, .int .i64 mk]))
  case first =>
    go_region
    · go_wp2_with fail
      go_meet
      obtain ⟨b, x1, x2, x3, x4⟩ := laid4 w [.int .i64 src, .int .i64 of, .int .i64 nx, .slice A1 n1 c1, .slice A2 n2 c2, .int .i64 mk] [.int .i64 src, .int .i64 of, .int .i64 nx, .slice B1 n1 d1, .slice B2 n2 d2, .int .i64 mk] [.int .i64 nx, .slice A1 n1 c1, .slice A2 n2 c2, .int .i64 mk] [.int .i64 nx, .slice B1 n1 d1, .slice B2 n2 d2, .int .i64 mk] 44 44 42 42
      exact ⟨_, _, rfl, rfl, hide ⟨b, ⟨fun c u h => x1 c u (two_pre h), fun c u h => x2 c u (two_pre h)⟩, x3, x4⟩⟩
    · go_wp2_with fail
      go_meet
      obtain ⟨b, x1, x2, x3, x4⟩ := laid4 w [.int .i64 src, .int .i64 of, .int .i64 nx, .slice A1 n1 c1, .slice A2 n2 c2, .int .i64 mk] [.int .i64 src, .int .i64 of, .int .i64 nx, .slice B1 n1 d1, .slice B2 n2 d2, .int .i64 mk] [.int .i64 nx, .slice B1 n1 d1, .slice B2 n2 d2, .int .i64 mk] [.int .i64 nx, .slice A1 n1 c1, .slice A2 n2 c2, .int .i64 mk] 44 44 42 42
      exact ⟨_, _, rfl, rfl, hide ⟨b, ⟨fun c u h => x1 c u (two_pre h), fun c u h => x2 c u (two_pre h)⟩, x4, x3⟩⟩
  case rest =>
    obtain ⟨P, Q, rfl, rfl, HF⟩ := hcut
    obtain ⟨hB, ⟨hx, hy⟩, hp, hq⟩ := HF.out
    have HB0 := hide hB
    have HI := hide (smi_any wc _ _ bey (HH.out.1.1.grow rd_In hB) (HH.out.2.1.grow rd_In hB))
    have HV := hide (HH.out.1.2.grow rd_Pn hB)
    have HU := hide (HH.out.2.2.grow rd_Pn hB)
    have HP := hide hp
    have HQ := hide hq
    have x0 := hx 0 _ rfl
    have x1 := hx 1 _ rfl
    have y0 := hy 0 _ rfl
    have y1 := hy 1 _ rfl
    have p0 := hp 0 _ rfl
    have p1 := hp 1 _ rfl
    have p2 := hp 2 _ rfl
    have p3 := hp 3 _ rfl
    have q0 := hq 0 _ rfl
    have q1 := hq 1 _ rfl
    have q2 := hq 2 _ rfl
    have q3 := hq 3 _ rfl
    clear hB hx hy hp hq HF HH
    go_wp2_with fail
    refine HI.out.mono ?_
    rintro en w3 ⟨rfl, hb⟩
    have HB3 := hide hb
    replace p2 := keep1 hb p2
    replace q2 := keep1 hb q2
    clear hb x0 x1 y0 y1 p0 p1 p3 q0 q1 q3 HI
    go_wp2
    go_loopw [7] (fun i wr => ∃ j : Nat, j ≤ n2 ∧ i = .int .i64 j ∧ Hid (Below wc.heap.size wc wr)) (fun i _ => n2 - (intOf i).toNat)
    case atStart => exact ⟨0, by omega, rfl, HB3⟩
    case round =>
      obtain ⟨j, hj, rfl, HB⟩ := hrel
      have s2 := keep1 HB.out (HP.out 2 _ rfl)
      have t2 := keep1 HB.out (HQ.out 2 _ rfl)
      clear p2 q2
      by_cases hlt : j < n2
      · have hjl : j < pts.length := by rw [HM.out]; exact hlt
        obtain ⟨g, off, xs, e2, hg, hxl, hc, hR⟩ := HV.out.at_ hjl
        cases e2
        obtain ⟨g', off', ys, e3, hg', hyl, hc', hR'⟩ := HU.out.at_ hjl
        cases e3
        obtain ⟨p, hp⟩ : ∃ p, pts[j] = p := ⟨_, rfl⟩
        rw [hp] at hR hR'
        obtain ⟨rfl, -⟩ := hR
        obtain ⟨rfl, -⟩ := hR'
        have k0 := keep1 HB.out (hc 0 _ rfl)
        have k1 := keep1 HB.out (hc 1 _ rfl)
        have m0 := keep1 HB.out (hc' 0 _ rfl)
        have m1 := keep1 HB.out (hc' 1 _ rfl)
        rw [Nat.add_zero] at k0 m0
        have hu0 : (0 : Int) ≤ (j : Int) := by omega
        have hu1 : (j : Int) < (n2 : Int) := by omega
        obtain ⟨ps, pt⟩ := p
        simp only at k0 k1 m0 m1
        clear hp hc hc' hxl hyl
        go_wp2_with fail
        go_quiet (fail)
        go_wp2
        go_roundw
        case rel => exact ⟨j + 1, by omega, by go_num, hide (below_drewN HB.out _)⟩
        case measure => simp [intOf]; omega
      · obtain rfl : j = n2 := by omega
        go_wp2
        go_ret
        exact Ret.bool rfl (HB0.out.trans (HB.out.mono HB0.out.size))
end
end Go.Proofs.YtofdcgojgcnopaaGreat

namespace Go.Proofs.YtofdcgojgcnopaaGreat
open Go.RowKit
set_option linter.unusedVariables false
set_option linter.unusedSimpArgs false
theorem rdg {α : Type} {R : World → (Nat → Prop) → List Value → α → Prop} (hR : Rd R) {w w' : World} {xs : List Value} {x : α} (h : R w (· < w.heap.size) xs x) (hb : Below w.heap.size w w') : R w' (· < w'.heap.size) xs x :=
  hR.more (fun _ h => Nat.lt_of_lt_of_le h hb.size) (hR.keep (Kp.of_below hb) h)
section
variable (w : World)
set_option maxRecDepth 100000 in
set_option maxHeartbeats 8000000 in
theorem smop_any (x : Opr) (xs ys : List Value) (hx : ROp w (· < w.heap.size) xs x) (hy : ROp w (· < w.heap.size) ys x) : Calls Tryz.prog 27 #[.agg xs.toArray, .agg ys.toArray] w (Ret (.bool true) w) := by
  obtain ⟨mks, egs⟩ := x
  obtain ⟨u1, u2, rfl, h1, h2⟩ := hx
  obtain ⟨v1, v2, rfl, k1, k2⟩ := hy
  obtain ⟨A1, c1, rfl⟩ := h1.form
  obtain ⟨A2, c2, rfl⟩ := h2.form
  obtain ⟨B1, d1, rfl⟩ := k1.form
  obtain ⟨B2, d2, rfl⟩ := k2.form
  simp only at *
  have g2 := h2.len
  unfold maxLen at g2
  obtain ⟨n1, hn1⟩ : ∃ n, mks.length = n := ⟨_, rfl⟩
  obtain ⟨n2, hn2⟩ : ∃ n, egs.length = n := ⟨_, rfl⟩
  rw [hn1] at h1 k1 ⊢
  rw [hn2] at h2 k2 g2 ⊢
  have HM := hide hn2
  clear hn1 hn2
  have hB := (below_laid (w := w) (.cells #[.slice A1 n1 c1, .slice A2 n2 c2] 47)).alloc (by simp) (.cells #[.slice B1 n1 d1, .slice B2 n2 d2] 47)
  have hX := fun c u h => keep1 (below_laid (.cells #[.slice B1 n1 d1, .slice B2 n2 d2] 47)) (cells_lit w [.slice A1 n1 c1, .slice A2 n2 c2] 47 c u h)
  have hY := cells_lit (w.alloc (.cells #[.slice A1 n1 c1, .slice A2 n2 c2] 47)) [.slice B1 n1 d1, .slice B2 n2 d2] 47
  rw [World.size_alloc] at hY
  have HI := hide (smi_any _ _ _ mks (h1.grow rd_In hB) (k1.grow rd_In hB))
  go_enter Tryz.func27, Tryz.ntmps27
  go_wp2_with fail
  obtain ⟨W0, hW⟩ : ∃ W0, (w.alloc (.cells #[.slice A1 n1 c1, .slice A2 n2 c2] 47)).alloc (.cells #[.slice B1 n1 d1, .slice B2 n2 d2] 47) = W0 := ⟨_, rfl⟩
  rw [hW] at hB hX hY HI ⊢
  have HB00 := hide hB
  have HBX : Hid (∀ c u, ([.slice A1 n1 c1, .slice A2 n2 c2] : List Value)[c]? = some u → W0.cell? ⟨w.heap.size, c, none⟩ = some u) := hide hX
  have HBY : Hid (∀ c u, ([.slice B1 n1 d1, .slice B2 n2 d2] : List Value)[c]? = some u → W0.cell? ⟨w.heap.size + 1, c, none⟩ = some u) := hide hY
  have HV := hide (h2.grow rd_Ky hB)
  have HU := hide (k2.grow rd_Ky hB)
  clear hW hB hX hY h1 h2 k1 k2
  refine HI.out.mono ?_
  rintro en w1 ⟨rfl, hb⟩
  have HB1 := hide hb
  have s1 := keep1 hb (HBX.out 1 _ rfl)
  have t1 := keep1 hb (HBY.out 1 _ rfl)
  clear hb
  go_wp2
  go_loopw [5] (fun i wr => ∃ j : Nat, j ≤ n2 ∧ i = .int .i64 j ∧ Hid (Below W0.heap.size W0 wr)) (fun i _ => n2 - (intOf i).toNat)
  case atStart => exact ⟨0, by omega, rfl, HB1⟩
  case round =>
    clear s1 t1
    obtain ⟨j, hj, rfl, HB⟩ := hrel
    have s2 := keep1 HB.out (HBX.out 1 _ rfl)
    have t2 := keep1 HB.out (HBY.out 1 _ rfl)
    by_cases hlt : j < n2
    · have hjl : j < egs.length := by rw [HM.out]; exact hlt
      obtain ⟨g, off, xs, e2, hg, hxl, hc, hR⟩ := HV.out.at_ hjl
      cases e2
      obtain ⟨g', off', ys, e3, hg', hyl, hc', hR'⟩ := HU.out.at_ hjl
      cases e3
      obtain ⟨p, hp⟩ : ∃ p, egs[j] = p := ⟨_, rfl⟩
      rw [hp] at hR hR'
      obtain ⟨va, vb, vc, rfl, a1, a2, a3, -, -, -, a4⟩ := hR
      obtain ⟨vd, ve, vf, rfl, b1, b2, b3, -⟩ := hR'
      obtain ⟨E1, p1, rfl⟩ := a1.form
      obtain ⟨E2, p2, rfl⟩ := a2.form
      obtain ⟨E3, p3, rfl⟩ := a3.form
      obtain ⟨G1, r1, rfl⟩ := b1.form
      obtain ⟨G2, r2, rfl⟩ := b2.form
      obtain ⟨G3, r3, rfl⟩ := b3.form
      have HRX : Hid (REn W0 (· < W0.heap.size) [.int .i64 p.eng.mark, .slice E1 p.eng.wait.length p1, .slice E2 p.eng.runs.length p2, .slice E3 p.eng.held.length p3] p.eng) := hide ⟨_, _, _, rfl, a1, a2, a3, a4⟩
      have HRY : Hid (REn W0 (· < W0.heap.size) [.int .i64 p.eng.mark, .slice G1 p.eng.wait.length r1, .slice G2 p.eng.runs.length r2, .slice G3 p.eng.held.length r3] p.eng) := hide ⟨_, _, _, rfl, b1, b2, b3, a4⟩
      have k0 := keep1 HB.out (hc 0 _ rfl)
      have m0 := keep1 HB.out (hc' 0 _ rfl)
      have k1 := keep1 HB.out (hc 1 _ rfl)
      have m1 := keep1 HB.out (hc' 1 _ rfl)
      have k2 := keep1 HB.out (hc 2 _ rfl)
      have m2 := keep1 HB.out (hc' 2 _ rfl)
      have k3 := keep1 HB.out (hc 3 _ rfl)
      have m3 := keep1 HB.out (hc' 3 _ rfl)
      have k4 := keep1 HB.out (hc 4 _ rfl)
      have m4 := keep1 HB.out (hc' 4 _ rfl)
      have k5 := keep1 HB.out (hc 5 _ rfl)
      have m5 := keep1 HB.out (hc' 5 _ rfl)
      have k6 := keep1 HB.out (hc 6 _ rfl)
      have m6 := keep1 HB.out (hc' 6 _ rfl)
      have k7 := keep1 HB.out (hc 7 _ rfl)
      have m7 := keep1 HB.out (hc' 7 _ rfl)
      rw [Nat.add_zero] at k0 m0
      have hu0 : (0 : Int) ≤ (j : Int) := by omega
      have hu1 : (j : Int) < (n2 : Int) := by omega
      have hbz : w.heap.size + 1 < wr.heap.size := World.block_lt_of_cell? wr _ t2
      have hbz0 : w.heap.size < wr.heap.size := World.block_lt_of_cell? wr _ s2
      have hgz : g < wr.heap.size := World.block_lt_of_cell? wr _ k0
      have hgz' : g' < wr.heap.size := World.block_lt_of_cell? wr _ m0
      clear hp hc hc' hxl hyl a1 a2 a3 b1 b2 b3
      go_wp2_with fail
      go_region
      · skip
        have HBA := hide (((below_laid (w := wr) (.cells #[.int .i64 p.query, .int .i64 p.key.q, .int .i64 p.key.n, .string p.key.s, .int .i64 p.eng.mark, .slice E1 p.eng.wait.length p1, .slice E2 p.eng.runs.length p2, .slice E3 p.eng.held.length p3] 55)).alloc (by simp) (.cells #[.int .i64 p.query, .int .i64 p.key.q, .int .i64 p.key.n, .string p.key.s, .int .i64 p.eng.mark, .slice G1 p.eng.wait.length r1, .slice G2 p.eng.runs.length r2, .slice G3 p.eng.held.length r3] 55)).drew)
        have HSM := hide (sameen_any (((wr.alloc (.cells #[.int .i64 p.query, .int .i64 p.key.q, .int .i64 p.key.n, .string p.key.s, .int .i64 p.eng.mark, .slice E1 p.eng.wait.length p1, .slice E2 p.eng.runs.length p2, .slice E3 p.eng.held.length p3] 55)).alloc (.cells #[.int .i64 p.query, .int .i64 p.key.q, .int .i64 p.key.n, .string p.key.s, .int .i64 p.eng.mark, .slice G1 p.eng.wait.length r1, .slice G2 p.eng.runs.length r2, .slice G3 p.eng.held.length r3] 55)).drew) p.eng p.eng _ _ (rdg rd_En HRX.out (bthen HB.out HBA.out)) (rdg rd_En HRY.out (bthen HB.out HBA.out)))
        go_wp2_with fail
        refine HSM.out.mono ?_
        rintro en w3 ⟨bb, hbb, rfl, hb⟩
        obtain rfl : bb = true := by first | exact hbb.2 rfl | exact hbb.2 trivial
        have HB3 := hide (bthen (bthen HB.out HBA.out) hb)
        clear hbb hb HSM HBA
        go_wp2
        go_roundw
        case rel => exact ⟨j + 1, by omega, by go_num, HB3⟩
        case measure => simp [intOf]; omega
      · skip
        have HBA := hide (((below_laid (w := wr) (.cells #[.int .i64 p.query, .int .i64 p.key.q, .int .i64 p.key.n, .string p.key.s, .int .i64 p.eng.mark, .slice G1 p.eng.wait.length r1, .slice G2 p.eng.runs.length r2, .slice G3 p.eng.held.length r3] 55)).alloc (by simp) (.cells #[.int .i64 p.query, .int .i64 p.key.q, .int .i64 p.key.n, .string p.key.s, .int .i64 p.eng.mark, .slice E1 p.eng.wait.length p1, .slice E2 p.eng.runs.length p2, .slice E3 p.eng.held.length p3] 55)).drew)
        have HSM := hide (sameen_any (((wr.alloc (.cells #[.int .i64 p.query, .int .i64 p.key.q, .int .i64 p.key.n, .string p.key.s, .int .i64 p.eng.mark, .slice G1 p.eng.wait.length r1, .slice G2 p.eng.runs.length r2, .slice G3 p.eng.held.length r3] 55)).alloc (.cells #[.int .i64 p.query, .int .i64 p.key.q, .int .i64 p.key.n, .string p.key.s, .int .i64 p.eng.mark, .slice E1 p.eng.wait.length p1, .slice E2 p.eng.runs.length p2, .slice E3 p.eng.held.length p3] 55)).drew) p.eng p.eng _ _ (rdg rd_En HRX.out (bthen HB.out HBA.out)) (rdg rd_En HRY.out (bthen HB.out HBA.out)))
        go_wp2_with fail
        refine HSM.out.mono ?_
        rintro en w3 ⟨bb, hbb, rfl, hb⟩
        obtain rfl : bb = true := by first | exact hbb.2 rfl | exact hbb.2 trivial
        have HB3 := hide (bthen (bthen HB.out HBA.out) hb)
        clear hbb hb HSM HBA
        go_wp2
        go_roundw
        case rel => exact ⟨j + 1, by omega, by go_num, HB3⟩
        case measure => simp [intOf]; omega
    · obtain rfl : j = n2 := by omega
      go_wp2
      go_ret
      exact Ret.bool rfl (HB00.out.trans (HB.out.mono HB00.out.size))
set_option maxRecDepth 100000 in
set_option maxHeartbeats 8000000 in
theorem smsn_any (x : Snp) (xs ys : List Value) (hx : RSn w (· < w.heap.size) xs x) (hy : RSn w (· < w.heap.size) ys x) : Calls Tryz.prog 10 #[.agg xs.toArray, .agg ys.toArray] w (Ret (.bool true) w) := by
  obtain ⟨nr, rds, ops⟩ := x
  obtain ⟨u1, u2, rfl, h1, h2, -⟩ := hx
  obtain ⟨v1, v2, rfl, k1, k2, -⟩ := hy
  obtain ⟨A1, c1, rfl⟩ := h1.form
  obtain ⟨A2, c2, rfl⟩ := h2.form
  obtain ⟨B1, d1, rfl⟩ := k1.form
  obtain ⟨B2, d2, rfl⟩ := k2.form
  simp only at *
  have g1 := h1.len
  have g2 := h2.len
  unfold maxLen at g1 g2
  obtain ⟨n1, hn1⟩ : ∃ n, rds.length = n := ⟨_, rfl⟩
  obtain ⟨n2, hn2⟩ : ∃ n, ops.length = n := ⟨_, rfl⟩
  rw [hn1] at h1 k1 g1 ⊢
  rw [hn2] at h2 k2 g2 ⊢
  have HMn1 := hide hn1
  have HMn2 := hide hn2
  clear hn1 hn2
  have hB := (below_laid (w := w) (.cells #[.int .i64 nr, .slice A1 n1 c1, .slice A2 n2 c2] 25)).alloc (by simp) (.cells #[.int .i64 nr, .slice B1 n1 d1, .slice B2 n2 d2] 25)
  have hX := fun c u h => keep1 (below_laid (.cells #[.int .i64 nr, .slice B1 n1 d1, .slice B2 n2 d2] 25)) (cells_lit w [.int .i64 nr, .slice A1 n1 c1, .slice A2 n2 c2] 25 c u h)
  have hY := cells_lit (w.alloc (.cells #[.int .i64 nr, .slice A1 n1 c1, .slice A2 n2 c2] 25)) [.int .i64 nr, .slice B1 n1 d1, .slice B2 n2 d2] 25
  rw [World.size_alloc] at hY
  go_enter Tryz.func10, Tryz.ntmps10
  go_wp2
  obtain ⟨W0, hW⟩ : ∃ W0, (w.alloc (.cells #[.int .i64 nr, .slice A1 n1 c1, .slice A2 n2 c2] 25)).alloc (.cells #[.int .i64 nr, .slice B1 n1 d1, .slice B2 n2 d2] 25) = W0 := ⟨_, rfl⟩
  rw [hW] at hB hX hY ⊢
  have HB00 := hide hB
  have HBX : Hid (∀ c u, ([.int .i64 nr, .slice A1 n1 c1, .slice A2 n2 c2] : List Value)[c]? = some u → W0.cell? ⟨w.heap.size, c, none⟩ = some u) := hide hX
  have HBY : Hid (∀ c u, ([.int .i64 nr, .slice B1 n1 d1, .slice B2 n2 d2] : List Value)[c]? = some u → W0.cell? ⟨w.heap.size + 1, c, none⟩ = some u) := hide hY
  have HV1 := hide (h1.grow rd_Rd hB)
  have HU1 := hide (k1.grow rd_Rd hB)
  have HV2 := hide (h2.grow rd_Op hB)
  have HU2 := hide (k2.grow rd_Op hB)
  have HBL := hide (Below.refl W0.heap.size W0)
  clear hW hB hX hY h1 h2 k1 k2
  go_loopw [5] (fun i wr => ∃ j : Nat, j ≤ n1 ∧ i = .int .i64 j ∧ Hid (Below W0.heap.size W0 wr)) (fun i _ => n1 - (intOf i).toNat)
  case atStart => exact ⟨0, by omega, rfl, HBL⟩
  case round =>
    clear HBL
    obtain ⟨j, hj, rfl, HB⟩ := hrel
    have s1 := keep1 HB.out (HBX.out 1 _ rfl)
    have s2 := keep1 HB.out (HBX.out 2 _ rfl)
    have t1 := keep1 HB.out (HBY.out 1 _ rfl)
    have t2 := keep1 HB.out (HBY.out 2 _ rfl)
    by_cases hlt : j < n1
    · have hjl : j < rds.length := by rw [HMn1.out]; exact hlt
      obtain ⟨g, off, xs, e2, hg, hxl, hc, hR⟩ := HV1.out.at_ hjl
      cases e2
      obtain ⟨g', off', ys, e3, hg', hyl, hc', hR'⟩ := HU1.out.at_ hjl
      cases e3
      obtain ⟨p, hp⟩ : ∃ p, rds[j] = p := ⟨_, rfl⟩
      rw [hp] at hR hR'
      have HEQ := hide (fun (w' : World) (h : Below W0.heap.size W0 w') => smrd_any w' p _ _ (rdg rd_Rd hR h) (rdg rd_Rd hR' h))
      obtain ⟨va, vb, rfl, a1, a2, -⟩ := hR
      obtain ⟨vc, vd, rfl, b1, b2, -⟩ := hR'
      obtain ⟨E1, p1, rfl⟩ := a1.form
      obtain ⟨E2, p2, rfl⟩ := a2.form
      obtain ⟨G1, q1, rfl⟩ := b1.form
      obtain ⟨G2, q2, rfl⟩ := b2.form
      clear a1 a2 b1 b2
      have k0 := keep1 HB.out (hc 0 _ rfl)
      have m0 := keep1 HB.out (hc' 0 _ rfl)
      have k1 := keep1 HB.out (hc 1 _ rfl)
      have m1 := keep1 HB.out (hc' 1 _ rfl)
      have k2 := keep1 HB.out (hc 2 _ rfl)
      have m2 := keep1 HB.out (hc' 2 _ rfl)
      have k3 := keep1 HB.out (hc 3 _ rfl)
      have m3 := keep1 HB.out (hc' 3 _ rfl)
      have k4 := keep1 HB.out (hc 4 _ rfl)
      have m4 := keep1 HB.out (hc' 4 _ rfl)
      have k5 := keep1 HB.out (hc 5 _ rfl)
      have m5 := keep1 HB.out (hc' 5 _ rfl)
      rw [Nat.add_zero] at k0 m0
      have hu0 : (0 : Int) ≤ (j : Int) := by omega
      have hu1 : (j : Int) < (n1 : Int) := by omega
      clear hp hc hc' hxl hyl
      go_wp2_with fail
      go_region_held3 (fun w' => (w'.cell? ⟨w.heap.size, 1, none⟩ = some (.slice (some ⟨g, off, none⟩) n1 c1) ∧ w'.cell? ⟨w.heap.size + 1, 1, none⟩ = some (.slice (some ⟨g', off', none⟩) n1 d1)) ∧ (w'.cell? ⟨g, off + j * 6, none⟩ = some (.int .i64 p.src) ∧ w'.cell? ⟨g, off + j * 6 + 1, none⟩ = some (.int .i64 p.off) ∧ w'.cell? ⟨g, off + j * 6 + 2, none⟩ = some (.int .i64 p.next) ∧ w'.cell? ⟨g, off + j * 6 + 3, none⟩ = some (.slice E1 p.beyond.length p1) ∧ w'.cell? ⟨g, off + j * 6 + 4, none⟩ = some (.slice E2 p.points.length p2) ∧ w'.cell? ⟨g, off + j * 6 + 5, none⟩ = some (.int .i64 p.mark)) ∧ w'.cell? ⟨g', off' + j * 6, none⟩ = some (.int .i64 p.src) ∧ w'.cell? ⟨g', off' + j * 6 + 1, none⟩ = some (.int .i64 p.off) ∧ w'.cell? ⟨g', off' + j * 6 + 2, none⟩ = some (.int .i64 p.next) ∧ w'.cell? ⟨g', off' + j * 6 + 3, none⟩ = some (.slice G1 p.beyond.length q1) ∧ w'.cell? ⟨g', off' + j * 6 + 4, none⟩ = some (.slice G2 p.points.length q2) ∧ w'.cell? ⟨g', off' + j * 6 + 5, none⟩ = some (.int .i64 p.mark))
        (first
          | with_reducible exact ⟨⟨keep1 hb2 s1, keep1 hb2 t1⟩, ⟨keep1 hb2 k0, keep1 hb2 k1, keep1 hb2 k2, keep1 hb2 k3, keep1 hb2 k4, keep1 hb2 k5⟩, keep1 hb2 m0, keep1 hb2 m1, keep1 hb2 m2, keep1 hb2 m3, keep1 hb2 m4, keep1 hb2 m5⟩
          | (go_keep; done))
        ((go_at_call 26; refine (HEQ.out _ HB.out.drew).mono ?_; rintro en w3 ⟨rfl, hb'⟩; have hb2 : Below wr.heap.size wr w3 := below_undrew hb'))
      have HB3 := hide (bthen HB.out hb2)
      go_wp2
      go_roundw
      case rel => exact ⟨j + 1, by omega, by go_num, HB3⟩
      case measure => simp [intOf]; omega
    · obtain rfl : j = n1 := by omega
      have HBL := HB
      go_wp2
      go_loopw [6] (fun i wr => ∃ j : Nat, j ≤ n2 ∧ i = .int .i64 j ∧ Hid (Below W0.heap.size W0 wr)) (fun i _ => n2 - (intOf i).toNat)
      case atStart => exact ⟨0, by omega, rfl, HBL⟩
      case round =>
        clear HBL
        obtain ⟨j, hj, rfl, HB⟩ := hrel
        have s1 := keep1 HB.out (HBX.out 1 _ rfl)
        have s2 := keep1 HB.out (HBX.out 2 _ rfl)
        have t1 := keep1 HB.out (HBY.out 1 _ rfl)
        have t2 := keep1 HB.out (HBY.out 2 _ rfl)
        by_cases hlt : j < n2
        · have hjl : j < ops.length := by rw [HMn2.out]; exact hlt
          obtain ⟨g, off, xs, e2, hg, hxl, hc, hR⟩ := HV2.out.at_ hjl
          cases e2
          obtain ⟨g', off', ys, e3, hg', hyl, hc', hR'⟩ := HU2.out.at_ hjl
          cases e3
          obtain ⟨p, hp⟩ : ∃ p, ops[j] = p := ⟨_, rfl⟩
          rw [hp] at hR hR'
          have HEQ := hide (fun (w' : World) (h : Below W0.heap.size W0 w') => smop_any w' p _ _ (rdg rd_Op hR h) (rdg rd_Op hR' h))
          obtain ⟨va, vb, rfl, a1, a2⟩ := hR
          obtain ⟨vc, vd, rfl, b1, b2⟩ := hR'
          obtain ⟨E1, p1, rfl⟩ := a1.form
          obtain ⟨E2, p2, rfl⟩ := a2.form
          obtain ⟨G1, q1, rfl⟩ := b1.form
          obtain ⟨G2, q2, rfl⟩ := b2.form
          clear a1 a2 b1 b2
          have k0 := keep1 HB.out (hc 0 _ rfl)
          have m0 := keep1 HB.out (hc' 0 _ rfl)
          have k1 := keep1 HB.out (hc 1 _ rfl)
          have m1 := keep1 HB.out (hc' 1 _ rfl)
          rw [Nat.add_zero] at k0 m0
          have hu0 : (0 : Int) ≤ (j : Int) := by omega
          have hu1 : (j : Int) < (n2 : Int) := by omega
          clear hp hc hc' hxl hyl
          go_wp2_with fail
          go_region_held3 (fun w' => (w'.cell? ⟨w.heap.size, 2, none⟩ = some (.slice (some ⟨g, off, none⟩) n2 c2) ∧ w'.cell? ⟨w.heap.size + 1, 2, none⟩ = some (.slice (some ⟨g', off', none⟩) n2 d2)) ∧ (w'.cell? ⟨g, off + j * 2, none⟩ = some (.slice E1 p.marks.length p1) ∧ w'.cell? ⟨g, off + j * 2 + 1, none⟩ = some (.slice E2 p.engs.length p2)) ∧ w'.cell? ⟨g', off' + j * 2, none⟩ = some (.slice G1 p.marks.length q1) ∧ w'.cell? ⟨g', off' + j * 2 + 1, none⟩ = some (.slice G2 p.engs.length q2))
            (first
              | with_reducible exact ⟨⟨keep1 hb2 s2, keep1 hb2 t2⟩, ⟨keep1 hb2 k0, keep1 hb2 k1⟩, keep1 hb2 m0, keep1 hb2 m1⟩
              | (go_keep; done))
            ((go_at_call 27; refine (HEQ.out _ HB.out.drew).mono ?_; rintro en w3 ⟨rfl, hb'⟩; have hb2 : Below wr.heap.size wr w3 := below_undrew hb'))
          have HB3 := hide (bthen HB.out hb2)
          go_wp2
          go_roundw
          case rel => exact ⟨j + 1, by omega, by go_num, HB3⟩
          case measure => simp [intOf]; omega
        · obtain rfl : j = n2 := by omega
          go_wp2
          go_ret
          exact Ret.bool rfl (HB00.out.trans (HB.out.mono HB00.out.size))
end
end Go.Proofs.YtofdcgojgcnopaaGreat

namespace Go.Proofs.YtofdcgojgcnopaaGreat
open Go.RowKit
set_option linter.unusedVariables false
set_option linter.unusedSimpArgs false
def pR (x : Rdr) : Prop := x.beyond.length ≤ 12 ∧ x.points.length ≤ 12
def pK (x : Kyd) : Prop := x.key.s.size ≤ 200 ∧ fewG x.eng = true
def pO (x : Opr) : Prop := x.marks.length ≤ 12 ∧ x.engs.length ≤ 4 ∧ ∀ y ∈ x.engs, pK y
def pS (x : Snp) : Prop := x.rs.length ≤ 5 ∧ x.os.length ≤ 5 ∧ (∀ y ∈ x.rs, pR y) ∧ ∀ y ∈ x.os, pO y
theorem take_all {α : Type} {p : α → Prop} {l : List α} {j : Nat} (hj : j < l.length) (h : ∀ x ∈ l.take j, p x) (hx : p l[j]) : ∀ x ∈ l.take (j + 1), p x := by
  intro x hm
  rw [List.take_succ_eq_append_getElem hj, List.mem_append, List.mem_singleton] at hm
  rcases hm with hm | rfl
  · exact h x hm
  · exact hx
theorem all_done {α : Type} {p : α → Prop} {l : List α} {j : Nat} (hj : l.length ≤ j) (h : ∀ x ∈ l.take j, p x) : ∀ x ∈ l, p x := by rwa [List.take_of_length_le hj] at h
/-- The flag that Few returns. -/
def RetP (p : Prop) (w : World) (e : Ending) (w' : World) : Prop := ∃ b : Bool, (b = true → p) ∧ e = .returned (.bool b) ∧ Below w.heap.size w w'
theorem RetP.no {p : Prop} {w w' : World} (hb : Below w.heap.size w w') : RetP p w (.returned (.bool false)) w' := ⟨false, (fun h => by cases h), rfl, hb⟩
theorem RetP.yes {p : Prop} {w w' : World} (h : p) (hb : Below w.heap.size w w') : RetP p w (.returned (.bool true)) w' := ⟨true, fun _ => h, rfl, hb⟩
section
variable (w : World)
set_option maxRecDepth 100000 in
set_option maxHeartbeats 16000000 in
theorem fewsn_any (x : Snp) (xs : List Value) (hx : RSn w (· < w.heap.size) xs x) : Calls Tryz.prog 4 #[.agg xs.toArray] w (RetP (pS x) w) := by
  obtain ⟨nr, rds, ops⟩ := x
  obtain ⟨u1, u2, rfl, h1, h2, -⟩ := hx
  obtain ⟨A1, c1, rfl⟩ := h1.form
  obtain ⟨A2, c2, rfl⟩ := h2.form
  simp only at *
  have g1 := h1.len
  have g2 := h2.len
  unfold maxLen at g1 g2
  obtain ⟨n1, hn1⟩ : ∃ n, rds.length = n := ⟨_, rfl⟩
  obtain ⟨n2, hn2⟩ : ∃ n, ops.length = n := ⟨_, rfl⟩
  rw [hn1] at h1 g1 ⊢
  rw [hn2] at h2 g2 ⊢
  have HM1 := hide hn1
  have HM2 := hide hn2
  clear hn1 hn2
  have hB := below_laid (w := w) (.cells #[.int .i64 nr, .slice A1 n1 c1, .slice A2 n2 c2] 25)
  have hX := cells_lit w [.int .i64 nr, .slice A1 n1 c1, .slice A2 n2 c2] 25
  go_enter Tryz.func4, Tryz.ntmps4
  go_wp2
  obtain ⟨W0, hW⟩ : ∃ W0, w.alloc (.cells #[.int .i64 nr, .slice A1 n1 c1, .slice A2 n2 c2] 25) = W0 := ⟨_, rfl⟩
  rw [hW] at hB ⊢
  have HBX : Hid (∀ c u, ([.int .i64 nr, .slice A1 n1 c1, .slice A2 n2 c2] : List Value)[c]? = some u → W0.cell? ⟨w.heap.size, c, none⟩ = some u) := hide (by rw [← hW]; exact hX)
  have HB00 := hide hB
  have HV1 := hide (h1.grow rd_Rd hB)
  have HV2 := hide (h2.grow rd_Op hB)
  have x1 := HBX.out 1 _ rfl
  have x2 := HBX.out 2 _ rfl
  clear hW hB hX h1 h2
  go_loop [3] (fun i => ∃ j : Nat, j ≤ n1 ∧ j ≤ 6 ∧ i = .int .i64 j ∧ Hid (∀ x ∈ rds.take j, pR x)) (fun i => n1 - (intOf i).toNat)
  case atStart => exact ⟨0, by omega, by omega, rfl, hide (by simp)⟩
  case round =>
    obtain ⟨j, hj, hj6, rfl, HA⟩ := hrel
    by_cases hlt : j < n1 ∧ j < 6
    · have hjl : j < rds.length := by rw [HM1.out]; exact hlt.1
      obtain ⟨g, off, ys, e2, hg, hxl, hc, hR⟩ := HV1.out.at_ hjl
      cases e2
      have HYS := hide (fun h => take_all (p := pR) hjl HA.out h)
      obtain ⟨p, hp⟩ : ∃ p, rds[j] = p := ⟨_, rfl⟩
      rw [hp] at hR HYS
      obtain ⟨va, vb, rfl, hva, hvb, -⟩ := hR
      obtain ⟨E1, p1, rfl⟩ := hva.form
      obtain ⟨E2, p2, rfl⟩ := hvb.form
      have k3 := hc 3 _ rfl
      have k4 := hc 4 _ rfl
      have hl1 := hva.len
      have hl2 := hvb.len
      unfold maxLen at hl1 hl2
      obtain ⟨a, ha⟩ : ∃ a, p.beyond.length = a := ⟨_, rfl⟩
      obtain ⟨b, hb⟩ : ∃ b, p.points.length = b := ⟨_, rfl⟩
      have HFC : Hid (a ≤ 12 → b ≤ 12 → pR p) := hide (fun h1 h2 => ⟨by rw [ha]; exact h1, by rw [hb]; exact h2⟩)
      rw [ha] at k3 hl1
      rw [hb] at k4 hl2
      have hu0 : (0 : Int) ≤ (j : Int) := by omega
      have hu1 : (j : Int) < (n1 : Int) := by omega
      have hu2 : (j : Int) < 6 := by omega
      clear hp hc hxl ha hb hva hvb
      by_cases s1 : a ≤ 12
      · have t1 : decide ((12 : Int) < (a : Int)) = false := decide_eq_false (by omega)
        by_cases s2 : b ≤ 12
        · have t2 : decide ((12 : Int) < (b : Int)) = false := decide_eq_false (by omega)
          have HA2 := hide (HYS.out (HFC.out s1 s2))
          go_wp2
          go_round
          case rel => exact ⟨j + 1, by omega, by omega, by go_num, HA2⟩
          case measure => simp [intOf]; omega
        · have t2 : decide ((12 : Int) < (b : Int)) = true := decide_eq_true (by omega)
          go_wp2
          go_ret
          exact RetP.no HB00.out
      · have t1 : decide ((12 : Int) < (a : Int)) = true := decide_eq_true (by omega)
        go_wp2
        go_ret
        exact RetP.no HB00.out
    · have HD1 : Hid (n1 ≤ 5 → ∀ x ∈ rds, pR x) := hide (fun h => all_done (by rw [HM1.out]; omega) HA.out)
      have hor : (j < n1 ∧ 6 ≤ j) ∨ n1 ≤ j := by omega
      clear hlt
      rcases hor with ⟨hw1, hw2⟩ | hw1
      all_goals
        go_wp2
        go_loopw [4] (fun i wr => ∃ j : Nat, j ≤ n2 ∧ j ≤ 6 ∧ i = .int .i64 j ∧ Hid (∀ x ∈ ops.take j, pO x) ∧ Hid (Below W0.heap.size W0 wr)) (fun i _ => n2 - (intOf i).toNat)
        case atStart => exact ⟨0, by omega, by omega, rfl, hide (by simp), hide (Below.refl _ _)⟩
        case round =>
          clear x1 x2
          obtain ⟨q, hq, hq6, rfl, HA2, HB⟩ := hrel
          have x1 := keep1 HB.out (HBX.out 1 _ rfl)
          have x2 := keep1 HB.out (HBX.out 2 _ rfl)
          obtain ⟨wo, rfl⟩ : ∃ wo : World, wo = wr := ⟨_, rfl⟩
          by_cases hlq : q < n2 ∧ q < 6
          · have hjl : q < ops.length := by rw [HM2.out]; exact hlq.1
            obtain ⟨g, off, ys, e2, hg, hxl, hc, hR⟩ := HV2.out.at_ hjl
            cases e2
            have HYS := hide (fun h => take_all (p := pO) hjl HA2.out h)
            obtain ⟨p, hp⟩ : ∃ p, ops[q] = p := ⟨_, rfl⟩
            rw [hp] at hR HYS
            obtain ⟨va, vb, rfl, hva, hvb⟩ := hR
            obtain ⟨E1, p1, rfl⟩ := hva.form
            obtain ⟨E2, p2, rfl⟩ := hvb.form
            have HC0 := hide (hc 0 _ rfl)
            have HC1 := hide (hc 1 _ rfl)
            have k0 := keep1 HB.out (hc 0 _ rfl)
            have k1 := keep1 HB.out (hc 1 _ rfl)
            rw [Nat.add_zero] at k0
            have hl1 := hva.len
            have hl2 := hvb.len
            unfold maxLen at hl1 hl2
            obtain ⟨a, ha⟩ : ∃ a, p.marks.length = a := ⟨_, rfl⟩
            obtain ⟨b, hb⟩ : ∃ b, p.engs.length = b := ⟨_, rfl⟩
            have HPO : Hid (a ≤ 12 → b ≤ 4 → (∀ y ∈ p.engs, pK y) → pO p) := hide (fun h1 h2 h3 => ⟨by rw [ha]; exact h1, by rw [hb]; exact h2, h3⟩)
            rw [ha] at k0 hl1
            rw [hb] at k1 hl2 HC1 hvb
            have HMB := hide hb
            have HVB := hide hvb
            have hu0 : (0 : Int) ≤ (q : Int) := by omega
            have hu1 : (q : Int) < (n2 : Int) := by omega
            have hu2 : (q : Int) < 6 := by omega
            clear hp hc hxl ha hb hva hvb
            by_cases s1 : a ≤ 12
            · have t1 : decide ((12 : Int) < (a : Int)) = false := decide_eq_false (by omega)
              by_cases s2 : b ≤ 4
              · have t2 : decide ((4 : Int) < (b : Int)) = false := decide_eq_false (by omega)
                go_wp2
                go_loopw [5] (fun i wr => ∃ r : Nat, r ≤ b ∧ i = .int .i64 r ∧ Hid (∀ y ∈ p.engs.take r, pK y) ∧ Hid (Below W0.heap.size W0 wr)) (fun i _ => b - (intOf i).toNat)
                case atStart => exact ⟨0, by omega, rfl, hide (by simp), HB⟩
                case round =>
                  clear x1 x2 k0 k1
                  obtain ⟨r, hr, rfl, HA3, HB3⟩ := hrel
                  have x2 := keep1 HB3.out (HBX.out 2 _ rfl)
                  have k1 := keep1 HB3.out HC1.out
                  by_cases hlr : r < b
                  · have hrl : r < p.engs.length := by rw [HMB.out]; exact hlr
                    obtain ⟨g3, off3, zs, e3, hg3, hzl, hcz, hRz⟩ := HVB.out.at_ hrl
                    cases e3
                    have HYK := hide (fun h => take_all (p := pK) hrl HA3.out h)
                    obtain ⟨z, hz⟩ : ∃ z, p.engs[r] = z := ⟨_, rfl⟩
                    rw [hz] at hRz HYK
                    obtain ⟨vc, vd, ve, rfl, a1, a2, a3, -, -, hks, a4⟩ := hRz
                    obtain ⟨F1, f1, rfl⟩ := a1.form
                    obtain ⟨F2, f2, rfl⟩ := a2.form
                    obtain ⟨F3, f3, rfl⟩ := a3.form
                    have HFE := hide (fun (w' : World) (h : Below W0.heap.size W0 w') => fewen_any w' z.eng [.int .i64 z.eng.mark, .slice F1 z.eng.wait.length f1, .slice F2 z.eng.runs.length f2, .slice F3 z.eng.held.length f3] ⟨_, _, _, rfl, a1.grow rd_Ev0 h, a2.grow rd_Cf h, a3.grow rd_Ev0 h, a4⟩)
                    have m3 := keep1 HB3.out (hcz 3 _ rfl)
                    have m4 := keep1 HB3.out (hcz 4 _ rfl)
                    have m5 := keep1 HB3.out (hcz 5 _ rfl)
                    have m6 := keep1 HB3.out (hcz 6 _ rfl)
                    have m7 := keep1 HB3.out (hcz 7 _ rfl)
                    have hv0 : (0 : Int) ≤ (r : Int) := by omega
                    have hv1 : (r : Int) < (b : Int) := by omega
                    unfold maxLen at hks
                    clear hz hcz hzl a1 a2 a3 a4
                    by_cases s3 : z.key.s.size ≤ 200
                    · have t3 : decide ((200 : Int) < (z.key.s.size : Int)) = false := decide_eq_false (by omega)
                      have HS3 := hide s3
                      go_wp2_with fail
                      refine (HFE.out _ HB3.out).mono ?_
                      rintro en w3 ⟨rfl, hb⟩
                      have HB4 := hide (bthen HB3.out hb)
                      clear hb
                      cases hfg : fewG z.eng
                      · clear hfg
                        go_wp2
                        go_ret
                        exact RetP.no (HB00.out.trans (HB4.out.mono HB00.out.size))
                      · have HA4 := hide (HYK.out ⟨HS3.out, hfg⟩)
                        clear hfg
                        go_wp2
                        go_roundw
                        case rel => exact ⟨r + 1, by omega, by go_num, HA4, HB4⟩
                        case measure => simp [intOf]; omega
                    · have t3 : decide ((200 : Int) < (z.key.s.size : Int)) = true := decide_eq_true (by omega)
                      go_wp2
                      go_ret
                      exact RetP.no (HB00.out.trans (HB3.out.mono HB00.out.size))
                  · obtain rfl : r = b := by omega
                    have HA4 := hide (HYS.out (HPO.out s1 s2 (all_done (by rw [HMB.out]; exact Nat.le_refl _) HA3.out)))
                    go_wp2
                    go_roundw
                    case rel => exact ⟨q + 1, by omega, by omega, by go_num, HA4, HB3⟩
                    case measure => simp [intOf]; omega
              · have t2 : decide ((4 : Int) < (b : Int)) = true := decide_eq_true (by omega)
                go_wp2
                go_ret
                exact RetP.no (HB00.out.trans (HB.out.mono HB00.out.size))
            · have t1 : decide ((12 : Int) < (a : Int)) = true := decide_eq_true (by omega)
              go_wp2
              go_ret
              exact RetP.no (HB00.out.trans (HB.out.mono HB00.out.size))
          · have HD2 : Hid (n2 ≤ 5 → ∀ x ∈ ops, pO x) := hide (fun h => all_done (by rw [HM2.out]; omega) HA2.out)
            have HFIN := hide (fun (h1 : rds.length ≤ 5) (h2 : ops.length ≤ 5) => (⟨h1, h2, HD1.out (by rw [← HM1.out]; exact h1), HD2.out (by rw [← HM2.out]; exact h2)⟩ : pS ⟨nr, rds, ops⟩))
            rcases (by omega : (6 ≤ q ∧ q < n2) ∨ n2 ≤ q) with ⟨hw3, hw4⟩ | hw3
            all_goals
              by_cases f1 : n1 ≤ 5
              · have t1 : decide ((n1 : Int) ≤ 5) = true := decide_eq_true (by omega)
                by_cases f2 : n2 ≤ 5
                · have t2 : decide ((n2 : Int) ≤ 5) = true := decide_eq_true (by omega)
                  first
                    | (exfalso; omega)
                    | (have HS := hide (HFIN.out (by rw [HM1.out]; exact f1) (by rw [HM2.out]; exact f2)); go_wp2; go_ret; exact RetP.yes HS.out (HB00.out.trans (HB.out.mono HB00.out.size)))
                · have t2 : decide ((n2 : Int) ≤ 5) = false := decide_eq_false (by omega)
                  first
                    | (exfalso; omega)
                    | (go_wp2; go_ret; exact RetP.no (HB00.out.trans (HB.out.mono HB00.out.size)))
              · have t1 : decide ((n1 : Int) ≤ 5) = false := decide_eq_false (by omega)
                go_wp2
                go_ret
                exact RetP.no (HB00.out.trans (HB.out.mono HB00.out.size))
theorem few_sn {w : World} {Z : Nat → Prop} {xs : List Value} {x : Snp} (h : RSn w Z xs x) (hf : pS x) : RSnW w Z xs x := by
  obtain ⟨u, v, e, h1, h2, hg⟩ := h
  refine ⟨u, v, e, h1, h2.turn fun o ho xs ⟨u2, v2, e2, k1, k2⟩ => ⟨u2, v2, e2, k1, k2.turn fun y hy ys hk => ?_⟩, hg⟩
  obtain ⟨a, b, c, e3, l1, l2, l3, g1, g2, g3, g4⟩ := hk
  have hp := (hf.2.2.2 o ho).2.2 y hy
  have hfw := hp.2
  unfold fewG at hfw
  simp only [Bool.and_eq_true] at hfw
  exact ⟨a, b, c, e3, few_lst l1 hfw.2.2.1, l2, few_lst l3 hfw.2.2.2, g1, g2, by have := hp.1; omega, g4⟩
theorem few_snw {x : Snp} (hf : pS x) : wtSn x ≤ 10000000 := by
  obtain ⟨h1, h2, h3, h4⟩ := hf
  have a := sum_le (f := wtRd) (n := 430) (l := x.rs) (fun y hy => by
    obtain ⟨b1, b2⟩ := h3 y hy
    have d := sum_le (f := wtI) (n := 10) (l := y.beyond) (fun _ _ => Nat.le_refl _)
    have e := sum_le (f := wtPn) (n := 20) (l := y.points) (fun _ _ => Nat.le_refl _)
    unfold wtRd
    omega)
  have b := sum_le (f := wtOp) (n := 1400000) (l := x.os) (fun y hy => by
    obtain ⟨b1, b2, b3⟩ := h4 y hy
    have d := sum_le (f := wtI) (n := 10) (l := y.marks) (fun _ _ => Nat.le_refl _)
    have e := sum_le (f := wtKy) (n := 300240) (l := y.engs) (fun z hz => by
      obtain ⟨c1, c2⟩ := b3 z hz
      have := few_enw c2
      unfold wtKy
      omega)
    unfold wtOp
    omega)
  unfold wtSn
  omega
end
end Go.Proofs.YtofdcgojgcnopaaGreat

namespace Go.Proofs.YtofdcgojgcnopaaGreat
open Go.RowKit
set_option linter.unusedVariables false
set_option linter.unusedSimpArgs false
theorem lst_mem {α : Type} {R : World → (Nat → Prop) → List Value → α → Prop} {w : World} {Z : Nat → Prop} {sz : Nat} {v : Value} {l : List α} (h : Lst w Z sz R v l) : ∀ x ∈ l, ∃ xs, R w Z xs x := by
  intro x hx
  obtain ⟨j, hj, rfl⟩ := List.getElem_of_mem hx
  obtain ⟨_, _, _, xs, _, _, _, _, hr⟩ := h.2 j hj
  exact ⟨xs, hr⟩
section
variable {w : World} {Z : Nat → Prop} {xs : List Value}
theorem g_Ev {x : Evt} (h : REv0 w Z xs x) : gEv x := by
  obtain ⟨v, -, hl, a, b, c, d⟩ := h
  exact ⟨a, b, c, d, fun y hy => by obtain ⟨ys, -, hg, -⟩ := lst_mem hl y hy; exact hg⟩
theorem g_Cf {x : Cfg} (h : RCf w Z xs x) : gCfg x := by
  obtain ⟨u, v, -, h1, h2, hg⟩ := h
  exact ⟨hg, fun y hy => by obtain ⟨ys, -, hg⟩ := lst_mem h1 y hy; exact hg, fun y hy => by obtain ⟨ys, -, hg⟩ := lst_mem h2 y hy; exact hg⟩
theorem g_evs {v : Value} {l : List Evt} (h : Lst w Z 5 REv0 v l) : ∀ x ∈ l, gEv x := fun y hy => by obtain ⟨ys, hr⟩ := lst_mem h y hy; exact g_Ev hr
theorem g_Ky {x : Kyd} (h : RKy w Z xs x) : gKyd x := by
  obtain ⟨u, v, t, -, h1, h2, h3, a, b, c, d⟩ := h
  exact ⟨a, b, d, g_evs h1, fun y hy => by obtain ⟨ys, hr⟩ := lst_mem h2 y hy; exact g_Cf hr, g_evs h3⟩
theorem g_Op {x : Opr} (h : ROp w Z xs x) : gOpr x := by
  obtain ⟨u, v, -, h1, h2⟩ := h
  exact ⟨fun y hy => by obtain ⟨ys, -, hg⟩ := lst_mem h1 y hy; exact hg, fun y hy => by obtain ⟨ys, hr⟩ := lst_mem h2 y hy; exact g_Ky hr⟩
theorem g_Rd {x : Rdr} (h : RRd w Z xs x) : gRdr x := by
  obtain ⟨u, v, -, h1, h2, a, b, c, d⟩ := h
  exact ⟨a, b, c, fun y hy => by obtain ⟨ys, -, hg⟩ := lst_mem h1 y hy; exact hg, fun y hy => by obtain ⟨ys, -, hg⟩ := lst_mem h2 y hy; exact hg, d⟩
theorem g_Sn {x : Snp} (h : RSn w Z xs x) : gSnp x := by
  obtain ⟨u, v, -, h1, h2, a⟩ := h
  exact ⟨a, fun y hy => by obtain ⟨ys, hr⟩ := lst_mem h1 y hy; exact g_Rd hr, fun y hy => by obtain ⟨ys, hr⟩ := lst_mem h2 y hy; exact g_Op hr⟩
end
theorem many_part {α : Type} {f : α → Ex Bs} : ∀ {l : List α} {b : Bs}, eMany f l = .ok b → ∀ x ∈ l, ∃ c, f x = .ok c ∧ c.length ≤ b.length := by
  intro l
  induction l with
  | nil => intro b _ x hx; cases hx
  | cons y l ih =>
    intro b h x hx
    obtain ⟨p, q, h1, h2, rfl⟩ := andE_ok h
    rw [List.length_append]
    rcases List.mem_cons.1 hx with rfl | hx
    · exact ⟨p, h1, by omega⟩
    · obtain ⟨c, h3, h4⟩ := ih h2 x hx; exact ⟨c, h3, by omega⟩
theorem list_part {α : Type} {f : α → Ex Bs} {l : List α} {b : Bs} (h : eL f l = .ok b) : ∀ x ∈ l, ∃ c, f x = .ok c ∧ c.length ≤ b.length := by
  unfold eL at h
  split at h
  · cases h
  · obtain ⟨p, q, -, h2, rfl⟩ := andE_ok h
    intro x hx
    obtain ⟨c, h3, h4⟩ := many_part h2 x hx
    exact ⟨c, h3, by rw [List.length_append]; omega⟩
theorem seal_part {r : Ex Bs} {b : Bs} (h : r = .ok b) (hl : b.length + 4 ≤ 1048576) : ∃ s, sealE r = .ok s ∧ s.length ≤ 1048576 := by
  subst h
  exact ⟨sealB b, if_neg (by omega), by simp [sealB, sumBytes]; omega⟩
/-- The engines in a snapshot, and their lists, can be encoded; what is decoded is what was encoded. -/
theorem parts {x : Snp} {s : Bs} (hg : gSnp x) (h : sealE (eSnp x) = .ok s) : ∀ o ∈ x.os, ∀ k ∈ o.engs, ∃ t u, (sealE (eEng k.eng) = .ok t ∧ openE pEng t = .ok k.eng ∧ t.length ≤ 1048576) ∧ sealE (eL eEv k.eng.held) = .ok u ∧ openE (pL pEv) u = .ok k.eng.held ∧ u.length ≤ 1048576 := by
  intro o ho k hk
  obtain ⟨b, h1, -, hl, -⟩ := seal_form h
  obtain ⟨_, _, -, h2, rfl⟩ := andE_ok h1
  obtain ⟨_, _, -, h3, rfl⟩ := andE_ok h2
  obtain ⟨c, h4, hc⟩ := list_part h3 o ho
  obtain ⟨_, _, -, h5, rfl⟩ := andE_ok h4
  obtain ⟨d, h6, hd⟩ := list_part h5 k hk
  obtain ⟨_, _, -, h7, rfl⟩ := andE_ok h6
  obtain ⟨_, _, -, h8, rfl⟩ := andE_ok h7
  simp only [List.length_append] at hl hc hd
  obtain ⟨t, ht, htl⟩ := seal_part h8 (by omega)
  have hge := ((hg.2.2 o ho).2 k hk).2.2
  obtain ⟨_, _, -, h9, e9⟩ := andE_ok h8
  obtain ⟨_, _, -, h10, e10⟩ := andE_ok h9
  obtain ⟨_, q, -, h11, e11⟩ := andE_ok h10
  have hl9 := congrArg List.length e9
  have hl10 := congrArg List.length e10
  have hl11 := congrArg List.length e11
  simp only [List.length_append] at hl9 hl10 hl11
  obtain ⟨u, hu, hul⟩ := seal_part h11 (by omega)
  exact ⟨t, u, ⟨ht, open_seal inv_Eng hge ht, htl⟩, hu, open_seal (inv_list inv_Ev) hge.2.2.2 hu, hul⟩
end Go.Proofs.YtofdcgojgcnopaaGreat
