/- The reference's Same: of equal coordinators true. -/
import Derived.Test.YtihbonndinnohaaQFew
import Derived.Deep.Cut
import Derived.Deep.CutRange
namespace Go.Proofs.Ytihbonndinnohaa
open Go.RowKit
set_option linter.unusedVariables false
set_option linter.unusedSimpArgs false
/-- Two boxes, each with its cells. -/
def Two (w : World) (P Q : Nat) (xs ys : List Value) : Prop := (∀ c u, xs[c]? = some u → w.cell? ⟨P, c, none⟩ = some u) ∧ ∀ c u, ys[c]? = some u → w.cell? ⟨Q, c, none⟩ = some u
theorem laid2 (w : World) (a b : List Value) (t s : TypeId) : Below w.heap.size w ((w.alloc (.cells a.toArray t)).alloc (.cells b.toArray s)).drew ∧
    (∀ i x, a[i]? = some x → ((w.alloc (.cells a.toArray t)).alloc (.cells b.toArray s)).drew.cell? ⟨w.heap.size, i, none⟩ = some x) ∧
    (∀ i x, b[i]? = some x → ((w.alloc (.cells a.toArray t)).alloc (.cells b.toArray s)).drew.cell? ⟨w.heap.size + 1, i, none⟩ = some x) := by
  have h1 := cells_lit w a t
  have h2 := cells_lit (w.alloc (.cells a.toArray t)) b s
  simp only [World.size_alloc] at h2
  exact ⟨((below_laid _).alloc (by simp) _).drew, fun i x h => keep1 (below_laid _) (h1 i x h), fun i x h => h2 i x h⟩
section
variable (w : World) (c : Cq)
set_option maxRecDepth 100000 in
set_option maxHeartbeats 16000000 in
theorem same_any (v1 v2 : Value) (h1 : CoV w v1 c) (h2 : CoV w v2 c) : Calls Try.prog 15 #[v1, v2] w (Ret (.bool true) w) := by
  obtain ⟨u1, rfl, l1, -⟩ := h1
  obtain ⟨u2, rfl, l2, -⟩ := h2
  obtain ⟨A1, q1, rfl⟩ := l1.form
  obtain ⟨A2, q2, rfl⟩ := l2.form
  have hmx := Lst.len l1
  unfold maxLen at hmx
  have HB0 := hide (((below_laid (w := w) (.cells #[.int .i64 c.next, .slice A1 c.atts.length q1, .int .i64 c.dur] 24)).alloc (by simp) (.cells #[.int .i64 c.next, .slice A2 c.atts.length q2, .int .i64 c.dur] 24)))
  have H1 := hide (Lq.grow rd_Aq l1 HB0.out)
  have H2 := hide (Lq.grow rd_Aq l2 HB0.out)
  have X1 := hide (show ((w.alloc (.cells #[.int .i64 c.next, .slice A1 c.atts.length q1, .int .i64 c.dur] 24)).alloc (.cells #[.int .i64 c.next, .slice A2 c.atts.length q2, .int .i64 c.dur] 24)).cell? ⟨w.heap.size, 1, none⟩ = some (.slice A1 c.atts.length q1) by rw [World.cell?_alloc_lt _ _ _ (by simp)]; exact cells_lit w [.int .i64 c.next, .slice A1 c.atts.length q1, .int .i64 c.dur] _ 1 _ rfl)
  have X2 := hide (show ((w.alloc (.cells #[.int .i64 c.next, .slice A1 c.atts.length q1, .int .i64 c.dur] 24)).alloc (.cells #[.int .i64 c.next, .slice A2 c.atts.length q2, .int .i64 c.dur] 24)).cell? ⟨w.heap.size + 1, 1, none⟩ = some (.slice A2 c.atts.length q2) by
    rw [World.cell?_alloc_at _ _ _ _ (by simp)]; simp)
  obtain ⟨m, hm⟩ : ∃ m, c.atts.length = m := ⟨_, rfl⟩
  have HM := hide hm
  rw [hm] at HB0 X1 X2 hmx ⊢
  simp only [hm] at H1 H2
  have hm9 : (m : Int) ≤ 9223372036854775807 := by omega
  obtain ⟨nx, hnx⟩ : ∃ x, c.next = x := ⟨_, rfl⟩
  obtain ⟨du, hdu⟩ : ∃ x, c.dur = x := ⟨_, rfl⟩
  rw [hnx, hdu] at HB0 X1 X2 H1 H2 ⊢
  clear hm l1 l2 hnx hdu hmx
  go_enter Try.func15, Try.ntmps15
  go_wp2
  obtain ⟨W0, hW⟩ : ∃ W0, (w.alloc (.cells #[.int .i64 nx, .slice A1 m q1, .int .i64 du] 24)).alloc (.cells #[.int .i64 nx, .slice A2 m q2, .int .i64 du] 24) = W0 := ⟨_, rfl⟩
  rw [hW] at HB0 H1 H2 X1 X2 ⊢
  clear hW
  go_loopw [5] (fun i wr => ∃ j : Nat, j ≤ m ∧ i = .int .i64 j ∧ Hid (Below W0.heap.size W0 wr)) (fun i _ => m - (intOf i).toNat)
  case atStart => exact ⟨0, Nat.zero_le _, rfl, hide (Below.refl _ _)⟩
  case round =>
    obtain ⟨j, hj, rfl, HB⟩ := hrel
    have x1 := keep1 HB.out X1.out
    have x2 := keep1 HB.out X2.out
    by_cases hlt : j < m
    · have hjl : j < c.atts.length := by rw [HM.out]; exact hlt
      obtain ⟨g, off, xs, eA, -⟩ := Lst.at_ H1.out (j := j) hjl
      subst eA
      obtain ⟨g', off', xs', eA', -⟩ := Lst.at_ H2.out (j := j) hjl
      subst eA'
      obtain ⟨hg, B1, B2, B3, c1, c2, c3, ha⟩ := att_at H1.out hjl
      obtain ⟨hg', D1, D2, D3, d1, d2, d3, hb⟩ := att_at H2.out hjl
      replace ha := ha.grow HB.out
      replace hb := hb.grow HB.out
      have k0 := ha.k0
      have k1 := ha.k1
      have k2 := ha.k2
      have k3 := ha.k3
      have n0 := hb.k0
      have n1 := hb.k1
      have n2 := hb.k2
      have n3 := hb.k3
      have HA := hide ha
      have HBB := hide hb
      obtain ⟨a, hae⟩ : ∃ a, attQ c j = a := ⟨_, rfl⟩
      rw [hae] at k0 k1 k2 k3 n0 n1 n2 n3 HA HBB
      have hu0 : (0 : Int) ≤ (j : Int) := by omega
      have hu1 : (j : Int) < (m : Int) := by omega
      have hgw : g < wr.heap.size := World.block_lt_of_cell? wr _ k0
      have hgw' : g' < wr.heap.size := World.block_lt_of_cell? wr _ n0
      have hwz : w.heap.size < wr.heap.size := World.block_lt_of_cell? wr _ x1
      have hwz1 : w.heap.size + 1 < wr.heap.size := World.block_lt_of_cell? wr _ x2
      have HSP := hide (fun (w' : World) (hb : Below wr.heap.size wr w') => smp_any w' a.rds a.ops _ _ _ _ (HA.out.l1.grow rd_Rq hb) (HBB.out.l1.grow rd_Rq hb) (HA.out.l2.grow rd_Oq hb) (HBB.out.l2.grow rd_Oq hb))
      have HCE := hide (fun (w' : World) (hb : Below W0.heap.size W0 w') (p : Addr) (u : Value) (h : W0.cell? p = some u) => keep1 hb h)
      have HFL := hide (show ∀ k, k < a.hv.length → ∃ z : Bool, (∃ g3 o3, B3 = some ⟨g3, o3, none⟩ ∧ wr.cell? ⟨g3, o3 + k, none⟩ = some (.bool z)) ∧ ∃ g4 o4, D3 = some ⟨g4, o4, none⟩ ∧ wr.cell? ⟨g4, o4 + k, none⟩ = some (.bool z) from fun k hk => by
        obtain ⟨g3, o3, ys, e3, -, -, hc3, hr3⟩ := Lst.at_ HA.out.l3 hk
        obtain ⟨g4, o4, zs, e4, -, -, hc4, hr4⟩ := Lst.at_ HBB.out.l3 hk
        obtain rfl := hr3
        obtain rfl := hr4
        have v3 := hc3 0 _ rfl
        have v4 := hc4 0 _ rfl
        rw [Nat.add_zero, Nat.mul_one] at v3 v4
        exact ⟨_, ⟨g3, o3, e3, v3⟩, g4, o4, e4, v4⟩)
      have w3l := Lst.len HA.out.l3
      unfold maxLen at w3l
      obtain ⟨r1, hr1⟩ : ∃ n, a.rds.length = n := ⟨_, rfl⟩
      obtain ⟨r2, hr2⟩ : ∃ n, a.ops.length = n := ⟨_, rfl⟩
      obtain ⟨r3, hr3⟩ : ∃ n, a.hv.length = n := ⟨_, rfl⟩
      obtain ⟨num, hnum⟩ : ∃ n, a.num = n := ⟨_, rfl⟩
      rw [hr1] at k1 n1
      rw [hr2] at k2 n2
      rw [hr3] at k3 n3 HFL w3l
      rw [hnum] at k0 n0
      rw [hr1, hr2] at HSP
      have hr39 : (r3 : Int) ≤ 9223372036854775807 := by omega
      clear ha hb hae HA HBB hr1 hr2 hr3 hnum w3l HCE
      have HCE := hide (fun (w' : World) (hb : Below wr.heap.size wr w') (p : Addr) (u : Value) (h : wr.cell? p = some u) => keep1 hb h)
      go_upto_region 6 with (fail)
      go_cut [6, 7] from 30 to 90 (fun p q wx => ∃ P Q, p = .pointer (some ⟨P, 0, none⟩) ∧ q = .pointer (some ⟨Q, 0, none⟩) ∧ Hid (Below wr.heap.size wr wx ∧ Two wx P Q [.int .i64 num, .slice B1 r1 c1, .slice B2 r2 c2, .slice B3 r3 c3] [.int .i64 num, .slice D1 r1 d1, .slice D2 r2 d2, .slice D3 r3 d3]))
      case first =>
        go_region
        · go_wp2_with fail
          go_meet
          obtain ⟨b, x, y⟩ := laid2 wr [.int .i64 num, .slice B1 r1 c1, .slice B2 r2 c2, .slice B3 r3 c3] [.int .i64 num, .slice D1 r1 d1, .slice D2 r2 d2, .slice D3 r3 d3] 51 51
          exact ⟨_, _, rfl, rfl, hide ⟨b, x, y⟩⟩
        · go_wp2_with fail
          go_meet
          obtain ⟨b, x, y⟩ := laid2 wr [.int .i64 num, .slice D1 r1 d1, .slice D2 r2 d2, .slice D3 r3 d3] [.int .i64 num, .slice B1 r1 c1, .slice B2 r2 c2, .slice B3 r3 c3] 51 51
          exact ⟨_, _, rfl, rfl, hide ⟨b, y, x⟩⟩
      case rest =>
        obtain ⟨P, Q, rfl, rfl, HF⟩ := hcut
        obtain ⟨h02, hx, hy⟩ := HF.out
        have s0 := hx 0 _ rfl
        have s1 := hx 1 _ rfl
        have s2 := hx 2 _ rfl
        have s3 := hx 3 _ rfl
        have t0 := hy 0 _ rfl
        have t1 := hy 1 _ rfl
        have t2 := hy 2 _ rfl
        have t3 := hy 3 _ rfl
        have HSP2 := hide (HSP.out wc h02)
        have HB2 := hide (bthen HB.out h02)
        have HW2 := hide h02
        clear hx hy HF x1 x2 h02 k0 k1 k2 k3 n0 n1 n2 n3
        go_wp2_with fail
        refine HSP2.out.mono ?_
        rintro e W3 ⟨rfl, hb3⟩
        replace s3 := keep1 hb3 s3
        replace t3 := keep1 hb3 t3
        have HB3 := hide (bthen HB2.out hb3)
        have HWR3 := hide (bthen HW2.out hb3)
        clear s0 s1 s2 t0 t1 t2 hb3 HSP HSP2
        go_wp2
        go_loopw [8] (fun i wr => ∃ k : Nat, k ≤ r3 ∧ i = .int .i64 k ∧ Hid (Below W3.heap.size W3 wr)) (fun i _ => r3 - (intOf i).toNat)
        case atStart => exact ⟨0, Nat.zero_le _, rfl, hide (Below.refl _ _)⟩
        case round =>
          obtain ⟨k, hk, rfl, HB4⟩ := hrel
          replace s3 := keep1 HB4.out s3
          replace t3 := keep1 HB4.out t3
          by_cases hlt3 : k < r3
          · obtain ⟨z, e1, e2⟩ := HFL.out k hlt3
            obtain ⟨g3, o3, rfl, v3⟩ := e1
            obtain ⟨g4, o4, rfl, v4⟩ := e2
            replace v3 := keep1 HB4.out (HCE.out W3 HWR3.out _ _ v3)
            replace v4 := keep1 HB4.out (HCE.out W3 HWR3.out _ _ v4)
            have hv0 : (0 : Int) ≤ (k : Int) := by omega
            have hv1 : (k : Int) < (r3 : Int) := by omega
            go_wp2
            go_quiet (fail)
            go_wp2
            go_roundw
            case rel => exact ⟨k + 1, by omega, by go_num, hide (below_drewN HB4.out _)⟩
            case measure => simp [intOf]; omega
          · obtain rfl : k = r3 := by omega
            have HB5 := hide (HB3.out.trans (HB4.out.mono HB3.out.size))
            go_wp2
            go_roundw
            case rel => exact ⟨j + 1, by omega, by go_num, HB5⟩
            case measure => simp [intOf]; omega
    · obtain rfl : j = m := by omega
      go_wp2
      go_ret
      exact Ret.bool rfl (HB0.out.trans (HB.out.mono HB0.out.size))
end
end Go.Proofs.Ytihbonndinnohaa
