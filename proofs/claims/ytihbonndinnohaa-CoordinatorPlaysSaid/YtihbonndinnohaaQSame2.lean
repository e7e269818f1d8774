/- The reference's SameParts, Same and Few. -/
import Derived.Test.YtihbonndinnohaaQSame
namespace Go.Proofs.Ytihbonndinnohaa
open Go.RowKit
set_option linter.unusedVariables false
set_option linter.unusedSimpArgs false
section
variable (w : World)
set_option maxRecDepth 100000 in
set_option maxHeartbeats 8000000 in
theorem smp_any (rs : List Rq) (os : List Oq) (v1 v2 u1 u2 : Value) (l1 : Lq w 6 RRq v1 rs) (l2 : Lq w 6 RRq v2 rs) (l3 : Lq w 2 ROq u1 os) (l4 : Lq w 2 ROq u2 os) :
    Calls Try.prog 23 #[v1, v2, u1, u2] w (Ret (.bool true) w) := by
  obtain ⟨A1, c1, rfl⟩ := l1.form
  obtain ⟨A2, c2, rfl⟩ := l2.form
  obtain ⟨A3, c3, rfl⟩ := l3.form
  obtain ⟨A4, c4, rfl⟩ := l4.form
  have m1 := Lst.len l1
  have m2 := Lst.len l3
  unfold maxLen at m1 m2
  have H1 := hide l1
  have H2 := hide l2
  have H3 := hide l3
  have H4 := hide l4
  obtain ⟨n1, hn1⟩ : ∃ n, rs.length = n := ⟨_, rfl⟩
  obtain ⟨n2, hn2⟩ : ∃ n, os.length = n := ⟨_, rfl⟩
  have HN1 := hide hn1
  have HN2 := hide hn2
  rw [hn1, hn2]
  simp only [hn1, hn2] at H1 H2 H3 H4 m1 m2
  have hm1 : (n1 : Int) ≤ 9223372036854775807 := by omega
  have hm2 : (n2 : Int) ≤ 9223372036854775807 := by omega
  clear hn1 hn2 l1 l2 l3 l4 m1 m2
  go_enter Try.func23, Try.ntmps23
  go_wp2
  go_loopw [9] (fun i wr => ∃ j : Nat, j ≤ n1 ∧ i = .int .i64 j ∧ Hid (Below w.heap.size w wr)) (fun i _ => n1 - (intOf i).toNat)
  case atStart => exact ⟨0, Nat.zero_le _, rfl, hide (Below.refl _ _)⟩
  case round =>
    obtain ⟨j, hj, rfl, HB⟩ := hrel
    by_cases hlt : j < n1
    · obtain ⟨g, off, xs, e1, -, -, hc, hr⟩ := Lst.at_ H1.out (j := j) (by rw [HN1.out]; exact hlt)
      obtain ⟨g', off', ys, e2, -, -, hc', hr'⟩ := Lst.at_ H2.out (j := j) (by rw [HN1.out]; exact hlt)
      subst e1 e2
      obtain ⟨y, hy⟩ : ∃ y, rs[j]'(by rw [HN1.out]; exact hlt) = y := ⟨_, rfl⟩
      rw [hy] at hr hr'
      obtain ⟨p1, p2, p3, p4, p5, p6, p7, p8, rfl⟩ := hr
      obtain ⟨q1, q2, q3, q4, q5, q6, q7, q8, rfl⟩ := hr'
      have k0 := keep1 HB.out (hc 0 _ rfl)
      have k1 := keep1 HB.out (hc 1 _ rfl)
      have l0 := keep1 HB.out (hc' 0 _ rfl)
      have l1 := keep1 HB.out (hc' 1 _ rfl)
      rw [Nat.add_zero] at k0 l0
      have hu0 : (0 : Int) ≤ (j : Int) := by omega
      have hu1 : (j : Int) < (n1 : Int) := by omega
      clear hc hc' hy
      go_wp2
      go_quiet (fail)
      go_wp2
      go_roundw
      case rel => exact ⟨j + 1, by omega, by go_num, hide (below_drewN HB.out _)⟩
      case measure => simp [intOf]; omega
    · obtain rfl : j = n1 := by omega
      have HBQ := HB
      go_wp2
      go_loopw [10] (fun i wr => ∃ k : Nat, k ≤ n2 ∧ i = .int .i64 k ∧ Hid (Below w.heap.size w wr)) (fun i _ => n2 - (intOf i).toNat)
      case atStart => exact ⟨0, Nat.zero_le _, rfl, HBQ⟩
      case round =>
        clear HB HBQ
        obtain ⟨k, hk, rfl, HB⟩ := hrel
        by_cases hlt2 : k < n2
        · obtain ⟨g, off, xs, e1, -, hl, hc, hr⟩ := Lst.at_ H3.out (j := k) (by rw [HN2.out]; exact hlt2)
          obtain ⟨g', off', ys, e2, -, hl', hc', hr'⟩ := Lst.at_ H4.out (j := k) (by rw [HN2.out]; exact hlt2)
          subst e1 e2
          have HSO := hide (fun (w' : World) (hb : Below w.heap.size w w') => smo_any w' _ xs ys (rd_Oq.more (fun b hb' => Nat.lt_of_lt_of_le hb' hb.size) (rd_Oq.keep (Kp.of_below hb) hr)) (rd_Oq.more (fun b hb' => Nat.lt_of_lt_of_le hb' hb.size) (rd_Oq.keep (Kp.of_below hb) hr')))
          obtain ⟨w1, w2, rfl, f1, f2, -⟩ := hr
          obtain ⟨w3, w4, rfl, f3, f4, -⟩ := hr'
          obtain ⟨E1, p1, rfl⟩ := f1.form
          obtain ⟨E2, p2, rfl⟩ := f2.form
          obtain ⟨E3, p3, rfl⟩ := f3.form
          obtain ⟨E4, p4, rfl⟩ := f4.form
          obtain ⟨y, hy⟩ : ∃ y, os[k]'(by rw [HN2.out]; exact hlt2) = y := ⟨_, rfl⟩
          simp only [hy] at HSO hc hc'
          obtain ⟨r1, hr1⟩ : ∃ n, y.marks.length = n := ⟨_, rfl⟩
          obtain ⟨r2, hr2⟩ : ∃ n, y.engs.length = n := ⟨_, rfl⟩
          rw [hr1, hr2] at HSO
          rw [hr1, hr2] at hc hc'
          clear hy hr1 hr2 f1 f2 f3 f4
          have k0 := keep1 HB.out (hc 0 _ rfl)
          have k1 := keep1 HB.out (hc 1 _ rfl)
          have l0 := keep1 HB.out (hc' 0 _ rfl)
          have l1 := keep1 HB.out (hc' 1 _ rfl)
          rw [Nat.add_zero] at k0 l0
          have hu0 : (0 : Int) ≤ (k : Int) := by omega
          have hu1 : (k : Int) < (n2 : Int) := by omega
          clear hc hc' hl hl'
          go_wp2
          go_region_held3 (fun w' => (w'.cell? ⟨g, off + k * 2, none⟩ = some (.slice E1 r1 p1) ∧ w'.cell? ⟨g, off + k * 2 + 1, none⟩ = some (.slice E2 r2 p2)) ∧ w'.cell? ⟨g', off' + k * 2, none⟩ = some (.slice E3 r1 p3) ∧ w'.cell? ⟨g', off' + k * 2 + 1, none⟩ = some (.slice E4 r2 p4))
            (first | with_reducible exact ⟨⟨keep1 hb2 k0, keep1 hb2 k1⟩, keep1 hb2 l0, keep1 hb2 l1⟩ | (go_keep; done))
            ((go_at_call 47; refine (HSO.out _ (below_drewN HB.out 1)).mono ?_; rintro en w3 ⟨rfl, hb'⟩; have hb2 : Below wr.heap.size wr w3 := below_undrew hb'))
          have HB3 := hide (bthen HB.out hb2)
          go_wp2
          go_roundw
          case rel => exact ⟨k + 1, by omega, by go_num, HB3⟩
          case measure => simp [intOf]; omega
        · obtain rfl : k = n2 := by omega
          go_wp2
          go_ret
          exact Ret.bool rfl HB.out
end
end Go.Proofs.Ytihbonndinnohaa
