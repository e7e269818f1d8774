/- The reference's sameOperator and SameParts: of equal ones true. -/
import Derived.Test.YtihbonndinnohaaQRdy
namespace Go.Proofs.Ytihbonndinnohaa
open Go.RowKit
set_option linter.unusedVariables false
set_option linter.unusedSimpArgs false
section
variable (w : World)
set_option maxRecDepth 100000 in
set_option maxHeartbeats 8000000 in
theorem smo_any (o : Oq) (xs ys : List Value) (hx : ROq w (· < w.heap.size) xs o) (hy : ROq w (· < w.heap.size) ys o) : Calls Try.prog 47 #[.agg xs.toArray, .agg ys.toArray] w (Ret (.bool true) w) := by
  obtain ⟨v1, v2, rfl, l1, l2, b1, b2⟩ := hx
  obtain ⟨v3, v4, rfl, l3, l4, -, -⟩ := hy
  obtain ⟨A1, c1, rfl⟩ := l1.form
  obtain ⟨A2, c2, rfl⟩ := l2.form
  obtain ⟨A3, c3, rfl⟩ := l3.form
  obtain ⟨A4, c4, rfl⟩ := l4.form
  have HB0 := hide (((below_laid (w := w) (.cells #[.slice A1 o.marks.length c1, .slice A2 o.engs.length c2] 42)).alloc (by simp) (.cells #[.slice A3 o.marks.length c3, .slice A4 o.engs.length c4] 42)))
  have H1 := hide (Lq.grow rd_Iq l1 HB0.out)
  have H2 := hide (Lq.grow rd_Kq l2 HB0.out)
  have H3 := hide (Lq.grow rd_Iq l3 HB0.out)
  have H4 := hide (Lq.grow rd_Kq l4 HB0.out)
  have X1 := hide (fun (j : Nat) (u : Value) (hj : ([.slice A1 o.marks.length c1, .slice A2 o.engs.length c2] : List Value)[j]? = some u) => show ((w.alloc (.cells #[.slice A1 o.marks.length c1, .slice A2 o.engs.length c2] 42)).alloc (.cells #[.slice A3 o.marks.length c3, .slice A4 o.engs.length c4] 42)).cell? ⟨w.heap.size, j, none⟩ = some u by rw [World.cell?_alloc_lt _ _ _ (by simp)]; exact cells_lit w [.slice A1 o.marks.length c1, .slice A2 o.engs.length c2] _ j u hj)
  have X2 := hide (fun (j : Nat) (u : Value) (hj : ([.slice A3 o.marks.length c3, .slice A4 o.engs.length c4] : List Value)[j]? = some u) => show ((w.alloc (.cells #[.slice A1 o.marks.length c1, .slice A2 o.engs.length c2] 42)).alloc (.cells #[.slice A3 o.marks.length c3, .slice A4 o.engs.length c4] 42)).cell? ⟨w.heap.size + 1, j, none⟩ = some u by
    have := cells_lit (w.alloc (.cells #[.slice A1 o.marks.length c1, .slice A2 o.engs.length c2] 42)) [.slice A3 o.marks.length c3, .slice A4 o.engs.length c4] 42 j u hj
    simpa using this)
  obtain ⟨n1, hn1⟩ : ∃ n, o.marks.length = n := ⟨_, rfl⟩
  obtain ⟨n2, hn2⟩ : ∃ n, o.engs.length = n := ⟨_, rfl⟩
  have HN1 := hide hn1
  have HN2 := hide hn2
  rw [hn1, hn2] at HB0 X1 X2 ⊢
  simp only [hn1, hn2] at H1 H2 H3 H4 b1 b2
  clear hn1 hn2 l1 l2 l3 l4
  go_enter Try.func47, Try.ntmps47
  go_wp2
  obtain ⟨W0, hW⟩ : ∃ W0, (w.alloc (.cells #[.slice A1 n1 c1, .slice A2 n2 c2] 42)).alloc (.cells #[.slice A3 n1 c3, .slice A4 n2 c4] 42) = W0 := ⟨_, rfl⟩
  rw [hW] at HB0 H1 H2 H3 H4 X1 X2 ⊢
  clear hW
  go_loopw [5] (fun i wr => ∃ j : Nat, j ≤ n1 ∧ i = .int .i64 j ∧ Hid (Below W0.heap.size W0 wr)) (fun i _ => n1 - (intOf i).toNat)
  case atStart => exact ⟨0, Nat.zero_le _, rfl, hide (Below.refl _ _)⟩
  case round =>
    obtain ⟨j, hj, rfl, HB⟩ := hrel
    have x0 := keep1 HB.out (X1.out 0 _ rfl)
    have x1 := keep1 HB.out (X1.out 1 _ rfl)
    have z0 := keep1 HB.out (X2.out 0 _ rfl)
    have z1 := keep1 HB.out (X2.out 1 _ rfl)
    by_cases hlt : j < n1
    · obtain ⟨g, off, xs, e1, -, -, hc, hr⟩ := Lst.at_ H1.out (j := j) (by rw [HN1.out]; exact hlt)
      obtain ⟨g', off', ys, e2, -, -, hc', hr'⟩ := Lst.at_ H3.out (j := j) (by rw [HN1.out]; exact hlt)
      subst e1 e2
      obtain rfl := hr
      obtain rfl := hr'
      have k0 := keep1 HB.out (hc 0 _ rfl)
      have k1 := keep1 HB.out (hc' 0 _ rfl)
      rw [Nat.add_zero, Nat.mul_one] at k0 k1
      obtain ⟨y, hy⟩ : ∃ y, o.marks[j]'(by rw [HN1.out]; exact hlt) = y := ⟨_, rfl⟩
      rw [hy] at k0 k1
      have hu0 : (0 : Int) ≤ (j : Int) := by omega
      have hu1 : (j : Int) < (n1 : Int) := by omega
      clear hc hc' hy
      go_wp2
      go_quiet (fail)
      go_wp2
      go_roundw
      case rel => exact ⟨j + 1, by omega, by go_num, hide (below_drewN HB.out _)⟩
      case measure => simp [intOf]; omega
    · obtain rfl : j = n1 := by omega
      have HBQ := HB
      clear x0 x1 z0 z1
      have x0 := keep1 HB.out (X1.out 0 _ rfl)
      have z0 := keep1 HB.out (X2.out 0 _ rfl)
      go_wp2
      go_loopw [6] (fun i wr => ∃ k : Nat, k ≤ n2 ∧ i = .int .i64 k ∧ Hid (Below W0.heap.size W0 wr)) (fun i _ => n2 - (intOf i).toNat)
      case atStart => exact ⟨0, Nat.zero_le _, rfl, HBQ⟩
      case round =>
        clear HB HBQ x0 z0
        obtain ⟨k, hk, rfl, HB⟩ := hrel
        have x1 := keep1 HB.out (X1.out 1 _ rfl)
        have z1 := keep1 HB.out (X2.out 1 _ rfl)
        by_cases hlt2 : k < n2
        · obtain ⟨g, off, xs, e1, -, -, hc, hr⟩ := Lst.at_ H2.out (j := k) (by rw [HN2.out]; exact hlt2)
          obtain ⟨g', off', ys, e2, -, -, hc', hr'⟩ := Lst.at_ H4.out (j := k) (by rw [HN2.out]; exact hlt2)
          subst e1 e2
          obtain ⟨y, hy⟩ : ∃ y, o.engs[k]'(by rw [HN2.out]; exact hlt2) = y := ⟨_, rfl⟩
          rw [hy] at hr hr'
          obtain ⟨m, D1, D2, D3, a1, a2, a3, a4, a5, a6, rfl⟩ := hr
          obtain ⟨m', E1, E2, E3, d1, d2, d3, d4, d5, d6, rfl⟩ := hr'
          have k0 := keep1 HB.out (hc 0 _ rfl)
          have k1 := keep1 HB.out (hc 1 _ rfl)
          have k2 := keep1 HB.out (hc 2 _ rfl)
          have k3 := keep1 HB.out (hc 3 _ rfl)
          have l0 := keep1 HB.out (hc' 0 _ rfl)
          have l1 := keep1 HB.out (hc' 1 _ rfl)
          have l2 := keep1 HB.out (hc' 2 _ rfl)
          have l3 := keep1 HB.out (hc' 3 _ rfl)
          rw [Nat.add_zero] at k0 l0
          have hu0 : (0 : Int) ≤ (k : Int) := by omega
          have hu1 : (k : Int) < (n2 : Int) := by omega
          clear hc hc' hy
          go_wp2
          go_quiet (fail)
          go_wp2
          go_roundw
          case rel => exact ⟨k + 1, by omega, by go_num, hide (below_drewN HB.out _)⟩
          case measure => simp [intOf]; omega
        · obtain rfl : k = n2 := by omega
          go_wp2
          go_ret
          exact Ret.bool rfl (HB0.out.trans (HB.out.mono HB0.out.size))
end
end Go.Proofs.Ytihbonndinnohaa
