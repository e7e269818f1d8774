/- The reference's Same: two slices of slices with the same numbers. -/
import Derived.Test.YtoafjlfidgjgbaaGrid
namespace Go.Proofs.Ytoafjlfidgjgbaa
open Go.RowKit
set_option linter.unusedVariables false
set_option linter.unusedSimpArgs false

/-- v has q elements, slices that read as the lists of L. -/
def Nest (w : World) (B : Nat) (v : Value) (q : Nat) (L : Nat → List Int) : Prop :=
  (v = .slice none 0 0 ∧ q = 0) ∨ ∃ o off cap, v = .slice (some ⟨o, off, none⟩) q cap ∧ o < B ∧ ∀ i, i < q → ∃ u, w.cell? ⟨o, off + i, none⟩ = some u ∧ Row w B 1 u (L i).length (ints (L i))
theorem Nest.below {w w' : World} {B q : Nat} {v : Value} {L : Nat → List Int} (h : Nest w B v q L) (hb : Below B w w') : Nest w' B v q L := by
  rcases h with h0 | ⟨o, off, cap, rfl, ho, hc⟩
  · exact .inl h0
  · refine .inr ⟨o, off, cap, rfl, ho, fun i hi => ?_⟩
    obtain ⟨u, hu, hr⟩ := hc i hi
    exact ⟨u, (hb.cell (p := ⟨o, off + i, none⟩) ho).trans hu, hr.below hb⟩
theorem Nest.more {w : World} {B B' q : Nat} {v : Value} {L : Nat → List Int} (h : Nest w B v q L) (hB : B ≤ B') : Nest w B' v q L := by
  rcases h with h0 | ⟨o, off, cap, rfl, ho, hc⟩
  · exact .inl h0
  · refine .inr ⟨o, off, cap, rfl, by omega, fun i hi => ?_⟩
    obtain ⟨u, hu, hr⟩ := hc i hi
    exact ⟨u, hu, hr.more hB⟩
theorem Nest.of_grid {w : World} {base o q : Nat} {L : Nat → List Int} (h : Grid w base o q L) : Nest w w.heap.size (.slice (some ⟨o, 0, none⟩) q q) q L := by
  refine .inr ⟨o, 0, q, rfl, h.lt, fun i hi => ?_⟩
  obtain ⟨v, hv, hr⟩ := h.cell hi
  exact ⟨v, by rw [Nat.zero_add]; exact hv, Row.of_own hr⟩


set_option maxRecDepth 100000 in
set_option maxHeartbeats 2000000 in
theorem same_any (u v : Value) (q : Nat) (L : Nat → List Int) (w : World) (hq : q ≤ 1000) (hL : ∀ i, i < q → (L i).length ≤ 1000) (hu : Nest w w.heap.size u q L) (hv : Nest w w.heap.size v q L) :
    Calls Try.prog 15 #[u, v] w (Ret (.bool true) w) := by
  rcases Nat.eq_zero_or_pos q with rfl | hpos
  · have form : ∀ {x : Value}, Nest w w.heap.size x 0 L → ∃ A cap, x = .slice A 0 cap := fun hx => by
      rcases hx with ⟨rfl, _⟩ | ⟨o, off, cap, rfl, _⟩
      · exact ⟨_, _, rfl⟩
      · exact ⟨_, _, rfl⟩
    obtain ⟨A, cap, rfl⟩ := form hu
    obtain ⟨B, cap', rfl⟩ := form hv
    clear hu hv form hL
    go_enter Try.func15, Try.ntmps15
    go_wp2
    refine wp_loop_rounds 1 ?_
    rw [rounds_succ]
    go_wp2
    go_ret
    exact Ret.bool rfl (Below.refl _ _)
  · rcases hu with ⟨_, h0⟩ | ⟨o, off, cap, rfl, ho, hc⟩
    · omega
    rcases hv with ⟨_, h0⟩ | ⟨o', off', cap', rfl, ho', hc'⟩
    · omega
    have HC := hide hc
    have HC' := hide hc'
    have HL := hide hL
    clear hc hc' hL
    go_enter Try.func15, Try.ntmps15
    go_wp2
    go_loopw [5, 6] (fun i _ wr => ∃ k d : Nat, k ≤ q ∧ i = .int .i64 k ∧ wr = w.drewN d) (fun i _ _ => q - (intOf i).toNat)
    case atStart => exact ⟨0, 0, by omega, rfl, rfl⟩
    case round =>
      obtain ⟨i, d, hi, rfl, rfl⟩ := hrel
      by_cases hlt : i < q
      · obtain ⟨x, hx, rx⟩ := HC.out i hlt
        obtain ⟨y, hy, ry⟩ := HC'.out i hlt
        have hm := HL.out i hlt
        obtain ⟨l, hl⟩ : ∃ l, L i = l := ⟨_, rfl⟩
        rw [hl] at rx ry hm
        obtain ⟨m, hml⟩ : ∃ m, l.length = m := ⟨_, rfl⟩
        rw [hml] at rx ry hm
        have HM := hide hml
        clear hl hml
        rcases Nat.eq_zero_or_pos m with rfl | hmp
        · obtain ⟨A, c1, rfl⟩ := rx.form
          obtain ⟨A', c2, rfl⟩ := ry.form
          clear rx ry
          go_wp2
          go_quiet (fail)
          go_wp2
          refine wp_loop_rounds 1 ?_
          rw [rounds_succ]
          go_wp2
          go_roundw
          case rel => exact ⟨i + 1, _, by omega, by go_num, rfl⟩
          case measure => simp [intOf]; omega
        · obtain ⟨g, f, c1, rfl, _, _, gx⟩ := rx.at_ hmp
          obtain ⟨g', f', c2, rfl, _, _, gy⟩ := ry.at_ hmp
          have GX := hide gx
          have GY := hide gy
          clear rx ry gx gy
          go_wp2
          go_quiet (fail)
          go_wp2
          go_loopw [6] (fun j wr => ∃ k d2 : Nat, k ≤ m ∧ j = .int .i64 k ∧ wr = w.drewN d2) (fun j _ => m - (intOf j).toNat)
          case atStart => exact ⟨0, _, by omega, rfl, World.drewN_drewN _ _ _⟩
          case round =>
            obtain ⟨k, d2, hk, rfl, rfl⟩ := hrel
            by_cases hlt2 : k < m
            · have hkl : k < l.length := by rw [HM.out]; exact hlt2
              have e1 : w.cell? ⟨g, f + k, none⟩ = some (.int .i64 l[k]) := GX.out k _ (by simp [ints, hkl])
              have e2 : w.cell? ⟨g', f' + k, none⟩ = some (.int .i64 l[k]) := GY.out k _ (by simp [ints, hkl])
              obtain ⟨z, hz⟩ : ∃ z, l[k] = z := ⟨_, rfl⟩
              rw [hz] at e1 e2
              clear hz
              go_wp2
              go_quiet (fail)
              go_wp2
              go_roundw
              case rel => exact ⟨k + 1, _, by omega, by go_num, rfl⟩
              case measure => simp [intOf]; omega
            · obtain rfl : k = m := by omega
              go_wp2
              go_roundw
              case rel => exact ⟨i + 1, _, by omega, by go_num, rfl⟩
              case measure => simp [intOf]; omega
      · go_wp2
        go_ret
        exact Ret.bool rfl (below_drewN (Below.refl _ _) _)
end Go.Proofs.Ytoafjlfidgjgbaa
