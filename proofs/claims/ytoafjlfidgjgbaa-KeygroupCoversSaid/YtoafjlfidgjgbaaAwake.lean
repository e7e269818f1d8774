/- The examples of the chapter. -/
import Derived.Test.YtoafjlfidgjgbaaSame
import Derived.Test.YtoafjlfidgjgbaaAssign
import Derived.Test.YtoafjlfidgjgbaaGroup
namespace Go.Proofs.Ytoafjlfidgjgbaa
open Go.RowKit
set_option linter.unusedVariables false
set_option linter.unusedSimpArgs false

theorem aw_g1 : hashV 2 0 ⟨#[]⟩ % 16 = 5 := by decide +kernel
theorem aw_g2 : hashV 2 0 ⟨#[97]⟩ % 16 = 12 := by decide +kernel
theorem aw_c1 : checkC 2 0 0 = 0 := by decide +kernel
theorem aw_c2 : checkC 2 0 1 = 0 := by decide +kernel
theorem aw_n : movesN 1 2 = 8 := by decide +kernel
theorem aw_e : movesC 1 2 = 0 := by decide +kernel
theorem aw_l : movesL 1 2 = [8, 0, 1, 9, 0, 1, 10, 0, 1, 11, 0, 1, 12, 0, 1, 13, 0, 1, 14, 0, 1, 15, 0, 1] := by decide +kernel
theorem aw_o0 : own_ 3 16 0 = [0, 1, 2, 3, 4, 5] := by decide +kernel
theorem aw_o1 : own_ 3 16 1 = [6, 7, 8, 9, 10] := by decide +kernel
theorem aw_o2 : own_ 3 16 2 = [11, 12, 13, 14, 15] := by decide +kernel

/-- A row that a literal has laid, behind further blocks. -/
theorem row_lit {w W : World} (xs : List Value) (t : TypeId) (hb : Below (w.heap.size + 1) (w.alloc (.cells xs.toArray t)) W) : Row W W.heap.size 1 (.slice (some ⟨w.heap.size, 0, none⟩) xs.length xs.length) xs.length xs := by
  refine ⟨by simp, .inr ⟨w.heap.size, 0, xs.length, rfl, by have := hb.size; simp at this; omega, Nat.le_refl _, fun j u hj => ?_⟩⟩
  rw [Nat.zero_add]
  exact (hb.cell (p := ⟨w.heap.size, j, none⟩) (Nat.lt_succ_self _)).trans (cells_lit w xs t j u hj)

theorem nest_lit (w : World) (t t' : TypeId) :
    Nest ((((w.alloc (.cells #[.int .i64 0, .int .i64 1, .int .i64 2, .int .i64 3, .int .i64 4, .int .i64 5] t)).alloc (.cells #[.int .i64 6, .int .i64 7, .int .i64 8, .int .i64 9, .int .i64 10] t)).alloc (.cells #[.int .i64 11, .int .i64 12, .int .i64 13, .int .i64 14, .int .i64 15] t)).alloc
        (.cells #[.slice (some ⟨w.heap.size, 0, none⟩) 6 6, .slice (some ⟨w.heap.size + 1, 0, none⟩) 5 5, .slice (some ⟨w.heap.size + 1 + 1, 0, none⟩) 5 5] t'))
      (w.heap.size + 4) (.slice (some ⟨w.heap.size + 1 + 1 + 1, 0, none⟩) 3 3) 3 (own_ 3 16) := by
  have hA : ∀ (W : World) (B : Nat) (o : Obj), B ≤ W.heap.size → Below B W (W.alloc o) := fun W B o h => (Below.refl _ _).alloc h _
  refine .inr ⟨w.heap.size + 1 + 1 + 1, 0, 3, rfl, by omega, fun i hi => ?_⟩
  have hc := cells_lit (((w.alloc (.cells #[.int .i64 0, .int .i64 1, .int .i64 2, .int .i64 3, .int .i64 4, .int .i64 5] t)).alloc (.cells #[.int .i64 6, .int .i64 7, .int .i64 8, .int .i64 9, .int .i64 10] t)).alloc (.cells #[.int .i64 11, .int .i64 12, .int .i64 13, .int .i64 14, .int .i64 15] t))
        [.slice (some ⟨w.heap.size, 0, none⟩) 6 6, .slice (some ⟨w.heap.size + 1, 0, none⟩) 5 5, .slice (some ⟨w.heap.size + 1 + 1, 0, none⟩) 5 5] t'
  simp only [World.size_alloc] at hc
  have hi3 : i = 0 ∨ i = 1 ∨ i = 2 := by omega
  rcases hi3 with rfl | rfl | rfl
  · refine ⟨_, hc 0 _ rfl, ?_⟩
    rw [aw_o0]
    have := (row_lit (w := w) [.int .i64 0, .int .i64 1, .int .i64 2, .int .i64 3, .int .i64 4, .int .i64 5] t ((((Below.refl (w.heap.size + 1) (w.alloc (.cells #[.int .i64 0, .int .i64 1, .int .i64 2, .int .i64 3, .int .i64 4, .int .i64 5] t))).alloc (by simp) (.cells #[.int .i64 6, .int .i64 7, .int .i64 8, .int .i64 9, .int .i64 10] t)).alloc (by simp) (.cells #[.int .i64 11, .int .i64 12, .int .i64 13, .int .i64 14, .int .i64 15] t)).alloc (by simp) (.cells #[.slice (some ⟨w.heap.size, 0, none⟩) 6 6, .slice (some ⟨w.heap.size + 1, 0, none⟩) 5 5, .slice (some ⟨w.heap.size + 1 + 1, 0, none⟩) 5 5] t'))).more (B' := w.heap.size + 4) (by simp)
    try simp only [World.size_alloc] at this
    exact this
  · refine ⟨_, hc 1 _ rfl, ?_⟩
    rw [aw_o1]
    have := (row_lit (w := w.alloc (.cells #[.int .i64 0, .int .i64 1, .int .i64 2, .int .i64 3, .int .i64 4, .int .i64 5] t)) [.int .i64 6, .int .i64 7, .int .i64 8, .int .i64 9, .int .i64 10] t (((Below.refl _ ((w.alloc (.cells #[.int .i64 0, .int .i64 1, .int .i64 2, .int .i64 3, .int .i64 4, .int .i64 5] t)).alloc (.cells #[.int .i64 6, .int .i64 7, .int .i64 8, .int .i64 9, .int .i64 10] t))).alloc (by simp) (.cells #[.int .i64 11, .int .i64 12, .int .i64 13, .int .i64 14, .int .i64 15] t)).alloc (by simp) (.cells #[.slice (some ⟨w.heap.size, 0, none⟩) 6 6, .slice (some ⟨w.heap.size + 1, 0, none⟩) 5 5, .slice (some ⟨w.heap.size + 1 + 1, 0, none⟩) 5 5] t'))).more (B' := w.heap.size + 4) (by simp)
    try simp only [World.size_alloc] at this
    exact this
  · refine ⟨_, hc 2 _ rfl, ?_⟩
    rw [aw_o2]
    have := (row_lit (w := (w.alloc (.cells #[.int .i64 0, .int .i64 1, .int .i64 2, .int .i64 3, .int .i64 4, .int .i64 5] t)).alloc (.cells #[.int .i64 6, .int .i64 7, .int .i64 8, .int .i64 9, .int .i64 10] t)) [.int .i64 11, .int .i64 12, .int .i64 13, .int .i64 14, .int .i64 15] t ((Below.refl _ (((w.alloc (.cells #[.int .i64 0, .int .i64 1, .int .i64 2, .int .i64 3, .int .i64 4, .int .i64 5] t)).alloc (.cells #[.int .i64 6, .int .i64 7, .int .i64 8, .int .i64 9, .int .i64 10] t)).alloc (.cells #[.int .i64 11, .int .i64 12, .int .i64 13, .int .i64 14, .int .i64 15] t))).alloc (by simp) (.cells #[.slice (some ⟨w.heap.size, 0, none⟩) 6 6, .slice (some ⟨w.heap.size + 1, 0, none⟩) 5 5, .slice (some ⟨w.heap.size + 1 + 1, 0, none⟩) 5 5] t'))).more (B' := w.heap.size + 4) (by simp)
    try simp only [World.size_alloc] at this
    exact this

set_option maxRecDepth 100000 in
set_option maxHeartbeats 1000000 in
theorem awake_any (w : World) : Calls Try.prog 12 #[] w (Ret (.bool true) w) := by
  have g1 := aw_g1
  have g2 := aw_g2
  have c1 := aw_c1
  have c2 := aw_c2
  go_enter Try.func12, Try.ntmps12
  go_wp2_with fail
  refine (group_any _ _ _ _ (by decide)).mono ?_
  rintro e w1 ⟨rfl, hb1⟩
  go_wp2_with fail
  refine (group_any _ _ _ _ (by decide)).mono ?_
  rintro e w2 ⟨rfl, hb2⟩
  go_wp2_with fail
  refine Calls.mono (show Calls Try.prog 13 #[.int .i64 3] w2 (RetGrid w2 3 0) from assign_ok 3 w2 (by decide) (by decide)) ?_
  rintro e w3 ⟨o, base, ho, rfl, hG, hb3⟩
  go_wp2_with fail
  refine (moves_any 1 2 w3).mono ?_
  rintro e w4 ⟨v, rfl, hM, hb4⟩
  rw [aw_n, aw_l] at hM
  rw [aw_e]
  have hR := Row.of_own hM
  obtain ⟨g, off, cap, rfl, hg, hcap, hc⟩ := hR.at_ (by decide)
  have m0 : w4.cell? ⟨g, off, none⟩ = some (.int .i64 8) := hc 0 _ rfl
  have m1 : w4.cell? ⟨g, off + 1, none⟩ = some (.int .i64 0) := hc 1 _ rfl
  have m2 : w4.cell? ⟨g, off + 2, none⟩ = some (.int .i64 1) := hc 2 _ rfl
  have m21 : w4.cell? ⟨g, off + 21, none⟩ = some (.int .i64 15) := hc 21 _ rfl
  have m22 : w4.cell? ⟨g, off + 22, none⟩ = some (.int .i64 0) := hc 22 _ rfl
  have m23 : w4.cell? ⟨g, off + 23, none⟩ = some (.int .i64 1) := hc 23 _ rfl
  have q1 := eq3 8 0 1 8 0 1
  have q2 := eq3 15 0 1 15 0 1
  have HG := hide hG
  have hB : Below w.heap.size w w4 := bthen (bthen (bthen hb1 hb2) hb3) hb4
  have H4 := hide hb4
  clear hG hM hR hc hb1 hb2 hb3 hb4 ho hcap hg
  go_wp2_with fail
  have hW : Below w4.heap.size w4 ((((w4.alloc (.cells #[.int .i64 0, .int .i64 1, .int .i64 2, .int .i64 3, .int .i64 4, .int .i64 5] 3)).alloc (.cells #[.int .i64 6, .int .i64 7, .int .i64 8, .int .i64 9, .int .i64 10] 3)).alloc (.cells #[.int .i64 11, .int .i64 12, .int .i64 13, .int .i64 14, .int .i64 15] 3)).alloc
        (.cells #[.slice (some ⟨w4.heap.size, 0, none⟩) 6 6, .slice (some ⟨w4.heap.size + 1, 0, none⟩) 5 5, .slice (some ⟨w4.heap.size + 1 + 1, 0, none⟩) 5 5] 50)) :=
    ((((Below.refl _ w4).alloc (Nat.le_refl _) _).alloc (by simp) _).alloc (by simp; omega) _).alloc (by simp; omega) _
  refine (same_any _ _ 3 (own_ 3 16) _ (by decide) (fun i _ => Nat.le_trans (own_len 3 16 i) (by decide)) ((Nest.of_grid ((HG.out.below H4.out).below hW))) ((nest_lit w4 _ _).more (by simp))).mono ?_
  rintro e w5 ⟨rfl, hb5⟩
  go_wp2
  go_ret
  exact Ret.bool rfl (hB.trans ((hW.mono hB.size).trans (hb5.mono (by have := hB.size; simp; omega))))
end Go.Proofs.Ytoafjlfidgjgbaa
