/- keygroup.Range. -/
import Derived.Test.YtoafjlfidgjgbaaIter
namespace Go.Proofs.Ytoafjlfidgjgbaa
open Go.RowKit Go.Shelf
set_option linter.unusedVariables false
set_option linter.unusedSimpArgs false
attribute [local go_sem] Oper.semAt_some

/-- The first key group that has come, and the number behind the last one. -/
def rstep (s : Int × Int) (g : Fin 16) : Int × Int := (if s.1 < 0 then (g.val : Int) else s.1, (g.val : Int) + 1)
def rf (l : List (Fin 16)) : Int × Int := l.foldl rstep (-1, 0)
theorem rf_snoc (l : List (Fin 16)) (g : Fin 16) : rf (l ++ [g]) = rstep (rf l) g := by unfold rf; exact (by rw [List.foldl_append]; rfl)
theorem rf_ge_from : ∀ (l : List (Fin 16)) (s : Int × Int), -1 ≤ s.1 → s.1 ≤ 15 → -1 ≤ (l.foldl rstep s).1 ∧ (l.foldl rstep s).1 ≤ 15
  | [], _, h, h' => ⟨h, h'⟩
  | x :: l, s, h, h' => by
    have := x.isLt
    exact rf_ge_from l (rstep s x) (by simp only [rstep]; split <;> omega) (by simp only [rstep]; split <;> omega)
theorem rf_ge (l : List (Fin 16)) : -1 ≤ (rf l).1 ∧ (rf l).1 ≤ 15 := rf_ge_from l _ (by decide) (by decide)
theorem rf_first {l : List (Fin 16)} {g : Fin 16} (h : (rf l).1 < 0) : rf (l ++ [g]) = ((g.val : Int), (g.val : Int) + 1) := by rw [rf_snoc]; simp [rstep, h]
theorem rf_more {l : List (Fin 16)} {g : Fin 16} (h : ¬ (rf l).1 < 0) : rf (l ++ [g]) = ((rf l).1, (g.val : Int) + 1) := by rw [rf_snoc]; simp [rstep, h]

set_option maxRecDepth 100000 in
set_option maxHeartbeats 2000000 in
theorem range_ok (a q : Int) (w : World) (h1 : 1 ≤ q) (h8 : q ≤ 8) (ha : 0 ≤ a) (haq : a < q) :
    Calls Try.prog 24 #[.int .i64 a, .int .i64 q] w (Ret (.tuple #[.int .i64 (rf (sel a q 16)).1, .int .i64 (rf (sel a q 16)).2, .int .i64 0]) w) := by
  have hno := numOk_t h1 h8
  have hok : okC [true, true, true] = 0 := rfl
  refine callsIn_wide.1 (callsIn_of_wp_marks (F := Fence.wide) (n := 10) Try.func24 rfl trivial ?_ rfl)
  simp only [Try.ntmps24, List.size_toArray, List.length_cons, List.length_nil, Nat.reduceAdd, Nat.reduceSub, Array.replicate_succ, Array.replicate_zero, List.push_toArray, List.append_toArray, List.nil_append, List.cons_append]
  refine wpIn_wide.2 ?_
  go_wp2_with (first
    | (go_at_call 29; refine (number_any _ _).mono ?_; rintro e w1 ⟨rfl, rfl⟩)
    | (go_at_call 28; refine (allowed_any _ 3 [true, true, true] _ (by omega) (by decide) (by decide) (cells_lit w [.bool true, .bool true, .bool true] _)).mono ?_; rintro e w1 ⟨rfl, rfl⟩)
    | (go_at_call 30; refine (groups_any _ _ _).mono ?_; rintro e w1 ⟨rfl, rfl⟩))
  have b1 := (((Boxed.new (w.alloc (.cells #[.bool true, .bool true, .bool true] 4)) 3 (.int .i64 (-1))).alloc (.cells #[.int .i64 0] 3)).alloc (.cells #[.int .i64 a] 3)).alloc (.cells #[.int .i64 q] 3)
  have b2 := ((Boxed.new ((w.alloc (.cells #[.bool true, .bool true, .bool true] 4)).alloc (.cells #[.int .i64 (-1)] 3)) 3 (.int .i64 0)).alloc (.cells #[.int .i64 a] 3)).alloc (.cells #[.int .i64 q] 3)
  have b3 := (Boxed.new (((w.alloc (.cells #[.bool true, .bool true, .bool true] 4)).alloc (.cells #[.int .i64 (-1)] 3)).alloc (.cells #[.int .i64 0] 3)) 3 (.int .i64 a)).alloc (.cells #[.int .i64 q] 3)
  have b4 := Boxed.new ((((w.alloc (.cells #[.bool true, .bool true, .bool true] 4)).alloc (.cells #[.int .i64 (-1)] 3)).alloc (.cells #[.int .i64 0] 3)).alloc (.cells #[.int .i64 a] 3)) 3 (.int .i64 q)
  simp only [World.size_alloc] at b1 b2 b3 b4
  have hB0 : Below w.heap.size w (((((w.alloc (.cells #[.bool true, .bool true, .bool true] 4)).alloc (.cells #[.int .i64 (-1)] 3)).alloc (.cells #[.int .i64 0] 3)).alloc (.cells #[.int .i64 a] 3)).alloc (.cells #[.int .i64 q] 3)) :=
    (((((Below.refl _ w).alloc (Nat.le_refl _) _).alloc (by simp) _).alloc (by simp; omega) _).alloc (by simp; omega) _).alloc (by simp; omega) _
  have hsz : (((((w.alloc (.cells #[.bool true, .bool true, .bool true] 4)).alloc (.cells #[.int .i64 (-1)] 3)).alloc (.cells #[.int .i64 0] 3)).alloc (.cells #[.int .i64 a] 3)).alloc (.cells #[.int .i64 q] 3)).heap.size = w.heap.size + 5 := by simp
  obtain ⟨W0, hW0⟩ : ∃ W0, ((((w.alloc (.cells #[.bool true, .bool true, .bool true] 4)).alloc (.cells #[.int .i64 (-1)] 3)).alloc (.cells #[.int .i64 0] 3)).alloc (.cells #[.int .i64 a] 3)).alloc (.cells #[.int .i64 q] 3) = W0 := ⟨_, rfl⟩
  rw [hW0] at b1 b2 b3 b4 hB0 hsz ⊢
  clear hW0
  refine (wpIn_wide (n := 10)).1 ?_
  refine wpIn_rangeFunc_ownG rfl (by omega) (gf := 38) (lb := #[.pointer (some ⟨w.heap.size + 1 + 1 + 1 + 1, 0, none⟩), .pointer (some ⟨w.heap.size + 1 + 1 + 1, 0, none⟩)]) rfl trivial (enters_of Try.func38 (by kernel_rfl) rfl)
    (groups_stops 9 (by omega) (w.heap.size + 1 + 1 + 1 + 1) (w.heap.size + 1 + 1 + 1) (fun k => k = w.heap.size + 1 + 1 + 1 + 1 ∨ k = w.heap.size + 1 + 1 + 1) a q h1 h8 W0 (.inl rfl) (.inr rfl) (by omega) b4.cell b3.cell) KeepS.trans (keepS_b (by omega)) (Below.refl _ _) (fun _ => rfl)
    (fun pre W => (Boxed W (w.heap.size + 1) 3 (.int .i64 (rf pre).1) ∧ Boxed W (w.heap.size + 1 + 1) 3 (.int .i64 (rf pre).2)) ∧ Below w.heap.size w W)
    (fun _ _ _ => False)
    (OwnFrom.and (OwnFrom.and (Own.from (boxed_own _ _ _) _) (Own.from (boxed_own _ _ _) _)) (ownFrom_below (Nat.le_refl _) (by omega)))
    (fun _ _ _ _ _ hs _ _ => hs)
    ⟨⟨b1, b2⟩, hB0⟩
    (fun x => { tmps := #[.int .i64 a, .int .i64 q, undef, undef, .int .i64 0, .int .i64 0, .int .i64 0, .int .i64 0, .pointer (some ⟨w.heap.size + 1, 0, none⟩), .pointer (some ⟨w.heap.size + 1 + 1, 0, none⟩), .int .i64 (x.val : Int), .int .i64 q, .bool true, .int .i64 a, .bool true, .int .i64 a, .int .i64 q, .bool true, .slice (some ⟨w.heap.size, 0, none⟩) 3 3, .int .i64 0, .int .i64 0, .bool false, undef, .int .i64 a, .int .i64 q, .func (.func 38) #[] #[.pointer (some ⟨w.heap.size + 1 + 1 + 1 + 1, 0, none⟩), .pointer (some ⟨w.heap.size + 1 + 1 + 1, 0, none⟩)], .int .i64 (x.val : Int), undef, undef, undef, undef, undef, undef, undef], defers := [] }) ?assign ?body ?done ?stop
  case assign =>
    intro l x W K hK
    gi_wp2
    exact hK
  case body =>
    rintro l pre x W ⟨⟨c1, c2⟩, hB⟩ hlt
    have hc1 := c1.cell
    have hf1 := c1.frozen
    have hc2 := c2.cell
    have hf2 := c2.frozen
    have hxl := x.isLt
    have hs := hB.size
    by_cases hneg : (rf pre).1 < 0
    · have HR := hide (rf_first (g := x) hneg)
      gi_wp2
      exact ⟨((KeepsOthers.setCell _ _ _).trans (KeepsOthers.setCell _ _ _)).from _,
        ((KeepS.refl _).setCell (p := ⟨w.heap.size + 1, 0, none⟩) (by rintro k (rfl | rfl) <;> (show _ ≠ w.heap.size + 1; omega)) _).setCell (p := ⟨w.heap.size + 1 + 1, 0, none⟩) (by rintro k (rfl | rfl) <;> (show _ ≠ w.heap.size + 1 + 1; omega)) _,
        ⟨by rw [HR.out]; exact (c1.set _).other (by omega) _, by rw [HR.out]; exact (c2.other (by omega) _).set _⟩,
        (hB.setCell (p := ⟨w.heap.size + 1, 0, none⟩) (by simp) _).setCell (p := ⟨w.heap.size + 1 + 1, 0, none⟩) (by simp; omega) _⟩
    · have HR := hide (rf_more (g := x) hneg)
      gi_wp2
      exact ⟨(KeepsOthers.setCell _ _ _).from _,
        (KeepS.refl _).setCell (p := ⟨w.heap.size + 1 + 1, 0, none⟩) (by rintro k (rfl | rfl) <;> (show _ ≠ w.heap.size + 1 + 1; omega)) _,
        ⟨by rw [HR.out]; exact c1.other (by omega) _, by rw [HR.out]; exact c2.set _⟩,
        hB.setCell (p := ⟨w.heap.size + 1 + 1, 0, none⟩) (by simp; omega) _⟩
  case done =>
    rintro D ys W hD rfl ⟨⟨c1, c2⟩, hB⟩ hK
    have hc1 := c1.cell
    have hc2 := c2.cell
    go_wp2
    go_quiet (fail)
    go_wp2
    refine ⟨by simp, .inl ⟨_, _, rfl, run_takeDeferred (w := W.drewN nq) hK, ?_⟩⟩
    exact ⟨_, results_tmp3 rfl _ _ _, rfl, (below_drewN hB _).trans (belowK_b (w := w) (Nat.le_refl _) (W.drewN nq) D _ _ (by omega) hK rfl rfl)⟩
  case stop =>
    rintro D c pre W _ _ h _
    exact h.elim

def rngE (a q : Int) : Int := if (1 ≤ q ∧ q ≤ 8) ∧ 0 ≤ a ∧ a < q then 0 else 2
def rngX (a q : Int) : Int := if (1 ≤ q ∧ q ≤ 8) ∧ 0 ≤ a ∧ a < q then (rf (sel a q 16)).1 else 0
def rngY (a q : Int) : Int := if (1 ≤ q ∧ q ≤ 8) ∧ 0 ≤ a ∧ a < q then (rf (sel a q 16)).2 else 0

set_option maxHeartbeats 400000 in
theorem range_any (a q : Int) (w : World) :
    Calls Try.prog 24 #[.int .i64 a, .int .i64 q] w (Ret (.tuple #[.int .i64 (rngX a q), .int .i64 (rngY a q), .int .i64 (rngE a q)]) w) := by
  by_cases h : (1 ≤ q ∧ q ≤ 8) ∧ 0 ≤ a ∧ a < q
  · rw [show rngX a q = _ from if_pos h, show rngY a q = _ from if_pos h, show rngE a q = 0 from if_pos h]
    exact range_ok a q w h.1.1 h.1.2 h.2.1 h.2.2
  · rw [show rngX a q = 0 from if_neg h, show rngY a q = 0 from if_neg h, show rngE a q = 2 from if_neg h]
    have hok : okC [numOk q, decide (0 ≤ a), decide (a < q)] = 2 := okC_ne (by simp [numOk]; omega)
    clear h
    go_enter Try.func24, Try.ntmps24
    go_wp2_with (first
      | (go_at_call 29; refine (number_any _ _).mono ?_; rintro e w1 ⟨rfl, rfl⟩)
      | (go_at_call 28; refine (allowed_any _ 3 [numOk q, decide (0 ≤ a), decide (a < q)] _ (by omega) (Nat.le_refl 3) (Nat.le_refl 3) (cells_lit w [.bool (numOk q), .bool (decide (0 ≤ a)), .bool (decide (a < q))] _)).mono ?_; rintro e w1 ⟨rfl, rfl⟩))
    go_ret3
    exact ⟨rfl, (Below.refl _ _).alloc (Nat.le_refl _) _⟩
end Go.Proofs.Ytoafjlfidgjgbaa
