/- slices.Collect over free; barrier.Inputs. -/
import Derived.Test.YtjahjefkfcifhaaBInputs
namespace Go.Proofs.Ytjahjefkfcifhaa
open Go.RowKit Go.Shelf
set_option linter.unusedVariables false
set_option linter.unusedSimpArgs false
attribute [local go_sem] Oper.semAt_some

theorem keepS_below {S : Nat → Prop} {B : Nat} {W W' : World} (hS : ∀ k, S k → k < B) (h : Below B W W') : KeepS S W W' := fun k hk => h.block k (hS k hk)

set_option maxRecDepth 100000 in
set_option maxHeartbeats 2000000 in
theorem appendseq_any (Bx : Nat) (num : Int) (g off cap m : Nat) (l : List Bool) (hm : l.length = m) (h8 : m ≤ 8) (w : World) (hBx : Bx < w.heap.size) (hg : g < w.heap.size)
    (hb0 : w.cell? ⟨Bx, 0, none⟩ = some (.int .i64 num)) (hb1 : w.cell? ⟨Bx, 1, none⟩ = some (.slice (some ⟨g, off, none⟩) m cap)) (hc : ∀ j u, (bools l)[j]? = some u → w.cell? ⟨g, off + j, none⟩ = some u) :
    Calls Try.prog 39 #[.slice none 0 0, .func (.func 38) #[] #[.pointer (some ⟨Bx, 0, none⟩)]] w fun e w' => ∃ v, e = .returned v ∧ Row w' w'.heap.size 1 v (selI l m).length (ints (selI l m)) ∧ Below w.heap.size w w' := by
  obtain ⟨i0, hi, hz0, hz1, hz2⟩ := info_parts info_int
  have HC := hide hc
  clear hc
  refine callsIn_wide.1 (callsIn_of_wp_marks (F := Fence.wide) (n := 10) Try.func39 rfl trivial ?_ rfl)
  simp only [Try.ntmps39, List.size_toArray, List.length_cons, List.length_nil, Nat.reduceAdd, Nat.reduceSub, Array.replicate_succ, Array.replicate_zero, List.push_toArray, List.append_toArray, List.nil_append, List.cons_append]
  refine wpIn_wide.2 ?_
  go_wp2
  have bO := Boxed.new w 43 (.slice none 0 0)
  have hB0 : Below w.heap.size w (w.alloc (.cells #[.slice none 0 0] 43)) := (Below.refl _ w).alloc (Nat.le_refl _) _
  have hsz : (w.alloc (.cells #[.slice none 0 0] 43)).heap.size = w.heap.size + 1 := by simp
  have hb0' := (hB0.cell (p := ⟨Bx, 0, none⟩) hBx).trans hb0
  have hb1' := (hB0.cell (p := ⟨Bx, 1, none⟩) hBx).trans hb1
  have hc' := fun j u hj => (hB0.cell (p := ⟨g, off + j, none⟩) hg).trans (HC.out j u hj)
  obtain ⟨W0, hW0⟩ : ∃ W0, w.alloc (.cells #[.slice none 0 0] 43) = W0 := ⟨_, rfl⟩
  rw [hW0] at bO hB0 hsz hb0' hb1' hc' ⊢
  clear hW0
  have hS : ∀ k, (k = Bx ∨ k = g) → k < w.heap.size := by rintro k (rfl | rfl) <;> assumption
  have hF : ∀ f, Fence.wide.fn f := fun _ => trivial
  have hdep : Fence.wide.depth.isSome = false := rfl
  refine (wpIn_wide (n := 10)).1 ?_
  refine wpIn_rangeFunc_ownG rfl (by omega) (gf := 38) (lb := #[.pointer (some ⟨Bx, 0, none⟩)]) rfl trivial (enters_of Try.func38 (by kernel_rfl) rfl)
    (free_stops 9 (by omega) Bx (fun k => k = Bx ∨ k = g) num g off cap m l hm h8 W0 (.inl rfl) (.inr rfl) (fun k hk => by have := hS k hk; omega) hb0' hb1' hc') KeepS.trans (keepS_b (n := W0.heap.size) (fun k hk => by have := hS k hk; omega)) (Below.refl _ _) (fun _ => rfl)
    (fun (pre : List (Fin 8)) W => (∃ v, Boxed W w.heap.size 43 v ∧ W.ownsRow w.heap.size 3 1 v pre.length (ints (pre.map fun g => (g.val : Int))) ∧ True) ∧ Below w.heap.size w W)
    (fun _ _ _ => False)
    (OwnFrom.and (Own.from (holdsRow_own w.heap.size w.heap.size 43 3 1 (fun (pre : List (Fin 8)) => pre.length) (fun (pre : List (Fin 8)) => ints (pre.map fun (g : Fin 8) => (g.val : Int))) (fun _ _ => True)) _) (ownFrom_below (Nat.le_refl _) (by omega)))
    (fun _ _ _ _ _ hs _ _ => hs)
    ⟨⟨_, bO, World.ownsRow_nil _ _ _ _, trivial⟩, hB0⟩
    (fun x => { tmps := #[.slice none 0 0, .func (.func 38) #[] #[.pointer (some ⟨Bx, 0, none⟩)], .pointer (some ⟨w.heap.size, 0, none⟩), undef, .slice none 0 0, .int .i64 (x.val : Int), .func (.func 38) #[] #[.pointer (some ⟨Bx, 0, none⟩)], .int .i64 (x.val : Int), undef, undef, undef, undef, undef], defers := [] }) ?assign ?body ?done ?stop
  case assign =>
    intro l x W K hK
    gi_wp2
    exact hK
  case body =>
    rintro l pre x W ⟨⟨v, hv, hrow, -⟩, hB⟩ hlt
    have hc := hv.cell
    have hszW := hB.size
    gi_wp2_with (gi_at_builtin; refine wpListIn_append_own _ rfl _ _ 43 rfl w.heap.size 3 i0 (.int .i64 0) 1 8 Try.underlying43 hi hz0 hz1 hz2 rfl (by decide) _ _ _ rfl (hrow.alloc _) ⟨W.heap.size, 0, none⟩ 1 1 [.int .i64 (x.val : Int)] rfl rfl (cell_one_new _ _ _) (by simp [Value.oneCell']) (by unfold maxLen; omega) (by omega) (by simp; omega) ?_; intro v' w1 hown' hgrow _; obtain ⟨g', cap', rfl⟩ := ownsRow_succ hown'; obtain ⟨hv1, hv2, hr2, hk2, hb2⟩ := hv.appended (by decide) hrow hB.size (Nat.le_refl _) hown' hgrow; have hc1 := hv1.cell; have hf1 := hv1.frozen)
    exact ⟨hk2.from _, keepS_below hS hb2, ⟨_, hv2, by simpa [ints] using hr2, trivial⟩, hB.trans hb2⟩
  case done =>
    rintro D ys W hD rfl ⟨⟨v, hv, hrow, -⟩, hB⟩ hK
    have hc := hv.cell
    go_wp2
    refine ⟨by simp, .inl ⟨_, _, rfl, run_takeDeferred hK, ?_⟩⟩
    exact ⟨_, results_tmp rfl _ _ _, v, rfl, by have := Row.of_own (ownsRow_putObj hrow (.deferred none) hK rfl); rw [show (selI l m).length = (sel l m).length by simp [selI]]; exact this, hB.trans (belowK_b (w := w) (Nat.le_refl _) W D _ _ (by omega) hK rfl rfl)⟩
  case stop =>
    rintro D c pre W _ _ h _
    exact h.elim

set_option maxHeartbeats 1000000 in
theorem collect_any (Bx : Nat) (num : Int) (g off cap m : Nat) (l : List Bool) (hm : l.length = m) (h8 : m ≤ 8) (w : World) (hBx : Bx < w.heap.size) (hg : g < w.heap.size)
    (hb0 : w.cell? ⟨Bx, 0, none⟩ = some (.int .i64 num)) (hb1 : w.cell? ⟨Bx, 1, none⟩ = some (.slice (some ⟨g, off, none⟩) m cap)) (hc : Hid (∀ j u, (bools l)[j]? = some u → w.cell? ⟨g, off + j, none⟩ = some u)) :
    Calls Try.prog 32 #[.func (.func 38) #[] #[.pointer (some ⟨Bx, 0, none⟩)]] w fun e w' => ∃ v, e = .returned v ∧ Row w' w'.heap.size 1 v (selI l m).length (ints (selI l m)) ∧ Below w.heap.size w w' := by
  go_enter Try.func32, Try.ntmps32
  go_wp2_with fail
  refine (appendseq_any Bx num g off cap m l hm h8 w hBx hg hb0 hb1 hc.out).mono ?_
  rintro e w1 ⟨v, rfl, hR, hB⟩
  have HR := hide hR
  have HB := hide hB
  clear hR hB
  go_wp2
  go_ret
  exact ⟨v, rfl, HR.out, HB.out⟩

set_option maxHeartbeats 1000000 in
theorem inputs_any (n : Int) (v : Value) (l : List Bool) (w : World) (hl : l.length ≤ 1000) (hv : Row w w.heap.size 1 v l.length (bools l)) :
    Calls Try.prog 18 #[.agg #[.int .i64 n, v]] w (RetRow w (insL n l) (chk n l)) := by
  obtain ⟨A, cap, rfl⟩ := hv.form
  have HV := hide (hv.laid (.cells #[.int .i64 n, .slice A l.length cap] 24))
  clear hv
  have HK := hide (@check_any n (.slice A l.length cap) l)
  by_cases hc : chk n l = 0
  · rw [hc] at HK
    rw [show insL n l = selI l l.length from if_pos hc, hc]
    have h8 := (chk_zero hc).1
    clear hc
    obtain ⟨m, hm⟩ : ∃ m, l.length = m := ⟨_, rfl⟩
    rw [hm] at HV HK hl h8 ⊢
    have HM := hide hm
    clear hm
    go_enter Try.func18, Try.ntmps18
    go_wp2_with fail
    refine (HK.out _ hl HV.out).mono ?_
    rintro e w1 ⟨rfl, hb⟩
    obtain ⟨hb', hz, hx⟩ := step_box [.int .i64 n, .slice A m cap] hb
    have x0 := hx 0 _ rfl
    have x1 := hx 1 _ rfl
    obtain ⟨g, off, cap', e1, hg, _, hcell⟩ := (HV.out.grow hb).at_ h8.1
    cases e1
    have HC := hide hcell
    clear hx hb hcell
    go_wp2_with fail
    refine (free_any n _ _ _ m cap rfl).mono ?_
    rintro e w2 ⟨rfl, rfl⟩
    have HB2 := hide ((Below.refl w1.heap.size w1).alloc (Nat.le_refl _) (.cells #[.int .i64 n, .slice (some ⟨g, off, none⟩) m cap] 24))
    go_wp2_with fail
    refine (collect_any w1.heap.size n g off cap m l HM.out h8.2 _ (by simp) (by simp; omega) (cells_lit w1 [.int .i64 n, .slice (some ⟨g, off, none⟩) m cap] _ 0 _ rfl) (cells_lit w1 [.int .i64 n, .slice (some ⟨g, off, none⟩) m cap] _ 1 _ rfl) (hide fun j u hj => (HB2.out.cell (p := ⟨g, off + j, none⟩) hg).trans (HC.out j u hj))).mono ?_
    rintro e w3 ⟨v3, rfl, hR3, hB3⟩
    have HR3 := hide hR3
    have HB3 := hide (bthen HB2.out hB3)
    clear hR3 hB3
    go_wp2
    go_ret2
    exact ⟨_, rfl, HR3.out, bthen hb' HB3.out⟩
  · have HI : Hid (insL n l = []) := hide (if_neg hc)
    have t1 : (chk n l != 0) = true := by rw [bne_iff_ne]; exact hc
    clear hc
    generalize chk n l = c at *
    go_enter Try.func18, Try.ntmps18
    go_wp2_with fail
    refine (HK.out _ hl HV.out).mono ?_
    rintro e w1 ⟨rfl, hb⟩
    obtain ⟨hb', hz, hx⟩ := step_box [.int .i64 n, .slice A l.length cap] hb
    go_wp2
    go_ret2
    exact ⟨_, rfl, by rw [HI.out]; exact ⟨rfl, Or.inl ⟨rfl, rfl⟩⟩, hb'⟩
end Go.Proofs.Ytjahjefkfcifhaa
