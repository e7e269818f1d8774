/- slices.Grow, slices.Concat, at events. -/
import Derived.Test.YtbendimkejndiaaTSd
import Derived.Shelf.Spec.SlicesGrow
namespace Go.Proofs.Ytbendimkejndiaa
open Go.Shelf Go.RowKit Go.Lib
set_option linter.unusedVariables false
set_option linter.unusedSimpArgs false
def growE_ren : Go.Shelf.Ren := ⟨fun | 4 => 48 | n => n, fun | 22 => 22 | 25 => 32 | 3 => 3 | 4 => 4 | 9 => 9 | 20 => 20 | 0 => 0 | n => n, fun n => n⟩
theorem growE : Lays8.n4 Try.prog growE_ren := {
  mixed := by kernel_rfl,
  f4 := ⟨Try.f48.name, by decide, Try.func48.trans (congrArg some (by kernel_rfl))⟩,
  t0 := Try.underlying0, a0 := Try.isAgg0, z0 := Try.sizeOf0, v0 := Try.zeroValue0,
  t3 := Try.underlying3, a3 := Try.isAgg3, z3 := Try.sizeOf3, v3 := Try.zeroValue3,
  t4 := Try.underlying4, a4 := Try.isAgg4, z4 := Try.sizeOf4, v4 := Try.zeroValue4,
  t9 := Try.underlying9, a9 := Try.isAgg9, z9 := Try.sizeOf9, v9 := Try.zeroValue9,
  t20 := Try.underlying20, a20 := Try.isAgg20, z20 := Try.sizeOf20, v20 := Try.zeroValue20,
  t22 := Try.underlying22, a22 := Try.isAgg22, z22 := Try.sizeOf22, v22 := Try.zeroValue22 }
/-- An empty list with room for n. -/
theorem egrow_any (n : Nat) (hn : n ≤ 10000) (w : World) : Calls Try.prog 48 #[.slice none 0 0, .int .i64 n] w fun e w' => ∃ v, e = .returned v ∧ w'.ownsRow w.heap.size 32 5 v 0 [] ∧ Below w.heap.size w w' := by
  obtain ⟨i0, hi, hz0, hz1, hz2⟩ := info_parts iq_event
  rcases Nat.eq_zero_or_pos n with rfl | hp
  · refine (Any8.slices_Grow_room growE none 0 0 0 w (Nat.le_refl _) (by omega) (by omega) (by omega)).mono ?_
    rintro e w' ⟨rfl, rfl⟩
    exact ⟨_, rfl, World.ownsRow_nil .., Below.refl _ _⟩
  · refine (Any8.slices_Grow_grow growE i0 _ hi hz0 (by rw [hz1]; decide) none 0 0 n [] w (Nat.le_refl _) (by omega) (by rw [hz2]; omega) (by omega) (by simp) (fun _ => rfl) (fun a h => by cases h)).mono ?_
    rintro e w' ⟨rfl, rfl⟩
    refine ⟨_, rfl, ⟨rfl, .inr ⟨w.heap.size, _, _, rfl, Nat.le_refl _, heap_alloc_new _ _, Nat.zero_le _, ?_, ?_, by simp⟩⟩, below_undrew (below_laid (w := w.drew) _)⟩
    · exact grownCap_le_maxLen _ _ _ _ (by unfold maxLen; omega)
    · have := grownCap_ge w (0 + n) 0 32
      have e : ∀ k : Nat, (Builtin.zeroCells (Value.agg #[.int .i64 0, .int .i64 0, .int .i64 0, .int .i64 0, .slice none 0 0]).cells k).size = k * 5 := fun k => size_zeroCells _ _
      simp only [Array.size_append, e]
      show 0 + (0 + n - 0) * 5 + _ = grownCap w (0 + n) 0 32 * 5
      obtain ⟨c, hc⟩ : ∃ c, grownCap w (0 + n) 0 32 = c := ⟨_, rfl⟩
      have hc2 : grownCap w (0 + n) 0 (growE_ren.t 25) = c := hc
      rw [hc2, hc]
      omega
theorem one_Ev0 : One REv0 := by
  rintro w Z xs x ⟨v, rfl, hv, -⟩ u hu
  obtain ⟨A, c, rfl⟩ := hv.form
  simp at hu
  rcases hu with rfl | rfl | rfl | rfl | rfl <;> rfl
theorem lst_topE {w : World} {Z : Nat → Prop} {v : Value} {l : List Evt} (h : Lst w Z 5 REv0 v l) : Lst w (fun b => Z b ∧ b < w.heap.size) 5 REv0 v l := by
  refine ⟨h.1, fun j hj => ?_⟩
  obtain ⟨g, off, cap, xs, e, hz, hl, hc, ⟨u, e2, hu, hi⟩⟩ := h.2 j hj
  exact ⟨g, off, cap, xs, e, ⟨hz, World.block_lt_of_cell? w ⟨g, off + j * 5 + 0, none⟩ (hc 0 xs[0] (List.getElem?_eq_getElem (by omega)))⟩, hl, hc, u, e2, lst_top hu, hi⟩
/-- A list of lists, two of them, one behind another. -/
def RetCat (l : List Evt) (w : World) (e : Ending) (w' : World) : Prop := ∃ v, e = .returned v ∧ Lst w' (· < w'.heap.size) 5 REv0 v l ∧ Below w.heap.size w w'
set_option maxRecDepth 100000 in
set_option maxHeartbeats 8000000 in
theorem concat_any (g : Nat) (va vb : Value) (a b : List Evt) (w : World) (ha : Lst w (· < w.heap.size) 5 REv0 va a) (hb : Lst w (· < w.heap.size) 5 REv0 vb b) (h0 : w.cell? ⟨g, 0, none⟩ = some va) (h1 : w.cell? ⟨g, 1, none⟩ = some vb) (hl : a.length + b.length ≤ 1000) :
    Calls Try.prog 35 #[.slice (some ⟨g, 0, none⟩) 2 2] w (RetCat (a ++ b) w) := by
  obtain ⟨i0, hi, hz0, hz1, hz2⟩ := info_parts iq_event
  obtain ⟨ca, HA1, hca, HA2⟩ := lst_raw one_Ev0 ha
  obtain ⟨cb, HB1, hcb, HB2⟩ := lst_raw one_Ev0 hb
  have HEL := hide (show ∀ j (hj : j < (a ++ b).length), ∃ xs, (ca ++ cb)[j]? = some xs ∧ xs.length = 5 ∧ REv0 w (· < w.heap.size) xs (a ++ b)[j] from fun j hj => by
    by_cases hja : j < a.length
    · obtain ⟨xs, e1, e2, e3⟩ := HA2 j hja
      exact ⟨xs, by rw [List.getElem?_append_left (by omega)]; exact e1, e2, by rw [List.getElem_append_left hja]; exact e3⟩
    · have hjb : j - a.length < b.length := by simp at hj; omega
      obtain ⟨xs, e1, e2, e3⟩ := HB2 (j - a.length) hjb
      exact ⟨xs, by rw [List.getElem?_append_right (by omega), hca]; exact e1, e2, by rw [List.getElem_append_right (by omega)]; exact e3⟩)
  have HCA := hide HA1
  have HCB := hide HB1
  have HLN := hide (show (a ++ b).length = ca.length + cb.length by simp [hca, hcb])
  obtain ⟨A, p, rfl⟩ := ha.form
  obtain ⟨B, q, rfl⟩ := hb.form
  obtain ⟨n, hn⟩ : ∃ n, a.length = n := ⟨_, rfl⟩
  obtain ⟨m, hm⟩ : ∃ m, b.length = m := ⟨_, rfl⟩
  rw [hn] at HCA h0 hca hl
  rw [hm] at HCB h1 hcb hl
  have HGR := hide (fun w => egrow_any (n + m) (by omega) w)
  rw [show ((n + m : Nat) : Int) = (n : Int) + (m : Int) by omega] at HGR
  have H01 := hide (And.intro h0 h1)
  clear ha hb HA1 HB1 HA2 HB2 hn hm
  go_enter Try.func35, Try.ntmps35
  go_wp2
  go_loopw [3, 11] (fun s i wr => w = wr ∧ ((s = .int .i64 0 ∧ i = .int .i64 0) ∨ (s = .int .i64 n ∧ i = .int .i64 1) ∨ (s = .int .i64 ((n : Int) + m) ∧ i = .int .i64 2))) (fun _ i _ => 2 - (intOf i).toNat)
  case atStart => exact ⟨rfl, .inl ⟨rfl, rfl⟩⟩
  case round =>
    obtain ⟨rfl, ⟨rfl, rfl⟩ | ⟨rfl, rfl⟩ | ⟨rfl, rfl⟩⟩ := hrel
    · go_wp2
      go_roundw
      case rel => exact ⟨by first | trivial | rfl, .inr (.inl ⟨by go_num, by go_num⟩)⟩
      case measure => simp [intOf]
    · go_wp2
      go_roundw
      case rel => exact ⟨by first | trivial | rfl, .inr (.inr ⟨by go_num, by go_num⟩)⟩
      case measure => simp [intOf]
    · go_wp2_with fail
      refine (HGR.out _).mono ?_
      rintro en w1 ⟨v1, rfl, hown1, hb1⟩
      have HO1 := hide hown1
      have HB1 := hide hb1
      have hz1' := hb1.size
      clear hown1 hb1 h0 h1
      have h0 := keep1 HB1.out H01.out.1
      have h1 := keep1 HB1.out H01.out.2
      go_wp2_with fail
      go_loopw [6, 27] (fun s i wr => Hid (Below w.heap.size w wr) ∧ ((Hid (wr.ownsRow w.heap.size 32 5 s 0 []) ∧ i = .int .i64 0) ∨ (Hid (wr.ownsRow w.heap.size 32 5 s n ca.flatten) ∧ i = .int .i64 1) ∨ (Hid (wr.ownsRow w.heap.size 32 5 s (n + m) (ca.flatten ++ cb.flatten)) ∧ i = .int .i64 2))) (fun _ i _ => 2 - (intOf i).toNat)
      case atStart => exact ⟨HB1, .inl ⟨HO1, rfl⟩⟩
      case round =>
        obtain ⟨HB, ⟨HO, rfl⟩ | ⟨HO, rfl⟩ | ⟨HO, rfl⟩⟩ := hrel
        · have h0 := keep1 HB.out H01.out.1
          have h1 := keep1 HB.out H01.out.2
          have HL := hide (HCA.out.keep rd_Wq (Kp.of_below HB.out))
          have hzw := HB.out.size
          go_wp2_with (at_builtin; refine wpList_append_lst rfl _ _ 22 rfl w.heap.size 32 i0 _ 5 56 Try.underlying22 hi hz0 hz1 hz2 rfl (by decide) _ 0 [] rfl HO.out A n p ca rfl HL.out (by omega) (by omega) (by decide) hzw ?_; intro v2 w2 hown2 hg2)
          go_roundw
          case rel => exact ⟨hide (HB.out.grown hg2 hzw fun k hk => (HO.out.lt k hk).1), .inr (.inl ⟨hide (by simpa using hown2), by go_num⟩)⟩
          case measure => simp [intOf]
        · have h0 := keep1 HB.out H01.out.1
          have h1 := keep1 HB.out H01.out.2
          have HL := hide (HCB.out.keep rd_Wq (Kp.of_below HB.out))
          have hzw := HB.out.size
          go_wp2_with (at_builtin; refine wpList_append_lst rfl _ _ 22 rfl w.heap.size 32 i0 _ 5 56 Try.underlying22 hi hz0 hz1 hz2 rfl (by decide) _ n ca.flatten rfl HO.out B m q cb rfl HL.out (by omega) (by omega) (by decide) hzw ?_; intro v2 w2 hown2 hg2)
          go_roundw
          case rel => exact ⟨hide (HB.out.grown hg2 hzw fun k hk => (HO.out.lt k hk).1), .inr (.inr ⟨hide hown2, by go_num⟩)⟩
          case measure => simp [intOf]
        · go_wp2
          go_ret
          refine ⟨_, rfl, ?_, HB.out⟩
          have hown := HO.out
          rw [← List.flatten_append] at hown
          have hln : (a ++ b).length = n + m := by rw [HLN.out, hca, hcb]
          rw [← hln] at hown
          refine (lst_topE (Lst.of_own (Z := fun _ => True) (by decide) hown (fun _ _ => trivial) (by rw [List.length_append]; exact HLN.out.symm) (by unfold maxLen; omega) fun j hj => ?_)).more rd_Ev0 (fun b hb => hb.2)
          obtain ⟨xs, e1, e2, e3⟩ := HEL.out j hj
          exact ⟨xs, e1, e2, rd_Ev0.more (fun _ _ => trivial) (rd_Ev0.keep (Kp.of_below HB.out) e3)⟩
end Go.Proofs.Ytbendimkejndiaa
