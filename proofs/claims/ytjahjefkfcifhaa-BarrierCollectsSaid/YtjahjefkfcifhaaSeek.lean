/- slices.Index, Contains, Equal over integers and over bools. -/
import Derived.Test.YtjahjefkfcifhaaBase
namespace Go.Proofs.Ytjahjefkfcifhaa
open Go.RowKit
set_option linter.unusedVariables false
set_option linter.unusedSimpArgs false

def ints (l : List Int) : List Value := l.map (Value.int .i64)
def bools (l : List Bool) : List Value := l.map Value.bool
theorem ints_app (l m : List Int) : ints (l ++ m) = ints l ++ ints m := List.map_append
theorem bools_app (l m : List Bool) : bools (l ++ m) = bools l ++ bools m := List.map_append

/-- Behind a call before which a block was laid. -/
theorem step_box {w1 w2 : World} (xs : List Value) {t : TypeId} (hb2 : Below (w1.alloc (.cells xs.toArray t)).heap.size (w1.alloc (.cells xs.toArray t)) w2) :
    Below w1.heap.size w1 w2 ∧ w1.heap.size < w2.heap.size ∧ ∀ j u, xs[j]? = some u → w2.cell? ⟨w1.heap.size, j, none⟩ = some u := by
  refine ⟨bthen ((Below.refl _ _).alloc (Nat.le_refl _) _) hb2, by have := hb2.size; simp at this; omega, fun j u hj => ?_⟩
  rw [hb2.cell (p := ⟨w1.heap.size, j, none⟩) (by simp)]
  exact cells_lit w1 xs t j u hj

theorem Row.grow {w w' : World} {sz n : Nat} {v : Value} {xs : List Value} (h : Row w w.heap.size sz v n xs) (hb : Below w.heap.size w w') : Row w' w'.heap.size sz v n xs := (h.below hb).more hb.size
theorem Row.laid {w : World} {sz n : Nat} {v : Value} {xs : List Value} (h : Row w w.heap.size sz v n xs) (o : Obj) : Row (w.alloc o) (w.alloc o).heap.size sz v n xs := h.grow ((Below.refl _ _).alloc (Nat.le_refl _) _)

/-- Where x lies first in l, or -1: the loop's own answer. -/
def idx {α : Type} [DecidableEq α] (x : α) : List α → Int → Int
  | [], _ => -1
  | y :: l, k => if x = y then k else idx x l (k + 1)
def has {α : Type} [DecidableEq α] (x : α) (l : List α) : Bool := l.any (fun y => decide (x = y))
section
variable {α : Type} [DecidableEq α] {x : α} {l : List α}
theorem idx_drop {k : Nat} (hk : k < l.length) (hne : ¬ x = l[k]) (s : Int) : idx x (l.drop k) s = idx x (l.drop (k + 1)) (s + 1) := by
  rw [List.drop_eq_getElem_cons hk, idx, if_neg hne]
theorem idx_hit {k : Nat} (hk : k < l.length) (he : x = l[k]) (s : Int) : idx x (l.drop k) s = s := by
  rw [List.drop_eq_getElem_cons hk, idx, if_pos he]
theorem idx_none {k : Nat} (hk : l.length ≤ k) (s : Int) : idx x (l.drop k) s = -1 := by
  rw [List.drop_eq_nil_of_le hk, idx]
theorem idx_has (x : α) : ∀ (l : List α) (k : Int), 0 ≤ k → decide (0 ≤ idx x l k) = has x l
  | [], k, _ => rfl
  | y :: l, k, hk => by
    by_cases h : x = y
    · simp [idx, has, h, hk]
    · have := idx_has x l (k + 1) (by omega)
      simp only [has] at this ⊢
      simp [idx, h, this]
end

set_option maxHeartbeats 400000 in
theorem index_int (v : Value) (x : Int) (l : List Int) (w : World) (hl : l.length ≤ 1000) (hv : Row w w.heap.size 1 v l.length (ints l)) :
    Calls Try.prog 34 #[v, .int .i64 x] w fun e w' => e = .returned (.int .i64 (idx x l 0)) ∧ w = w' := by
  obtain ⟨m, hm⟩ : ∃ m, l.length = m := ⟨_, rfl⟩
  rw [hm] at hv hl
  have HM := hide hm
  clear hm
  rcases Nat.eq_zero_or_pos m with rfl | hpos
  · obtain rfl : l = [] := List.eq_nil_of_length_eq_zero HM.out
    obtain ⟨A, cap, rfl⟩ := hv.form
    clear hv
    go_enter Try.func34, Try.ntmps34
    go_wp2
    refine wp_loop_rounds 1 ?_
    rw [rounds_succ]
    go_wp2
    go_ret
    exact ⟨rfl, rfl⟩
  · obtain ⟨g, off, cap, rfl, _, _, hc⟩ := hv.at_ hpos
    have HC := hide hc
    clear hc hv
    go_enter Try.func34, Try.ntmps34
    go_wp2
    go_loop [8] (fun i => ∃ k : Nat, k ≤ m ∧ i = .int .i64 k ∧ Hid (idx x (l.drop k) k = idx x l 0)) (fun i => m - (intOf i).toNat)
    case atStart => exact ⟨0, by omega, rfl, hide (by simp)⟩
    case round =>
      obtain ⟨k, hk, rfl, HI⟩ := hrel
      by_cases hlt : k < m
      · have hkl : k < l.length := by rw [HM.out]; exact hlt
        have e1 : w.cell? ⟨g, off + k, none⟩ = some (.int .i64 l[k]) := HC.out k _ (by simp [ints, hkl])
        obtain ⟨z, hz⟩ : ∃ z, l[k] = z := ⟨_, rfl⟩
        rw [hz] at e1
        have HZ := hide hz
        clear hz
        by_cases hq : x = z
        · subst hq
          go_wp2
          go_ret
          exact ⟨congrArg (fun n => Ending.returned (.int .i64 n)) ((idx_hit hkl HZ.out.symm _).symm.trans HI.out), rfl⟩
        · have hq' : (x == z) = false := by simpa using hq
          have HQ := hide hq
          clear hq
          go_wp2
          go_round
          case rel => exact ⟨k + 1, by omega, by go_num, hide ((idx_drop hkl (by rw [HZ.out]; exact HQ.out) _).symm.trans HI.out)⟩
          case measure => simp [intOf]; omega
      · obtain rfl : k = m := by omega
        go_wp2
        go_ret
        exact ⟨congrArg (fun n => Ending.returned (.int .i64 n)) ((idx_none (by rw [HM.out]; exact Nat.le_refl _) _).symm.trans HI.out), rfl⟩
set_option maxHeartbeats 400000 in
theorem index_bool (v : Value) (x : Bool) (l : List Bool) (w : World) (hl : l.length ≤ 1000) (hv : Row w w.heap.size 1 v l.length (bools l)) :
    Calls Try.prog 40 #[v, .bool x] w fun e w' => e = .returned (.int .i64 (idx x l 0)) ∧ w = w' := by
  obtain ⟨m, hm⟩ : ∃ m, l.length = m := ⟨_, rfl⟩
  rw [hm] at hv hl
  have HM := hide hm
  clear hm
  rcases Nat.eq_zero_or_pos m with rfl | hpos
  · obtain rfl : l = [] := List.eq_nil_of_length_eq_zero HM.out
    obtain ⟨A, cap, rfl⟩ := hv.form
    clear hv
    go_enter Try.func40, Try.ntmps40
    go_wp2
    refine wp_loop_rounds 1 ?_
    rw [rounds_succ]
    go_wp2
    go_ret
    exact ⟨rfl, rfl⟩
  · obtain ⟨g, off, cap, rfl, _, _, hc⟩ := hv.at_ hpos
    have HC := hide hc
    clear hc hv
    go_enter Try.func40, Try.ntmps40
    go_wp2
    go_loop [8] (fun i => ∃ k : Nat, k ≤ m ∧ i = .int .i64 k ∧ Hid (idx x (l.drop k) k = idx x l 0)) (fun i => m - (intOf i).toNat)
    case atStart => exact ⟨0, by omega, rfl, hide (by simp)⟩
    case round =>
      obtain ⟨k, hk, rfl, HI⟩ := hrel
      by_cases hlt : k < m
      · have hkl : k < l.length := by rw [HM.out]; exact hlt
        have e1 : w.cell? ⟨g, off + k, none⟩ = some (.bool l[k]) := HC.out k _ (by simp [bools, hkl])
        obtain ⟨z, hz⟩ : ∃ z, l[k] = z := ⟨_, rfl⟩
        rw [hz] at e1
        have HZ := hide hz
        clear hz
        by_cases hq : x = z
        · subst hq
          go_wp2
          go_ret
          exact ⟨congrArg (fun n => Ending.returned (.int .i64 n)) ((idx_hit hkl HZ.out.symm _).symm.trans HI.out), rfl⟩
        · have hq' : (x == z) = false := by simpa using hq
          have HQ := hide hq
          clear hq
          go_wp2
          go_round
          case rel => exact ⟨k + 1, by omega, by go_num, hide ((idx_drop hkl (by rw [HZ.out]; exact HQ.out) _).symm.trans HI.out)⟩
          case measure => simp [intOf]; omega
      · obtain rfl : k = m := by omega
        go_wp2
        go_ret
        exact ⟨congrArg (fun n => Ending.returned (.int .i64 n)) ((idx_none (by rw [HM.out]; exact Nat.le_refl _) _).symm.trans HI.out), rfl⟩

set_option maxHeartbeats 400000 in
theorem contains_int (v : Value) (x : Int) (l : List Int) (w : World) (hl : l.length ≤ 1000) (hv : Row w w.heap.size 1 v l.length (ints l)) :
    Calls Try.prog 21 #[v, .int .i64 x] w fun e w' => e = .returned (.bool (has x l)) ∧ w = w' := by
  have hi := hide (idx_has x l 0 (Int.le_refl 0))
  go_enter Try.func21, Try.ntmps21
  go_wp2_with fail
  refine (index_int v x l w hl hv).mono ?_
  rintro e w1 ⟨rfl, rfl⟩
  go_wp2
  go_ret
  exact ⟨congrArg (fun b => Ending.returned (.bool b)) hi.out, rfl⟩
set_option maxHeartbeats 400000 in
theorem contains_bool (v : Value) (x : Bool) (l : List Bool) (w : World) (hl : l.length ≤ 1000) (hv : Row w w.heap.size 1 v l.length (bools l)) :
    Calls Try.prog 33 #[v, .bool x] w fun e w' => e = .returned (.bool (has x l)) ∧ w = w' := by
  have hi := hide (idx_has x l 0 (Int.le_refl 0))
  go_enter Try.func33, Try.ntmps33
  go_wp2_with fail
  refine (index_bool v x l w hl hv).mono ?_
  rintro e w1 ⟨rfl, rfl⟩
  go_wp2
  go_ret
  exact ⟨congrArg (fun b => Ending.returned (.bool b)) hi.out, rfl⟩

set_option maxHeartbeats 400000 in
/-- The same list twice is equal. -/
theorem equal_int (u v : Value) (l : List Int) (w : World) (hl : l.length ≤ 1000) (hu : Row w w.heap.size 1 u l.length (ints l)) (hv : Row w w.heap.size 1 v l.length (ints l)) :
    Calls Try.prog 25 #[u, v] w (Ret (.bool true) w) := by
  obtain ⟨m, hm⟩ : ∃ m, l.length = m := ⟨_, rfl⟩
  rw [hm] at hu hv hl
  have HM := hide hm
  clear hm
  rcases Nat.eq_zero_or_pos m with rfl | hpos
  · obtain ⟨A, cap, rfl⟩ := hu.form
    obtain ⟨A', cap', rfl⟩ := hv.form
    clear hu hv
    go_enter Try.func25, Try.ntmps25
    go_wp2
    refine wp_loop_rounds 1 ?_
    rw [rounds_succ]
    go_wp2
    go_ret
    exact Ret.bool rfl (Below.refl _ _)
  · obtain ⟨g, off, cap, rfl, _, _, hc⟩ := hu.at_ hpos
    obtain ⟨g', off', cap', rfl, _, _, hc'⟩ := hv.at_ hpos
    have HC := hide hc
    have HC' := hide hc'
    clear hc hu hc' hv
    go_enter Try.func25, Try.ntmps25
    go_wp2
    go_loopw [13] (fun i wr => ∃ k d : Nat, k ≤ m ∧ i = .int .i64 k ∧ wr = w.drewN d) (fun i _ => m - (intOf i).toNat)
    case atStart => exact ⟨0, 0, by omega, rfl, rfl⟩
    case round =>
      obtain ⟨k, d, hk, rfl, rfl⟩ := hrel
      by_cases hlt : k < m
      · have hkl : k < l.length := by rw [HM.out]; exact hlt
        have e1 : w.cell? ⟨g, off + k, none⟩ = some (.int .i64 l[k]) := HC.out k _ (by simp [ints, hkl])
        have e2 : w.cell? ⟨g', off' + k, none⟩ = some (.int .i64 l[k]) := HC'.out k _ (by simp [ints, hkl])
        obtain ⟨z, hz⟩ : ∃ z, l[k] = z := ⟨_, rfl⟩
        rw [hz] at e1 e2
        clear hz
        go_wp2
        go_quiet (fail)
        go_wp2
        go_roundw
        case rel => exact ⟨k + 1, _, by omega, by go_num, rfl⟩
        case measure => simp [intOf]; omega
      · obtain rfl : k = m := by omega
        go_wp2
        go_ret
        exact Ret.bool rfl (below_drewN (Below.refl _ _) _)
end Go.Proofs.Ytjahjefkfcifhaa
