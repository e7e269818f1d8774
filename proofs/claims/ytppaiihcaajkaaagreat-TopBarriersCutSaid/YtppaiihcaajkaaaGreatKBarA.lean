/- The aligner: checks, Begin, Blocked: written by genBar.py. -/
import Derived.Test.YtppaiihcaajkaaaGreatGen
import Derived.Laws.EntriesVeiled
import Derived.Laws.ResultCell
namespace Go.Proofs.YtppaiihcaajkaaaGreat.Bar
set_option linter.unusedVariables false
set_option linter.unusedSimpArgs false
section

open Go.RowKit

def ints (l : List Int) : List Value := l.map (Value.int .i64)
def bools (l : List Bool) : List Value := l.map Value.bool
theorem ints_app (l m : List Int) : ints (l ++ m) = ints l ++ ints m := List.map_append
theorem bools_app (l m : List Bool) : bools (l ++ m) = bools l ++ bools m := List.map_append

/-- Behind a call before which a block was laid. -/
theorem step_box {w1 w2 : World} (xs : List Value) {t : TypeId} (hb2 : Below (w1.alloc (.cells xs.toArray t)).heap.size (w1.alloc (.cells xs.toArray t)) w2) :
    Below w1.heap.size w1 w2 ∧ w1.heap.size < w2.heap.size ∧ ∀ j u, xs[j]? = some u → w2.cell? ⟨w1.heap.size, j, none⟩ = some u := by
  refine ⟨bthen ((Below.refl _ _).alloc (Nat.le_refl _) _) hb2, by have := hb2.size; simp at this; omega, fun j u hj => ?_⟩
  rw [hb2.cell (p := ⟨w1.heap.size, j, none⟩) (by simp)]
  exact cells_lit w1 xs t j u hj

theorem Row.grow {w w' : World} {sz n : Nat} {v : Value} {xs : List Value} (h : Row w w.heap.size sz v n xs) (hb : Below w.heap.size w w') : Row w' w'.heap.size sz v n xs := (h.below hb).more hb.size
theorem Row.laid {w : World} {sz n : Nat} {v : Value} {xs : List Value} (h : Row w w.heap.size sz v n xs) (o : Obj) : Row (w.alloc o) (w.alloc o).heap.size sz v n xs := h.grow ((Below.refl _ _).alloc (Nat.le_refl _) _)

/-- Where x lies first in l, or -1: the loop's own answer. -/
def idx {α : Type} [DecidableEq α] (x : α) : List α → Int → Int
  | [], _ => -1
  | y :: l, k => if x = y then k else idx x l (k + 1)
def has {α : Type} [DecidableEq α] (x : α) (l : List α) : Bool := l.any (fun y => decide (x = y))
section
variable {α : Type} [DecidableEq α] {x : α} {l : List α}
theorem idx_drop {k : Nat} (hk : k < l.length) (hne : ¬ x = l[k]) (s : Int) : idx x (l.drop k) s = idx x (l.drop (k + 1)) (s + 1) := by
  rw [List.drop_eq_getElem_cons hk, idx, if_neg hne]
theorem idx_hit {k : Nat} (hk : k < l.length) (he : x = l[k]) (s : Int) : idx x (l.drop k) s = s := by
  rw [List.drop_eq_getElem_cons hk, idx, if_pos he]
theorem idx_none {k : Nat} (hk : l.length ≤ k) (s : Int) : idx x (l.drop k) s = -1 := by
  rw [List.drop_eq_nil_of_le hk, idx]
theorem idx_has (x : α) : ∀ (l : List α) (k : Int), 0 ≤ k → decide (0 ≤ idx x l k) = has x l
  | [], k, _ => rfl
  | y :: l, k, hk => by
    by_cases h : x = y
    · simp [idx, has, h, hk]
    · have := idx_has x l (k + 1) (by omega)
      simp only [has] at this ⊢
      simp [idx, h, this]
end

set_option maxHeartbeats 400000 in
theorem index_int (v : Value) (x : Int) (l : List Int) (w : World) (hl : l.length ≤ 1000) (hv : Row w w.heap.size 1 v l.length (ints l)) :
    Calls Tryz.prog 126 #[v, .int .i64 x] w fun e w' => e = .returned (.int .i64 (idx x l 0)) ∧ w = w' := by
  obtain ⟨m, hm⟩ : ∃ m, l.length = m := ⟨_, rfl⟩
  rw [hm] at hv hl
  have HM := hide hm
  clear hm
  rcases Nat.eq_zero_or_pos m with rfl | hpos
  · obtain rfl : l = [] := List.eq_nil_of_length_eq_zero HM.out
    obtain ⟨A, cap, rfl⟩ := hv.form
    clear hv
    go_enter Tryz.func126, Tryz.ntmps126
    go_wp2
    refine wp_loop_rounds 1 ?_
    rw [rounds_succ]
    go_wp2
    go_ret
    exact ⟨rfl, rfl⟩
  · obtain ⟨g, off, cap, rfl, _, _, hc⟩ := hv.at_ hpos
    have HC := hide hc
    clear hc hv
    go_enter Tryz.func126, Tryz.ntmps126
    go_wp2
    go_loop [8] (fun i => ∃ k : Nat, k ≤ m ∧ i = .int .i64 k ∧ Hid (idx x (l.drop k) k = idx x l 0)) (fun i => m - (intOf i).toNat)
    case atStart => exact ⟨0, by omega, rfl, hide (by simp)⟩
    case round =>
      obtain ⟨k, hk, rfl, HI⟩ := hrel
      by_cases hlt : k < m
      · have hkl : k < l.length := by rw [HM.out]; exact hlt
        have e1 : w.cell? ⟨g, off + k, none⟩ = some (.int .i64 l[k]) := HC.out k _ (by simp [ints, hkl])
        obtain ⟨z, hz⟩ : ∃ z, l[k] = z := ⟨_, rfl⟩
        rw [hz] at e1
        have HZ := hide hz
        clear hz
        by_cases hq : x = z
        · subst hq
          go_wp2
          go_ret
          exact ⟨congrArg (fun n => Ending.returned (.int .i64 n)) ((idx_hit hkl HZ.out.symm _).symm.trans HI.out), rfl⟩
        · have hq' : (x == z) = false := by simpa using hq
          have HQ := hide hq
          clear hq
          go_wp2
          go_round
          case rel => exact ⟨k + 1, by omega, by go_num, hide ((idx_drop hkl (by rw [HZ.out]; exact HQ.out) _).symm.trans HI.out)⟩
          case measure => simp [intOf]; omega
      · obtain rfl : k = m := by omega
        go_wp2
        go_ret
        exact ⟨congrArg (fun n => Ending.returned (.int .i64 n)) ((idx_none (by rw [HM.out]; exact Nat.le_refl _) _).symm.trans HI.out), rfl⟩
set_option maxHeartbeats 400000 in
theorem index_bool (v : Value) (x : Bool) (l : List Bool) (w : World) (hl : l.length ≤ 1000) (hv : Row w w.heap.size 1 v l.length (bools l)) :
    Calls Tryz.prog 103 #[v, .bool x] w fun e w' => e = .returned (.int .i64 (idx x l 0)) ∧ w = w' := by
  obtain ⟨m, hm⟩ : ∃ m, l.length = m := ⟨_, rfl⟩
  rw [hm] at hv hl
  have HM := hide hm
  clear hm
  rcases Nat.eq_zero_or_pos m with rfl | hpos
  · obtain rfl : l = [] := List.eq_nil_of_length_eq_zero HM.out
    obtain ⟨A, cap, rfl⟩ := hv.form
    clear hv
    go_enter Tryz.func103, Tryz.ntmps103
    go_wp2
    refine wp_loop_rounds 1 ?_
    rw [rounds_succ]
    go_wp2
    go_ret
    exact ⟨rfl, rfl⟩
  · obtain ⟨g, off, cap, rfl, _, _, hc⟩ := hv.at_ hpos
    have HC := hide hc
    clear hc hv
    go_enter Tryz.func103, Tryz.ntmps103
    go_wp2
    go_loop [8] (fun i => ∃ k : Nat, k ≤ m ∧ i = .int .i64 k ∧ Hid (idx x (l.drop k) k = idx x l 0)) (fun i => m - (intOf i).toNat)
    case atStart => exact ⟨0, by omega, rfl, hide (by simp)⟩
    case round =>
      obtain ⟨k, hk, rfl, HI⟩ := hrel
      by_cases hlt : k < m
      · have hkl : k < l.length := by rw [HM.out]; exact hlt
        have e1 : w.cell? ⟨g, off + k, none⟩ = some (.bool l[k]) := HC.out k _ (by simp [bools, hkl])
        obtain ⟨z, hz⟩ : ∃ z, l[k] = z := ⟨_, rfl⟩
        rw [hz] at e1
        have HZ := hide hz
        clear hz
        by_cases hq : x = z
        · subst hq
          go_wp2
          go_ret
          exact ⟨congrArg (fun n => Ending.returned (.int .i64 n)) ((idx_hit hkl HZ.out.symm _).symm.trans HI.out), rfl⟩
        · have hq' : (x == z) = false := by simpa using hq
          have HQ := hide hq
          clear hq
          go_wp2
          go_round
          case rel => exact ⟨k + 1, by omega, by go_num, hide ((idx_drop hkl (by rw [HZ.out]; exact HQ.out) _).symm.trans HI.out)⟩
          case measure => simp [intOf]; omega
      · obtain rfl : k = m := by omega
        go_wp2
        go_ret
        exact ⟨congrArg (fun n => Ending.returned (.int .i64 n)) ((idx_none (by rw [HM.out]; exact Nat.le_refl _) _).symm.trans HI.out), rfl⟩

set_option maxHeartbeats 400000 in
theorem contains_int (v : Value) (x : Int) (l : List Int) (w : World) (hl : l.length ≤ 1000) (hv : Row w w.heap.size 1 v l.length (ints l)) :
    Calls Tryz.prog 112 #[v, .int .i64 x] w fun e w' => e = .returned (.bool (has x l)) ∧ w = w' := by
  have hi := hide (idx_has x l 0 (Int.le_refl 0))
  go_enter Tryz.func112, Tryz.ntmps112
  go_wp2_with fail
  refine (index_int v x l w hl hv).mono ?_
  rintro e w1 ⟨rfl, rfl⟩
  go_wp2
  go_ret
  exact ⟨congrArg (fun b => Ending.returned (.bool b)) hi.out, rfl⟩
set_option maxHeartbeats 400000 in
theorem contains_bool (v : Value) (x : Bool) (l : List Bool) (w : World) (hl : l.length ≤ 1000) (hv : Row w w.heap.size 1 v l.length (bools l)) :
    Calls Tryz.prog 91 #[v, .bool x] w fun e w' => e = .returned (.bool (has x l)) ∧ w = w' := by
  have hi := hide (idx_has x l 0 (Int.le_refl 0))
  go_enter Tryz.func91, Tryz.ntmps91
  go_wp2_with fail
  refine (index_bool v x l w hl hv).mono ?_
  rintro e w1 ⟨rfl, rfl⟩
  go_wp2
  go_ret
  exact ⟨congrArg (fun b => Ending.returned (.bool b)) hi.out, rfl⟩

end

section

open Go.RowKit

theorem count_take {l : List Bool} {k : Nat} (h : k < l.length) : (l.take (k + 1)).count true = (l.take k).count true + if l[k] = true then 1 else 0 := by
  rw [List.take_succ_eq_append_getElem h, List.count_append, List.count_singleton]
  by_cases hx : l[k] = true
  · rw [hx]; simp
  · rw [if_neg hx]; simp [hx]

theorem count_all {l : List Bool} : ((l.count true : Nat) : Int) = (l.length : Int) ↔ has false l = false := by
  rw [Int.ofNat_inj, List.count_eq_length]
  simp only [has, List.any_eq_false, decide_eq_true_eq]
  constructor
  · intro h x hx e; have := h x hx; subst e; cases this
  · intro h x hx
    cases x
    · exact absurd rfl (h _ hx)
    · rfl
theorem count_none {l : List Bool} : ((l.count true : Nat) : Int) = 0 ↔ has true l = false := by
  rw [show ((0 : Int)) = ((0 : Nat) : Int) from rfl, Int.ofNat_inj, List.count_eq_zero]
  simp only [has, List.any_eq_false, decide_eq_true_eq]
  constructor
  · intro h x hx e; exact h (e ▸ hx)
  · intro h hx; exact h _ hx rfl

/-- The number of the error of an aligner. -/
def chk (n : Int) (l : List Bool) : Int := if ¬ (1 ≤ (l.length : Int) ∧ (l.length : Int) ≤ 8) then 5 else if ¬ (0 ≤ n ∧ n ≤ 1099511627776) then 2 else if has false l = false then 21 else 0
def cntd (n : Int) : Bool := decide (1 ≤ n ∧ n ≤ 8)

set_option maxHeartbeats 400000 in
theorem counted_any (n : Int) (w : World) : Calls Tryz.prog 29 #[.int .i64 n] w fun e w' => e = .returned (.bool (cntd n)) ∧ w = w' := by
  go_enter Tryz.func29, Tryz.ntmps29
  go_wp2
  all_goals go_ret
  all_goals exact ⟨congrArg (fun b => Ending.returned (.bool b)) (by unfold cntd; simp; omega), rfl⟩

def al (n : Int) (v : Value) : Value := .agg #[.int .i64 n, v]

set_option maxHeartbeats 400000 in
theorem cond1_any (n : Int) (a : Option Addr) (k c : Nat) (w : World) (hk : k ≤ 1000) :
    Calls Tryz.prog 88 #[.agg #[.int .i64 n, .slice a k c]] w (Ret (.bool (cntd k)) w) := by
  go_enter Tryz.func88, Tryz.ntmps88
  go_wp2_with fail
  refine (counted_any _ _).mono ?_
  rintro e w1 ⟨rfl, rfl⟩
  go_wp2
  go_ret
  exact Ret.bool rfl ((Below.refl _ _).alloc (Nat.le_refl _) _)

set_option maxHeartbeats 400000 in
theorem cond2_any (n : Int) (v : Value) (w : World) (hv : v.oneCell' = true) :
    Calls Tryz.prog 89 #[.agg #[.int .i64 n, v]] w (Ret (.bool (decide (0 ≤ n ∧ n ≤ 1099511627776))) w) := by
  go_enter Tryz.func89, Tryz.ntmps89
  go_wp2
  all_goals go_ret
  all_goals exact Ret.bool (by simp; omega) ((Below.refl _ _).alloc (Nat.le_refl _) _)

set_option maxHeartbeats 400000 in
theorem cond3_any (n : Int) (v : Value) (l : List Bool) (w : World) (hl : l.length ≤ 1000) (hv : Row w w.heap.size 1 v l.length (bools l)) :
    Calls Tryz.prog 90 #[.agg #[.int .i64 n, v]] w (Ret (.bool (has false l)) w) := by
  obtain ⟨A, cap, rfl⟩ := hv.form
  have HV := hide (hv.below ((Below.refl _ w).alloc (Nat.le_refl _) (.cells #[.int .i64 n, .slice A l.length cap] 40)))
  clear hv
  go_enter Tryz.func90, Tryz.ntmps90
  go_wp2_with fail
  refine (contains_bool _ _ l _ hl (HV.out.more (by simp))).mono ?_
  rintro e w1 ⟨rfl, rfl⟩
  go_wp2
  go_ret
  exact Ret.bool rfl ((Below.refl _ _).alloc (Nat.le_refl _) _)

set_option maxHeartbeats 400000 in
theorem conditions_any (w : World) : Calls Tryz.prog 76 #[] w fun e w' => e = .returned (.slice (some ⟨w.heap.size, 0, none⟩) 3 3) ∧
    w' = w.alloc (.cells #[.func (.func 88) #[] #[], .int .i64 5, .func (.func 89) #[] #[], .int .i64 2, .func (.func 90) #[] #[], .int .i64 21] 153) := by
  go_enter Tryz.func76, Tryz.ntmps76
  go_wp2
  go_ret
  exact ⟨rfl, rfl⟩

theorem cntd_iff {n : Int} : cntd n = true ↔ 1 ≤ n ∧ n ≤ 8 := by simp [cntd]

set_option maxHeartbeats 1000000 in
theorem check_any (n : Int) (v : Value) (l : List Bool) (w : World) (hl : l.length ≤ 1000) (hv : Row w w.heap.size 1 v l.length (bools l)) :
    Calls Tryz.prog 57 #[.agg #[.int .i64 n, v]] w (Ret (.int .i64 (chk n l)) w) := by
  obtain ⟨A, cap, rfl⟩ := hv.form
  have HV := hide hv
  clear hv
  obtain ⟨m, hm⟩ : ∃ m, l.length = m := ⟨_, rfl⟩
  rw [hm] at HV hl ⊢
  have HM := hide hm
  clear hm
  go_enter Tryz.func57, Tryz.ntmps57
  go_wp2_with fail
  refine (conditions_any _).mono ?_
  rintro e w1 ⟨rfl, hw1⟩
  have hcs := cells_lit (w.alloc (.cells #[.int .i64 n, .slice A m cap] 40)) [.func (.func 88) #[] #[], .int .i64 5, .func (.func 89) #[] #[], .int .i64 2, .func (.func 90) #[] #[], .int .i64 21] 153
  rw [← hw1] at hcs
  have d0 := hcs 0 _ rfl
  have d1 := hcs 1 _ rfl
  have d2 := hcs 2 _ rfl
  have d3 := hcs 3 _ rfl
  have d4 := hcs 4 _ rfl
  have d5 := hcs 5 _ rfl
  simp only [World.size_alloc] at d0 d1 d2 d3 d4 d5
  have hbox : w1.cell? ⟨w.heap.size, 0, none⟩ = some (.int .i64 n) ∧ w1.cell? ⟨w.heap.size, 1, none⟩ = some (.slice A m cap) := by
    rw [hw1]
    exact ⟨(World.cell?_alloc_lt _ _ _ (by simp)).trans (cells_lit w [.int .i64 n, .slice A m cap] _ 0 _ rfl), (World.cell?_alloc_lt _ _ _ (by simp)).trans (cells_lit w [.int .i64 n, .slice A m cap] _ 1 _ rfl)⟩
  obtain ⟨b0, b1⟩ := hbox
  have hz : w1.heap.size = w.heap.size + 2 := by rw [hw1]; simp
  have HB := hide (show Below w.heap.size w w1 by rw [hw1]; exact ((Below.refl _ _).alloc (Nat.le_refl _) _).alloc (by simp) _)
  clear hcs hw1
  go_wp2
  refine wp_loop_rounds 4 ?_
  rw [rounds_succ]
  go_wp2_with fail
  refine (cond1_any n A m cap _ hl).mono ?_
  rintro e w2 ⟨rfl, hb2⟩
  obtain ⟨hb2', hz2, hx2⟩ := step_box [.func (.func 88) #[] #[], .int .i64 5] hb2
  have x2 := hx2 1 _ rfl
  have hc2 := (bcell hb2').1
  have c0 := (hc2 _ _ (by omega)).trans b0
  have c1 := (hc2 _ _ (by omega)).trans b1
  have f2 := (hc2 _ _ (by omega)).trans d2
  have f3 := (hc2 _ _ (by omega)).trans d3
  have f4 := (hc2 _ _ (by omega)).trans d4
  have f5 := (hc2 _ _ (by omega)).trans d5
  clear hc2
  rw [hz] at x2 hz2
  have HB2 := hide (HB.out.trans (hb2'.mono (by omega)))
  clear hb2 hb2' hx2
  have hs2 : w.heap.size < w2.heap.size := by omega
  go_wp2_with fail
  · rename_i hnot
    go_ret
    exact Ret.int (by rw [chk, HM.out, if_pos]; intro h; rw [cntd_iff.2 h] at hnot; cases hnot) HB2.out
  · rename_i hyes
    have H1 := hide (cntd_iff.1 (by simpa using hyes))
    clear hyes
    rw [rounds_succ]
    go_wp2_with fail
    refine (cond2_any n (.slice A m cap) _ rfl).mono ?_
    rintro e w3 ⟨rfl, hb3⟩
    obtain ⟨hb3', hz3, hx3⟩ := step_box [.func (.func 89) #[] #[], .int .i64 2] hb3
    have x3 := hx3 1 _ rfl
    have hc3 := (bcell hb3').1
    have c30 := (hc3 _ _ (by omega)).trans c0
    have c31 := (hc3 _ _ (by omega)).trans c1
    have g4 := (hc3 _ _ (by omega)).trans f4
    have g5 := (hc3 _ _ (by omega)).trans f5
    clear hc3
    have HB3 := hide (HB2.out.trans (hb3'.mono (by omega)))
    clear hb3 hb3' hx3
    have hs3 : w.heap.size < w3.heap.size := by omega
    go_wp2_with fail
    · rename_i hnot
      go_ret
      exact Ret.int (by rw [chk, HM.out, if_neg (fun h => h H1.out), if_pos]; intro h; simp at hnot; omega) HB3.out
    · rename_i hyes
      have H2 : Hid (0 ≤ n ∧ n ≤ 1099511627776) := hide (by simpa using hyes)
      clear hyes
      rw [rounds_succ]
      go_wp2_with fail
      refine (cond3_any n _ l _ ?c1 ?c2).mono ?_
      case c1 => rw [HM.out]; exact hl
      case c2 => rw [HM.out]; exact (HV.out.grow HB3.out).laid _
      rintro e w4 ⟨rfl, hb4⟩
      obtain ⟨hb4', hz4, hx4⟩ := step_box [.func (.func 90) #[] #[], .int .i64 21] hb4
      have x4 := hx4 1 _ rfl
      have hc4 := (bcell hb4').1
      have HB4 := hide (HB3.out.trans (hb4'.mono (by omega)))
      clear hb4 hb4' hx4
      go_wp2_with fail
      · rename_i hnot
        go_ret
        exact Ret.int (by rw [chk, HM.out, if_neg (fun h => h H1.out), if_neg (fun h => h H2.out), if_pos (by simpa using hnot)]) HB4.out
      · rename_i hyes
        rw [rounds_succ]
        go_wp2
        go_ret
        exact Ret.int (by rw [chk, HM.out, if_neg (fun h => h H1.out), if_neg (fun h => h H2.out), if_neg (by simpa using hyes)]) HB4.out

end

section

open Go.RowKit

theorem chk_many {n : Int} {l : List Bool} (h : ¬ (1 ≤ l.length ∧ l.length ≤ 8)) : chk n l = 5 := by unfold chk; rw [if_pos (by omega)]
theorem chk_range {n : Int} {l : List Bool} (h : 1 ≤ l.length ∧ l.length ≤ 8) (h2 : ¬ (0 ≤ n ∧ n ≤ 1099511627776)) : chk n l = 2 := by unfold chk; rw [if_neg (by omega), if_pos h2]
theorem chk_state {n : Int} {l : List Bool} (h : 1 ≤ l.length ∧ l.length ≤ 8) (h2 : 0 ≤ n ∧ n ≤ 1099511627776) (h3 : has false l = false) : chk n l = 21 := by unfold chk; rw [if_neg (by omega), if_neg (by omega), if_pos h3]
theorem chk_ok {n : Int} {l : List Bool} (h : 1 ≤ l.length ∧ l.length ≤ 8) (h2 : 0 ≤ n ∧ n ≤ 1099511627776) (h3 : has false l = true) : chk n l = 0 := by unfold chk; rw [if_neg (by omega), if_neg (by omega), if_neg (by simp [h3])]
theorem chk_zero {n : Int} {l : List Bool} (h : chk n l = 0) : (1 ≤ l.length ∧ l.length ≤ 8) ∧ (0 ≤ n ∧ n ≤ 1099511627776) ∧ has false l = true := by
  unfold chk at h
  split at h
  · cases h
  · split at h
    · cases h
    · split at h
      · cases h
      · rename_i h1 h2 h3
        exact ⟨by omega, by omega, by simpa using h3⟩

end

section

open Go.RowKit

def falses (n : Nat) : List Bool := List.replicate n false
theorem madeCells_one (x : Value) (n : Nat) : madeCells #[x] n = (List.replicate n x).toArray := by
  apply Array.ext
  · simp [madeCells]
  · intro i h1 h2
    simp [madeCells, Nat.mod_one]
theorem info_bool : (Tryz.prog.info? 4).map (fun i => (i.zero, i.size, i.bytes)) = some (some (.bool false), 1, 1) := by kernel_rfl
/-- make([]bool, n). -/
theorem make_bools (n : Nat) (hn : n ≤ 1000) (w : World) : (Instr.makeSlice 38 (.int .i64 (n : Int)) (.int .i64 (n : Int))).run Tryz.prog w = .ok (.slice (some ⟨w.heap.size, 0, none⟩) n n) (w.alloc (.cells (bools (falses n)).toArray 4)) := by
  obtain ⟨i0, hi0, hz0, hz1, hz2⟩ := info_parts info_bool
  have hr := run_make (P := Tryz.prog) w 38 4 i0 _ Tryz.underlying38 hi0 hz0 .i64 .i64 (n : Int) (n : Int) (by omega) (by omega) (by rw [hz2]; omega) (by omega)
  rw [hz1] at hr
  simp only [Int.toNat_natCast, Nat.mul_one, Value.cells, madeCells_one] at hr
  rw [hr]
  simp [bools, falses]
/-- An aligner that comes back, with what stands behind it. -/
def RetAl (w : World) (n : Int) (l : List Bool) (xs : Array Value) (e : Ending) (w' : World) : Prop :=
  ∃ v, e = .returned (.tuple (#[.agg #[.int .i64 n, v]] ++ xs)) ∧ Row w' w'.heap.size 1 v l.length (bools l) ∧ Below w.heap.size w w' ∧ ∀ k, v.ownBlock = some k → w.heap.size ≤ k
def begL (n : Int) : List Bool := if cntd n = true then falses n.toNat else []
def begE (n : Int) : Int := if cntd n = true then 0 else 5

/-- A row that make has laid, behind further blocks. -/
theorem row_new {w W : World} (l : List Bool) (t : TypeId) (hb : Below (w.heap.size + 1) (w.alloc (.cells (bools l).toArray t)) W) : Row W W.heap.size 1 (.slice (some ⟨w.heap.size, 0, none⟩) l.length l.length) l.length (bools l) := by
  refine ⟨by simp [bools], .inr ⟨w.heap.size, 0, l.length, rfl, by have := hb.size; simp at this; omega, Nat.le_refl _, fun j u hj => ?_⟩⟩
  rw [Nat.zero_add]
  exact (hb.cell (p := ⟨w.heap.size, j, none⟩) (Nat.lt_succ_self _)).trans (cells_lit w (bools l) t j u hj)
theorem falses_len (n : Nat) : (falses n).length = n := by simp [falses]
theorem row_nil (w : World) (B : Nat) : Row w B 1 (.slice none 0 0) 0 (bools []) := by
  refine ⟨rfl, Or.inl ⟨rfl, rfl⟩⟩
theorem row_new' {w W : World} (m : Nat) (t : TypeId) (hb : Below (w.heap.size + 1) (w.alloc (.cells (bools (falses m)).toArray t)) W) : Row W W.heap.size 1 (.slice (some ⟨w.heap.size, 0, none⟩) m m) (falses m).length (bools (falses m)) := by
  have h := row_new (falses m) t hb
  rw [falses_len] at h ⊢
  exact h


set_option maxHeartbeats 400000 in
theorem begin_any (n : Int) (w : World) : Calls Tryz.prog 17 #[.int .i64 n] w (RetAl w 0 (begL n) #[.int .i64 (begE n)]) := by
  cases h : cntd n
  · rw [show begL n = [] from if_neg (by simp [h]), show begE n = 5 from if_neg (by simp [h])]
    have hno : ¬ (1 ≤ n ∧ n ≤ 8) := fun h' => by rw [cntd_iff.2 h'] at h; cases h
    have HB : ∀ o, Below w.heap.size w (w.alloc o) := fun o => (Below.refl _ _).alloc (Nat.le_refl _) _
    have HN := hide hno
    clear hno
    (go_enter Tryz.func17, Tryz.ntmps17; go_wp2_with (go_at_call 29; refine (counted_any _ _).mono ?_; rintro e w1 ⟨rfl, rfl⟩))
    all_goals first | (refine bodyPost_ret (v := .tuple #[.agg #[.int .i64 0, .slice none 0 0], .int .i64 5]) (by rw [results_cell_tmp rfl]; go_simp) rfl ?_; exact ⟨_, rfl, row_nil _ _, HB _, fun k hk => by cases hk⟩) | skip
    all_goals (have hno := HN.out; clear HN)
    all_goals (try simp only [isEmpty_size, bne_iff_ne, ne_eq, bne_eq_false_iff_eq, beq_iff_eq, beq_eq_false_iff_ne, Bool.not_eq_true', Bool.not_eq_false', decide_eq_true_eq, decide_eq_false_iff_not] at *)
    all_goals (exfalso; omega)
  · obtain ⟨h1, h8⟩ := cntd_iff.1 h
    rw [show begL n = falses n.toNat from if_pos h, show begE n = 0 from if_pos h]
    obtain ⟨m, rfl⟩ := Int.eq_ofNat_of_zero_le (show 0 ≤ n by omega)
    rw [Int.toNat_natCast]
    have hmk := make_bools m (by omega)
    have t1 : decide ((m : Int) < 1) = false := decide_eq_false (by omega)
    have t2 : decide ((8 : Int) < (m : Int)) = false := decide_eq_false (by omega)
    clear h1 h8
    (go_enter Tryz.func17, Tryz.ntmps17; go_wp2_with (go_at_call 29; refine (counted_any _ _).mono ?_; rintro e w1 ⟨rfl, rfl⟩))
    refine bodyPost_ret (v := .tuple #[.agg #[.int .i64 0, .slice (some ⟨w.heap.size + 1, 0, none⟩) m m], .int .i64 0]) (by rw [results_cell_tmp rfl]; go_simp) rfl ?_
    refine ⟨_, rfl, ?_, ((Below.refl _ _).alloc (Nat.le_refl _) _).alloc (by simp) _, fun k hk => by simp [Value.ownBlock] at hk; omega⟩
    have := row_new' (w := w.alloc (.cells #[.int .i64 0, .slice (some ⟨w.heap.size + 1, 0, none⟩) m m] 40)) m 4 (Below.refl _ _)
    simpa using this
end

section

open Go.RowKit

/-- The number of the error of an aligner and an input. -/
def inp (n : Int) (l : List Bool) (i : Int) : Int := if chk n l = 0 then (if 0 ≤ i ∧ i < (l.length : Int) then 0 else 32) else chk n l

set_option maxHeartbeats 1000000 in
theorem input_any (n : Int) (v : Value) (l : List Bool) (i : Int) (w : World) (hl : l.length ≤ 1000) (hv : Row w w.heap.size 1 v l.length (bools l)) :
    Calls Tryz.prog 40 #[.agg #[.int .i64 n, v], .int .i64 i] w (Ret (.int .i64 (inp n l i)) w) := by
  obtain ⟨A, cap, rfl⟩ := hv.form
  have HV := hide (hv.laid (.cells #[.int .i64 n, .slice A l.length cap] 40))
  clear hv
  have HK := hide (@check_any n (.slice A l.length cap) l)
  by_cases hc : chk n l = 0
  · rw [hc] at HK
    by_cases hi : 0 ≤ i ∧ i < (l.length : Int)
    · have HI : Hid (inp n l i = 0) := hide (by unfold inp; rw [if_pos hc, if_pos hi])
      have t1 : decide (i < 0) = false := decide_eq_false (by omega)
      have t2 : decide ((l.length : Int) ≤ i) = false := decide_eq_false (by omega)
      clear hc hi
      go_enter Tryz.func40, Tryz.ntmps40
      go_wp2_with fail
      refine (HK.out _ hl HV.out).mono ?_
      rintro e w1 ⟨rfl, hb⟩
      obtain ⟨hb', hz, hx⟩ := step_box [.int .i64 n, .slice A l.length cap] hb
      have x1 := hx 1 _ rfl
      clear hx hb
      go_wp2
      go_ret
      exact Ret.int HI.out.symm hb'
    · have HI : Hid (inp n l i = 32) := hide (by unfold inp; rw [if_pos hc, if_neg hi])
      have HN := hide hi
      clear hc hi
      go_enter Tryz.func40, Tryz.ntmps40
      go_wp2_with fail
      refine (HK.out _ hl HV.out).mono ?_
      rintro e w1 ⟨rfl, hb⟩
      obtain ⟨hb', hz, hx⟩ := step_box [.int .i64 n, .slice A l.length cap] hb
      have x1 := hx 1 _ rfl
      clear hx hb
      go_wp2
      all_goals first | (go_ret; exact Ret.int HI.out.symm hb') | skip
      all_goals (have hno := HN.out; clear HN)
      all_goals (try simp only [isEmpty_size, bne_iff_ne, ne_eq, bne_eq_false_iff_eq, beq_iff_eq, beq_eq_false_iff_ne, Bool.not_eq_true', Bool.not_eq_false', decide_eq_true_eq, decide_eq_false_iff_not] at *)
      all_goals (exfalso; omega)
  · have HI : Hid (inp n l i = chk n l) := hide (by unfold inp; rw [if_neg hc])
    have t1 : (chk n l != 0) = true := by rw [bne_iff_ne]; exact hc
    clear hc
    generalize chk n l = c at *
    go_enter Tryz.func40, Tryz.ntmps40
    go_wp2_with fail
    refine (HK.out _ hl HV.out).mono ?_
    rintro e w1 ⟨rfl, hb⟩
    obtain ⟨hb', hz, hx⟩ := step_box [.int .i64 n, .slice A l.length cap] hb
    go_wp2
    go_ret
    exact Ret.int HI.out.symm hb'

end

section

open Go.RowKit

def blkV (n : Int) (l : List Bool) (i : Int) : Bool := if inp n l i = 0 then l.getD i.toNat false else false
theorem inp_zero {n : Int} {l : List Bool} {i : Int} (h : inp n l i = 0) : chk n l = 0 ∧ 0 ≤ i ∧ i < (l.length : Int) := by
  unfold inp at h
  split at h
  · rename_i hc
    split at h
    · rename_i hi; exact ⟨hc, hi.1, hi.2⟩
    · cases h
  · rename_i hc; exact absurd h hc
theorem inp_eq {n : Int} {l : List Bool} {i : Int} (hc : chk n l = 0) (hi : 0 ≤ i ∧ i < (l.length : Int)) : inp n l i = 0 := by unfold inp; rw [if_pos hc, if_pos hi]
/-- A flag of a row, read in a later world. -/
theorem _root_.Go.Proofs.YtppaiihcaajkaaaGreat.Row.flag {w w' : World} {B n : Nat} {v : Value} {l : List Bool} (h : Row w B 1 v n (bools l)) (hb : Below B w w') {k : Nat} (hk : k < l.length) :
    ∃ g off cap, v = .slice (some ⟨g, off, none⟩) n cap ∧ g < B ∧ w'.cell? ⟨g, off + k, none⟩ = some (.bool l[k]) := by
  have hn : 0 < n := by have := h.1; simp [bools] at this; omega
  obtain ⟨g, off, cap, rfl, hg, _, hc⟩ := (h.below hb).at_ hn
  exact ⟨g, off, cap, rfl, hg, hc _ _ (by simp [bools, hk])⟩

theorem Ret.bi {a b : Bool} {k : IntKind} {c d : Int} {w w' : World} (h : a = b) (h' : c = d) (hb : Below w.heap.size w w') : Ret (.tuple #[.bool b, .int k d]) w (.returned (.tuple #[.bool a, .int k c])) w' := ⟨by rw [h, h'], hb⟩

set_option maxHeartbeats 1000000 in
theorem blocked_any (n : Int) (v : Value) (l : List Bool) (i : Int) (w : World) (hl : l.length ≤ 1000) (hv : Row w w.heap.size 1 v l.length (bools l)) :
    Calls Tryz.prog 30 #[.agg #[.int .i64 n, v], .int .i64 i] w (Ret (.tuple #[.bool (blkV n l i), .int .i64 (inp n l i)]) w) := by
  obtain ⟨A, cap, rfl⟩ := hv.form
  have HV := hide (hv.laid (.cells #[.int .i64 n, .slice A l.length cap] 40))
  clear hv
  have HK := hide (@input_any n (.slice A l.length cap) l i)
  by_cases hc : inp n l i = 0
  · rw [hc] at HK
    have HI : Hid (blkV n l i = l.getD i.toNat false) := hide (by unfold blkV; rw [if_pos hc])
    rw [hc]
    obtain ⟨-, hi0, hi1⟩ := inp_zero hc
    obtain ⟨k, rfl⟩ := Int.eq_ofNat_of_zero_le hi0
    have hk : k < l.length := by omega
    rw [Int.toNat_natCast] at HI
    have HG : Hid (l.getD k false = l[k]) := hide (by simp [hk])
    clear hc hi0 hi1
    go_enter Tryz.func30, Tryz.ntmps30
    go_wp2_with fail
    refine (HK.out _ hl HV.out).mono ?_
    rintro e w1 ⟨rfl, hb⟩
    obtain ⟨hb', hz, hx⟩ := step_box [.int .i64 n, .slice A l.length cap] hb
    have x1 := hx 1 _ rfl
    obtain ⟨g, off, cap', e1, hg, hcell⟩ := HV.out.flag hb hk
    cases e1
    clear hx hb
    generalize l[k] = z at *
    go_wp2
    go_ret2
    exact Ret.bi (by rw [HI.out, HG.out]) rfl hb'
  · have HI : Hid (blkV n l i = false) := hide (by unfold blkV; rw [if_neg hc])
    have t1 : (inp n l i != 0) = true := by rw [bne_iff_ne]; exact hc
    clear hc
    generalize inp n l i = c at *
    go_enter Tryz.func30, Tryz.ntmps30
    go_wp2_with fail
    refine (HK.out _ hl HV.out).mono ?_
    rintro e w1 ⟨rfl, hb⟩
    obtain ⟨hb', hz, hx⟩ := step_box [.int .i64 n, .slice A l.length cap] hb
    go_wp2
    go_ret2
    exact Ret.bi (by rw [HI.out]) rfl hb'

def algV (n : Int) (l : List Bool) : Bool := if chk n l = 0 then !has true l else false
end
end Go.Proofs.YtppaiihcaajkaaaGreat.Bar
