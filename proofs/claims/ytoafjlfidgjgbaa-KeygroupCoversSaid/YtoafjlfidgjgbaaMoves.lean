/- keygroup.Moves and the reference's Moves. -/
import Derived.Test.YtoafjlfidgjgbaaKeys
import Derived.ChangeKeysEq
namespace Go.Proofs.Ytoafjlfidgjgbaa
open Go.RowKit
set_option linter.unusedVariables false
set_option linter.unusedSimpArgs false

theorem info_3 : (Try.prog.info? 45).map (fun i => (i.zero, i.size, i.bytes)) = some (some (.agg #[.int .i64 0, .int .i64 0, .int .i64 0]), 3, 24) := by kernel_rfl

/-- The move of a key group, as cells. -/
def mv (a b : Int) (g : Nat) : List Int := if (g : Int) * a / 16 = (g : Int) * b / 16 then [] else [(g : Int), (g : Int) * a / 16, (g : Int) * b / 16]
def mvs (a b : Int) (k : Nat) : List Int := (List.range k).flatMap (mv a b)
def mvn (a b : Int) (k : Nat) : Nat := ((List.range k).filter fun (g : Nat) => decide (¬ (g : Int) * a / 16 = (g : Int) * b / 16)).length
def ints (l : List Int) : List Value := l.map (Value.int .i64)
theorem ints_app (l m : List Int) : ints (l ++ m) = ints l ++ ints m := List.map_append
theorem mvs_succ (a b : Int) (k : Nat) : mvs a b (k + 1) = mvs a b k ++ mv a b k := by unfold mvs; rw [List.range_succ, List.flatMap_append]; simp
theorem mvs_keep {a b : Int} {k : Nat} (h : (k : Int) * a / 16 = (k : Int) * b / 16) : mvs a b (k + 1) = mvs a b k ∧ mvn a b (k + 1) = mvn a b k := by
  refine ⟨by rw [mvs_succ, show mv a b k = [] from if_pos h, List.append_nil], ?_⟩
  unfold mvn; rw [List.range_succ, List.filter_append]; simp [h]
theorem mvs_add {a b : Int} {k : Nat} (h : ¬ (k : Int) * a / 16 = (k : Int) * b / 16) : mvs a b (k + 1) = mvs a b k ++ [(k : Int), (k : Int) * a / 16, (k : Int) * b / 16] ∧ mvn a b (k + 1) = mvn a b k + 1 := by
  refine ⟨by rw [mvs_succ, show mv a b k = _ from if_neg h], ?_⟩
  unfold mvn; rw [List.range_succ, List.filter_append]; simp [h]
theorem mvn_le (a b : Int) (k : Nat) : mvn a b k ≤ k := by
  have := List.length_filter_le (fun (g : Nat) => decide (¬ (g : Int) * a / 16 = (g : Int) * b / 16)) (List.range k)
  unfold mvn; simpa using this

def movesC (a b : Int) : Int := if (1 ≤ a ∧ a ≤ 8) ∧ 1 ≤ b ∧ b ≤ 8 then 0 else 2
def movesN (a b : Int) : Nat := if (1 ≤ a ∧ a ≤ 8) ∧ 1 ≤ b ∧ b ≤ 8 then mvn a b 16 else 0
def movesL (a b : Int) : List Int := if (1 ≤ a ∧ a ≤ 8) ∧ 1 ≤ b ∧ b ≤ 8 then mvs a b 16 else []


set_option maxHeartbeats 1000000 in
theorem moves_any (a b : Int) (w : World) :
    Calls Try.prog 16 #[.int .i64 a, .int .i64 b] w (RetOwn2 w 45 3 (movesN a b) (ints (movesL a b)) (movesC a b)) := by
  by_cases h : (1 ≤ a ∧ a ≤ 8) ∧ 1 ≤ b ∧ b ≤ 8
  · rw [show movesN a b = mvn a b 16 from if_pos h, show movesL a b = mvs a b 16 from if_pos h, show movesC a b = 0 from if_pos h]
    obtain ⟨⟨h0, h1⟩, h2, h3⟩ := h
    obtain ⟨i0, hi0, hz0, hz1, hz2⟩ := info_parts info_3
    have hna := numOk_t h0 h1
    have hnb := numOk_t h2 h3
    have hok : okC [true, true] = 0 := rfl
    go_enter Try.func16, Try.ntmps16
    go_wp2_with (first
      | (go_at_call 29; refine (number_any _ _).mono ?_; rintro e w1 ⟨rfl, rfl⟩)
      | (go_at_call 28; refine (allowed_any _ 2 [true, true] _ (by omega) (by decide) (by decide) (cells_lit w [.bool true, .bool true] _)).mono ?_; rintro e w1 ⟨rfl, rfl⟩))
    go_loopw [7, 20] (fun v i wr => ∃ k : Nat, k ≤ 16 ∧ i = .int .i64 k ∧ wr.ownsRow w.heap.size 45 3 v (mvn a b k) (ints (mvs a b k)) ∧ Below w.heap.size w wr) (fun _ i _ => 16 - (intOf i).toNat)
    case atStart => exact ⟨0, by omega, rfl, World.ownsRow_nil _ _ _ _, (Below.refl _ _).alloc (Nat.le_refl _) _⟩
    case round =>
    obtain ⟨k, hk, rfl, hown, hB⟩ := hrel
    have hsz := hB.size
    have hmn := mvn_le a b k
    by_cases hlt : k < 16
    · by_cases hq : (k : Int) * a / 16 = (k : Int) * b / 16
      · have HK := hide (mvs_keep hq)
        have ht : ((k : Int) * a / 16 != (k : Int) * b / 16) = false := by rw [bne_eq_false_iff_eq]; exact hq
        clear hq
        go_wp2_with (go_at_call 33; refine (owner_any _ _ _ (by omega) (by omega) (by omega) (by omega)).mono ?_; rintro e w1 ⟨rfl, rfl⟩)
        go_roundw
        case rel => exact ⟨k + 1, by omega, by go_num, by rw [HK.out.1, HK.out.2]; exact hown, hB⟩
        case measure => simp [intOf]; omega
      · have HK := hide (mvs_add hq)
        have ht : ((k : Int) * a / 16 != (k : Int) * b / 16) = true := by rw [bne_iff_ne]; exact hq
        clear hq
        go_wp2_with (first | (go_at_call 33; refine (owner_any _ _ _ (by omega) (by omega) (by omega) (by omega)).mono ?_; rintro e w1 ⟨rfl, rfl⟩) | (at_builtin; refine wpList_append_one rfl _ _ 38 rfl w.heap.size 45 i0 _ 24 Try.underlying38 hi0 hz0 [.int .i64 (k : Int), .int .i64 ((k : Int) * a / 16), .int .i64 ((k : Int) * b / 16)] hz1 hz2 rfl (by simp) _ _ _ rfl hown _ rfl (by simp [Value.oneCell']) ?c1 (by decide) ?c2 ?_; (case c1 => omega); (case c2 => omega); intro v2 w2 hown2 hb2 _))
        go_roundw
        case rel => exact ⟨k + 1, by omega, by go_num, by rw [HK.out.1, HK.out.2, ints_app]; exact hown2, hB.trans hb2⟩
        case measure => simp [intOf]; omega
    · obtain rfl : k = 16 := by omega
      go_wp2
      go_ret2
      exact ⟨_, rfl, hown, hB⟩
  · rw [show movesN a b = 0 from if_neg h, show movesL a b = [] from if_neg h, show movesC a b = 2 from if_neg h]
    have hok : okC [numOk a, numOk b] = 2 := okC_ne (by simp [numOk]; omega)
    clear h
    go_enter Try.func16, Try.ntmps16
    go_wp2_with (first
      | (go_at_call 29; refine (number_any _ _).mono ?_; rintro e w1 ⟨rfl, rfl⟩)
      | (go_at_call 28; refine (allowed_any _ 2 [numOk a, numOk b] _ (by omega) (Nat.le_refl 2) (Nat.le_refl 2) (cells_lit w [.bool (numOk a), .bool (numOk b)] _)).mono ?_; rintro e w1 ⟨rfl, rfl⟩))
    go_ret2
    exact ⟨_, rfl, World.ownsRow_nil _ _ _ _, (Below.refl _ _).alloc (Nat.le_refl _) _⟩

set_option maxHeartbeats 400000 in
theorem rnumber_any (n : Int) (w : World) : Calls Try.prog 31 #[.int .i64 n] w fun e w' => e = .returned (.bool (numOk n)) ∧ w = w' := by
  go_enter Try.func31, Try.ntmps31
  go_wp2
  all_goals go_ret
  · exact ⟨congrArg (fun b => Ending.returned (.bool b)) (by unfold numOk; simp; omega), rfl⟩
  · exact ⟨congrArg (fun b => Ending.returned (.bool b)) (by unfold numOk; simp; omega), rfl⟩

theorem eq3 (x0 x1 x2 y0 y1 y2 : Int) (w : World) : (Op.equalIn 10000 45 (.agg #[.int .i64 x0, .int .i64 x1, .int .i64 x2]) (.agg #[.int .i64 y0, .int .i64 y1, .int .i64 y2])).run Try.prog w = .ok (x0 == y0 && (x1 == y1 && x2 == y2)) w := by
  obtain ⟨i0, hi0, hz0, hz1, hz2⟩ := info_parts (show (Try.prog.info? 3).map (fun i => (i.zero, i.size, i.bytes)) = some (some (.int .i64 0), 1, 8) by kernel_rfl)
  have hc : Try.prog.cellsOf 3 = 1 := by kernel_rfl
  have hp : Try.prog.plainKey 3 = true := by kernel_rfl
  rw [run_equalIn_array (P := Try.prog) w 9999 _ _ Try.underlying45 hi0, hc]
  rw [show List.range 3 = [0, 1, 2] from rfl]
  simp only [Op.eqItems, Sem.run_bind, Nat.zero_mul, Nat.one_mul, Nat.mul_one]
  have hq : ∀ a b, (Op.equalIn 9999 3 (.int .i64 a) (.int .i64 b)).run Try.prog w = .ok (a == b) w := fun a b => run_equalIn_int w 9998 _ _ _ a b Try.underlying3
  have p0 : ∀ (a b c : Int), (part 3 #[Value.int .i64 a, .int .i64 b, .int .i64 c] 0).run Try.prog w = .ok (.int .i64 a) w := fun a b c => run_part_plain (P := Try.prog) w hp rfl
  have p1 : ∀ (a b c : Int), (part 3 #[Value.int .i64 a, .int .i64 b, .int .i64 c] 1).run Try.prog w = .ok (.int .i64 b) w := fun a b c => run_part_plain (P := Try.prog) w hp rfl
  have p2 : ∀ (a b c : Int), (part 3 #[Value.int .i64 a, .int .i64 b, .int .i64 c] 2).run Try.prog w = .ok (.int .i64 c) w := fun a b c => run_part_plain (P := Try.prog) w hp rfl
  cases h0 : (x0 == y0) <;> cases h1 : (x1 == y1) <;> cases h2 : (x2 == y2) <;> simp [p0, p1, p2, hq, h0, h1, h2]

set_option maxHeartbeats 1000000 in
theorem rmoves_any (a b : Int) (w : World) :
    Calls Try.prog 17 #[.int .i64 a, .int .i64 b] w (RetOwn2 w 45 3 (movesN a b) (ints (movesL a b)) (movesC a b)) := by
  by_cases h : (1 ≤ a ∧ a ≤ 8) ∧ 1 ≤ b ∧ b ≤ 8
  · rw [show movesN a b = mvn a b 16 from if_pos h, show movesL a b = mvs a b 16 from if_pos h, show movesC a b = 0 from if_pos h]
    obtain ⟨⟨h0, h1⟩, h2, h3⟩ := h
    obtain ⟨i0, hi0, hz0, hz1, hz2⟩ := info_parts info_3
    have hna := numOk_t h0 h1
    have hnb := numOk_t h2 h3
    go_enter Try.func17, Try.ntmps17
    go_wp2_with (go_at_call 31; refine (rnumber_any _ _).mono ?_; rintro e w1 ⟨rfl, rfl⟩)
    go_loopw [6, 7] (fun v i wr => ∃ k : Nat, k ≤ 16 ∧ i = .int .i64 k ∧ wr.ownsRow w.heap.size 45 3 v (mvn a b k) (ints (mvs a b k)) ∧ Below w.heap.size w wr) (fun _ i _ => 16 - (intOf i).toNat)
    case atStart => exact ⟨0, by omega, rfl, World.ownsRow_nil _ _ _ _, Below.refl _ _⟩
    case round =>
    obtain ⟨k, hk, rfl, hown, hB⟩ := hrel
    have hsz := hB.size
    have hmn := mvn_le a b k
    by_cases hlt : k < 16
    · by_cases hq : (k : Int) * a / 16 = (k : Int) * b / 16
      · have HK := hide (mvs_keep hq)
        have ht : ((k : Int) * a / 16 != (k : Int) * b / 16) = false := by rw [bne_eq_false_iff_eq]; exact hq
        clear hq
        go_wp2_with (go_at_call 32; refine (rowner_any _ _ _ (by omega) (by omega) (by omega) (by omega)).mono ?_; rintro e w1 ⟨rfl, rfl⟩)
        go_roundw
        case rel => exact ⟨k + 1, by omega, by go_num, by rw [HK.out.1, HK.out.2]; exact hown, hB⟩
        case measure => simp [intOf]; omega
      · have HK := hide (mvs_add hq)
        have ht : ((k : Int) * a / 16 != (k : Int) * b / 16) = true := by rw [bne_iff_ne]; exact hq
        clear hq
        go_wp2_with (first | (go_at_call 32; refine (rowner_any _ _ _ (by omega) (by omega) (by omega) (by omega)).mono ?_; rintro e w1 ⟨rfl, rfl⟩) | (at_builtin; refine wpList_append_one rfl _ _ 38 rfl w.heap.size 45 i0 _ 24 Try.underlying38 hi0 hz0 [.int .i64 (k : Int), .int .i64 ((k : Int) * a / 16), .int .i64 ((k : Int) * b / 16)] hz1 hz2 rfl (by simp) _ _ _ rfl hown _ rfl (by simp [Value.oneCell']) ?c1 (by decide) ?c2 ?_; (case c1 => omega); (case c2 => omega); intro v2 w2 hown2 hb2 _))
        go_roundw
        case rel => exact ⟨k + 1, by omega, by go_num, by rw [HK.out.1, HK.out.2, ints_app]; exact hown2, hB.trans hb2⟩
        case measure => simp [intOf]; omega
    · obtain rfl : k = 16 := by omega
      go_wp2
      go_ret2
      exact ⟨_, rfl, hown, hB⟩
  · rw [show movesN a b = 0 from if_neg h, show movesL a b = [] from if_neg h, show movesC a b = 2 from if_neg h]
    go_enter Try.func17, Try.ntmps17
    go_wp2
    all_goals (try simp only [isEmpty_size, bne_iff_ne, ne_eq, bne_eq_false_iff_eq, beq_iff_eq, beq_eq_false_iff_ne, Bool.not_eq_true', Bool.not_eq_false', decide_eq_true_eq, decide_eq_false_iff_not] at *)
    all_goals first | (exfalso; omega) | skip
    all_goals go_ret2
    all_goals exact ⟨_, rfl, World.ownsRow_nil _ _ _ _, Below.refl _ _⟩

set_option maxHeartbeats 1000000 in
theorem sameMoves_any (u v : Value) (n : Nat) (l : List Int) (w : World) (hn : n ≤ 1000) (hu : Row w w.heap.size 3 u n (ints l)) (hv : Row w w.heap.size 3 v n (ints l)) :
    Calls Try.prog 18 #[u, v] w (Ret (.bool true) w) := by
  have hlen : Hid (l.length = n * 3) := by have := hu.1; simp only [ints, List.length_map] at this; exact this
  rcases Nat.eq_zero_or_pos n with rfl | hpos
  · obtain ⟨A, cap, rfl⟩ := hu.form
    obtain ⟨B, cap', rfl⟩ := hv.form
    clear hu hv
    go_enter Try.func18, Try.ntmps18
    go_wp2
    refine wp_loop_rounds 1 ?_
    rw [rounds_succ]
    go_wp2
    go_ret
    exact Ret.bool rfl (Below.refl _ _)
  · obtain ⟨g, off, cap, rfl, hg, _, hc⟩ := hu.at_ hpos
    obtain ⟨g', off', cap', rfl, hg', _, hc'⟩ := hv.at_ hpos
    have HC := hide hc
    have HC' := hide hc'
    clear hu hv hc hc'
    go_enter Try.func18, Try.ntmps18
    go_wp2
    go_loopw [5] (fun i wr => ∃ k q : Nat, k ≤ n ∧ i = .int .i64 k ∧ wr = w.drewN q) (fun i _ => n - (intOf i).toNat)
    case atStart => exact ⟨0, 0, by omega, rfl, rfl⟩
    case round =>
      obtain ⟨k, q, hk, rfl, rfl⟩ := hrel
      by_cases hlt : k < n
      · have cell : ∀ j, j < 3 → ∃ x, w.cell? ⟨g, off + k * 3 + j, none⟩ = some (.int .i64 x) ∧ w.cell? ⟨g', off' + k * 3 + j, none⟩ = some (.int .i64 x) := fun j hj => by
          have hl : k * 3 + j < l.length := by rw [hlen.out]; omega
          rw [Nat.add_assoc, Nat.add_assoc]
          exact ⟨l[k * 3 + j], HC.out _ _ (by simp [ints, hl]), HC'.out _ _ (by simp [ints, hl])⟩
        obtain ⟨x0, a0, b0⟩ := cell 0 (by omega)
        obtain ⟨x1, a1, b1⟩ := cell 1 (by omega)
        obtain ⟨x2, a2, b2⟩ := cell 2 (by omega)
        simp only [Nat.add_zero] at a0 b0
        have e3 := eq3 x0 x1 x2 x0 x1 x2
        clear cell
        go_wp2
        go_quiet (fail)
        go_wp2
        go_roundw
        case rel => exact ⟨k + 1, _, by omega, by go_num, rfl⟩
        case measure => simp [intOf]; omega
      · go_wp2
        go_ret
        exact Ret.bool rfl (below_drewN (Below.refl _ _) _)
end Go.Proofs.Ytoafjlfidgjgbaa
