/- The walks of four laws of layer 45: they return true. -/
import Derived.Test.YtoafjlfidgjgbaaAwake
import Derived.Test.YtoafjlfidgjgbaaRRange
namespace Go.Proofs.Ytoafjlfidgjgbaa
open Go.RowKit
set_option linter.unusedVariables false
set_option linter.unusedSimpArgs false

set_option maxHeartbeats 400000 in
theorem groups_law (q n : Int) (s : ByteArray) (w : World) (hs : s.size ≤ maxLen) :
    Calls Try.prog 3 #[.agg #[.int .i64 q, .int .i64 n, .string s]] w (Ret (.bool true) w) := by
  go_enter Try.func3, Try.ntmps3
  go_wp2_with fail
  refine (group_any _ _ _ _ hs).mono ?_
  rintro e w1 ⟨rfl, hb1⟩
  obtain ⟨hc1, hf1⟩ := bcell hb1
  have hz1 : w.heap.size < w1.heap.size := by have := hb1.size; simp at this; omega
  go_wp2_with fail
  refine (rgroup_any _ _ _ _ hs).mono ?_
  rintro e w2 ⟨rfl, hb2⟩
  go_wp2_with fail
  refine (awake_any _).mono ?_
  rintro e w3 ⟨rfl, hb3⟩
  go_wp2
  go_ret
  exact Ret.bool rfl (bthen (bthen (bthen ((Below.refl _ _).alloc (Nat.le_refl _) _) hb1) hb2) hb3)

set_option maxHeartbeats 400000 in
theorem workers_law (g a q : Int) (w : World) :
    Calls Try.prog 8 #[.int .i64 g, .int .i64 a, .int .i64 q] w (Ret (.bool true) w) := by
  go_enter Try.func8, Try.ntmps8
  go_wp2_with fail
  refine (worker_any _ _ _).mono ?_
  rintro e w1 ⟨rfl, hb1⟩
  go_wp2_with fail
  refine (rworker_any _ _ _).mono ?_
  rintro e w2 ⟨rfl, hb2⟩
  go_wp2_with fail
  refine (range_any _ _ _).mono ?_
  rintro e w3 ⟨rfl, hb3⟩
  go_wp2_with fail
  refine (rrange_any _ _ _).mono ?_
  rintro e w4 ⟨rfl, hb4⟩
  go_wp2_with fail
  refine (awake_any _).mono ?_
  rintro e w5 ⟨rfl, hb5⟩
  go_wp2
  go_ret
  exact Ret.bool rfl (bthen (bthen (bthen (bthen hb1 hb2) hb3) hb4) hb5)

theorem movesN_le (a b : Int) : movesN a b ≤ 16 := by
  unfold movesN
  split
  · exact mvn_le a b 16
  · omega

set_option maxHeartbeats 400000 in
theorem moves_law (a b : Int) (w : World) :
    Calls Try.prog 5 #[.int .i64 a, .int .i64 b] w (Ret (.bool true) w) := by
  go_enter Try.func5, Try.ntmps5
  go_wp2_with fail
  refine (moves_any _ _ _).mono ?_
  rintro e w1 ⟨u, rfl, hu, hb1⟩
  go_wp2_with fail
  refine (rmoves_any _ _ _).mono ?_
  rintro e w2 ⟨v, rfl, hv, hb2⟩
  go_wp2_with fail
  refine (sameMoves_any _ _ (movesN a b) (movesL a b) _ (Nat.le_trans (movesN_le a b) (by decide)) (((Row.of_own hu).below hb2).more hb2.size) (Row.of_own hv)).mono ?_
  rintro e w3 ⟨rfl, hb3⟩
  go_wp2_with fail
  refine (awake_any _).mono ?_
  rintro e w4 ⟨rfl, hb4⟩
  go_wp2
  go_ret
  exact Ret.bool rfl (bthen (bthen (bthen hb1 hb2) hb3) hb4)

/-- Both lists of Assign, and the error: one number decides. -/
theorem assign_both {q : Int} {w w1 w2 : World} {e e' : Ending} (h1 : RetAssign w q e w1) (h2 : RetAssign w1 q e' w2) : ∃ (u v : Value) (c : Int) (n : Nat), e = .returned (.tuple #[u, .int .i64 c]) ∧ e' = .returned (.tuple #[v, .int .i64 c]) ∧ n ≤ 8 ∧
    Nest w2 w2.heap.size u n (own_ n 16) ∧ Nest w2 w2.heap.size v n (own_ n 16) ∧ Below w.heap.size w w1 ∧ Below w1.heap.size w1 w2 := by
  rcases h1 with ⟨n, hn, h1, h8, o, base, ho, rfl, hG, hb⟩ | ⟨hne, rfl, hb⟩
  · rcases h2 with ⟨m, hm, _, _, o', base', ho', rfl, hG', hb'⟩ | ⟨hne, _⟩
    · obtain rfl : m = n := by omega
      exact ⟨_, _, 0, m, rfl, rfl, h8, ((Nest.of_grid hG).below hb').more hb'.size, Nest.of_grid hG', hb, hb'⟩
    · exact absurd ⟨by omega, by omega⟩ hne
  · rcases h2 with ⟨m, hm, h1, h8, _⟩ | ⟨_, rfl, hb'⟩
    · exact absurd ⟨by omega, by omega⟩ hne
    · exact ⟨_, _, 2, 0, rfl, rfl, by omega, .inl ⟨rfl, rfl⟩, .inl ⟨rfl, rfl⟩, hb, hb'⟩

/-- The same of one list alone. -/
theorem assign_one {q : Int} {w w1 : World} {e : Ending} (h1 : RetAssign w q e w1) : ∃ (u : Value) (c : Int), e = .returned (.tuple #[u, .int .i64 c]) := by
  rcases h1 with ⟨n, hn, h1, h8, o, base, ho, rfl, hG, hb⟩ | ⟨hne, rfl, hb⟩
  · exact ⟨_, _, rfl⟩
  · exact ⟨_, _, rfl⟩

set_option maxHeartbeats 400000 in
theorem assigns_law (q : Int) (w : World) :
    Calls Try.prog 4 #[.int .i64 q] w (Ret (.bool true) w) := by
  go_enter Try.func4, Try.ntmps4
  go_wp2_with fail
  refine (assign_any _ _).mono ?_
  rintro e w1 h1
  have H1 := hide h1
  obtain ⟨u, c, rfl⟩ := assign_one h1
  clear h1
  go_wp2_with fail
  refine (rassign_any _ _).mono ?_
  rintro e w2 h2
  obtain ⟨u', v, c', n, he, rfl, h8, hu, hv, hb1, hb2⟩ := assign_both H1.out h2
  cases he
  clear h2 H1
  go_wp2_with fail
  refine (same_any _ _ n (own_ n 16) _ (by omega) (fun i _ => Nat.le_trans (own_len n 16 i) (by decide)) hu hv).mono ?_
  rintro e w3 ⟨rfl, hb3⟩
  go_wp2_with fail
  refine (awake_any _).mono ?_
  rintro e w4 ⟨rfl, hb4⟩
  go_wp2
  go_ret
  exact Ret.bool rfl (bthen (bthen (bthen hb1 hb2) hb3) hb4)
end Go.Proofs.Ytoafjlfidgjgbaa
