/- coordinator.copied at all its types. -/
import Derived.Test.YtihbonndinnohaaQCopy
namespace Go.Proofs.Ytihbonndinnohaa
open Go.RowKit
set_option linter.unusedVariables false
set_option linter.unusedSimpArgs false
theorem iq_int : (Try.prog.info? 3).map (fun i => (i.zero, i.size, i.bytes)) = some (some (.int .i64 0), 1, 8) := by kernel_rfl
theorem iq_bool : (Try.prog.info? 4).map (fun i => (i.zero, i.size, i.bytes)) = some (some (.bool false), 1, 1) := by kernel_rfl
theorem iq_reader : (Try.prog.info? 68).map (fun i => (i.zero, i.size, i.bytes)) = some (some (.agg #[.int .i64 0, .int .i64 0, .int .i64 0, .slice none 0 0, .slice none 0 0, .int .i64 0]), 6, 80) := by kernel_rfl
theorem iq_keyed : (Try.prog.info? 102).map (fun i => (i.zero, i.size, i.bytes)) = some (some (.agg #[.int .i64 0, .int .i64 0, .int .i64 0, .string ⟨#[]⟩, .int .i64 0, .slice none 0 0, .slice none 0 0, .slice none 0 0]), 8, 120) := by kernel_rfl
theorem iq_operator : (Try.prog.info? 42).map (fun i => (i.zero, i.size, i.bytes)) = some (some (.agg #[.slice none 0 0, .slice none 0 0]), 2, 48) := by kernel_rfl
theorem iq_attempt : (Try.prog.info? 51).map (fun i => (i.zero, i.size, i.bytes)) = some (some (.agg #[.int .i64 0, .slice none 0 0, .slice none 0 0, .slice none 0 0]), 4, 80) := by kernel_rfl
/-- A copy of a list of bare cells. -/
def RetCp (w : World) (te : TypeId) (sz : Nat) (cells : List (List Value)) (e : Ending) (w' : World) : Prop := ∃ v, e = .returned v ∧ w'.ownsRow w.heap.size te sz v cells.length cells.flatten ∧ Below w.heap.size w w'
set_option maxHeartbeats 1000000 in
theorem copied_int (A : Option Addr) (c : Nat) (cells : List (List Value)) (w : World) (Z : Nat → Prop) (h : Lst w Z 1 RWq (.slice A cells.length c) cells) (hl : cells.length ≤ 1000) :
    Calls Try.prog 41 #[.slice A cells.length c] w (RetCp w 3 1 cells) := by
  obtain ⟨i0, hi, hz0, hz1, hz2⟩ := info_parts iq_int
  obtain ⟨m, hm⟩ : ∃ m, cells.length = m := ⟨_, rfl⟩
  have HM := hide hm
  rw [hm] at h hl ⊢
  have HL := hide h
  clear h hm
  go_enter Try.func41, Try.ntmps41
  go_wp2_with (at_builtin; refine wpList_append_lst rfl _ _ 39 rfl w.heap.size 3 i0 _ 1 8 Try.underlying39 hi hz0 hz1 hz2 rfl (by decide) (.slice none 0 0) 0 [] rfl (World.ownsRow_nil _ _ _ _) A m c cells rfl HL.out (by omega) (by decide) (by decide) (Nat.le_refl _) ?_; intro v' w' hown hg)
  go_ret
  refine ⟨_, rfl, ?_, (Below.refl w.heap.size w).grown hg (Nat.le_refl _) (fun k hk => by cases hk)⟩
  rw [HM.out]
  simpa using hown
set_option maxHeartbeats 1000000 in
theorem copied_bool (A : Option Addr) (c : Nat) (cells : List (List Value)) (w : World) (Z : Nat → Prop) (h : Lst w Z 1 RWq (.slice A cells.length c) cells) (hl : cells.length ≤ 1000) :
    Calls Try.prog 60 #[.slice A cells.length c] w (RetCp w 4 1 cells) := by
  obtain ⟨i0, hi, hz0, hz1, hz2⟩ := info_parts iq_bool
  obtain ⟨m, hm⟩ : ∃ m, cells.length = m := ⟨_, rfl⟩
  have HM := hide hm
  rw [hm] at h hl ⊢
  have HL := hide h
  clear h hm
  go_enter Try.func60, Try.ntmps60
  go_wp2_with (at_builtin; refine wpList_append_lst rfl _ _ 49 rfl w.heap.size 4 i0 _ 1 1 Try.underlying49 hi hz0 hz1 hz2 rfl (by decide) (.slice none 0 0) 0 [] rfl (World.ownsRow_nil _ _ _ _) A m c cells rfl HL.out (by omega) (by decide) (by decide) (Nat.le_refl _) ?_; intro v' w' hown hg)
  go_ret
  refine ⟨_, rfl, ?_, (Below.refl w.heap.size w).grown hg (Nat.le_refl _) (fun k hk => by cases hk)⟩
  rw [HM.out]
  simpa using hown
set_option maxHeartbeats 1000000 in
theorem copied_reader (A : Option Addr) (c : Nat) (cells : List (List Value)) (w : World) (Z : Nat → Prop) (h : Lst w Z 6 RWq (.slice A cells.length c) cells) (hl : cells.length ≤ 1000) :
    Calls Try.prog 34 #[.slice A cells.length c] w (RetCp w 68 6 cells) := by
  obtain ⟨i0, hi, hz0, hz1, hz2⟩ := info_parts iq_reader
  obtain ⟨m, hm⟩ : ∃ m, cells.length = m := ⟨_, rfl⟩
  have HM := hide hm
  rw [hm] at h hl ⊢
  have HL := hide h
  clear h hm
  go_enter Try.func34, Try.ntmps34
  go_wp2_with (at_builtin; refine wpList_append_lst rfl _ _ 25 rfl w.heap.size 68 i0 _ 6 80 Try.underlying25 hi hz0 hz1 hz2 rfl (by decide) (.slice none 0 0) 0 [] rfl (World.ownsRow_nil _ _ _ _) A m c cells rfl HL.out (by omega) (by decide) (by decide) (Nat.le_refl _) ?_; intro v' w' hown hg)
  go_ret
  refine ⟨_, rfl, ?_, (Below.refl w.heap.size w).grown hg (Nat.le_refl _) (fun k hk => by cases hk)⟩
  rw [HM.out]
  simpa using hown
set_option maxHeartbeats 1000000 in
theorem copied_keyed (A : Option Addr) (c : Nat) (cells : List (List Value)) (w : World) (Z : Nat → Prop) (h : Lst w Z 8 RWq (.slice A cells.length c) cells) (hl : cells.length ≤ 1000) :
    Calls Try.prog 42 #[.slice A cells.length c] w (RetCp w 102 8 cells) := by
  obtain ⟨i0, hi, hz0, hz1, hz2⟩ := info_parts iq_keyed
  obtain ⟨m, hm⟩ : ∃ m, cells.length = m := ⟨_, rfl⟩
  have HM := hide hm
  rw [hm] at h hl ⊢
  have HL := hide h
  clear h hm
  go_enter Try.func42, Try.ntmps42
  go_wp2_with (at_builtin; refine wpList_append_lst rfl _ _ 40 rfl w.heap.size 102 i0 _ 8 120 Try.underlying40 hi hz0 hz1 hz2 rfl (by decide) (.slice none 0 0) 0 [] rfl (World.ownsRow_nil _ _ _ _) A m c cells rfl HL.out (by omega) (by decide) (by decide) (Nat.le_refl _) ?_; intro v' w' hown hg)
  go_ret
  refine ⟨_, rfl, ?_, (Below.refl w.heap.size w).grown hg (Nat.le_refl _) (fun k hk => by cases hk)⟩
  rw [HM.out]
  simpa using hown
set_option maxHeartbeats 1000000 in
theorem copied_operator (A : Option Addr) (c : Nat) (cells : List (List Value)) (w : World) (Z : Nat → Prop) (h : Lst w Z 2 RWq (.slice A cells.length c) cells) (hl : cells.length ≤ 1000) :
    Calls Try.prog 59 #[.slice A cells.length c] w (RetCp w 42 2 cells) := by
  obtain ⟨i0, hi, hz0, hz1, hz2⟩ := info_parts iq_operator
  obtain ⟨m, hm⟩ : ∃ m, cells.length = m := ⟨_, rfl⟩
  have HM := hide hm
  rw [hm] at h hl ⊢
  have HL := hide h
  clear h hm
  go_enter Try.func59, Try.ntmps59
  go_wp2_with (at_builtin; refine wpList_append_lst rfl _ _ 48 rfl w.heap.size 42 i0 _ 2 48 Try.underlying48 hi hz0 hz1 hz2 rfl (by decide) (.slice none 0 0) 0 [] rfl (World.ownsRow_nil _ _ _ _) A m c cells rfl HL.out (by omega) (by decide) (by decide) (Nat.le_refl _) ?_; intro v' w' hown hg)
  go_ret
  refine ⟨_, rfl, ?_, (Below.refl w.heap.size w).grown hg (Nat.le_refl _) (fun k hk => by cases hk)⟩
  rw [HM.out]
  simpa using hown
set_option maxHeartbeats 1000000 in
theorem copied_attempt (A : Option Addr) (c : Nat) (cells : List (List Value)) (w : World) (Z : Nat → Prop) (h : Lst w Z 4 RWq (.slice A cells.length c) cells) (hl : cells.length ≤ 1000) :
    Calls Try.prog 49 #[.slice A cells.length c] w (RetCp w 51 4 cells) := by
  obtain ⟨i0, hi, hz0, hz1, hz2⟩ := info_parts iq_attempt
  obtain ⟨m, hm⟩ : ∃ m, cells.length = m := ⟨_, rfl⟩
  have HM := hide hm
  rw [hm] at h hl ⊢
  have HL := hide h
  clear h hm
  go_enter Try.func49, Try.ntmps49
  go_wp2_with (at_builtin; refine wpList_append_lst rfl _ _ 22 rfl w.heap.size 51 i0 _ 4 80 Try.underlying22 hi hz0 hz1 hz2 rfl (by decide) (.slice none 0 0) 0 [] rfl (World.ownsRow_nil _ _ _ _) A m c cells rfl HL.out (by omega) (by decide) (by decide) (Nat.le_refl _) ?_; intro v' w' hown hg)
  go_ret
  refine ⟨_, rfl, ?_, (Below.refl w.heap.size w).grown hg (Nat.le_refl _) (fun k hk => by cases hk)⟩
  rw [HM.out]
  simpa using hown
end Go.Proofs.Ytihbonndinnohaa
