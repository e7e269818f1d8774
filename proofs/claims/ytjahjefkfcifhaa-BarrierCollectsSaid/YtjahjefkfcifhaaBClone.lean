/- slices.Clone over bools. -/
import Derived.Test.YtjahjefkfcifhaaBInputs2
import Derived.Lib.SliceRun
namespace Go.Proofs.Ytjahjefkfcifhaa
open Go.RowKit Go.Shelf
set_option linter.unusedVariables false
set_option linter.unusedSimpArgs false

theorem info_bool' : ∃ i0 : TypeInfo, Try.prog.info? 4 = some i0 ∧ i0.zero = some (.bool false) ∧ i0.size = 1 ∧ i0.bytes = 1 := info_parts info_bool

theorem bools_one (l : List Bool) : ∀ u ∈ bools l, u.oneCell' = true := by
  intro u hu
  simp only [bools, List.mem_map] at hu
  obtain ⟨b, _, rfl⟩ := hu
  rfl

set_option maxHeartbeats 1000000 in
theorem clone_any (g off cap : Nat) (l : List Bool) (w : World) (hl : l.length ≤ 1000) (hc : Hid (∀ j u, (bools l)[j]? = some u → w.cell? ⟨g, off + j, none⟩ = some u)) (hg : g < w.heap.size) :
    Calls Try.prog 30 #[.slice (some ⟨g, off, none⟩) l.length cap] w fun e w' => ∃ v, e = .returned v ∧ w'.ownsRow w.heap.size 4 1 v l.length (bools l) ∧ Below w.heap.size w w' := by
  obtain ⟨i0, hi0, hz0, hz1, hz2⟩ := info_bool'
  have qT : ∀ (w : World) (a : Option Addr) (n c n' c' : Nat), (binOp .eql 22 (.slice a n c) (.slice none n' c')).run Try.prog w = .ok (.bool a.isNone) w := fun w a n c n' c' => Lib.run_eql_slice_nil w _ _ a n c n' c' Try.underlying22
  have hown := own_lit w [] 4 w.heap.size 1 0 (Nat.le_refl _) rfl (by unfold maxLen; omega)
  go_enter Try.func30, Try.ntmps30
  go_wp2_with (at_builtin; go_loud (refine wpList_append_own_at (w.alloc (.cells #[] 4)) rfl _ _ 22 rfl w.heap.size 4 i0 _ 1 1 Try.underlying22 hi0 hz0 hz1 hz2 rfl (by decide) _ _ _ rfl hown ⟨g, off, none⟩ l.length cap (bools l) rfl (by simp [bools]) ?c1 (bools_one l) ?c2 ?c3 (by simp) ?_); go_loud (case c2 => unfold maxLen; omega); go_loud (case c3 => omega); go_loud (case c1 => intro j u hj; rw [show (⟨g, off, none⟩ : Addr).add j = ⟨g, off + j, none⟩ by unfold Addr.add; split <;> simp_all]; exact (World.cell?_alloc_lt _ _ _ hg).trans (hc.out j u hj)); go_loud (intro v' w' hown' hgr _ hat))
  go_ret
  rw [Nat.zero_add, List.nil_append] at hown'
  refine ⟨_, rfl, hown', ?_⟩
  exact ((Below.refl w.heap.size w).alloc (Nat.le_refl _) _).grown hgr (by simp) (fun k hk => by cases hk; exact Nat.le_refl _)
end Go.Proofs.Ytjahjefkfcifhaa
