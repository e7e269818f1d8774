/- slices.Clone, of values. -/
import Derived.Test.YtbendimkejndiaaTRaw
namespace Go.Proofs.Ytbendimkejndiaa
open Go.RowKit
set_option linter.unusedVariables false
set_option linter.unusedSimpArgs false
theorem iq_value : (Try.prog.info? 38).map (fun i => (i.zero, i.size, i.bytes)) = some (some (.agg #[.int .i64 0, .int .i64 0, .string ⟨#[]⟩]), 3, 32) := by kernel_rfl
/-- A copy of a list of bare cells. -/
def RetCp (w : World) (te : TypeId) (sz : Nat) (cells : List (List Value)) (e : Ending) (w' : World) : Prop := ∃ v, e = .returned v ∧ w'.ownsRow w.heap.size te sz v cells.length cells.flatten ∧ Below w.heap.size w w'
set_option maxHeartbeats 1000000 in
theorem vclone_any (A : Option Addr) (c : Nat) (cells : List (List Value)) (w : World) (Z : Nat → Prop) (h : Lst w Z 3 RWq (.slice A cells.length c) cells) (hl : cells.length ≤ 1000) :
    Calls Try.prog 11 #[.slice A cells.length c] w (RetCp w 38 3 cells) := by
  obtain ⟨i0, hi, hz0, hz1, hz2⟩ := info_parts iq_value
  have qT : ∀ (w : World) (a : Option Addr) (n c n' c' : Nat), (binOp .eql 30 (.slice a n c) (.slice none n' c')).run Try.prog w = .ok (.bool a.isNone) w := fun w a n c n' c' => Lib.run_eql_slice_nil w _ _ a n c n' c' Try.underlying30
  cases A with
  | none =>
    have h0 : cells = [] := by
      cases cells with
      | nil => rfl
      | cons x l => obtain ⟨g, off, xs, e, -⟩ := h.at_ (j := 0) (by simp); cases e
    subst h0
    clear h
    go_enter Try.func11, Try.ntmps11
    go_wp2
    go_ret
    exact ⟨_, rfl, World.ownsRow_nil _ _ _ _, Below.refl _ _⟩
  | some a0 =>
    obtain ⟨m, hm⟩ : ∃ m, cells.length = m := ⟨_, rfl⟩
    have HM := hide hm
    rw [hm] at h hl ⊢
    have HL := hide (h.keep rd_Wq (Kp.alloc (.cells #[] 38)))
    have hown := own_lit w [] 38 w.heap.size 3 0 (Nat.le_refl _) rfl (by unfold maxLen; omega)
    clear h hm
    go_enter Try.func11, Try.ntmps11
    go_wp2_with (at_builtin; refine wpList_append_lst rfl _ _ 30 rfl w.heap.size 38 i0 _ 3 32 Try.underlying30 hi hz0 hz1 hz2 rfl (by decide) (.slice (some ⟨w.heap.size, 0, none⟩) 0 0) 0 [] rfl hown (some a0) m c cells rfl HL.out (by omega) (by decide) (by decide) (by simp) ?_; intro v' w' hown2 hg)
    go_ret
    refine ⟨_, rfl, ?_, (below_laid _).grown hg (by simp) (fun k hk => by cases hk; exact Nat.le_refl _)⟩
    rw [HM.out]
    simpa using hown2
end Go.Proofs.Ytbendimkejndiaa
