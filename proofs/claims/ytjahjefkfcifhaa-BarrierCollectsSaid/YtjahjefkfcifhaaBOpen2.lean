/- A list of bytes among the arguments, opened. -/
import Derived.Test.YtjahjefkfcifhaaBCollects
import Derived.Test.YtjahjefkfcifhaaBOpen
namespace Go.Proofs.Ytjahjefkfcifhaa
open Go.ChangeShapes Go.WideShapes Go.ChangeAt Go.RowKit Go.Deep
set_option linter.unusedVariables false
set_option linter.unusedSimpArgs false
variable {H : Type} {enc : TypeId × Value → H} {w : World} {base : Nat} {sp : Nat → Bool} {held : Bool}
theorem open_bytes {r : Reach} {b0 : Nat} {v : Value} {d : DataW H} {ps : List MemPlace} (hval : Value.okWide Try.prog w r b0 42 v) (hd : DataW.Trod enc Try.prog w base sp held 42 v d ps) : ∃ lo, InB w v lo := by
  unfold Value.okWide at hval
  simp only [Try.underlying42] at hval
  obtain ⟨fuel, hf⟩ := hd
  obtain ⟨A, l, c, rfl⟩ : ∃ A l c, v = .slice A l c := by
    unfold Cell.okWide Cell.ok at hval
    simp only [Try.underlying42] at hval
    split at hval <;> first | exact ⟨_, _, _, rfl⟩ | (simp_all; done) | skip
    all_goals (first | exact hval.elim | skip)
    all_goals (split at hval <;> first | exact ⟨_, _, _, rfl⟩ | exact hval.elim | simp_all)
  rcases open_ints Try.underlying42 Try.underlying5 (by kernel_rfl) hf with ⟨e1, -⟩ | ⟨a, len, cap, zs, e1, -, hl, hm, hz, -, hc, hwf⟩
  · simp only [Value.cells, List.cons.injEq, and_true] at e1
    have e1 : Value.slice A l c = .slice none 0 0 := by simpa using e1
    cases e1
    exact ⟨[], by simp, by simp, ⟨rfl, .inl ⟨rfl, rfl⟩⟩⟩
  · have e1 : Value.slice A l c = .slice (some a) len cap := by simpa [Value.cells] using e1
    cases e1
    obtain ⟨-, hs, hlt⟩ := slice_has Try.underlying42 hval
    obtain ⟨g, off, spot⟩ := a
    cases hs
    have hlz : l ≤ zs.length := by rw [hz]; split <;> omega
    have hlen : (zs.take l).length = l := by rw [List.length_take]; omega
    refine ⟨zs.take l, by rw [hlen]; unfold maxLen at hm; omega, ?_, ?_⟩
    · intro b hb
      have h1 := hwf b (List.mem_of_mem_take hb)
      simp only [Lit.wf, Bool.and_eq_true, decide_eq_true_eq] at h1
      have h2 : (0 : Int) ≤ b ∧ b ≤ 255 := h1
      omega
    · rw [hlen]
      refine ⟨by simp [u8s]; omega, .inr ⟨g, off, c, rfl, hlt, hl, fun j u hj => ?_⟩⟩
      have hj2 : j < l := by have := (List.getElem?_eq_some_iff.1 hj).1; simp [u8s] at this; omega
      have h2 := hc j (by omega)
      rw [show (⟨g, off, none⟩ : Addr).add j = ⟨g, off + j, none⟩ by unfold Addr.add; split <;> simp_all] at h2
      rw [h2, ← hj]
      have h3 : j < zs.length := by omega
      simp [u8s, hj2, h3]
end Go.Proofs.Ytjahjefkfcifhaa
