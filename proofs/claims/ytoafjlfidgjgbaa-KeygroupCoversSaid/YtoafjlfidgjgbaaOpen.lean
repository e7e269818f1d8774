/- Arguments, opened. -/
import Derived.Test.YtoafjlfidgjgbaaBase
namespace Go.Proofs.Ytoafjlfidgjgbaa
open Go.ChangeShapes Go.WideShapes Go.ChangeAt Go.RowKit
set_option linter.unusedVariables false
set_option linter.unusedSimpArgs false
variable {H : Type} {enc : TypeId × Value → H} {w : World} {base : Nat} {sp : Nat → Bool} {held : Bool}

/-- A value of the program, opened: its kind, its number, its text. -/
theorem open_value {r : Reach} {b0 : Nat} {v : Value} {d : DataW H} {ps : List MemPlace} (hval : Value.okWide Try.prog w r b0 23 v) (hd : DataW.Trod enc Try.prog w base sp held 23 v d ps) :
    ∃ (q n : Int) (s : ByteArray), v = .agg #[.int .i64 q, .int .i64 n, .string s] ∧ (Lit.int .i64 q).wf = true ∧ (Lit.int .i64 n).wf = true ∧ s.size ≤ maxLen := by
  obtain ⟨v0, v1, v2, y0, y1, y2, n, rfl, -, -, h0, h1, h2⟩ := Joins.open_agg3 Try.underlying23 (by kernel_rfl) (by kernel_rfl) hval hd
  obtain ⟨q, e0, -, hq⟩ := DataW.trod_int Try.underlying3 h0
  obtain ⟨m, e1, -, hm⟩ := DataW.trod_int Try.underlying3 h1
  obtain ⟨s, e2, -, hs⟩ := DataW.trod_string Try.underlying9 h2
  simp only [List.cons.injEq, and_true] at e0 e1 e2
  subst e0 e1 e2
  exact ⟨q, m, s, rfl, hq, hm, hs⟩

/-- A byte's rest by 8. -/
theorem u8_rem {a : Int} (h : (Lit.int .u8 a).wf = true) : a.tmod 8 = (((a.tmod 8).toNat : Nat) : Int) ∧ (a.tmod 8).toNat < 8 := by
  simp only [Lit.wf, Bool.and_eq_true, decide_eq_true_eq] at h
  have h0 : (0 : Int) ≤ a := h.1
  rw [Int.tmod_eq_emod_of_nonneg h0]
  omega
end Go.Proofs.Ytoafjlfidgjgbaa
