/- Two lists of values, opened. -/
import Derived.Test.YtgppohelgmadoaaAOpen
import Derived.OpenShut
namespace Go.Proofs.Ytgppohelgmadoaa
open Go.ChangeShapes Go.WideShapes Go.ChangeAt Go.RowKit Go.Deep
set_option linter.unusedVariables false
set_option linter.unusedSimpArgs false
variable {H : Type} {enc : TypeId × Value → H} {w : World} {base : Nat} {sp : Nat → Bool} {held : Bool}
theorem len2 {α : Type} {l : List α} (h : l.length = 2) : ∃ a b, l = [a, b] := by
  match l, h with
  | [a, b], _ => exact ⟨a, b, rfl⟩
theorem cells_two : Try.prog.cellsOf 52 = 2 := by kernel_rfl
theorem cells_values : Try.prog.cellsOf 33 = 1 := by kernel_rfl
theorem two_types : Try.prog.cellTypes Try.prog.depth 52 = some [33, 33] := by kernel_rfl
theorem open_two {r : Reach} {b0 : Nat} {v : Value} {d : DataW H} {ps : List MemPlace} (hval : Value.okWide Try.prog w r b0 52 v) (hd : DataW.Trod enc Try.prog w base sp held 52 v d ps) :
    ∃ (a b : Value) (A B : List V3), v = .agg #[a, b] ∧ InV w a A ∧ InV w b B := by
  unfold Value.okWide at hval
  simp only [Try.underlying52] at hval
  obtain ⟨cs, rfl, hsz, ts, hts, -, hcs⟩ := hval
  rw [two_types] at hts
  cases hts
  obtain ⟨fuel, hf⟩ := hd
  obtain ⟨l⟩ := cs
  obtain ⟨xs, n, -, -, hlen, hxl, hel⟩ := DataW.trod_array Try.underlying52 hf
  rw [cells_two] at hlen
  have hlen : l.length = 2 := hlen
  obtain ⟨a, b, rfl⟩ := len2 hlen
  obtain ⟨y0, y1, rfl⟩ := len2 hxl
  have h0 : DataW.trod enc Try.prog w base sp held n 33 [a] = some y0 := by have := hel 0 (by omega); simpa [Value.cells, cells_values] using this
  have h1 : DataW.trod enc Try.prog w base sp held n 33 [b] = some y1 := by have := hel 1 (by omega); simpa [Value.cells, cells_values] using this
  obtain ⟨u0, hu0, hc0⟩ := hcs 0 a rfl
  obtain ⟨u1, hu1, hc1⟩ := hcs 1 b rfl
  cases hu0
  cases hu1
  obtain ⟨A, hA⟩ := trod_values hc0 h0
  obtain ⟨B, hB⟩ := trod_values hc1 h1
  exact ⟨a, b, A, B, rfl, hA, hB⟩
end Go.Proofs.Ytgppohelgmadoaa
