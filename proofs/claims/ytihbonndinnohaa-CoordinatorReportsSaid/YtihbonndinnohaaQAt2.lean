/- Two integers, opened. -/
import Derived.Test.YtihbonndinnohaaQOpen
import Derived.OpenShut
namespace Go.Proofs.Ytihbonndinnohaa
open Go.ChangeShapes Go.WideShapes Go.ChangeAt Go.RowKit Go.Deep
set_option linter.unusedVariables false
set_option linter.unusedSimpArgs false
variable {H : Type} {enc : TypeId × Value → H} {w : World} {base : Nat} {sp : Nat → Bool} {held : Bool}
theorem cells_at2 : Try.prog.cellsOf 38 = 2 := by kernel_rfl
theorem at2_types : Try.prog.cellTypes Try.prog.depth 38 = some [3, 3] := by kernel_rfl
set_option maxRecDepth 100000 in
theorem open_at2 {r : Reach} {b0 : Nat} {v : Value} {d : DataW H} {ps : List MemPlace} (hval : Value.okWide Try.prog w r b0 38 v) (hd : DataW.Trod enc Try.prog w base sp held 38 v d ps) :
    ∃ (a b : Int), v = .agg #[.int .i64 a, .int .i64 b] ∧ inQ a ∧ inQ b := by
  unfold Value.okWide at hval
  simp only [Try.underlying38] at hval
  obtain ⟨cs, rfl, hsz, ts, hts, -, hcs⟩ := hval
  rw [at2_types] at hts
  cases hts
  obtain ⟨fuel, hf⟩ := hd
  obtain ⟨l⟩ := cs
  obtain ⟨xs, n, -, -, hlen, hxl, hel⟩ := DataW.trod_array Try.underlying38 hf
  rw [cells_at2] at hlen
  have hlen : l.length = 2 := hlen
  obtain ⟨a, b, rfl⟩ := lenn2 hlen
  obtain ⟨y0, y1, rfl⟩ := lenn2 hxl
  have h0 : DataW.trod enc Try.prog w base sp held n 3 [a] = some y0 := by have := hel 0 (by omega); simpa [Value.cells, c_int] using this
  have h1 : DataW.trod enc Try.prog w base sp held n 3 [b] = some y1 := by have := hel 1 (by omega); simpa [Value.cells, c_int] using this
  obtain ⟨x, rfl, hx⟩ := trodq_i h0
  obtain ⟨y, rfl, hy⟩ := trodq_i h1
  exact ⟨x, y, rfl, hx, hy⟩
end Go.Proofs.Ytihbonndinnohaa
