/- Three lists of values, opened; the law for all arguments. -/
import Derived.Test.YthngffceneemnaaAOpen
import Derived.Test.YthngffceneemnaaEInc2
import Derived.OpenShut
namespace Go.Proofs.Ythngffceneemnaa
open Go.ChangeShapes Go.WideShapes Go.ChangeAt Go.RowKit Go.Deep
set_option linter.unusedVariables false
set_option linter.unusedSimpArgs false
variable {H : Type} {enc : TypeId × Value → H} {w : World} {base : Nat} {sp : Nat → Bool} {held : Bool}
theorem cells_three : Try.prog.cellsOf 23 = 3 := by kernel_rfl
theorem cells_values : Try.prog.cellsOf 22 = 1 := by kernel_rfl
theorem three_types : Try.prog.cellTypes Try.prog.depth 23 = some [22, 22, 22] := by kernel_rfl
theorem open_three {r : Reach} {b0 : Nat} {v : Value} {d : DataW H} {ps : List MemPlace} (hval : Value.okWide Try.prog w r b0 23 v) (hd : DataW.Trod enc Try.prog w base sp held 23 v d ps) :
    ∃ (pv : Nat → Value) (Q : Nat → List V3), v = .agg #[pv 0, pv 1, pv 2] ∧ ∀ i, i < 3 → InV w (pv i) (Q i) := by
  unfold Value.okWide at hval
  simp only [Try.underlying23] at hval
  obtain ⟨cs, rfl, hsz, ts, hts, -, hcs⟩ := hval
  rw [three_types] at hts
  cases hts
  obtain ⟨fuel, hf⟩ := hd
  obtain ⟨l⟩ := cs
  obtain ⟨xs, n, -, -, hlen, hxl, hel⟩ := DataW.trod_array Try.underlying23 hf
  rw [cells_three] at hlen
  have hlen : l.length = 3 := hlen
  obtain ⟨a, b, c, rfl⟩ := len3 hlen
  obtain ⟨y0, y1, y2, rfl⟩ := len3 hxl
  have h0 : DataW.trod enc Try.prog w base sp held n 22 [a] = some y0 := by have := hel 0 (by omega); simpa [Value.cells, cells_values] using this
  have h1 : DataW.trod enc Try.prog w base sp held n 22 [b] = some y1 := by have := hel 1 (by omega); simpa [Value.cells, cells_values] using this
  have h2 : DataW.trod enc Try.prog w base sp held n 22 [c] = some y2 := by have := hel 2 (by omega); simpa [Value.cells, cells_values] using this
  obtain ⟨u0, hu0, hc0⟩ := hcs 0 a rfl
  obtain ⟨u1, hu1, hc1⟩ := hcs 1 b rfl
  obtain ⟨u2, hu2, hc2⟩ := hcs 2 c rfl
  cases hu0
  cases hu1
  cases hu2
  obtain ⟨A, hA⟩ := trod_values hc0 h0
  obtain ⟨B, hB⟩ := trod_values hc1 h1
  obtain ⟨C, hC⟩ := trod_values hc2 h2
  refine ⟨fun i => if i = 0 then a else if i = 1 then b else c, fun i => if i = 0 then A else if i = 1 then B else C, rfl, fun i hi => ?_⟩
  have hi3 : i = 0 ∨ i = 1 ∨ i = 2 := by omega
  rcases hi3 with rfl | rfl | rfl
  · exact hA
  · exact hB
  · exact hC
theorem inc_any (k : Int) (o : V3) (pv : Nat → Value) (Q : Nat → List V3) (w : World) (hp : ∀ i, i < 3 → InV w (pv i) (Q i)) (ho : o.s.size ≤ maxLen) :
    Calls Try.prog 3 #[.int .i64 k, .agg #[pv 0, pv 1, pv 2], .agg #[.int .i64 o.q, .int .i64 o.n, .string o.s]] w (Ret (.bool true) w) := by
  cases hk : knownB k
  · exact inc_no k o pv Q w hp (.inl hk)
  · by_cases h0 : k = 0
    · exact inc_no k o pv Q w hp (.inr h0)
    · exact inc_yes k o pv Q w hp ho hk h0
end Go.Proofs.Ythngffceneemnaa
