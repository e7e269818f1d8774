/- Arguments, opened: values, lists of events. -/
import Derived.Test.YtbendimkejndiaaTLaw
namespace Go.Proofs.Ytbendimkejndiaa
open Go.ChangeShapes Go.WideShapes Go.ChangeAt Go.RowKit Go.Deep
set_option linter.unusedVariables false
set_option linter.unusedSimpArgs false
variable {H : Type} {enc : TypeId × Value → H} {w : World} {base : Nat} {sp : Nat → Bool} {held : Bool}
theorem len3 {α : Type} {l : List α} (h : l.length = 3) : ∃ a b c, l = [a, b, c] := by
  match l, h with
  | [a, b, c], _ => exact ⟨a, b, c, rfl⟩
theorem len5 {α : Type} {l : List α} (h : l.length = 5) : ∃ a b c d e, l = [a, b, c, d, e] := by
  match l, h with
  | [a, b, c, d, e], _ => exact ⟨a, b, c, d, e, rfl⟩
theorem cells_value : Try.prog.cellsOf 38 = 3 := by kernel_rfl
theorem cells_event : Try.prog.cellsOf 32 = 5 := by kernel_rfl
theorem cells_values : Try.prog.cellsOf 30 = 1 := by kernel_rfl
theorem cells_string : Try.prog.cellsOf 9 = 1 := by kernel_rfl
theorem wf_inI {n : Int} (h : (Lit.int .i64 n).wf = true) : inI n := by
  unfold inI
  simpa [Lit.wf, IntKind.min, IntKind.max, IntKind.bits, IntKind.signed] using h
theorem trod_i {fuel : Nat} {c : Value} {x : DataW H × List MemPlace} (h : DataW.trod enc Try.prog w base sp held fuel 3 [c] = some x) : ∃ n, c = .int .i64 n ∧ inI n := by
  obtain ⟨n, e, -, hw⟩ := DataW.trod_int Try.underlying3 h
  simp only [List.cons.injEq, and_true] at e
  exact ⟨n, e, wf_inI hw⟩
theorem trod_value {fuel : Nat} {cs : List Value} {x : DataW H × List MemPlace} (h : DataW.trod enc Try.prog w base sp held fuel 38 cs = some x) : ∃ d : V3, RV0 w (· < w.heap.size) cs d := by
  obtain ⟨xs, n, -, -, hlen, hxl, hf⟩ := DataW.trod_struct Try.underlying38 h
  rw [cells_value] at hlen
  obtain ⟨c0, c1, c2, rfl⟩ := len3 hlen
  obtain ⟨y0, y1, y2, rfl⟩ := len3 hxl
  have h0 : DataW.trod enc Try.prog w base sp held n 3 [c0] = some y0 := by have := hf 0 _ rfl; simpa [cells_int] using this
  have h1 : DataW.trod enc Try.prog w base sp held n 3 [c1] = some y1 := by have := hf 1 _ rfl; simpa [cells_int] using this
  have h2 : DataW.trod enc Try.prog w base sp held n 9 [c2] = some y2 := by have := hf 2 _ rfl; simpa [cells_string] using this
  obtain ⟨q, rfl, hq⟩ := trod_i h0
  obtain ⟨m, rfl, hm⟩ := trod_i h1
  obtain ⟨s, e2, -, hs⟩ := DataW.trod_string Try.underlying9 h2
  simp only [List.cons.injEq, and_true] at e2
  subst e2
  exact ⟨⟨q, m, s⟩, rfl, ⟨hq, hm⟩, hs⟩
theorem trod_values {fuel : Nat} {c : Value} {x : DataW H × List MemPlace} (h : DataW.trod enc Try.prog w base sp held fuel 30 [c] = some x) : ∃ l : List V3, Lst w (· < w.heap.size) 3 RV0 c l := by
  obtain ⟨v, l, e, hl⟩ := lst_trod (R := RV0) Try.underlying30 cells_value (by decide) (fun h => trod_value h) h
  simp only [List.cons.injEq, and_true] at e
  subst e
  exact ⟨l, hl⟩
theorem trod_event {fuel : Nat} {cs : List Value} {x : DataW H × List MemPlace} (h : DataW.trod enc Try.prog w base sp held fuel 32 cs = some x) : ∃ d : Evt, REv0 w (· < w.heap.size) cs d := by
  obtain ⟨xs, n, -, -, hlen, hxl, hf⟩ := DataW.trod_struct Try.underlying32 h
  rw [cells_event] at hlen
  obtain ⟨c0, c1, c2, c3, c4, rfl⟩ := len5 hlen
  obtain ⟨y0, y1, y2, y3, y4, rfl⟩ := len5 hxl
  have h0 : DataW.trod enc Try.prog w base sp held n 3 [c0] = some y0 := by have := hf 0 _ rfl; simpa [cells_int] using this
  have h1 : DataW.trod enc Try.prog w base sp held n 3 [c1] = some y1 := by have := hf 1 _ rfl; simpa [cells_int] using this
  have h2 : DataW.trod enc Try.prog w base sp held n 3 [c2] = some y2 := by have := hf 2 _ rfl; simpa [cells_int] using this
  have h3 : DataW.trod enc Try.prog w base sp held n 3 [c3] = some y3 := by have := hf 3 _ rfl; simpa [cells_int] using this
  have h4 : DataW.trod enc Try.prog w base sp held n 30 [c4] = some y4 := by have := hf 4 _ rfl; simpa [cells_values] using this
  obtain ⟨a, rfl, ha⟩ := trod_i h0
  obtain ⟨b, rfl, hb⟩ := trod_i h1
  obtain ⟨c, rfl, hc⟩ := trod_i h2
  obtain ⟨d, rfl, hd⟩ := trod_i h3
  obtain ⟨l, hl⟩ := trod_values h4
  exact ⟨⟨a, b, c, d, l⟩, c4, rfl, hl, ha, hb, hc, hd⟩
set_option maxRecDepth 100000 in
theorem open_val {r : Reach} {b0 : Nat} {v : Value} {d : DataW H} {ps : List MemPlace} (hval : Value.okWide Try.prog w r b0 38 v) (hd : DataW.Trod enc Try.prog w base sp held 38 v d ps) :
    ∃ x : V3, v = .agg #[.int .i64 x.q, .int .i64 x.n, .string x.s] ∧ gV x ∧ x.s.size ≤ maxLen := by
  obtain ⟨cs, rfl, hsz⟩ := okWide_struct Try.underlying38 hval
  obtain ⟨fuel, hf⟩ := hd
  obtain ⟨x, e, hg, hs⟩ := trod_value hf
  exact ⟨x, by rw [← Array.toArray_toList (xs := cs)]; exact congrArg (fun l : List Value => Value.agg l.toArray) e, hg, hs⟩
set_option maxRecDepth 100000 in
theorem open_events {r : Reach} {b0 : Nat} {v : Value} {d : DataW H} {ps : List MemPlace} (hval : Value.okWide Try.prog w r b0 22 v) (hd : DataW.Trod enc Try.prog w base sp held 22 v d ps) : ∃ l : List Evt, Lst w (· < w.heap.size) 5 REv0 v l := by
  unfold Value.okWide at hval
  simp only [Try.underlying22] at hval
  obtain ⟨fuel, hf⟩ := hd
  obtain ⟨A, l, c, rfl⟩ : ∃ A l c, v = .slice A l c := by
    unfold Cell.okWide Cell.ok at hval
    simp only [Try.underlying22] at hval
    split at hval <;> first | exact ⟨_, _, _, rfl⟩ | (simp_all; done) | skip
    all_goals (first | exact hval.elim | skip)
    all_goals (split at hval <;> first | exact ⟨_, _, _, rfl⟩ | exact hval.elim | simp_all)
  obtain ⟨v, l, e, hl⟩ := lst_trod (R := REv0) Try.underlying22 cells_event (by decide) (fun h => trod_event h) hf
  have e' : [Value.slice A _ c] = [v] := e
  simp only [List.cons.injEq, and_true] at e'
  subst e'
  exact ⟨l, hl⟩
theorem trod_key {fuel : Nat} {cs : List Value} {x : DataW H × List MemPlace} (h : DataW.trod enc Try.prog w base sp held fuel 3 cs = some x) : ∃ d : Int, RIn w (· < w.heap.size) cs d := by
  obtain ⟨n, e, -, hw⟩ := DataW.trod_int Try.underlying3 h
  exact ⟨n, e, wf_inI hw⟩
set_option maxRecDepth 100000 in
theorem open_keys {r : Reach} {b0 : Nat} {v : Value} {d : DataW H} {ps : List MemPlace} (hval : Value.okWide Try.prog w r b0 23 v) (hd : DataW.Trod enc Try.prog w base sp held 23 v d ps) : ∃ l : List Int, Lst w (· < w.heap.size) 1 RIn v l := by
  unfold Value.okWide at hval
  simp only [Try.underlying23] at hval
  obtain ⟨fuel, hf⟩ := hd
  obtain ⟨A, l, c, rfl⟩ : ∃ A l c, v = .slice A l c := by
    unfold Cell.okWide Cell.ok at hval
    simp only [Try.underlying23] at hval
    split at hval <;> first | exact ⟨_, _, _, rfl⟩ | (simp_all; done) | skip
    all_goals (first | exact hval.elim | skip)
    all_goals (split at hval <;> first | exact ⟨_, _, _, rfl⟩ | exact hval.elim | simp_all)
  obtain ⟨v, l, e, hl⟩ := lst_trod (R := RIn) Try.underlying23 cells_int (by decide) (fun h => trod_key h) hf
  have e' : [Value.slice A _ c] = [v] := e
  simp only [List.cons.injEq, and_true] at e'
  subst e'
  exact ⟨l, hl⟩
end Go.Proofs.Ytbendimkejndiaa
