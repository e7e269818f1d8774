/- Arguments, opened: values, accumulators, lists of values. -/
import Derived.Test.YthngffceneemnaaALaws
import Derived.Deep.Slices
namespace Go.Proofs.Ythngffceneemnaa
open Go.ChangeShapes Go.WideShapes Go.ChangeAt Go.RowKit Go.Deep
set_option linter.unusedVariables false
set_option linter.unusedSimpArgs false
variable {H : Type} {enc : TypeId × Value → H} {w : World} {base : Nat} {sp : Nat → Bool} {held : Bool}

theorem len3 {α : Type} {l : List α} (h : l.length = 3) : ∃ a b c, l = [a, b, c] := by
  match l, h with
  | [a, b, c], _ => exact ⟨a, b, c, rfl⟩
theorem len5 {α : Type} {l : List α} (h : l.length = 5) : ∃ a b c d e, l = [a, b, c, d, e] := by
  match l, h with
  | [a, b, c, d, e], _ => exact ⟨a, b, c, d, e, rfl⟩
theorem cells_value : Try.prog.cellsOf 25 = 3 := by kernel_rfl
theorem cells_acc : Try.prog.cellsOf 28 = 5 := by kernel_rfl
theorem cells_int : Try.prog.cellsOf 3 = 1 := by kernel_rfl
theorem cells_string : Try.prog.cellsOf 9 = 1 := by kernel_rfl

theorem trod_value {fuel : Nat} {cs : List Value} {x : DataW H × List MemPlace} (h : DataW.trod enc Try.prog w base sp held fuel 25 cs = some x) :
    ∃ (q n : Int) (s : ByteArray), cs = [.int .i64 q, .int .i64 n, .string s] ∧ s.size ≤ maxLen := by
  obtain ⟨xs, n, -, -, hlen, hxl, hf⟩ := DataW.trod_struct Try.underlying25 h
  rw [cells_value] at hlen
  obtain ⟨c0, c1, c2, rfl⟩ := len3 hlen
  obtain ⟨y0, y1, y2, rfl⟩ := len3 hxl
  have h0 : DataW.trod enc Try.prog w base sp held n 3 [c0] = some y0 := by have := hf 0 _ rfl; simpa [cells_int] using this
  have h1 : DataW.trod enc Try.prog w base sp held n 3 [c1] = some y1 := by have := hf 1 _ rfl; simpa [cells_int] using this
  have h2 : DataW.trod enc Try.prog w base sp held n 9 [c2] = some y2 := by have := hf 2 _ rfl; simpa [cells_string] using this
  obtain ⟨q, e0, -, -⟩ := DataW.trod_int Try.underlying3 h0
  obtain ⟨m, e1, -, -⟩ := DataW.trod_int Try.underlying3 h1
  obtain ⟨s, e2, -, hs⟩ := DataW.trod_string Try.underlying9 h2
  simp only [List.cons.injEq, and_true] at e0 e1 e2
  subst e0 e1 e2
  exact ⟨q, m, s, rfl, hs⟩
theorem open_value {r : Reach} {b0 : Nat} {v : Value} {d : DataW H} {ps : List MemPlace} (hval : Value.okWide Try.prog w r b0 25 v) (hd : DataW.Trod enc Try.prog w base sp held 25 v d ps) :
    ∃ (q n : Int) (s : ByteArray), v = .agg #[.int .i64 q, .int .i64 n, .string s] ∧ s.size ≤ maxLen := by
  obtain ⟨cs, rfl, hsz⟩ := okWide_struct Try.underlying25 hval
  obtain ⟨fuel, hf⟩ := hd
  obtain ⟨q, n, s, e, hs⟩ := trod_value hf
  refine ⟨q, n, s, ?_, hs⟩
  obtain ⟨l⟩ := cs
  exact congrArg (fun l : List Value => Value.agg l.toArray) (show l = _ from e)
theorem open_acc {r : Reach} {b0 : Nat} {v : Value} {d : DataW H} {ps : List MemPlace} (hval : Value.okWide Try.prog w r b0 28 v) (hd : DataW.Trod enc Try.prog w base sp held 28 v d ps) :
    ∃ (k c q n : Int) (s : ByteArray), v = .agg #[.int .i64 k, .int .i64 c, .int .i64 q, .int .i64 n, .string s] ∧ s.size ≤ maxLen := by
  obtain ⟨cs, rfl, hsz⟩ := okWide_struct Try.underlying28 hval
  obtain ⟨fuel, hf⟩ := hd
  obtain ⟨l⟩ := cs
  obtain ⟨xs, n, -, -, hlen, hxl, hf⟩ := DataW.trod_struct Try.underlying28 hf
  rw [cells_acc] at hlen
  have hlen : l.length = 5 := hlen
  obtain ⟨c0, c1, c2, c3, c4, rfl⟩ := len5 hlen
  obtain ⟨y0, y1, y2, rfl⟩ := len3 hxl
  have h0 : DataW.trod enc Try.prog w base sp held n 3 [c0] = some y0 := by have := hf 0 _ rfl; simpa [Value.cells, cells_int] using this
  have h1 : DataW.trod enc Try.prog w base sp held n 3 [c1] = some y1 := by have := hf 1 _ rfl; simpa [Value.cells, cells_int] using this
  have h2 : DataW.trod enc Try.prog w base sp held n 25 [c2, c3, c4] = some y2 := by have := hf 2 _ rfl; simpa [Value.cells, cells_value] using this
  obtain ⟨k, e0, -, -⟩ := DataW.trod_int Try.underlying3 h0
  obtain ⟨c, e1, -, -⟩ := DataW.trod_int Try.underlying3 h1
  obtain ⟨q, m, s, e2, hs⟩ := trod_value h2
  simp only [List.cons.injEq, and_true] at e0 e1 e2
  obtain ⟨rfl, rfl, rfl⟩ := e2
  subst e0 e1
  exact ⟨k, c, q, m, s, rfl, hs⟩

/-- A slice that a cell may hold lies in a block of the world. -/
theorem slice_has {P : Program} {w : World} {r : Reach} {b : Nat} {t e : TypeId} {a : Addr} {len cap : Nat} (hu : P.underlying t = some (.slice e)) (h : Cell.okWide P w r b t (.slice (some a) len cap)) :
    len ≤ cap ∧ a.spot = none ∧ a.block < w.heap.size := by
  have h2 : Cell.ok P w r b t (.slice (some a) len cap) := by
    unfold Cell.okWide at h
    simpa only [hu] using h
  unfold Cell.ok at h2
  simp only [hu] at h2
  obtain ⟨h1, -, -, h4, row, cells, h5, -⟩ := h2
  refine ⟨h1, h4, ?_⟩
  rcases Nat.lt_or_ge a.block w.heap.size with h6 | h6
  · exact h6
  · exact absurd h5 (by simp [World.shape?, h6])

theorem flat_row {w : World} {g off : Nat} (L : List V3) (h : ∀ i (hi : i < L.length), w.cell? ⟨g, off + i * 3, none⟩ = some (.int .i64 L[i].q) ∧ w.cell? ⟨g, off + (i * 3 + 1), none⟩ = some (.int .i64 L[i].n) ∧ w.cell? ⟨g, off + (i * 3 + 2), none⟩ = some (.string L[i].s)) :
    ∀ j u, (flat L)[j]? = some u → w.cell? ⟨g, off + j, none⟩ = some u := by
  intro j u hu
  have hj := (List.getElem?_eq_some_iff.1 hu).1
  rw [flat_len] at hj
  have hi : j / 3 < L.length := by omega
  obtain ⟨f0, f1, f2⟩ := flat_at L (j / 3) hi
  obtain ⟨c0, c1, c2⟩ := h (j / 3) hi
  have h3 : j = j / 3 * 3 ∨ j = j / 3 * 3 + 1 ∨ j = j / 3 * 3 + 2 := by omega
  rcases h3 with h3 | h3 | h3
  · rw [← h3] at f0 c0; rw [c0, ← f0, hu]
  · rw [← h3] at f1 c1; rw [c1, ← f1, hu]
  · rw [← h3] at f2 c2; rw [c2, ← f2, hu]

instance : Inhabited V3 := ⟨V3.z⟩
theorem trod_values {r : Reach} {b0 : Nat} {v : Value} {fuel : Nat} {x : DataW H × List MemPlace} (hok : Cell.okWide Try.prog w r b0 22 v) (h : DataW.trod enc Try.prog w base sp held fuel 22 [v] = some x) : ∃ L, InV w v L := by
  rcases open_slice Try.underlying22 h with ⟨e1, -⟩ | ⟨a, len, cap, m, n, D, Pl, e1, -, hl, hm, hmm, -, hx⟩
  · simp only [List.cons.injEq, and_true] at e1
    subst e1
    exact ⟨[], by simp, by simp, ⟨none, 0, rfl⟩, ⟨rfl, .inl ⟨rfl, rfl⟩⟩⟩
  · simp only [List.cons.injEq, and_true] at e1
    subst e1
    obtain ⟨-, hs, hlt⟩ := slice_has Try.underlying22 hok
    obtain ⟨g, off, spot⟩ := a
    cases hs
    have hlm : len ≤ m := by rw [hmm]; split <;> omega
    have hX : ∀ i, i < len → ∃ y : V3, (w.cell? ⟨g, off + i * 3, none⟩ = some (.int .i64 y.q) ∧ w.cell? ⟨g, off + (i * 3 + 1), none⟩ = some (.int .i64 y.n) ∧ w.cell? ⟨g, off + (i * 3 + 2), none⟩ = some (.string y.s)) ∧ y.s.size ≤ maxLen := by
      intro i hi
      obtain ⟨cs', h1, h2⟩ := hx i (by omega)
      rw [cells_value] at h1
      obtain ⟨q, nn, s, rfl, hs⟩ := trod_value h2
      obtain ⟨-, -, hc⟩ := World.cells?_some h1
      have hadd : ∀ j, ((⟨g, off, none⟩ : Addr).add (i * 3)).add j = ⟨g, off + (i * 3 + j), none⟩ := fun j => by
        simp only [Addr.add]; (repeat' split) <;> simp_all <;> omega
      have c0 := hc 0 (by omega)
      have c1 := hc 1 (by omega)
      have c2 := hc 2 (by omega)
      rw [hadd] at c0 c1 c2
      exact ⟨⟨q, nn, s⟩, ⟨c0, c1, c2⟩, hs⟩
    obtain ⟨X, hX⟩ := choose_lt hX
    have hlen : ((List.range len).map X).length = len := by simp
    refine ⟨(List.range len).map X, by rw [hlen]; unfold maxLen at hm; omega, ?_, ⟨_, cap, by rw [hlen]⟩, ?_⟩
    · intro y hy
      obtain ⟨i, hi, rfl⟩ := List.mem_map.1 hy
      exact (hX i (List.mem_range.1 hi)).2
    · rw [hlen]
      refine ⟨by rw [flat_len, hlen], .inr ⟨g, off, cap, rfl, hlt, hl, flat_row _ fun i hi => ?_⟩⟩
      rw [hlen] at hi
      simpa using (hX i hi).1
theorem open_values {r : Reach} {b0 : Nat} {v : Value} {d : DataW H} {ps : List MemPlace} (hval : Value.okWide Try.prog w r b0 22 v) (hd : DataW.Trod enc Try.prog w base sp held 22 v d ps) : ∃ L, InV w v L := by
  unfold Value.okWide at hval
  simp only [Try.underlying22] at hval
  obtain ⟨fuel, hf⟩ := hd
  obtain ⟨A, l, c, rfl⟩ : ∃ A l c, v = .slice A l c := by
    unfold Cell.okWide Cell.ok at hval
    simp only [Try.underlying22] at hval
    split at hval <;> first | exact ⟨_, _, _, rfl⟩ | (simp_all; done) | skip
    all_goals (first | exact hval.elim | skip)
    all_goals (split at hval <;> first | exact ⟨_, _, _, rfl⟩ | exact hval.elim | simp_all)
  exact trod_values hval hf
end Go.Proofs.Ythngffceneemnaa
