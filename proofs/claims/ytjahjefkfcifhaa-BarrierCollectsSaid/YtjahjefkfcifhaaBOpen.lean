/- An aligner among the arguments, opened. -/
import Derived.Test.YtjahjefkfcifhaaBLaws
import Derived.Deep.Grids
namespace Go.Proofs.Ytjahjefkfcifhaa
open Go.ChangeShapes Go.WideShapes Go.ChangeAt Go.RowKit Go.Deep
set_option linter.unusedVariables false
set_option linter.unusedSimpArgs false
variable {H : Type} {enc : TypeId × Value → H} {w : World} {base : Nat} {held : Bool}

/-- A slice that a cell may hold lies in a block of the world. -/
theorem slice_has {P : Program} {w : World} {r : Reach} {b : Nat} {t e : TypeId} {a : Addr} {len cap : Nat} (hu : P.underlying t = some (.slice e)) (h : Cell.okWide P w r b t (.slice (some a) len cap)) :
    len ≤ cap ∧ a.spot = none ∧ a.block < w.heap.size := by
  have h2 : Cell.ok P w r b t (.slice (some a) len cap) := by
    unfold Cell.okWide at h
    simpa only [hu] using h
  unfold Cell.ok at h2
  simp only [hu] at h2
  obtain ⟨h1, -, -, h4, row, cells, h5, -⟩ := h2
  refine ⟨h1, h4, ?_⟩
  rcases Nat.lt_or_ge a.block w.heap.size with h6 | h6
  · exact h6
  · exact absurd h5 (by simp [World.shape?, h6])

theorem aligner_types : Try.prog.cellTypes Try.prog.depth 24 = some [3, 22] := by kernel_rfl

theorem open_aligner {r : Reach} {b0 : Nat} {v : Value} {d : DataW H} {ps : List MemPlace} (hval : Value.okWide Try.prog w r b0 24 v) (hd : DataW.Trod enc Try.prog w base (fun _ => true) held 24 v d ps) :
    ∃ (n : Int) (A : Option Addr) (m cap : Nat), v = .agg #[.int .i64 n, .slice A m cap] ∧ Inn w A m cap := by
  have hok := hval
  obtain ⟨v0, v1, y0, y1, q, rfl, -, -, h0, h1⟩ := Joins.open_agg2 Try.underlying24 (by kernel_rfl) (by kernel_rfl) hval hd
  obtain ⟨n, e0, -, -⟩ := DataW.trod_int Try.underlying3 h0
  simp only [List.cons.injEq, and_true] at e0
  subst e0
  unfold Value.okWide at hok
  simp only [Try.underlying24] at hok
  obtain ⟨cs, ecs, -, ts, hts, -, hcs⟩ := hok
  simp only [Value.agg.injEq] at ecs
  subst ecs
  rw [aligner_types] at hts
  cases hts
  obtain ⟨u, hu, hc1⟩ := hcs 1 v1 rfl
  cases hu
  rcases open_bools Try.underlying22 Try.underlying4 (by kernel_rfl) h1 with ⟨e1, -⟩ | ⟨a, len, cap, B, e1, -, hl, -, -, hb⟩
  · simp only [List.cons.injEq, and_true] at e1
    subst e1
    exact ⟨n, none, 0, 0, rfl, fun _ => ⟨[], rfl, rfl, .inl ⟨rfl, rfl⟩⟩⟩
  · simp only [List.cons.injEq, and_true] at e1
    subst e1
    obtain ⟨-, hs, hlt⟩ := slice_has Try.underlying22 hc1
    obtain ⟨g, off, spot⟩ := a
    cases hs
    refine ⟨n, _, len, cap, rfl, fun _ => ⟨(List.range len).map B, by simp, by simp [bools], .inr ⟨g, off, cap, rfl, hlt, hl, fun j u hj => ?_⟩⟩⟩
    have hj' : j < len := by have := (List.getElem?_eq_some_iff.1 hj).1; simpa [bools] using this
    have h2 := hb j (by omega)
    rw [show (⟨g, off, none⟩ : Addr).add j = ⟨g, off + j, none⟩ by unfold Addr.add; split <;> simp_all] at h2
    rw [h2]
    simpa [bools, hj'] using hj
end Go.Proofs.Ytjahjefkfcifhaa
