/- A list of steps, opened; the law for all arguments. -/
import Derived.Test.YtihbonndinnohaaQOpen
import Derived.Test.YtihbonndinnohaaQPlay5
namespace Go.Proofs.Ytihbonndinnohaa
open Go.ChangeShapes Go.WideShapes Go.ChangeAt Go.RowKit Go.Deep
set_option linter.unusedVariables false
set_option linter.unusedSimpArgs false
theorem c_u8 : Try.prog.cellsOf 5 = 1 := by kernel_rfl
theorem c_step : Try.prog.cellsOf 71 = 2 := by kernel_rfl
theorem y_step : Try.prog.bytesOf 71 = 2 := by kernel_rfl
theorem wf_u8 {n : Int} (h : (Lit.int .u8 n).wf = true) : 0 ≤ n ∧ n < 256 := by
  have : (0 : Int) ≤ n ∧ n ≤ 255 := by simpa [Lit.wf, IntKind.min, IntKind.max, IntKind.bits, IntKind.signed] using h
  omega
section
variable {H : Type} {enc : TypeId × Value → H} {w : World} {base : Nat} {sp : Nat → Bool} {held : Bool}
theorem trodq_u8 {fuel : Nat} {c : Value} {x : DataW H × List MemPlace} (h : DataW.trod enc Try.prog w base sp held fuel 5 [c] = some x) : ∃ n : Nat, c = .int .u8 (n : Int) ∧ n < 256 := by
  obtain ⟨n, e, -, hw⟩ := DataW.trod_int Try.underlying5 h
  simp only [List.cons.injEq, and_true] at e
  obtain ⟨h0, h1⟩ := wf_u8 hw
  exact ⟨n.toNat, by rw [e, Int.toNat_of_nonneg h0], by omega⟩
theorem trodq_step {fuel : Nat} {cs : List Value} {x : DataW H × List MemPlace} (h : DataW.trod enc Try.prog w base sp held fuel 71 cs = some x) : ∃ d : Sp, RSp w (· < w.heap.size) cs d := by
  obtain ⟨xs, n, -, -, hlen, hxl, hf⟩ := DataW.trod_struct Try.underlying71 h
  rw [c_step] at hlen
  obtain ⟨c0, c1, rfl⟩ := lenn2 hlen
  obtain ⟨y0, y1, rfl⟩ := lenn2 hxl
  have h0 : DataW.trod enc Try.prog w base sp held n 5 [c0] = some y0 := by have := hf 0 _ rfl; simpa [c_u8] using this
  have h1 : DataW.trod enc Try.prog w base sp held n 5 [c1] = some y1 := by have := hf 1 _ rfl; simpa [c_u8] using this
  obtain ⟨k, rfl, hk⟩ := trodq_u8 h0
  obtain ⟨m, rfl, hm⟩ := trodq_u8 h1
  exact ⟨⟨k, m⟩, rfl, hk, hm⟩
set_option maxRecDepth 100000 in
theorem open_stp {r : Reach} {b0 : Nat} {v : Value} {d : DataW H} {ps : List MemPlace} (hval : Value.okWide Try.prog w r b0 69 v) (hd : DataW.Trod enc Try.prog w base sp held 69 v d ps) (hS : Sz Try.prog 69 d) : ∃ l : List Sp, Lq w 2 RSp v l := by
  unfold Value.okWide at hval
  simp only [Try.underlying69] at hval
  obtain ⟨fuel, hf⟩ := hd
  obtain ⟨A, l, c, rfl⟩ : ∃ A l c, v = .slice A l c := by
    unfold Cell.okWide Cell.ok at hval
    simp only [Try.underlying69] at hval
    split at hval <;> first | exact ⟨_, _, _, rfl⟩ | (simp_all; done) | skip
    all_goals (first | exact hval.elim | skip)
    all_goals (split at hval <;> first | exact ⟨_, _, _, rfl⟩ | exact hval.elim | simp_all)
  obtain ⟨v, l, e, hl, -⟩ := lst_trod_s (R := RSp) Try.underlying69 c_step (by decide) y_step (fun h _ => trodq_step h) hf hS
  have e' : [Value.slice A _ c] = [v] := e
  simp only [List.cons.injEq, and_true] at e'
  subst e'
  exact ⟨l, hl⟩
end
theorem plays_law (w : World) (a : Int) (ha : (Lit.int .u8 a).wf = true) (v : Value) (l : List Sp) (hl : Lq w 2 RSp v l) : Calls Try.prog 8 #[.int .u8 a, v] w (Ret (.bool true) w) := by
  obtain ⟨h0, h1⟩ := wf_u8 ha
  obtain ⟨n, rfl⟩ : ∃ n : Nat, a = (n : Int) := ⟨a.toNat, by omega⟩
  obtain ⟨S, cap, rfl⟩ := hl.form
  by_cases hm : l.length ≤ 40
  · exact plays_main w n (by omega) S cap l hl hm
  · exact plays_long w n (by omega) S cap l hl (by omega)
end Go.Proofs.Ytihbonndinnohaa
