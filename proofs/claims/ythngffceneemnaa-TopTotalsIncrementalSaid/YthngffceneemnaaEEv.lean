/- The events of a variable, and the field of an event. -/
import Derived.Test.YthngffceneemnaaEChk2
namespace Go.Proofs.Ythngffceneemnaa
open Go.RowKit
set_option linter.unusedVariables false
set_option linter.unusedSimpArgs false
/-- The cells of an evaluator. -/
def BoxX (w : World) (F g : Nat) (mv : Value) : Prop :=
  w.cell? ⟨F, 0, none⟩ = some (.slice (some ⟨g, 0, none⟩) 1 1) ∧ w.cell? ⟨F, 1, none⟩ = some (.int .i64 (-1)) ∧ w.cell? ⟨F, 2, none⟩ = some (.int .i64 0) ∧ w.cell? ⟨F, 3, none⟩ = some (.int .i64 0) ∧
  w.cell? ⟨F, 4, none⟩ = some (.int .i64 0) ∧ w.cell? ⟨F, 5, none⟩ = some (.int .i64 0) ∧ w.cell? ⟨F, 6, none⟩ = some (.slice none 0 0) ∧ w.cell? ⟨F, 7, none⟩ = some mv
theorem BoxX.keep {w w' : World} {F g : Nat} {mv : Value} (h : BoxX w F g mv) (hb : Below w.heap.size w w') : BoxX w' F g mv := by
  obtain ⟨a0, a1, a2, a3, a4, a5, a6, a7⟩ := h
  exact ⟨keep1 hb a0, keep1 hb a1, keep1 hb a2, keep1 hb a3, keep1 hb a4, keep1 hb a5, keep1 hb a6, keep1 hb a7⟩
theorem BoxX.new (w : World) (g : Nat) (mv : Value) : BoxX (w.alloc (.cells #[.slice (some ⟨g, 0, none⟩) 1 1, .int .i64 (-1), .int .i64 0, .int .i64 0, .int .i64 0, .int .i64 0, .slice none 0 0, mv] 64)) w.heap.size g mv := by
  have h := fun (i : Nat) => cells_lit w [.slice (some ⟨g, 0, none⟩) 1 1, .int .i64 (-1), .int .i64 0, .int .i64 0, .int .i64 0, .int .i64 0, .slice none 0 0, mv] 64 i
  exact ⟨h 0 _ rfl, h 1 _ rfl, h 2 _ rfl, h 3 _ rfl, h 4 _ rfl, h 5 _ rfl, h 6 _ rfl, h 7 _ rfl⟩
section
variable (g : Nat) (mv : Value) (w : World)
set_option maxHeartbeats 2000000 in
theorem eevents_any (E : Value) (hE : w.cell? ⟨g, 0, none⟩ = some E) : Calls Try.prog 52 #[.agg #[.slice (some ⟨g, 0, none⟩) 1 1, .int .i64 (-1), .int .i64 0, .int .i64 0, .int .i64 0, .int .i64 0, .slice none 0 0, mv], .int .i64 0] w (Ret E w) := by
  have HB := hide (BoxX.new w g mv)
  have hE1 := keep1 (below_laid (w := w) (.cells #[.slice (some ⟨g, 0, none⟩) 1 1, .int .i64 (-1), .int .i64 0, .int .i64 0, .int .i64 0, .int .i64 0, .slice none 0 0, mv] 64)) hE
  have hW := below_laid (w := w) (.cells #[.slice (some ⟨g, 0, none⟩) 1 1, .int .i64 (-1), .int .i64 0, .int .i64 0, .int .i64 0, .int .i64 0, .slice none 0 0, mv] 64)
  obtain ⟨a0, a1, a2, a3, a4, a5, a6, a7⟩ := HB.out
  clear hE
  go_enter Try.func52, Try.ntmps52
  go_wp2
  go_ret
  exact ⟨rfl, hW⟩
set_option maxHeartbeats 2000000 in
theorem efield_any (a b c d : Int) (p q n cap : Nat) (x : V3) (hn : 1 ≤ n) (h0 : w.cell? ⟨p, q, none⟩ = some (.int .i64 x.q)) (h1 : w.cell? ⟨p, q + 1, none⟩ = some (.int .i64 x.n)) (h2 : w.cell? ⟨p, q + 2, none⟩ = some (.string x.s)) :
    Calls Try.prog 54 #[.agg #[.int .i64 a, .int .i64 b, .int .i64 c, .int .i64 d, .slice (some ⟨p, q, none⟩) n cap], .int .i64 0] w (Ret (.tuple #[V3.v x, .int .i64 0]) w) := by
  have hlp := World.block_lt_of_cell? w _ h0
  have hlp : p < w.heap.size := hlp
  have t0 : decide ((n : Int) ≤ 0) = false := decide_eq_false (by omega)
  have t1 : decide ((0 : Int) < (n : Int)) = true := decide_eq_true (by omega)
  have t2 : (0 : Int) < (n : Int) := by omega
  have t3 : 0 < n := hn
  have hb := below_laid (w := w) (.cells #[.int .i64 a, .int .i64 b, .int .i64 c, .int .i64 d, .slice (some ⟨p, q, none⟩) n cap] 49)
  have hb2 := bthen hb (below_laid (.cells #[.int .i64 0, .int .i64 0, .string ⟨#[]⟩] 25))
  have e0 := keep1 hb2 h0
  have e1 := keep1 hb2 h1
  have e2 := keep1 hb2 h2
  clear hn h0 h1 h2
  go_enter Try.func54, Try.ntmps54
  go_wp2
  refine bodyPost_ret (v := .tuple #[V3.v x, .int .i64 0]) (by rw [results_cell_tmp rfl]; go_simp) rfl ?_
  exact Ret.mk rfl (bthen hb (below_laid _))
end
end Go.Proofs.Ythngffceneemnaa
