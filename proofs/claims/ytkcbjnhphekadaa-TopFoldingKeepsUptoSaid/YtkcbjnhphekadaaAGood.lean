/- good and of, of the laws. -/
import Derived.Test.YtkcbjnhphekadaaAJoins
import Derived.Deep.RegionWith
namespace Go.Proofs.Ytkcbjnhphekadaa
open Go.RowKit
set_option linter.unusedVariables false
set_option linter.unusedSimpArgs false
def okV (k : Int) (x : V3) : Bool := decide (checkC x.q x.n x.s.size = 0) && rsuitsB k x.q
def goodB (k : Int) (L : List V3) (o : V3) : Bool := decide (L.length ≤ 20) && (L.all (okV k) && (decide (0 ≤ k) && (decide (k ≤ 5) && okV k o)))

section
variable (k : Int) (L : List V3) (w : World)
end

section
variable (k : Int) (L : List V3) (o : V3) (w : World)
theorem all_take {p : V3 → Bool} {L : List V3} {j : Nat} (hj : j < L.length) (h : (L.take j).all p = true) (hx : p L[j] = true) : (L.take (j + 1)).all p = true := by
  rw [List.take_succ_eq_append_getElem hj, List.all_append, h]; simp [hx]
theorem all_no {p : V3 → Bool} {L : List V3} {j : Nat} (hj : j < L.length) (hx : p L[j] = false) : L.all p = false := by
  rw [List.all_eq_false]
  exact ⟨L[j], List.getElem_mem hj, by simp [hx]⟩
theorem goodB_no {k : Int} {L : List V3} {o : V3} {j : Nat} (hj : j < L.length) (hx : okV k L[j] = false) : goodB k L o = false := by
  unfold goodB; rw [all_no hj hx]; simp
theorem goodB_long {k : Int} {L : List V3} {o : V3} (h : ¬ L.length ≤ 20) : goodB k L o = false := by unfold goodB; rw [decide_eq_false h]; rfl
theorem goodB_end {k : Int} {L : List V3} {o : V3} (h : L.length ≤ 20) (ha : L.all (okV k) = true) : goodB k L o = (decide (0 ≤ k) && (decide (k ≤ 5) && okV k o)) := by
  unfold goodB; rw [decide_eq_true h, ha]; rfl

end
end Go.Proofs.Ytkcbjnhphekadaa
