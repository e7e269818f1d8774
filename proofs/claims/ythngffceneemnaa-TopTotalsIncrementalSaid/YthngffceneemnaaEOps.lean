/- The table of operations: a map of functions, of which nothing is read here. -/
import Derived.Test.YthngffceneemnaaEEv
import Derived.Laws.EntriesVeiled
import Derived.Maps.Own
namespace Go.Proofs.Ythngffceneemnaa
open Go.RowKit Go.Maps Go.ChangeMaps Go.MapKept
set_option linter.unusedVariables false
set_option linter.unusedSimpArgs false
/-- m[k] = v in a map literal. -/
theorem wpList_insert_own {H : Type} {P : Program} (w : World) {ops : Array Oper} {rest : List Oper} {o : Oper} {a : Act} {Q : Exit → Act → World → Prop}
    (hg : o.guard = none) (m x v : Operand) (t : TypeId) (hop : o.op = Op.insert t m x v)
    (k e : TypeId) (K : Keyed P k) (ht : P.underlying t = some (.map k e)) (R : Value → Option (DataW H × List MemPlace)) (b n : Nat) (D : DataW H)
    (hm : a.eval m = .map (some b)) (hown : w.ownsMap P k R b n D) (hn : n < maxLen) (key val : Value) (kl : Lit) (hx : a.eval x = key) (hv : a.eval v = val) (hkey : keyOf P k key = some kl)
    (d : DataW H) (ps : List MemPlace) (hval : R val = some (d, ps))
    (hK : ∀ w', w'.ownsMap P k R b (n + 1) (D.put kl d) → w.grownBy w' (some b) → wpList P ops Q rest (a.put o.dst undef) w') :
    wpList P ops Q (o :: rest) a w := by
  refine wpList_plain hg fun K' hK' => ?_
  obtain ⟨w', hrun, r1, r2⟩ := hown.update K ht hn hkey hval
  unfold Oper.wp
  simp [execOp, hop, hm, hx, hv, hrun, Result.andThen]
  exact hK' _ _ (hK w' r1 r2)
theorem int_key : Keyed Try.prog 3 := int_keyed Try.underlying3
/-- Nothing is read of an element. -/
def anyElem (_ : Value) : Option (DataW Unit × List MemPlace) := some (.lit (.bool true), [])
set_option maxHeartbeats 4000000 in
theorem eops_any (w : World) : Calls Try.prog 22 #[] w (fun e w' => ∃ b, Ret (.map (some b)) w e w') := by
  have hown := World.ownsMap_made (w.alloc (.cells #[.func (.func 30) #[] #[]] 71)) Try.prog 3 anyElem
  rw [World.size_alloc] at hown
  have hB := bthen (below_laid (w := w) (.cells #[.func (.func 30) #[] #[]] 71)) (below_laid (.map #[] 0))
  have hmm := @run_makeMap Try.prog
  go_enter Try.func22, Try.ntmps22
  go_wp2_with ((refine wpList_insert_own _ rfl _ _ _ _ rfl 3 _ int_key Try.underlying61 anyElem (w.heap.size + 1) _ _ rfl hown (by unfold maxLen; omega) _ _ _ rfl rfl (keyOf_int_mk Try.underlying3 (by decide)) _ [] rfl ?_); intro w1 hown1 hgrow1; have hown := hown1; have hB := hB.grown hgrow1 hB.size (fun j hj => by cases hj; omega); clear hown1 hgrow1)
  go_ret
  exact ⟨_, rfl, hB⟩
end Go.Proofs.Ythngffceneemnaa
