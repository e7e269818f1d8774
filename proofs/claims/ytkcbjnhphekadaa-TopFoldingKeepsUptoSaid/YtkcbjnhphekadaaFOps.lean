/- The table of operations. -/
import Derived.Test.YtkcbjnhphekadaaFApp
import Derived.Laws.EntriesVeiled
import Derived.Maps.OwnSet
namespace Go.Proofs.Ytkcbjnhphekadaa
open Go.RowKit Go.Maps Go.ChangeMaps Go.MapKept
set_option linter.unusedVariables false
set_option linter.unusedSimpArgs false
/-- m[k] = v in a map literal. -/
theorem wpList_insert_own {H : Type} {P : Program} (w : World) {ops : Array Oper} {rest : List Oper} {o : Oper} {a : Act} {Q : Exit → Act → World → Prop}
    (hg : o.guard = none) (m x v : Operand) (t : TypeId) (hop : o.op = Op.insert t m x v)
    (k e : TypeId) (K : Keyed P k) (ht : P.underlying t = some (.map k e)) (R : Value → Option (DataW H × List MemPlace)) (b n : Nat) (D : DataW H)
    (hm : a.eval m = .map (some b)) (hown : w.ownsMap P k R b n D) (hn : n < maxLen) (key val : Value) (kl : Lit) (hx : a.eval x = key) (hv : a.eval v = val) (hkey : keyOf P k key = some kl)
    (d : DataW H) (ps : List MemPlace) (hval : R val = some (d, ps))
    (hK : ∀ w', w'.ownsMap P k R b (n + 1) (D.put kl d) → w.grownBy w' (some b) → wpList P ops Q rest (a.put o.dst undef) w') :
    wpList P ops Q (o :: rest) a w := by
  refine wpList_plain hg fun K' hK' => ?_
  obtain ⟨w', hrun, r1, r2⟩ := hown.update K ht hn hkey hval
  unfold Oper.wp
  simp [execOp, hop, hm, hx, hv, hrun, Result.andThen]
  exact hK' _ _ (hK w' r1 r2)
theorem int_key : Keyed Try.prog 3 := int_keyed Try.underlying3
/-- An element is held as it is. -/
def hElem (v : Value) : Option (DataW Value × List MemPlace) := some (.held v, [])
def fv (k : Nat) : Value := .func (.func k) #[] #[]
def fc (k c : Nat) : Value := .func (.func k) #[] #[.pointer (some ⟨c, 0, none⟩)]
def opsD (c : Nat) : DataW Value := (((((((DataW.map []).put (.int .i64 5) (.held (fc 39 c))).put (.int .i64 6) (.held (fc 40 c))).put (.int .i64 7) (.held (fv 41))).put (.int .i64 8) (.held (fv 42))).put (.int .i64 10) (.held (fv 43))).put (.int .i64 11) (.held (fv 44))).put (.int .i64 12) (.held (fv 45))
/-- The operations lie in the map b. -/
def Opz (w : World) (b : Nat) : Prop := ∃ n c, w.ownsMap Try.prog 3 hElem b n (opsD c) ∧ w.cell? ⟨c, 0, none⟩ = some (.func (.func 38) #[] #[])
theorem Opz.keep {w w' : World} {b : Nat} (h : Opz w b) (hb : Below w.heap.size w w') : Opz w' b := by
  obtain ⟨n, c, hown, hc⟩ := h
  exact ⟨n, c, hown.kept (row := none) ⟨hb.os, hb.tape, hb.output, hb.size, fun k hk _ => hb.block k hk⟩ (by simp), keep1 hb hc⟩
theorem opsD_at (c : Nat) (z : DataW Value) : (opsD c).atKey (.int .i64 5) z = .held (fc 39 c) ∧ (opsD c).atKey (.int .i64 6) z = .held (fc 40 c) ∧ (opsD c).atKey (.int .i64 7) z = .held (fv 41) ∧ (opsD c).atKey (.int .i64 8) z = .held (fv 42) ∧
    (opsD c).atKey (.int .i64 10) z = .held (fv 43) ∧ (opsD c).atKey (.int .i64 11) z = .held (fv 44) ∧ (opsD c).atKey (.int .i64 12) z = .held (fv 45) := by
  refine ⟨?_, ?_, ?_, ?_, ?_, ?_, ?_⟩ <;> rfl
set_option maxRecDepth 100000 in
set_option maxHeartbeats 4000000 in
theorem opz_any (w : World) : Calls Try.prog 20 #[] w (fun e w' => ∃ b, Ret (.map (some b)) w e w' ∧ Opz w' b) := by
  have hown := World.ownsMap_made (w.alloc (.cells #[.func (.func 38) #[] #[]] 95)) Try.prog 3 hElem
  rw [World.size_alloc] at hown
  have hB := bthen (below_laid (w := w) (.cells #[.func (.func 38) #[] #[]] 95)) (below_laid (.map #[] 0))
  have hC : ((w.alloc (.cells #[.func (.func 38) #[] #[]] 95)).alloc (.map #[] 0)).cell? ⟨w.heap.size, 0, none⟩ = some (.func (.func 38) #[] #[]) := keep1 (below_laid _) (cells_lit w [.func (.func 38) #[] #[]] _ 0 _ rfl)
  have hmm := @run_makeMap Try.prog
  go_enter Try.func20, Try.ntmps20
  go_wp2_with ((refine wpList_insert_own _ rfl _ _ _ _ rfl 3 _ int_key Try.underlying71 hElem (w.heap.size + 1) _ _ rfl hown (by unfold maxLen; omega) _ _ _ rfl rfl (keyOf_int_mk Try.underlying3 (by decide)) _ [] rfl ?_); intro w1 hown1 hgrow1; have hown := hown1; have hB := hB.grown hgrow1 hB.size (fun j hj => by cases hj; omega); have hC := hgrow1.cell hC (by simp); clear hown1 hgrow1)
  go_ret
  exact ⟨_, ⟨rfl, hB⟩, _, _, hown, hC⟩
end Go.Proofs.Ytkcbjnhphekadaa
