/- Towards stream.Split: the steps of 'parts[v] = append(parts[v], copied(x))'. -/
import Derived.Test.YtbendimkejndiaaTSpP
namespace Go.Proofs.Ytbendimkejndiaa
open Go.RowKit
set_option linter.unusedVariables false
set_option linter.unusedSimpArgs false
section
variable {P : Program}
theorem wp_entry {o : Oper} {a : Act} {w w1 : World} {K : Act → World → Prop} {Q : Exit → Act → World → Prop} (t : TypeId) (m x : Operand) (hop : o.op = Op.mapEntry t m x) (b : Nat) (key v : Value) (hm : a.eval m = .map (some b)) (hx : a.eval x = key)
    (hrun : (Instr.mapEntry t (.map (some b)) key).run P w = .ok v w1) (hK : K (a.put o.dst v) w1) : Oper.wp P o a w K Q := by
  unfold Oper.wp
  simp [execOp, hop, hm, hx, hrun, Result.andThen]
  exact hK
theorem wpList_entryStore {ops : Array Oper} {rest : List Oper} {o : Oper} {a : Act} {Q : Exit → Act → World → Prop} {w w1 : World} (hg : o.guard = none) (t : TypeId) (m s x : Operand) (hop : o.op = Op.entryStore t m s x) (b : Nat) (st v : Value) (hm : a.eval m = .map (some b)) (hs : a.eval s = st) (hx : a.eval x = v)
    (hrun : (Instr.entryStore t (.map (some b)) st v).run P w = .ok () w1) (hK : wpList P ops Q rest (a.put o.dst undef) w1) : wpList P ops Q (o :: rest) a w := by
  refine wpList_plain hg fun K' hK' => ?_
  unfold Oper.wp
  simp [execOp, hop, hm, hs, hx, hrun, Result.andThen]
  exact hK' _ _ hK
/-- append of one element that a composite literal has just laid, as an operation: the list grows. -/
theorem wp_append_gq {α : Type} {R : World → (Nat → Prop) → List Value → α → Prop} (hR : Rd R) {o : Oper} {a : Act} {K : Act → World → Prop} {Q : Exit → Act → World → Prop} {W : World} (hgd : o.guard = none) (s x : Operand) (t : TypeId)
    (ho : o.op = .call { callee := .builtin .append, args := #[s, x], argTypes := #[t, t] })
    (Y : Nat → Prop) (base : Nat) (e : TypeId) (i : TypeInfo) (z : Value) (sz bytes : Nat) (ht : P.underlying t = some (.slice e)) (hi : P.info? e = some i) (hz : i.zero = some z)
    (hsize : i.size = sz) (hby : i.bytes = bytes) (hzs : z.cells.size = sz) (hsz : 0 < sz)
    (v : Value) (l : List α) (hs : a.eval s = v) (hg : Gq W Y base e sz R v l)
    (g : Nat) (hx : a.eval x = .slice (some ⟨g, 0, none⟩) 1 1) (ys : List Value) (hyl : ys.length = sz) (hcell : ∀ j u, ys[j]? = some u → W.cell? ⟨g, j, none⟩ = some u) (h1 : ∀ y ∈ ys, y.oneCell' = true)
    (y : α) (hy : R W (fun b => Y b ∧ b < W.heap.size ∧ v.ownBlock ≠ some b) ys y) (hY : ∀ b, W.heap.size ≤ b → Y b)
    (hn : l.length < 1099511627776) (hb100 : bytes ≤ 128) (hbase : base ≤ W.heap.size)
    (h : ∀ v' w', Gq w' Y base e sz R v' (l ++ [y]) → W.grownBy w' v.ownBlock → Below base W w' → K (a.put o.dst v') w') : Oper.wp P o a W K Q := by
  have hw : Region.wanted o (yielded #[] a.tmps) = true := by simp [Region.wanted, hgd]
  have := step_append_gq (P := P) (ops := #[]) (E := True) (Q := Q) hR hgd s x t ho Y base e i z sz bytes ht hi hz hsize hby hzs hsz v l hs hg g hx ys hyl hcell h1 y hy hY hn hb100 hbase h
  rwa [if_pos hw] at this
end
def CpE (B0 : Nat) (x : Evt) : World → Value → Prop := fun w v => ∃ B q, v = .agg #[.int .i64 x.a, .int .i64 x.b, .int .i64 x.c, .int .i64 x.d, .slice B x.vs.length q] ∧ Lst w (fun b => B0 ≤ b ∧ b < w.heap.size) 3 RV0 (.slice B x.vs.length q) x.vs
def LitE (B0 : Nat) (x : Evt) : World → Value → Prop := fun w v => ∃ g B q, v = .slice (some ⟨g, 0, none⟩) 1 1 ∧ B0 ≤ g ∧ (∀ j u, ([.int .i64 x.a, .int .i64 x.b, .int .i64 x.c, .int .i64 x.d, .slice B x.vs.length q] : List Value)[j]? = some u → w.cell? ⟨g, j, none⟩ = some u) ∧ Lst w (fun b => B0 ≤ b ∧ b < w.heap.size) 3 RV0 (.slice B x.vs.length q) x.vs
def EntP (t k : TypeId) (b N : Nat) (f : Value → Option Value) (key u : Value) : World → Value → Prop := fun w v => ∃ st : Nat, v = .tuple #[u, goInt st] ∧ Ent t k b N f key w st
def StP (t k : TypeId) (b N : Nat) (f : Value → Option Value) (key : Value) : World → Value → Prop := fun w v => ∃ st : Nat, v = goInt st ∧ Ent t k b N f key w st
section
variable {w w' : World} {B0 b N : Nat} {x : Evt} {v : Value} {t k : TypeId} {f : Value → Option Value} {key u : Value}
/-- Blocks behind B0 are as they were. -/
def UpK (B0 : Nat) (w w' : World) : Prop := w.heap.size ≤ w'.heap.size ∧ ∀ b, B0 ≤ b → b < w.heap.size → w'.heap[b]? = w.heap[b]?
theorem UpK.of_below (B0 : Nat) (h : Below w.heap.size w w') : UpK B0 w w' := ⟨h.size, fun b _ hb => h.block b hb⟩
theorem UpK.of_grown {row : Option Nat} (h : w.grownBy w' row) (hr : ∀ b, row = some b → b < B0) : UpK B0 w w' := ⟨h.size, fun b hb hlt => h.block b hlt fun e => by have := hr b e.symm; omega⟩
theorem UpK.kp (h : UpK B0 w w') : Kp (fun b => B0 ≤ b ∧ b < w.heap.size) w w' := ⟨h.1, fun b hb hlt => h.2 b hb.1 hlt⟩
theorem CpE.keep (h : CpE B0 x w v) (hk : UpK B0 w w') : CpE B0 x w' v := by
  obtain ⟨B, q, e, h⟩ := h
  exact ⟨B, q, e, (h.keep rd_V0 hk.kp).more rd_V0 fun b hb => ⟨hb.1, Nat.lt_of_lt_of_le hb.2 hk.1⟩⟩
theorem LitE.keep (h : LitE B0 x w v) (hk : UpK B0 w w') : LitE B0 x w' v := by
  obtain ⟨g, B, q, e, hg, hc, h⟩ := h
  refine ⟨g, B, q, e, hg, fun j u hu => ?_, (h.keep rd_V0 hk.kp).more rd_V0 fun b hb => ⟨hb.1, Nat.lt_of_lt_of_le hb.2 hk.1⟩⟩
  have hcj := hc j u hu
  have hlt := World.block_lt_of_cell? w _ hcj
  exact (World.cell?_of_block (w := w) (a := ⟨g, j, none⟩) (hk.2 g hg hlt)).trans hcj
theorem EntP.keep (h : EntP t k b N f key u w v) (hs : w.heap.size ≤ w'.heap.size) (e : ∀ hb : b < w.heap.size, w'.heap[b]? = w.heap[b]?) : EntP t k b N f key u w' v := by
  obtain ⟨st, e1, h⟩ := h
  exact ⟨st, e1, h.keep hs (e h.1)⟩
theorem StP.keep (h : StP t k b N f key w v) (hs : w.heap.size ≤ w'.heap.size) (e : ∀ hb : b < w.heap.size, w'.heap[b]? = w.heap[b]?) : StP t k b N f key w' v := by
  obtain ⟨st, e1, h⟩ := h
  exact ⟨st, e1, h.keep hs (e h.1)⟩
end
/-- What the operations of the region turn. -/
def Tr15 (mb : Nat) (row : Option Nat) (j : Nat) (w w' : World) : Prop := (j ≠ 5 ∧ j ≠ 7 ∧ Below w.heap.size w w') ∨ (j = 5 ∧ w.grownBy w' (some mb)) ∨ (j = 7 ∧ w.grownBy w' row)
/-- What they lean on. -/
def Iv15 (W0 : World) (mb : Nat) (row : Option Nat) (G : World → Prop) : Nat → World → Prop
  | 0 => fun w => ∀ b, b < W0.heap.size → b ≠ mb → row ≠ some b → w.heap[b]? = W0.heap[b]?
  | 1 => fun w => w.heap[mb]? = W0.heap[mb]?
  | 2 => G
  | _ + 3 => fun _ => True
def spI15 : Nat → List Nat := fun j => if j = 5 then [1] else if j = 7 then [2] else []
def us15 : Nat → List Nat := fun j => if j = 5 then [0, 1] else if j = 7 then [0, 2] else [0]
def sp15 : Nat → List Nat := fun j => if j = 7 then [3, 4] else []
end Go.Proofs.Ytbendimkejndiaa
