/- Two rows of own memory that grow side by side in a drawn region. Lists under way: rows of own memory in blocks of Y, whose elements read in blocks of Y beside the row's own; append of one element; a store into a row. -/
import Derived.Test.YtkcbjnhphekadaaXOrdA
import Derived.Test.YtkcbjnhphekadaaFKind2
namespace Go.Proofs.Ytkcbjnhphekadaa
open Go.RowKit Go.Maps Go.ChangeMaps Go.MapKept
set_option linter.unusedVariables false
set_option linter.unusedSimpArgs false
/-- What an operation of a drawn region yields. -/
def Fix (u : Value) : World → Value → Prop := fun _ v => v = u
/-- A literal of one element, with its block, from H on. -/
def LitH (H : Nat) (ys : List Value) : World → Value → Prop := fun w v => ∃ g te fr, v = .slice (some ⟨g, 0, none⟩) 1 1 ∧ H ≤ g ∧ w.heap[g]? = some (.cells ys.toArray te fr)
/-- Behind an append to the row of block p, below H. -/
def TrP (B : Nat) (p : Option Nat) (w w' : World) : Prop := w.grownBy w' p ∧ Below B w w'
/-- A grown row: where it lay, or from H on. -/
def RowP (B H : Nat) (te : TypeId) (sz : Nat) (p : Option Nat) (n : Nat) (xs : List Value) : World → Value → Prop := fun w v => w.ownsRow B te sz v n xs ∧ (v.ownBlock = p ∨ ∃ k, v.ownBlock = some k ∧ H ≤ k)
section
variable {w w' : World} {B H sz n : Nat} {te : TypeId} {p q : Option Nat} {v : Value} {xs ys : List Value}
theorem litH_below (h : LitH H ys w v) (hb : Below w.heap.size w w') : LitH H ys w' v := by
  obtain ⟨g, te, fr, e, hH, h1⟩ := h
  exact ⟨g, te, fr, e, hH, (hb.block g (Array.getElem?_eq_some_iff.1 h1).1).trans h1⟩
theorem litH_grown (h : LitH H ys w v) (ht : TrP B p w w') (hp : ∀ k, p = some k → k < H) : LitH H ys w' v := by
  obtain ⟨g, te, fr, e, hH, h1⟩ := h
  refine ⟨g, te, fr, e, hH, (ht.1.block g (Array.getElem?_eq_some_iff.1 h1).1 fun hh => ?_).trans h1⟩
  have := hp g hh.symm
  omega
theorem litH_new (w : World) (ys : List Value) (te : TypeId) (h : H ≤ w.heap.size) : LitH H ys (w.alloc (.cells ys.toArray te)) (.slice (some ⟨w.heap.size, 0, none⟩) 1 1) := ⟨w.heap.size, te, _, rfl, h, heap_alloc_new w _⟩
theorem rowP_below (h : RowP B H te sz p n xs w v) (hb : Below w.heap.size w w') : RowP B H te sz p n xs w' v := ⟨own_keep h.1 hb, h.2⟩
theorem rowP_grown (h : RowP B H te sz p n xs w v) (ht : TrP B q w w') (hne : p = none ∨ p ≠ q) (hq : ∀ k, q = some k → k < H) : RowP B H te sz p n xs w' v := by
  refine ⟨h.1.kept ht.1 ?_, h.2⟩
  rcases h.2 with e | ⟨k, e, hk⟩
  · rw [e]; exact hne
  · rw [e]; exact .inr fun hh => by have := hq k hh.symm; omega
theorem own_type_ne {te' : TypeId} {sz' n' : Nat} {u : Value} {xs' : List Value} (h : w.ownsRow B te sz v n xs) (h' : w.ownsRow B te' sz' u n' xs') (hne : te ≠ te') : v.ownBlock = none ∨ v.ownBlock ≠ u.ownBlock := by
  rcases h.2 with ⟨rfl, -⟩ | ⟨g, cap, cur, rfl, -, hg, -⟩
  · exact .inl rfl
  · rcases h'.2 with ⟨rfl, -⟩ | ⟨g', cap', cur', rfl, -, hg', -⟩
    · exact .inr (by simp [Value.ownBlock])
    · refine .inr fun e => ?_
      have e : g = g' := by simpa [Value.ownBlock] using e
      subst e
      rw [hg] at hg'
      injection hg' with h2
      injection h2 with _ h2 _
      exact hne h2
end
/-- Cells of a box below H stay. -/
theorem cell_grown {w w' : World} {B g c : Nat} {p : Option Nat} {x : Value} (hc : w.cell? ⟨g, c, none⟩ = some x) (ht : TrP B p w w') (hne : p ≠ some g) : w'.cell? ⟨g, c, none⟩ = some x :=
  (World.cell?_of_block (w := w) (a := ⟨g, c, none⟩) (ht.1.block g (World.block_lt_of_cell? w _ hc) fun e => hne e.symm)).trans hc
section
variable {P : Program}
/-- append of the element of a literal. -/
theorem wp_append_rowP {o : Oper} {a : Act} {K : Act → World → Prop} {Q : Exit → Act → World → Prop} {W : World} (s x : Operand) (t : TypeId)
    (ho : o.op = .call { callee := .builtin .append, args := #[s, x], argTypes := #[t, t] })
    (B H : Nat) (e : TypeId) (i : TypeInfo) (z : Value) (bytes : Nat) (ht : P.underlying t = some (.slice e)) (hi : P.info? e = some i) (hz : i.zero = some z)
    (ys : List Value) (hsize : i.size = ys.length) (hby : i.bytes = bytes) (hzs : z.cells.size = ys.length) (hsz : 0 < ys.length)
    (v : Value) (n : Nat) (xs : List Value) (hs : a.eval s = v) (hown : W.ownsRow B e ys.length v n xs)
    (u : Value) (hx : a.eval x = u) (hu : LitH H ys W u) (h1 : ∀ y ∈ ys, y.oneCell' = true)
    (hn : n < 1099511627776) (hb100 : bytes ≤ 128) (hbase : B ≤ W.heap.size) (hH : H ≤ W.heap.size)
    (h : ∀ v' w', RowP B H e ys.length v.ownBlock (n + 1) (xs ++ ys) w' v' → TrP B v.ownBlock W w' → K (a.put o.dst v') w') :
    Oper.wp P o a W K Q := by
  obtain ⟨g, te, fr, rfl, -, hgc⟩ := hu
  obtain ⟨v', w', hr, hown', hgr, h3, hat⟩ := run_append_own_at (P := P) W B t o.type e i z ys.length bytes ht hi hz hsize hby hzs hsz v _ _ hown ⟨g, 0, none⟩ 1 1 ys (by simp)
    (fun j u hj => by
      rw [show (⟨g, 0, none⟩ : Addr).add j = ⟨g, j, none⟩ by unfold Addr.add; split <;> simp_all]
      unfold World.cell?
      rw [show (⟨g, j, none⟩ : Addr).block = g from rfl, hgc]
      simpa using hj) h1 (by unfold maxLen; omega)
    (by calc (n + 1) * bytes ≤ 1099511627776 * 128 := Nat.mul_le_mul (by omega) hb100
          _ ≤ 140737488355328 := by omega) hbase
  have hbel : Below B W w' := (Below.refl B W).grown hgr hbase (fun k hk => (hown.lt k hk).1)
  have hfin := h v' w' ⟨hown', hat.imp id fun e => ⟨_, e, hH⟩⟩ ⟨hgr, hbel⟩
  unfold Oper.wp execOp
  simp only [ho, resolve, invoke, builtin, Sem.run_bind, Sem.run_pure, Result.andThen_ok, List.map_toArray, List.map_cons, List.map_nil, hs, hx, hr]
  exact hfin
end
/-- What a step of the region turns: operation 3 the row of block p, operation 8 that of block q. -/
def trV (B : Nat) (p q : Option Nat) (j : Nat) (w w' : World) : Prop := if j = 3 then TrP B p w w' else if j = 8 then TrP B q w w' else Below w.heap.size w w'
section
variable {B : Nat} {p q : Option Nat} {j : Nat} {w w' : World}
theorem trV_0 (h1 : j ≠ 3) (h2 : j ≠ 8) (h : Below w.heap.size w w') : trV B p q j w w' := by unfold trV; rw [if_neg h1, if_neg h2]; exact h
theorem trV_1 (h : TrP B p w w') : trV B p q 3 w w' := by unfold trV; rw [if_pos rfl]; exact h
theorem trV_2 (h : TrP B q w w') : trV B p q 8 w w' := by unfold trV; rw [if_neg (by decide), if_pos rfl]; exact h
theorem trV_cases (h : trV B p q j w w') : (j = 3 ∧ TrP B p w w') ∨ (j = 8 ∧ TrP B q w w') ∨ (j ≠ 3 ∧ j ≠ 8 ∧ Below w.heap.size w w') := by
  unfold trV at h
  by_cases h1 : j = 3
  · rw [if_pos h1] at h; exact .inl ⟨h1, h⟩
  · rw [if_neg h1] at h
    by_cases h2 : j = 8
    · rw [if_pos h2] at h; exact .inr (.inl ⟨h2, h⟩)
    · rw [if_neg h2] at h; exact .inr (.inr ⟨h1, h2, h⟩)
theorem trV_below (h : trV B p q j w w') (hB : B ≤ w.heap.size) : Below B w w' := by
  rcases trV_cases h with ⟨-, -, h⟩ | ⟨-, -, h⟩ | ⟨-, -, h⟩
  · exact h
  · exact h
  · exact h.mono hB
end
def spV : Nat → List Nat
  | _ => []
def spIV : Nat → List Nat
  | 3 => [0]
  | 8 => [1]
  | _ => []
def usV : Nat → List Nat
  | 1 => [2]
  | 3 => [0]
  | 6 => [2]
  | 8 => [1]
  | _ => []
/-- What holds of the world while the region runs: both rows, and the box of the value. -/
def IvV (B g : Nat) (T I : TypeId) (v u : Value) (n : Nat) (xs ks ys : List Value) : Nat → World → Prop
  | 0 => fun w => w.ownsRow B T 3 v n xs
  | 1 => fun w => w.ownsRow B I 1 u n ks
  | 2 => fun w => ∀ c y, ys[c]? = some y → w.cell? ⟨g, c, none⟩ = some y
  | _ => fun _ => True
/-- An owned row that is not empty: its address, and its cells. -/
theorem own_cellsN {w : World} {base : Nat} {e : TypeId} {v : Value} {n sz : Nat} {xs : List Value} (h : w.ownsRow base e sz v n xs) (hn : 0 < n) :
    ∃ g cap, v = .slice (some ⟨g, 0, none⟩) n cap ∧ base ≤ g ∧ g < w.heap.size ∧ n ≤ cap ∧ ∀ j u, xs[j]? = some u → w.cell? ⟨g, j, none⟩ = some u := by
  have hc := @World.ownsRow.cells w base e sz v n xs h
  rcases h.2 with ⟨_, h0⟩ | ⟨g, cap, cur, rfl, hb, hg, hnc, _⟩
  · omega
  · refine ⟨g, cap, rfl, hb, (Array.getElem?_eq_some_iff.1 hg).1, hnc, fun j u hu => ?_⟩
    have := hc (g := g) rfl j u hu
    rwa [show (⟨g, 0, none⟩ : Addr).add j = ⟨g, j, none⟩ by unfold Addr.add; split <;> simp_all] at this
/-- The function of an operation; c holds the first one. -/
def opF (op : Int) (c : Nat) : Value :=
  if op = 5 then fc 39 c else if op = 6 then fc 40 c else if op = 7 then fv 41 else if op = 8 then fv 42
  else if op = 10 then fv 43 else if op = 11 then fv 44 else fv 45
def FnOp (op : Int) : World → Value → Prop := fun w v => ∃ c, v = opF op c ∧ w.cell? ⟨c, 0, none⟩ = some (.func (.func 38) #[] #[])
theorem fnOp_below {op : Int} {w w' : World} {v : Value} (h : FnOp op w v) (hb : Below w.heap.size w w') : FnOp op w' v := by
  obtain ⟨c, e, hc⟩ := h
  exact ⟨c, e, keep1 hb hc⟩
def isOp (op : Int) : Prop := op = 5 ∨ op = 6 ∨ op = 7 ∨ op = 8 ∨ op = 10 ∨ op = 11 ∨ op = 12
theorem opz_look {w : World} {b : Nat} {op : Int} (h : Opz w b) (ho : isOp op) : ∃ v, (Instr.lookup 71 (.map (some b)) (.int .i64 op) false).run Try.prog w = .ok v w ∧ FnOp op w v := by
  obtain ⟨n, c, hown, hc⟩ := h
  have hz : (zeroValue 96).run Try.prog w = .ok .nilFunc w := by kernel_rfl
  have hw : (Lit.int .i64 op).wf = true := by rcases ho with rfl | rfl | rfl | rfl | rfl | rfl | rfl <;> decide
  obtain ⟨a5, a6, a7, a8, a10, a11, a12⟩ := opsD_at c (.held .nilFunc)
  rcases ho with rfl | rfl | rfl | rfl | rfl | rfl | rfl
  all_goals
    obtain ⟨v, ps, hrun, hv⟩ := hown.lookup int_key Try.underlying71 hz (zd := .held .nilFunc) (zp := []) rfl (keyOf_int_mk Try.underlying3 hw)
    refine ⟨v, hrun, c, ?_, hc⟩
    have he : DataW.held v = _ := (Prod.mk.inj (Option.some.inj hv)).1
    first | rw [a5] at he | rw [a6] at he | rw [a7] at he | rw [a8] at he | rw [a10] at he | rw [a11] at he | rw [a12] at he
    exact (DataW.held.inj he).trans (by simp [opF])
/-- What the walk leaves of a comparison of two values. -/
theorem eql_v3 {α : Type} (a b : V3) (T F : α) : (if a.q = b.q then if a.n = b.n then if a.s.toList = b.s.toList then T else F else F else F) = if eqQ a b = true then T else F := by
  have hs : a.s.toList = b.s.toList ↔ a.s = b.s := ⟨fun h => by
    rw [ByteArray.toList_eq, ByteArray.toList_eq] at h
    exact ByteArray.ext (Array.toList_inj.1 h), fun h => by rw [h]⟩
  unfold eqQ
  by_cases h1 : a.q = b.q <;> by_cases h2 : a.n = b.n <;> by_cases h3 : a.s = b.s <;> simp [h1, h2, h3, hs]
theorem wp_look {P : Program} {o : Oper} {a : Act} {w : World} {K : Act → World → Prop} {Q : Exit → Act → World → Prop} (m x : Operand) (t : TypeId) (hop : o.op = Op.lookup t m x false) (b : Nat) (key v : Value)
    (hm : a.eval m = .map (some b)) (hx : a.eval x = key) (hrun : (Instr.lookup t (.map (some b)) key false).run P w = .ok v w) (hK : K (a.put o.dst v) w) : Oper.wp P o a w K Q := by
  unfold Oper.wp
  simp [execOp, hop, hm, hx, hrun, Result.andThen]
  exact hK
theorem wp_look_op {o : Oper} {a : Act} {w : World} {K : Act → World → Prop} {Q : Exit → Act → World → Prop} (m x : Operand) (b : Nat) (op : Int) (hop : o.op = Op.lookup 71 m x false)
    (h : Opz w b) (ho : isOp op) (hm : a.eval m = .map (some b)) (hx : a.eval x = .int .i64 op) (hK : ∀ v, FnOp op w v → K (a.put o.dst v) w) : Oper.wp Try.prog o a w K Q := by
  obtain ⟨v, hrun, hv⟩ := opz_look h ho
  exact wp_look m x _ hop b _ v hm hx hrun (hK v hv)
/-- A call of a function value, and what it is: the function's own contract. -/
theorem wp_call_val {o : Oper} {a : Act} {w : World} {K : Act → World → Prop} {Q : Exit → Act → World → Prop} (f x y : Operand) (ts : Array TypeId) (hop : o.op = Op.call { callee := Callee.value f, args := #[x, y], argTypes := ts })
    (k : Nat) (cs : Array Value) (u v r : Value) (hf : a.eval f = .func (.func k) #[] cs) (hx : a.eval x = u) (hy : a.eval y = v)
    (hen : (callFunc k (#[] ++ #[u, v] ++ cs)).run Try.prog w = .ok (.enter k (#[u, v] ++ cs)) w)
    (hc : Calls Try.prog k (#[u, v] ++ cs) w (Ret r w)) (hK : ∀ w', Below w.heap.size w w' → K (a.put o.dst r) w') : Oper.wp Try.prog o a w K Q := by
  unfold Oper.wp
  have hr : (execOp a.eval o).run Try.prog w = .ok (.enter k (#[u, v] ++ cs)) w := by
    rw [← hen]
    simp only [execOp, hop, resolve, List.map_toArray, List.map_cons, List.map_nil, hf, hx, hy, Deferred.ofValue, invoke, Sem.run_bind, Sem.run_pure, Result.andThen_ok]
  rw [hr, Oper.upon_enter]
  refine hc.mono ?_
  rintro e w' ⟨rfl, hb⟩
  exact hK w' hb
theorem wp_call_op {o : Oper} {a : Act} {w : World} {K : Act → World → Prop} {Q : Exit → Act → World → Prop} (f x y : Operand) (op m n : Int) (hop : o.op = Op.call { callee := Callee.value f, args := #[x, y], argTypes := #[3, 3] })
    (F : Value) (hF : FnOp op w F) (ho : isOp op) (hf : a.eval f = F) (hx : a.eval x = .int .i64 m) (hy : a.eval y = .int .i64 n)
    (hK : ∀ w', Below w.heap.size w w' → K (a.put o.dst (V3.v (appQ op m n))) w') : Oper.wp Try.prog o a w K Q := by
  obtain ⟨c, rfl, hc⟩ := hF
  rcases ho with rfl | rfl | rfl | rfl | rfl | rfl | rfl
  · exact wp_call_val f x y _ hop 39 #[.pointer (some ⟨c, 0, none⟩)] _ _ _ (hf.trans (by simp [opF, fc, fv])) hx hy (by kernel_rfl) (op5_any w m n c hc) hK
  · exact wp_call_val f x y _ hop 40 #[.pointer (some ⟨c, 0, none⟩)] _ _ _ (hf.trans (by simp [opF, fc, fv])) hx hy (by kernel_rfl) (op6_any w m n c hc) hK
  · exact wp_call_val f x y _ hop 41 #[] _ _ _ (hf.trans (by simp [opF, fc, fv])) hx hy (by kernel_rfl) (op7_any w m n) hK
  · exact wp_call_val f x y _ hop 42 #[] _ _ _ (hf.trans (by simp [opF, fc, fv])) hx hy (by kernel_rfl) (op8_any w m n) hK
  · exact wp_call_val f x y _ hop 43 #[] _ _ _ (hf.trans (by simp [opF, fc, fv])) hx hy (by kernel_rfl) (op10_any w m n) hK
  · exact wp_call_val f x y _ hop 44 #[] _ _ _ (hf.trans (by simp [opF, fc, fv])) hx hy (by kernel_rfl) (op11_any w m n) hK
  · exact wp_call_val f x y _ hop 45 #[] _ _ _ (hf.trans (by simp [opF, fc, fv])) hx hy (by kernel_rfl) (op12_any w m n) hK
end Go.Proofs.Ytkcbjnhphekadaa

namespace Go.Proofs.Ytkcbjnhphekadaa
open Go.RowKit
set_option linter.unusedVariables false
set_option linter.unusedSimpArgs false
section
variable {w : World} {base : Nat} {te : TypeId} {sz n : Nat} {v : Value} {xs : List Value}
theorem own_set (h : w.ownsRow base te sz v n xs) {p : Addr} (hp : v.ownBlock ≠ some p.block) (u : Value) : (w.setCell p u).ownsRow base te sz v n xs := by
  refine h.kept (row := some p.block) ⟨rfl, rfl, rfl, by simp [World.setCell], fun k _ hk => Below.heap_setCell w p u k (fun hh => hk (by rw [hh]))⟩ ?_
  cases hv : v.ownBlock with
  | none => exact .inl rfl
  | some k => exact .inr (fun hh => hp (by rw [hv, ← hh]))
theorem own_form (h : w.ownsRow base te sz v n xs) : ∃ A cap, v = .slice A n cap := by
  rcases h.2 with ⟨rfl, h0⟩ | ⟨g, cap, cur, rfl, -⟩
  · exact ⟨none, 0, by rw [h0]⟩
  · exact ⟨_, _, rfl⟩
end
theorem own_cell {w : World} {base : Nat} {te : TypeId} {sz n g c : Nat} {xs : List Value} (h : w.ownsRow base te sz (.slice (some ⟨g, 0, none⟩) n c) n xs) {k : Nat} {u : Value} (hk : xs[k]? = some u) : w.cell? ⟨g, k, none⟩ = some u := by
  have := @World.ownsRow.cells w base te sz _ n xs h g rfl k u hk
  rwa [show (⟨g, 0, none⟩ : Addr).add k = ⟨g, k, none⟩ by unfold Addr.add; split <;> simp_all] at this
theorem row_lst {α : Type} {w : World} {base sz n : Nat} {te : TypeId} {R : World → (Nat → Prop) → List Value → α → Prop} {v : Value} {xs : List Value} {l : List α} {Z : Nat → Prop} (hsz : 0 < sz) (hn : n = l.length) (hm : l.length ≤ maxLen)
    (hown : w.ownsRow base te sz v n xs) (h : ∀ j (hj : j < l.length), ∃ ys, ys.length = sz ∧ (∀ c u, ys[c]? = some u → xs[j * sz + c]? = some u) ∧ R w Z ys l[j]) (hZ : ∀ k, v.ownBlock = some k → Z k) : Lst w Z sz R v l := by
  subst hn
  rcases hown.2 with ⟨rfl, h0⟩ | ⟨g, cap, cur, rfl, hb, hg, hnc, -⟩
  · exact ⟨⟨none, 0, by rw [h0], by omega, hm⟩, fun j hj => by omega⟩
  · refine ⟨⟨_, cap, rfl, hnc, hm⟩, fun j hj => ?_⟩
    obtain ⟨ys, h1, h2, h3⟩ := h j hj
    refine ⟨g, 0, cap, ys, rfl, hZ g rfl, h1, fun c u hu => ?_, h3⟩
    rw [Nat.zero_add]
    exact own_cell hown (h2 c u hu)
/-- The block b holds the cells xs, and more perhaps; it may be written. -/
structure Bl (w : World) (b : Nat) (xs : List Value) : Prop where
  c : ∀ j u, xs[j]? = some u → w.cell? ⟨b, j, none⟩ = some u
  f : ∀ j, w.frozen? ⟨b, j, none⟩ = false
  lt : b < w.heap.size
section
variable {w w' : World} {b : Nat} {xs : List Value}
theorem Bl.keep (h : Bl w b xs) (hb : Below w.heap.size w w') : Bl w' b xs :=
  ⟨fun j u hu => keep1 hb (h.c j u hu), fun j => ((bcell hb).2 b j h.lt).trans (h.f j), Nat.lt_of_lt_of_le h.lt hb.size⟩
theorem Bl.new (w : World) (xs : List Value) (t : TypeId) : Bl (w.alloc (.cells xs.toArray t)) w.heap.size xs :=
  ⟨cells_lit w xs t, fun j => step_frozen xs (Below.refl _ _) j, by simp⟩
theorem Bl.laid (h : Bl w b xs) (o : Obj) : Bl (w.alloc o) b xs := h.keep (below_laid o)
theorem Bl.far (h : Bl w b xs) {p : Addr} (hp : p.block ≠ b) (u : Value) : Bl (w.setCell p u) b xs := by
  have hb := Below.heap_setCell w p u b hp.symm
  exact ⟨fun j x hx => (World.cell?_of_block (w := w) (a := ⟨b, j, none⟩) hb).trans (h.c j x hx), fun j => (World.frozen?_of_block (w := w) (a := ⟨b, j, none⟩) hb).trans (h.f j), by simpa [World.setCell] using h.lt⟩
theorem Bl.put (h : Bl w b xs) {k : Nat} (hk : k < xs.length) (u : Value) : Bl (w.setCell ⟨b, k, none⟩ u) b (xs.set k u) := by
  refine ⟨fun j x hx => ?_, fun j => ?_, by simpa [World.setCell] using h.lt⟩
  · by_cases e : k = j
    · subst e
      rw [List.getElem?_set_self hk] at hx
      injection hx with hx
      subst hx
      exact World.cell?_setCell_same' _ _ _ (by rw [h.c k _ (List.getElem?_eq_getElem hk)]; rfl)
    · rw [List.getElem?_set_ne e] at hx
      exact (World.cell?_setCell_other _ _ _ _ (by intro hh; injection hh with _ hh _; exact e hh)).trans (h.c j x hx)
  · have := h.f j
    unfold World.frozen? at this ⊢
    simp only [World.setCell]
    rw [Array.getElem?_modify]
    rw [show (⟨b, j, none⟩ : Addr).block = b from rfl] at this
    rw [if_pos rfl]
    revert this
    cases w.heap[b]? with
    | none => simp
    | some o => cases o <;> simp
theorem Bl.undrew (h : Bl w.drew b xs) : Bl w b xs := ⟨h.c, h.f, h.lt⟩
theorem Bl.drew (h : Bl w b xs) : Bl w.drew b xs := ⟨h.c, h.f, h.lt⟩
/-- Behind a row that grows. -/
theorem Bl.grown (h : Bl w b xs) {row : Option Nat} (hg : w.grownBy w' row) (hne : row ≠ some b) : Bl w' b xs := by
  have hb := hg.block b h.lt (fun e => hne e.symm)
  exact ⟨fun j x hx => (World.cell?_of_block (w := w) (a := ⟨b, j, none⟩) hb).trans (h.c j x hx), fun j => (World.frozen?_of_block (w := w) (a := ⟨b, j, none⟩) hb).trans (h.f j), Nat.lt_of_lt_of_le h.lt hg.size⟩
end
def Gq {α : Type} (w : World) (Y : Nat → Prop) (base : Nat) (te : TypeId) (sz : Nat) (R : World → (Nat → Prop) → List Value → α → Prop) (v : Value) (l : List α) : Prop :=
  ∃ xs : List Value, w.ownsRow base te sz v l.length xs ∧ (∀ k, v.ownBlock = some k → Y k) ∧
    ∀ j (h : j < l.length), ∃ ys, ys.length = sz ∧ (∀ c u, ys[c]? = some u → xs[j * sz + c]? = some u) ∧ R w (fun b => Y b ∧ b < w.heap.size ∧ v.ownBlock ≠ some b) ys l[j]
section
variable {α : Type} {R : World → (Nat → Prop) → List Value → α → Prop} {w w' : World} {Y : Nat → Prop} {base sz : Nat} {te : TypeId} {v v' : Value} {l : List α}
theorem Gq.nil : Gq w Y base te sz R (.slice none 0 0) ([] : List α) := ⟨[], World.ownsRow_nil .., (fun k h => by cases h), fun j h => absurd h (Nat.not_lt_zero _)⟩
theorem Gq.form (h : Gq w Y base te sz R v l) : ∃ A cap, v = .slice A l.length cap := by
  obtain ⟨xs, hown, -⟩ := h
  exact own_form hown
theorem Gq.low (h : Gq w Y base te sz R v l) : ∀ k, v.ownBlock = some k → base ≤ k ∧ k < w.heap.size := by
  obtain ⟨xs, hown, -⟩ := h
  exact hown.lt
theorem Gq.inY (h : Gq w Y base te sz R v l) : ∀ k, v.ownBlock = some k → Y k := by
  obtain ⟨xs, -, hy, -⟩ := h
  exact hy
theorem Gq.keep (hR : Rd R) (h : Gq w Y base te sz R v l) (hb : Below w.heap.size w w') : Gq w' Y base te sz R v l := by
  obtain ⟨xs, hown, hy, hel⟩ := h
  refine ⟨xs, own_keep hown hb, hy, fun j hj => ?_⟩
  obtain ⟨ys, h1, h2, h3⟩ := hel j hj
  exact ⟨ys, h1, h2, hR.more (fun b hz => ⟨hz.1, Nat.lt_of_lt_of_le hz.2.1 hb.size, hz.2.2⟩) (hR.keep (Kp.of_below hb) h3)⟩
theorem Gq.undrew (h : Gq w.drew Y base te sz R v l) (hR : Rd R) : Gq w Y base te sz R v l := by
  obtain ⟨xs, hown, hy, hel⟩ := h
  refine ⟨xs, hown, hy, fun j hj => ?_⟩
  obtain ⟨ys, h1, h2, h3⟩ := hel j hj
  have h4 : R w (fun b => Y b ∧ b < w.drew.heap.size ∧ v.ownBlock ≠ some b) ys l[j] := hR.keep (w := w.drew) ⟨Nat.le_refl _, fun _ _ _ => rfl⟩ h3
  exact ⟨ys, h1, h2, h4⟩
theorem Gq.drew (h : Gq w Y base te sz R v l) (hR : Rd R) : Gq w.drew Y base te sz R v l := h.keep hR ((Below.refl _ _).drew)
/-- A store into a block outside of Y. -/
theorem Gq.set (hR : Rd R) (h : Gq w Y base te sz R v l) {b : Nat} (hb : ¬ Y b) (c : Nat) (u : Value) : Gq (w.setCell ⟨b, c, none⟩ u) Y base te sz R v l := by
  obtain ⟨xs, hown, hy, hel⟩ := h
  have hsz : (w.setCell ⟨b, c, none⟩ u).heap.size = w.heap.size := by simp [World.setCell]
  refine ⟨xs, own_set (p := ⟨b, c, none⟩) hown (fun e => hb (hy b e)) u, hy, fun j hj => ?_⟩
  obtain ⟨ys, h1, h2, h3⟩ := hel j hj
  refine ⟨ys, h1, h2, ?_⟩
  rw [hsz]
  exact hR.keep (Kp.set ⟨b, c, none⟩ u fun x hx => by show x ≠ b; rintro rfl; exact hb hx.1) h3
theorem Gq.lst (hR : Rd R) (hsz : 0 < sz) (h : Gq w Y base te sz R v l) (hm : l.length ≤ maxLen) : Lst w (fun b => Y b ∧ b < w.heap.size) sz R v l := by
  obtain ⟨xs, hown, hy, hel⟩ := h
  refine row_lst hsz rfl hm hown (fun j hj => ?_) (fun k hk => ⟨hy k hk, (hown.lt k hk).2⟩)
  obtain ⟨ys, h1, h2, h3⟩ := hel j hj
  exact ⟨ys, h1, h2, hR.more (fun b hb => ⟨hb.1, hb.2.1⟩) h3⟩
theorem Gq.less {Y' : Nat → Prop} (hR : Rd R) (h : Gq w Y base te sz R v l) (hY : ∀ b, Y b → b < w.heap.size → Y' b) : Gq w Y' base te sz R v l := by
  obtain ⟨xs, hown, hy, hel⟩ := h
  refine ⟨xs, hown, fun k hk => hY k (hy k hk) (hown.lt k hk).2, fun j hj => ?_⟩
  obtain ⟨ys, h1, h2, h3⟩ := hel j hj
  exact ⟨ys, h1, h2, hR.more (fun b hb => ⟨hY b hb.1 hb.2.1, hb.2⟩) h3⟩
/-- One element more. -/
theorem Gq.snoc (hR : Rd R) {xs ys : List Value} {x : α} (hown : w.ownsRow base te sz v l.length xs) (hy : ∀ k, v.ownBlock = some k → Y k)
    (hel : ∀ j (h : j < l.length), ∃ ys, ys.length = sz ∧ (∀ c u, ys[c]? = some u → xs[j * sz + c]? = some u) ∧ R w (fun b => Y b ∧ b < w.heap.size ∧ v.ownBlock ≠ some b) ys l[j])
    (hyl : ys.length = sz) (hx : R w (fun b => Y b ∧ b < w.heap.size ∧ v.ownBlock ≠ some b) ys x)
    (hown' : w'.ownsRow base te sz v' (l.length + 1) (xs ++ ys)) (hk : Kp (fun b => v.ownBlock ≠ some b) w w') (hat : v'.ownBlock = v.ownBlock ∨ ∃ k, v'.ownBlock = some k ∧ w.heap.size ≤ k) (hY : ∀ b, w.heap.size ≤ b → Y b) : Gq w' Y base te sz R v' (l ++ [x]) := by
  have hz : ∀ b, b < w.heap.size → v.ownBlock ≠ some b → v'.ownBlock ≠ some b := by
    intro b hb hne
    rcases hat with h | ⟨k, h, hkk⟩
    · rw [h]; exact hne
    · rw [h]; intro hh; injection hh with hh; omega
  have hkz : ∀ {zs : List Value} {y : α}, R w (fun b => Y b ∧ b < w.heap.size ∧ v.ownBlock ≠ some b) zs y → R w' (fun b => Y b ∧ b < w'.heap.size ∧ v'.ownBlock ≠ some b) zs y := fun h =>
    hR.more (fun b hb => ⟨hb.1, Nat.lt_of_lt_of_le hb.2.1 hk.1, hz b hb.2.1 hb.2.2⟩) (hR.keep (hk.less fun b hb => hb.2.2) h)
  refine ⟨xs ++ ys, by rw [List.length_append]; simpa using hown', fun k hkk => ?_, fun j hj => ?_⟩
  · rcases hat with h | ⟨k', h, h'⟩
    · rw [h] at hkk; exact hy k hkk
    · rw [h] at hkk; injection hkk with hkk; subst hkk; exact hY _ h'
  · by_cases hjl : j < l.length
    · obtain ⟨zs, h1, h2, h3⟩ := hel j hjl
      refine ⟨zs, h1, fun c u hu => ?_, ?_⟩
      · have := h2 c u hu
        rw [List.getElem?_append_left (List.getElem?_eq_some_iff.1 this).1]; exact this
      · rw [List.getElem_append_left hjl]; exact hkz h3
    · have hje : j = l.length := by rw [List.length_append] at hj; simp at hj; omega
      subst hje
      refine ⟨ys, hyl, fun c u hu => ?_, ?_⟩
      · rw [← hown.1, List.getElem?_append_right (by omega)]; simpa using hu
      · rw [List.getElem_append_right (Nat.le_refl _)]
        simp only [Nat.sub_self, List.getElem_cons_zero]
        exact hkz hx
end
section
variable {P : Program}
/-- append of one element that a composite literal has just laid. -/
theorem wpList_append_gq {α : Type} {R : World → (Nat → Prop) → List Value → α → Prop} (hR : Rd R) {ops : Array Oper} {rest : List Oper} {o : Oper} {a : Act} {Q : Exit → Act → World → Prop} {W : World} (hgd : o.guard = none) (s x : Operand) (t : TypeId)
    (ho : o.op = .call { callee := .builtin .append, args := #[s, x], argTypes := #[t, t] })
    (Y : Nat → Prop) (base : Nat) (e : TypeId) (i : TypeInfo) (z : Value) (sz bytes : Nat) (ht : P.underlying t = some (.slice e)) (hi : P.info? e = some i) (hz : i.zero = some z)
    (hsize : i.size = sz) (hby : i.bytes = bytes) (hzs : z.cells.size = sz) (hsz : 0 < sz)
    (v : Value) (l : List α) (hs : a.eval s = v) (hg : Gq W Y base e sz R v l)
    (g : Nat) (hx : a.eval x = .slice (some ⟨g, 0, none⟩) 1 1) (ys : List Value) (hyl : ys.length = sz) (hcell : ∀ j u, ys[j]? = some u → W.cell? ⟨g, j, none⟩ = some u) (h1 : ∀ y ∈ ys, y.oneCell' = true)
    (y : α) (hy : R W (fun b => Y b ∧ b < W.heap.size ∧ v.ownBlock ≠ some b) ys y) (hY : ∀ b, W.heap.size ≤ b → Y b)
    (hn : l.length < 1099511627776) (hb100 : bytes ≤ 128) (hbase : base ≤ W.heap.size)
    (h : ∀ v' w', Gq w' Y base e sz R v' (l ++ [y]) → W.grownBy w' v.ownBlock → Below base W w' → wpList P ops Q rest (a.put o.dst v') w') :
    wpList P ops Q (o :: rest) a W := by
  refine wpList_plain hgd fun K hK => ?_
  subst hyl
  obtain ⟨xs, hown, hyv, hel⟩ := hg
  obtain ⟨v', w', hr, hown', hgr, h3, hat⟩ := run_append_own_at (P := P) W base t o.type e i z ys.length bytes ht hi hz hsize hby hzs hsz v _ _ hown ⟨g, 0, none⟩ 1 1 ys (by simp)
    (fun j u hj => by
      rw [show (⟨g, 0, none⟩ : Addr).add j = ⟨g, j, none⟩ by unfold Addr.add; split <;> simp_all]
      exact hcell j u hj) h1 (by unfold maxLen; omega)
    (by calc (l.length + 1) * bytes ≤ 1099511627776 * 128 := Nat.mul_le_mul (by omega) hb100
          _ ≤ 140737488355328 := by omega) hbase
  have hbel : Below base W w' := (Below.refl base W).grown hgr hbase (fun k hk => (hown.lt k hk).1)
  have hfin := h v' w' (Gq.snoc hR hown hyv hel rfl hy hown' ⟨hgr.size, fun b hb hlt => hgr.block b hlt (fun e => hb e.symm)⟩ (by
    rcases hat with h | h
    · exact .inl h
    · exact .inr ⟨_, h, Nat.le_refl _⟩) hY) hgr hbel
  unfold Oper.wp execOp
  simp only [ho, resolve, invoke, builtin, Sem.run_bind, Sem.run_pure, Result.andThen_ok, List.map_toArray, List.map_cons, List.map_nil, hs, hx, hr]
  exact hK _ _ hfin
/-- append of one element that a composite literal has just laid, at a step of a drawn region: the list grows. -/
theorem step_append_gq {α : Type} {R : World → (Nat → Prop) → List Value → α → Prop} (hR : Rd R) {ops : Array Oper} {o : Oper} {a : Act} {K : Act → World → Prop} {Q : Exit → Act → World → Prop} {E : Prop} {W : World} (hgd : o.guard = none) (s x : Operand) (t : TypeId)
    (ho : o.op = .call { callee := .builtin .append, args := #[s, x], argTypes := #[t, t] })
    (Y : Nat → Prop) (base : Nat) (e : TypeId) (i : TypeInfo) (z : Value) (sz bytes : Nat) (ht : P.underlying t = some (.slice e)) (hi : P.info? e = some i) (hz : i.zero = some z)
    (hsize : i.size = sz) (hby : i.bytes = bytes) (hzs : z.cells.size = sz) (hsz : 0 < sz)
    (v : Value) (l : List α) (hs : a.eval s = v) (hg : Gq W Y base e sz R v l)
    (g : Nat) (hx : a.eval x = .slice (some ⟨g, 0, none⟩) 1 1) (ys : List Value) (hyl : ys.length = sz) (hcell : ∀ j u, ys[j]? = some u → W.cell? ⟨g, j, none⟩ = some u) (h1 : ∀ y ∈ ys, y.oneCell' = true)
    (y : α) (hy : R W (fun b => Y b ∧ b < W.heap.size ∧ v.ownBlock ≠ some b) ys y) (hY : ∀ b, W.heap.size ≤ b → Y b)
    (hn : l.length < 1099511627776) (hb100 : bytes ≤ 128) (hbase : base ≤ W.heap.size)
    (h : ∀ v' w', Gq w' Y base e sz R v' (l ++ [y]) → W.grownBy w' v.ownBlock → Below base W w' → K (a.put o.dst v') w') :
    if Region.wanted o (yielded ops a.tmps) = true then Oper.wp P o a W K Q else E := by
  have hw : Region.wanted o (yielded ops a.tmps) = true := by simp [Region.wanted, hgd]
  rw [if_pos hw]
  subst hyl
  obtain ⟨xs, hown, hyv, hel⟩ := hg
  obtain ⟨v', w', hr, hown', hgr, h3, hat⟩ := run_append_own_at (P := P) W base t o.type e i z ys.length bytes ht hi hz hsize hby hzs hsz v _ _ hown ⟨g, 0, none⟩ 1 1 ys (by simp)
    (fun j u hj => by
      rw [show (⟨g, 0, none⟩ : Addr).add j = ⟨g, j, none⟩ by unfold Addr.add; split <;> simp_all]
      exact hcell j u hj) h1 (by unfold maxLen; omega)
    (by calc (l.length + 1) * bytes ≤ 1099511627776 * 128 := Nat.mul_le_mul (by omega) hb100
          _ ≤ 140737488355328 := by omega) hbase
  have hbel : Below base W w' := (Below.refl base W).grown hgr hbase (fun k hk => (hown.lt k hk).1)
  have hfin := h v' w' (Gq.snoc hR hown hyv hel rfl hy hown' ⟨hgr.size, fun b hb hlt => hgr.block b hlt (fun e => hb e.symm)⟩ (by
    rcases hat with h | h
    · exact .inl h
    · exact .inr ⟨_, h, Nat.le_refl _⟩) hY) hgr hbel
  unfold Oper.wp execOp
  simp only [ho, resolve, invoke, builtin, Sem.run_bind, Sem.run_pure, Result.andThen_ok, List.map_toArray, List.map_cons, List.map_nil, hs, hx, hr]
  exact hfin
end
end Go.Proofs.Ytkcbjnhphekadaa
