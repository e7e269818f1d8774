/- Words for opened: what it returns. -/
import Derived.Test.YtofdcgojgcnopaaGreatDPlain
import Derived.Deep.QuietTactic
import Derived.BigQuiet
import Derived.Deep.Cut
namespace Go.Proofs.YtofdcgojgcnopaaGreat
open Go.RowKit
set_option linter.unusedVariables false
set_option linter.unusedSimpArgs false
theorem wrap_small {n : Int} (h : -9223372036854775808 ≤ n) (h' : n ≤ 9223372036854775807) : IntKind.i64.wrap n = n := by
  simp only [IntKind.wrap, IntKind.bits, IntKind.signed, Bool.true_and, decide_eq_true_eq, ge_iff_le]; split <;> omega
theorem results_ct {fn : Func} {p q : Tmp} {ty : TypeId} (h : fn.results = #[.cell p ty, .tmp q]) (tmps : Array Value) (P : Program) (w : World) :
    (results fn tmps).run P w = ((asAddr (tmps.getD p undef)).run P w).andThen fun a w₁ => ((loadVar ty a).run P w₁).andThen fun v w₂ => .ok (.tuple #[v, tmps.getD q undef]) w₂ := by
  simp only [results, h]
  simp [Sem.run_bind, Result.andThen]
theorem at_list {s : ByteArray} {l : Bs} (h : s.data.toList = l) (j : Nat) (u : UInt8) (hu : l[j]? = some u) (hj : j < s.size) : s[j] = u := by
  subst h
  rw [Array.getElem?_toList] at hu
  have e : s.data[j]? = some s[j] := Array.getElem?_eq_getElem hj
  rw [e] at hu
  exact Option.some.inj hu
theorem bstr_pre {s : ByteArray} {l r : Bs} (h : s.data.toList = l ++ r) : s.extract 0 l.length = bstr l := by
  have e := bstr_take (l ++ r) l.length
  rw [List.take_left' rfl, ← h, bstr_of] at e
  exact e
theorem bstr_list {l : Bs} {S : ByteArray} (h : bstr l = S) : (l = [] → S.toList = []) ∧ (l ≠ [] → S.toList ≠ []) := by
  subst h
  have e : (bstr l).toList = l := by rw [Lib.toList_data]; exact bstr_data l
  rw [e]
  exact ⟨id, id⟩
theorem Rw.new (w : World) (o : Bs) (t : TypeId) {F : Nat} (hF : w.heap.size = F) : Rw (w.alloc (.cells #[.string (bstr o), .int .i64 0] t)) F o 0 := by
  subst hF
  have h := cells_lit w [.string (bstr o), .int .i64 0] t
  refine ⟨h 0 _ rfl, h 1 _ rfl, ?_, ?_⟩ <;>
    (unfold World.frozen?; rw [show (⟨w.heap.size, _, none⟩ : Addr).block = w.heap.size from rfl, heap_alloc_new]; simp)
theorem Bo.lay {F : Nat} {w : World} (hF : w.heap.size ≠ F) (xs : List Value) (t : TypeId) : Bo F (w.alloc (.cells xs.toArray t)) w.heap.size xs :=
  ⟨hF, cells_lit w xs t, fun c _ => by
    unfold World.frozen?
    rw [show (⟨w.heap.size, c, none⟩ : Addr).block = w.heap.size from rfl, heap_alloc_new]
    simp⟩
theorem Bo.below {F : Nat} {w w' : World} {b : Nat} {x : Value} {xs : List Value} (h : Bo F w b (x :: xs)) (hB : Below w.heap.size w w') : Bo F w' b (x :: xs) := by
  have hb := hB.block b h.lt
  exact ⟨h.1, fun c u hu => (World.cell?_of_block (w := w) (a := ⟨b, c, none⟩) hb).trans (h.2.1 c u hu), fun c hc => (World.frozen?_of_block (w := w) (a := ⟨b, c, none⟩) hb).trans (h.2.2 c hc)⟩
theorem Bo.laid {F : Nat} {w : World} {b : Nat} {x : Value} {xs : List Value} (h : Bo F w b (x :: xs)) (ob : Obj) : Bo F (w.alloc ob) b (x :: xs) := h.below (below_laid ob)
theorem Bo.drewN {F : Nat} {w : World} {b : Nat} {xs : List Value} (h : Bo F w b xs) (n : Nat) : Bo F (w.drewN n) b xs := h
/-- What opened returns: the value read, or the zero value; the number of the error; nothing that lay in w has turned. -/
def OutR {α : Type} (R : (Nat → Prop) → World → Value → α → Prop) (z : Value) (w w' : World) (v : Value) (r : Ex α) : Prop := match r with | .ok x => R (w.heap.size ≤ ·) w' v x | .error _ => v = z
def RetO {α : Type} (R : (Nat → Prop) → World → Value → α → Prop) (z : Value) (r : Ex α) (w : World) (en : Ending) (w' : World) : Prop :=
  ∃ v, en = .returned (.tuple #[v, .int .i64 (codE r)]) ∧ Below w.heap.size w w' ∧ OutR R z w w' v r
def Opd {α : Type} (p : Ps α) (R : (Nat → Prop) → World → Value → α → Prop) (z : Value) (s : Bs) (w : World) (en : Ending) (w' : World) : Prop := RetO R z (openE p s) w en w'
section
variable {α : Type} {R : (Nat → Prop) → World → Value → α → Prop} {z : Value} {p : Ps α} {s : Bs} {w w' : World} {P : Program} {f : Nat} {args : Array Value}
theorem RetO.err {c : Int} {v : Value} (h : v = .tuple #[z, .int .i64 c]) (hb : Below w.heap.size w w') : RetO R z (.error c) w (.returned v) w' := ⟨z, by rw [h]; rfl, hb, rfl⟩
theorem RetO.ok {x : α} {v u : Value} (h : v = .tuple #[u, .int .i64 0]) (hr : R (w.heap.size ≤ ·) w' u x) (hb : Below w.heap.size w w') : RetO R z (.ok x) w (.returned v) w' := ⟨u, by rw [h]; rfl, hb, hr⟩
theorem calls_opd' {r : Ex α} (h : openE p s = r) (hc : Calls P f args w (RetO R z r w)) : Calls P f args w (Opd p R z s w) := by unfold Opd; rw [h]; exact hc
theorem calls_opd {c : Int} (h : openE p s = .error c) (hc : Calls P f args w (Ret (.tuple #[z, .int .i64 c]) w)) : Calls P f args w (Opd p R z s w) :=
  calls_opd' h (hc.mono fun _ _ ⟨he, hb⟩ => by subst he; exact RetO.err rfl hb)
end
/-- A box that was laid ahead of a reader. -/
theorem Bo.under {F : Nat} {w w1 : World} (xs : List Value) {x : Value} (t : TypeId) (hF : (w.alloc (.cells (x :: xs).toArray t)).heap.size ≤ F) (hb : Below (w.alloc (.cells (x :: xs).toArray t)).heap.size (w.alloc (.cells (x :: xs).toArray t)) w1) : Bo F w1 w.heap.size (x :: xs) :=
  (Bo.lay (F := F) (w := w) (by rw [World.size_alloc] at hF; omega) (x :: xs) t).below hb
theorem below_undrew' {B : Nat} {a w : World} (h : Below B a w) : Below B a w.drew := ⟨h.os, h.tape, h.output, h.size, h.block⟩
end Go.Proofs.YtofdcgojgcnopaaGreat
