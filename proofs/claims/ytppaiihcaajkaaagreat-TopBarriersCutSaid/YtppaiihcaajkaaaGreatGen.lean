/- General words: rows of integers and flags; what lies behind a call before which a block was laid. -/
import Derived.Test.YtppaiihcaajkaaaGreatBase
namespace Go.Proofs.YtppaiihcaajkaaaGreat
open Go.RowKit
set_option linter.unusedVariables false
set_option linter.unusedSimpArgs false

def ints (l : List Int) : List Value := l.map (Value.int .i64)
def bools (l : List Bool) : List Value := l.map Value.bool
theorem ints_app (l m : List Int) : ints (l ++ m) = ints l ++ ints m := List.map_append
theorem bools_app (l m : List Bool) : bools (l ++ m) = bools l ++ bools m := List.map_append

/-- Behind a call before which a block was laid. -/
theorem step_box {w1 w2 : World} (xs : List Value) {t : TypeId} (hb2 : Below (w1.alloc (.cells xs.toArray t)).heap.size (w1.alloc (.cells xs.toArray t)) w2) :
    Below w1.heap.size w1 w2 ∧ w1.heap.size < w2.heap.size ∧ ∀ j u, xs[j]? = some u → w2.cell? ⟨w1.heap.size, j, none⟩ = some u := by
  refine ⟨bthen ((Below.refl _ _).alloc (Nat.le_refl _) _) hb2, by have := hb2.size; simp at this; omega, fun j u hj => ?_⟩
  rw [hb2.cell (p := ⟨w1.heap.size, j, none⟩) (by simp)]
  exact cells_lit w1 xs t j u hj
theorem step_frozen {w1 w2 : World} (xs : List Value) {t : TypeId} (hb2 : Below (w1.alloc (.cells xs.toArray t)).heap.size (w1.alloc (.cells xs.toArray t)) w2) (j : Nat) : w2.frozen? ⟨w1.heap.size, j, none⟩ = false := by
  rw [hb2.frozen (p := ⟨w1.heap.size, j, none⟩) (by simp)]
  unfold World.frozen?
  rw [show (⟨w1.heap.size, j, none⟩ : Addr).block = w1.heap.size from rfl, heap_alloc_new]
  simp
theorem Row.grow {w w' : World} {sz n : Nat} {v : Value} {xs : List Value} (h : Row w w.heap.size sz v n xs) (hb : Below w.heap.size w w') : Row w' w'.heap.size sz v n xs := (h.below hb).more hb.size
theorem Row.laid {w : World} {sz n : Nat} {v : Value} {xs : List Value} (h : Row w w.heap.size sz v n xs) (o : Obj) : Row (w.alloc o) (w.alloc o).heap.size sz v n xs := h.grow ((Below.refl _ _).alloc (Nat.le_refl _) _)
theorem row_drew {W : World} {B sz n : Nat} {v : Value} {xs : List Value} (h : Row W B sz v n xs) : Row W.drew B sz v n xs := h
theorem below_undrew {B : Nat} {a w : World} (h : Below B a.drew w) : Below B a w := ⟨h.os, h.tape, h.output, h.size, h.block⟩
theorem keep1 {W w' : World} (hB : Below W.heap.size W w') {p : Addr} {v : Value} (h : W.cell? p = some v) : w'.cell? p = some v := (hB.cell (World.block_lt_of_cell? W _ h)).trans h
theorem toList_nil {s : ByteArray} : s.toList = [] ↔ s.size = 0 := by
  rw [Lib.toList_data]
  rcases s with ⟨⟨l⟩⟩
  cases l <;> simp [ByteArray.size]
/-- Two cells that are laid anew keep what lay below. -/
theorem below_laid {w : World} (o : Obj) : Below w.heap.size w (w.alloc o) := (Below.refl _ _).alloc (Nat.le_refl _) _
end Go.Proofs.YtppaiihcaajkaaaGreat
