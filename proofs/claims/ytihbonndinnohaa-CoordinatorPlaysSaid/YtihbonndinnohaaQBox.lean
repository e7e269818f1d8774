/- Boxes of structs. -/
import Derived.Test.YtihbonndinnohaaQFits
import Derived.Test.YtihbonndinnohaaQRdy
import Derived.Deep.Cut
import Derived.Deep.CutRange
namespace Go.Proofs.Ytihbonndinnohaa
open Go.RowKit
set_option linter.unusedVariables false
set_option linter.unusedSimpArgs false
/-- The block b holds the cells xs, and more perhaps; it may be written. -/
structure Bl (w : World) (b : Nat) (xs : List Value) : Prop where
  c : ∀ j u, xs[j]? = some u → w.cell? ⟨b, j, none⟩ = some u
  f : ∀ j, w.frozen? ⟨b, j, none⟩ = false
  lt : b < w.heap.size
section
variable {w w' : World} {b : Nat} {xs : List Value}
theorem Bl.keep (h : Bl w b xs) (hb : Below w.heap.size w w') : Bl w' b xs :=
  ⟨fun j u hu => keep1 hb (h.c j u hu), fun j => ((bcell hb).2 b j h.lt).trans (h.f j), Nat.lt_of_lt_of_le h.lt hb.size⟩
theorem Bl.new (w : World) (xs : List Value) (t : TypeId) : Bl (w.alloc (.cells xs.toArray t)) w.heap.size xs :=
  ⟨cells_lit w xs t, fun j => step_frozen xs (Below.refl _ _) j, by simp⟩
theorem Bl.laid (h : Bl w b xs) (o : Obj) : Bl (w.alloc o) b xs := h.keep (below_laid o)
theorem Bl.far (h : Bl w b xs) {p : Addr} (hp : p.block ≠ b) (u : Value) : Bl (w.setCell p u) b xs := by
  have hb := Below.heap_setCell w p u b hp.symm
  exact ⟨fun j x hx => (World.cell?_of_block (w := w) (a := ⟨b, j, none⟩) hb).trans (h.c j x hx), fun j => (World.frozen?_of_block (w := w) (a := ⟨b, j, none⟩) hb).trans (h.f j), by simpa [World.setCell] using h.lt⟩
theorem Bl.put (h : Bl w b xs) {k : Nat} (hk : k < xs.length) (u : Value) : Bl (w.setCell ⟨b, k, none⟩ u) b (xs.set k u) := by
  refine ⟨fun j x hx => ?_, fun j => ?_, by simpa [World.setCell] using h.lt⟩
  · by_cases e : k = j
    · subst e
      rw [List.getElem?_set_self hk] at hx
      injection hx with hx
      subst hx
      exact World.cell?_setCell_same' _ _ _ (by rw [h.c k _ (List.getElem?_eq_getElem hk)]; rfl)
    · rw [List.getElem?_set_ne e] at hx
      exact (World.cell?_setCell_other _ _ _ _ (by intro hh; injection hh with _ hh _; exact e hh)).trans (h.c j x hx)
  · have := h.f j
    unfold World.frozen? at this ⊢
    simp only [World.setCell]
    rw [Array.getElem?_modify]
    rw [show (⟨b, j, none⟩ : Addr).block = b from rfl] at this
    rw [if_pos rfl]
    revert this
    cases w.heap[b]? with
    | none => simp
    | some o => cases o <;> simp
theorem Bl.undrew (h : Bl w.drew b xs) : Bl w b xs := ⟨h.c, h.f, h.lt⟩
theorem Bl.drew (h : Bl w b xs) : Bl w.drew b xs := ⟨h.c, h.f, h.lt⟩
/-- Behind a row that grows. -/
theorem Bl.grown (h : Bl w b xs) {row : Option Nat} (hg : w.grownBy w' row) (hne : row ≠ some b) : Bl w' b xs := by
  have hb := hg.block b h.lt (fun e => hne e.symm)
  exact ⟨fun j x hx => (World.cell?_of_block (w := w) (a := ⟨b, j, none⟩) hb).trans (h.c j x hx), fun j => (World.frozen?_of_block (w := w) (a := ⟨b, j, none⟩) hb).trans (h.f j), Nat.lt_of_lt_of_le h.lt hg.size⟩
end
/-- Zeros made by 'make': a list. -/
theorem made_lst {α : Type} {R : World → (Nat → Prop) → List Value → α → Prop} {w w' : World} {z : Array Value} {t : TypeId} {n sz b : Nat} {x : α} {Z : Nat → Prop} (hb : b = w.heap.size) (hz : z.size = sz) (hsz : 0 < sz) (hn : n ≤ maxLen)
    (hw : Below (w.alloc (.cells (madeCells z (n * sz)) t)).heap.size (w.alloc (.cells (madeCells z (n * sz)) t)) w') (hZ : Z b) (hx : R w' Z z.toList x) : Lst w' Z sz R (.slice (some ⟨b, 0, none⟩) n n) (List.replicate n x) := by
  subst hb
  refine ⟨⟨_, n, by rw [List.length_replicate], by rw [List.length_replicate]; exact Nat.le_refl _, by rw [List.length_replicate]; exact hn⟩, fun j hj => ?_⟩
  rw [List.length_replicate] at hj
  refine ⟨w.heap.size, 0, n, z.toList, by rw [List.length_replicate], hZ, by simpa using hz, fun c u hu => ?_, by rw [List.getElem_replicate]; exact hx⟩
  have hc : c < sz := by have := (List.getElem?_eq_some_iff.1 hu).1; simp at this; omega
  rw [hw.cell (p := ⟨w.heap.size, 0 + j * sz + c, none⟩) (by simp), World.cell?_alloc_at _ _ _ _ rfl]
  have hlt : j * sz + c < n * sz := by
    calc j * sz + c < j * sz + sz := by omega
      _ = (j + 1) * sz := by rw [Nat.succ_mul]
      _ ≤ n * sz := Nat.mul_le_mul_right _ (by omega)
  have hm : (j * sz + c) % sz = c := by rw [Nat.add_comm, Nat.add_mul_mod_self_right, Nat.mod_eq_of_lt hc]
  have hcz : c < z.size := by omega
  have hu' : z[c] = u := by
    obtain ⟨_, e⟩ := List.getElem?_eq_some_iff.1 hu
    simpa using e
  simp only [Nat.zero_add, madeCells, hz]
  simp [hlt, hm, hcz, hu']
theorem below_al {B : Nat} {a w : World} (h : Below B a w) (hB : B ≤ w.heap.size) (o : Obj) : Below B a (w.alloc o) := h.alloc hB o
theorem bA_alloc {a w : World} (h : Below a.heap.size a w) (o : Obj) : Below a.heap.size a (w.alloc o) := h.alloc h.size o
end Go.Proofs.Ytihbonndinnohaa
