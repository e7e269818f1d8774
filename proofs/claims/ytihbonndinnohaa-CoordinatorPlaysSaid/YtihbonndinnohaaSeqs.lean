/- What a function that is ranged over keeps, and what its yield leaves: general words. -/
import Derived.Test.YtihbonndinnohaaBase
import Derived.RangeFuncNested
import Derived.RangeFuncBound
import Derived.RangeFuncCalls
import Derived.RangeFuncLeaves
import Derived.RangeFuncWrites
import Derived.Shelf.Abstract
import Derived.Shelf.RegionOpen
import Derived.OwnWalkIn
import Derived.TacticsInMore
import Derived.LoopNIn
import Derived.LoopIn
import Derived.Stop.RegionWithIn
import Derived.Sort.QuietIn
namespace Go.Proofs.Ytihbonndinnohaa
open Go.RowKit Go.Shelf
set_option linter.unusedVariables false
set_option linter.unusedSimpArgs false
attribute [local go_sem] Oper.semAt_some

/-- The blocks of S lie as they lay. -/
def KeepS (S : Nat → Prop) (W W' : World) : Prop := ∀ k, S k → W'.heap[k]? = W.heap[k]?
section
variable {S : Nat → Prop} {A B C : World}
theorem KeepS.refl (W : World) : KeepS S W W := fun _ _ => rfl
theorem KeepS.trans (h : KeepS S A B) (k : KeepS S B C) : KeepS S A C := fun i hi => (k i hi).trans (h i hi)
theorem KeepS.drew (h : KeepS S A B) : KeepS S A B.drew := h
theorem KeepS.drewN (h : KeepS S A B) (n : Nat) : KeepS S A (B.drewN n) := h
theorem KeepS.setCell (h : KeepS S A B) {p : Addr} (hp : ∀ k, S k → k ≠ p.block) (v : Value) : KeepS S A (B.setCell p v) := h.trans fun k hk => Below.heap_setCell _ _ _ _ (hp k hk)
theorem KeepS.alloc (h : KeepS S A B) (hb : ∀ k, S k → k < B.heap.size) (o : Obj) : KeepS S A (B.alloc o) := h.trans fun k hk => Below.heap_alloc _ _ _ (hb k hk)
theorem KeepS.below (h : KeepS S A B) {n : Nat} (hb : ∀ k, S k → k < n) (hB : Below n B C) : KeepS S A C := h.trans fun k hk => hB.block k (hb k hk)
theorem KeepS.cell (h : KeepS S A B) {p : Addr} (hp : S p.block) : B.cell? p = A.cell? p := World.cell?_of_block (w := A) (h p.block hp)
theorem keepS_b {n : Nat} (hn : ∀ k, S k → k < n) (W : World) (l : Nat) (o o' : Obj) (hl : n ≤ l) (h : W.heap[l]? = some o) (_ : o.isCells = false) (_ : o.isWalk = false) : KeepS S W (W.putObj l o') :=
  fun k hk => (grownBy_putObj' W l o').block k (by have := (Array.getElem?_eq_some_iff.1 h).1; have := hn k hk; omega) (fun e => by injection e with e; have := hn k hk; omega)
end
/-- What a call of yield leaves: 'go on', or 'no more'. -/
def YP (J Jx : World → Prop) (S : Nat → Prop) (W1 : World) (b : Bool) (W' : World) : Prop := (b = true ∧ J W' ∧ KeepS S W1 W') ∨ (b = false ∧ Jx W')
theorem yp_of {J Jx : World → Prop} {S : Nat → Prop} {W1 : World} : ∀ (e : Ending) (W' : World), ((e = .returned (.bool true) ∧ J W' ∧ KeepS S W1 W') ∨ (e = .returned (.bool false) ∧ Jx W')) → ∃ b, e = .returned (.bool b) ∧ YP J Jx S W1 b W'
  | _, _, .inl ⟨he, h1, h2⟩ => ⟨true, he, .inl ⟨rfl, h1, h2⟩⟩
  | _, _, .inr ⟨he, h1⟩ => ⟨false, he, .inr ⟨rfl, h1⟩⟩
theorem YP.yes {J Jx : World → Prop} {S : Nat → Prop} {W1 W' : World} (h : YP J Jx S W1 true W') : J W' ∧ KeepS S W1 W' := by
  rcases h with ⟨_, h1, h2⟩ | ⟨h, _⟩
  · exact ⟨h1, h2⟩
  · cases h
theorem YP.no {J Jx : World → Prop} {S : Nat → Prop} {W1 W' : World} (h : YP J Jx S W1 false W') : Jx W' := by
  rcases h with ⟨h, _⟩ | ⟨_, h⟩
  · cases h
  · exact h
theorem grown_drewN (w : World) (n : Nat) : w.grownBy (w.drewN n) none := ⟨rfl, rfl, rfl, Nat.le_refl _, fun _ _ _ => rfl⟩
theorem grown_drew (w : World) : w.grownBy w.drew none := ⟨rfl, rfl, rfl, Nat.le_refl _, fun _ _ _ => rfl⟩

end Go.Proofs.Ytihbonndinnohaa
