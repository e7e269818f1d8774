/- Of, of the reference. -/
import Derived.Test.YtkcbjnhphekadaaAOf3
namespace Go.Proofs.Ytkcbjnhphekadaa
open Go.RowKit
set_option linter.unusedVariables false
set_option linter.unusedSimpArgs false
theorem right_take {k : Int} {L : List V3} {j : Nat} (hj : j < L.length) (h : Right k (L.take j)) (hx : wrE k L[j].q L[j].n L[j].s.size = 0) : Right k (L.take (j + 1)) := by
  rw [List.take_succ_eq_append_getElem hj]
  intro x hm
  rcases List.mem_append.1 hm with h1 | h1
  · exact h x h1
  · rw [List.mem_singleton.1 h1]; exact hx
theorem ad_eq {k : Int} {a : A5} {x : V3} (hg : Good a) (hk : a.k = k) (hc : a.c < 4096) : adE a x = wrE k x.q x.n x.s.size := by
  unfold adE
  rw [if_neg (by simp [(good_iff a).2 hg]), hk]
  split
  · rfl
  · rename_i h; rw [if_neg (by omega)]; omega

section
variable (k : Int) (L : List V3) (o : V3) (w : World)
/-- What the loop of the reference's Of leaves. -/
def ROfInv (o : V3) (a : A5) (w wr : World) : Prop := Box3 wr w.heap.size o ∧ Box3 wr (w.heap.size + 1) V3.z ∧ Box5 wr (w.heap.size + 1 + 1) a ∧ Below w.heap.size w wr
theorem ROfInv.keep {o : V3} {x : A5} {w a b : World} (h : ROfInv o x w a) (hb : Below a.heap.size a b) : ROfInv o x w b :=
  ⟨h.1.keep hb, h.2.1.keep hb, h.2.2.1.keep hb, bthen h.2.2.2 hb⟩
theorem Box3.far {w : World} {F R : Nat} {a : V3} (h : Box3 w R a) (hne : F ≠ R) (v0 v1 v2 v3 v4 : Value) : Box3 (((((w.setCell ⟨F, 0, none⟩ v0).setCell ⟨F, 1, none⟩ v1).setCell ⟨F, 2, none⟩ v2).setCell ⟨F, 3, none⟩ v3).setCell ⟨F, 4, none⟩ v4) R a := by
  obtain ⟨⟨a0, a1, a2⟩, g0, g1, g2⟩ := h
  exact ⟨⟨(set5_far (p := ⟨R, 0, none⟩) hne).trans a0, (set5_far (p := ⟨R, 1, none⟩) hne).trans a1, (set5_far (p := ⟨R, 2, none⟩) hne).trans a2⟩, set5_frozen.trans g0, set5_frozen.trans g1, set5_frozen.trans g2⟩

end
end Go.Proofs.Ytkcbjnhphekadaa
