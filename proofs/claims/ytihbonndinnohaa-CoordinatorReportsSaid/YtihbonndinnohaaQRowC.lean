/- A row whose element's four cells are set. -/
import Derived.Test.YtihbonndinnohaaQRowB
namespace Go.Proofs.Ytihbonndinnohaa
open Go.RowKit
set_option linter.unusedVariables false
set_option linter.unusedSimpArgs false
def RowG (L H : Nat) (nx du : Int) (m : Nat) (l : List Aq) : World → Value → Prop := fun w v => ∃ B q, v = .agg #[.int .i64 nx, .slice B m q, .int .i64 du] ∧ Gq w (fun b => b ≠ L + 1) H 51 4 RAq (.slice B m q) l
theorem stb_rowg {L H m : Nat} {nx du : Int} {l : List Aq} : Stb (RowG L H nx du m l) := fun _ _ _ hb ⟨B, q, e, h⟩ => ⟨B, q, e, h.keep rd_Aq hb⟩
def RowGB (L B : Nat) (nx du : Int) (m : Nat) (l : List Aq) : World → Value → Prop := fun w v => ∃ C q, v = .agg #[.int .i64 nx, .slice C m q, .int .i64 du] ∧ GqB w L B 51 4 RAq (.slice C m q) l
theorem stb_rowgb {L B m : Nat} {nx du : Int} {l : List Aq} : Stb (RowGB L B nx du m l) := fun _ _ _ hb ⟨C, q, e, h⟩ => ⟨C, q, e, h.below rd_Aq hb⟩
/-- The row's own block, and the elements that lie below L. -/
theorem GqB.gq {α : Type} {R : World → (Nat → Prop) → List Value → α → Prop} (hR : Rd R) {w : World} {L B sz : Nat} {te : TypeId} {v : Value} {l : List α} {Y : Nat → Prop} (h : GqB w L B te sz R v l) (hLB : L ≤ B) (hB : B ≤ w.heap.size) (hY : ∀ b, b < L → Y b) (hv : ∀ b, v.ownBlock = some b → Y b) : Gq w Y B te sz R v l := by
  obtain ⟨xs, hown, hel⟩ := h
  refine ⟨xs, hown, hv, fun j hj => ?_⟩
  obtain ⟨ys, h1, h2, h3⟩ := hel j hj
  exact ⟨ys, h1, h2, hR.more (fun b (hz : b < L) => ⟨hY b hz, by omega, fun e => by have := (hown.lt b e).1; omega⟩) h3⟩
theorem GqB.of_copy {α : Type} {R : World → (Nat → Prop) → List Value → α → Prop} (hR : Rd R) {w0 w : World} {B sz : Nat} {te : TypeId} {v : Value} {l : List α} {cells : List (List Value)} (hown : w.ownsRow B te sz v cells.length cells.flatten) (hlen : cells.length = l.length)
    (hel : ∀ j (hj : j < l.length), ∃ xs, cells[j]? = some xs ∧ xs.length = sz ∧ R w0 (· < w0.heap.size) xs l[j]) (hb : Below w0.heap.size w0 w) : GqB w w0.heap.size B te sz R v l := by
  refine ⟨cells.flatten, by rw [← hlen]; exact hown, fun j hj => ?_⟩
  obtain ⟨ys, h1, h2, h3⟩ := els_of hlen hel j hj
  exact ⟨ys, h1, h2, hR.keep (Kp.of_below hb) h3⟩
theorem gq_put4 {α : Type} {R : World → (Nat → Prop) → List Value → α → Prop} (hR : Rd R) {w : World} {Y : Nat → Prop} {base g c : Nat} {te : TypeId} {l : List α} (h : Gq w Y base te 4 R (.slice (some ⟨g, 0, none⟩) l.length c) l) {i : Nat} (hi : i < l.length) (x0 x1 x2 x3 : Value) (y : α) (hy : R w (fun b => Y b ∧ b < w.heap.size ∧ b ≠ g) [x0, x1, x2, x3] y) :
    Gq ((((w.setCell ⟨g, i * 4, none⟩ x0).setCell ⟨g, i * 4 + 1, none⟩ x1).setCell ⟨g, i * 4 + 2, none⟩ x2).setCell ⟨g, i * 4 + 3, none⟩ x3) Y base te 4 R (.slice (some ⟨g, 0, none⟩) l.length c) (l.set i y) := by
  obtain ⟨xs, hown, hY, hel⟩ := h
  have hxl : xs.length = l.length * 4 := hown.1
  have o4 := own_put (own_put (own_put (own_put hown (k := i * 4) (by omega) x0) (k := i * 4 + 1) (by omega) x1) (k := i * 4 + 2) (by omega) x2) (k := i * 4 + 3) (by omega) x3
  have hne : ∀ {Z : Nat → Prop}, (∀ b, Z b → b ≠ g) → Kp Z w ((((w.setCell ⟨g, i * 4, none⟩ x0).setCell ⟨g, i * 4 + 1, none⟩ x1).setCell ⟨g, i * 4 + 2, none⟩ x2).setCell ⟨g, i * 4 + 3, none⟩ x3) := fun hz =>
    (((Kp.set ⟨g, i * 4, none⟩ _ hz).trans (Kp.set ⟨g, i * 4 + 1, none⟩ _ hz)).trans (Kp.set ⟨g, i * 4 + 2, none⟩ _ hz)).trans (Kp.set ⟨g, i * 4 + 3, none⟩ _ hz)
  have hkr : Kp (fun b => Y b ∧ b < w.heap.size ∧ b ≠ g) w _ := hne fun b hz => hz.2.2
  refine ⟨_, by rw [List.length_set]; exact o4, hY, fun j hj => ?_⟩
  rw [List.length_set] at hj
  by_cases e : i = j
  · subst e
    refine ⟨[x0, x1, x2, x3], rfl, fun d u hu => ?_, ?_⟩
    · have hd : d < 4 := by have := (List.getElem?_eq_some_iff.1 hu).1; simpa using this
      have hd' : d = 0 ∨ d = 1 ∨ d = 2 ∨ d = 3 := by omega
      rcases hd' with rfl | rfl | rfl | rfl
      · rw [List.getElem?_set_ne (by omega), List.getElem?_set_ne (by omega), List.getElem?_set_ne (by omega), Nat.add_zero, List.getElem?_set_self (by omega)]; exact hu
      · rw [List.getElem?_set_ne (by omega), List.getElem?_set_ne (by omega), List.getElem?_set_self (by rw [List.length_set]; omega)]; exact hu
      · rw [List.getElem?_set_ne (by omega), List.getElem?_set_self (by rw [List.length_set, List.length_set]; omega)]; exact hu
      · rw [List.getElem?_set_self (by rw [List.length_set, List.length_set, List.length_set]; omega)]; exact hu
    · rw [List.getElem_set_self]
      exact hR.more (fun b hz => ⟨hz.1, Nat.lt_of_lt_of_le hz.2.1 hkr.1, fun e => by cases e; exact hz.2.2 rfl⟩) (hR.keep hkr hy)
  · obtain ⟨ys, h1, h2, h3⟩ := hel j hj
    refine ⟨ys, h1, fun d u hu => ?_, ?_⟩
    · have hd : d < 4 := by have := (List.getElem?_eq_some_iff.1 hu).1; omega
      rw [List.getElem?_set_ne (by omega), List.getElem?_set_ne (by omega), List.getElem?_set_ne (by omega), List.getElem?_set_ne (by omega)]
      exact h2 d u hu
    · rw [List.getElem_set_ne e]
      have hk2 : Kp (fun b => Y b ∧ b < w.heap.size ∧ (Value.slice (some ⟨g, 0, none⟩) l.length c).ownBlock ≠ some b) w _ := hne fun b hz e => hz.2.2 (by subst e; rfl)
      exact hR.more (fun b hz => ⟨hz.1, Nat.lt_of_lt_of_le hz.2.1 hk2.1, hz.2.2⟩) (hR.keep hk2 h3)
end Go.Proofs.Ytihbonndinnohaa
