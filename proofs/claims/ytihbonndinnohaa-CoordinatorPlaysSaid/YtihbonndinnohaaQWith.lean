/- coordinator.with: a coordinator with its own attempts. -/
import Derived.Test.YtihbonndinnohaaQWth
namespace Go.Proofs.Ytihbonndinnohaa
open Go.RowKit
set_option linter.unusedVariables false
set_option linter.unusedSimpArgs false
theorem bools_flat {w : World} {Z : Nat → Prop} : ∀ {ch : List (List Value)} {l : List Bool}, ch.length = l.length → (∀ j (hj : j < l.length), ∃ xs, ch[j]? = some xs ∧ xs.length = 1 ∧ RBq w Z xs l[j]) → ch.flatten = bools l
  | [], [], _, _ => rfl
  | [], _ :: _, h, _ => by simp at h
  | _ :: _, [], h, _ => by simp at h
  | x :: ch, b :: l, h, hx => by
    obtain ⟨xs, e, -, hr⟩ := hx 0 (by simp)
    simp at e
    subst e
    rw [List.flatten_cons, bools_flat (ch := ch) (l := l) (by simpa using h) (fun j hj => by
      obtain ⟨xs, e, h1, h2⟩ := hx (j + 1) (by simpa using hj)
      exact ⟨xs, by simpa using e, h1, by simpa using h2⟩)]
    have hr' : x = [.bool b] := hr
    rw [hr']; rfl
/-- The loop at round j. -/
def WI (w : World) (B : Nat → Prop) (c : Cq) (V : Value) (orig : List Value) (j : Nat) (wr : World) : Prop :=
  ∃ (xs : List Value) (s : Nat → Nat), wr.ownsRow w.heap.size 51 4 V c.atts.length xs ∧ (∀ i, j * 4 ≤ i → xs[i]? = orig[i]?) ∧ (∀ k, V.ownBlock = some k → k < s 0) ∧
    (∀ i (h : i < c.atts.length), i < j → s i ≤ s (i + 1) ∧ AtW wr B (s i) (s (i + 1)) xs i c.atts[i]) ∧ s j ≤ wr.heap.size ∧ w.heap.size ≤ s 0 ∧ s 0 ≤ s j ∧ Below w.heap.size w wr
theorem WI.step {w wr wo : World} {B : Nat → Prop} (hBw : ∀ b, B b → b < w.heap.size) {c : Cq} {g cap : Nat} {orig : List Value} {j : Nat} (h : WI w B c (.slice (some ⟨g, 0, none⟩) c.atts.length cap) orig j wr) (hj : j < c.atts.length) {a : Aq} (ha : c.atts[j] = a) (ob : Obj)
    {cr co ch : List (List Value)} {v u t : Value} {s1 s2 : Nat} (q1 : wr.heap.size + 1 ≤ s1) (q2 : s1 ≤ s2) (q3 : s2 ≤ wo.heap.size)
    (o1 : wo.ownsRow (wr.heap.size + 1) 68 6 v cr.length cr.flatten) (l1 : ∀ k, v.ownBlock = some k → k < s1) (o2 : wo.ownsRow s1 42 2 u co.length co.flatten) (l2 : ∀ k, u.ownBlock = some k → k < s2) (o3 : wo.ownsRow s2 4 1 t ch.length ch.flatten)
    (hb : Below (wr.alloc ob).heap.size (wr.alloc ob) wo) (e1 : cr.length = a.rds.length) (e2 : co.length = a.ops.length) (e3 : ch.length = a.hv.length)
    (r1 : ∀ j (hj : j < a.rds.length), ∃ xs, cr[j]? = some xs ∧ xs.length = 6 ∧ RRq w B xs a.rds[j]) (r2 : ∀ j (hj : j < a.ops.length), ∃ xs, co[j]? = some xs ∧ xs.length = 2 ∧ ROq w B xs a.ops[j])
    (r3 : ∀ j (hj : j < a.hv.length), ∃ xs, ch[j]? = some xs ∧ xs.length = 1 ∧ RBq w B xs a.hv[j]) (hq : inQ a.num) :
    WI w B c (.slice (some ⟨g, 0, none⟩) c.atts.length cap) orig (j + 1) ((((wo.setCell ⟨g, j * 4, none⟩ (.int .i64 a.num)).setCell ⟨g, j * 4 + 1, none⟩ v).setCell ⟨g, j * 4 + 2, none⟩ u).setCell ⟨g, j * 4 + 3, none⟩ t) := by
  obtain ⟨xs, s, h1, h2, h3, h4, h5, h6, h7, h8⟩ := h
  have hgs : g < s 0 := h3 g rfl
  have hgw : w.heap.size ≤ g := (h1.lt g rfl).1
  have hBg : ¬ B g := fun h => by have := hBw g h; omega
  have hb0 : Below wr.heap.size wr wo := bthen (below_laid ob) hb
  have hsz : ∀ (W : World) (p : Addr) (x : Value), (W.setCell p x).heap.size = W.heap.size := by intro W p x; simp [World.setCell]
  have hwo := hb0.size
  have hxl : xs.length = c.atts.length * 4 := h1.1
  have hK : Kp B wr wo := Kp.lowBelow hb0 (fun b hb => by have := hBw b hb; have := h8.size; omega)
  have hKw : Kp B w wo := (Kp.of_below h8).trans hK
  have row4 : ∀ {base : Nat} {te : TypeId} {sz n : Nat} {v' : Value} {ys : List Value}, g < base → wo.ownsRow base te sz v' n ys → ((((wo.setCell ⟨g, j * 4, none⟩ (.int .i64 a.num)).setCell ⟨g, j * 4 + 1, none⟩ v).setCell ⟨g, j * 4 + 2, none⟩ u).setCell ⟨g, j * 4 + 3, none⟩ t).ownsRow base te sz v' n ys :=
    fun hb h => own_set_lt (own_set_lt (own_set_lt (own_set_lt h (p := ⟨g, j * 4, none⟩) hb _) (p := ⟨g, j * 4 + 1, none⟩) hb _) (p := ⟨g, j * 4 + 2, none⟩) hb _) (p := ⟨g, j * 4 + 3, none⟩) hb _
  have kp4 : Kp B wo ((((wo.setCell ⟨g, j * 4, none⟩ (.int .i64 a.num)).setCell ⟨g, j * 4 + 1, none⟩ v).setCell ⟨g, j * 4 + 2, none⟩ u).setCell ⟨g, j * 4 + 3, none⟩ t) := by
    have hne : ∀ b, B b → b ≠ g := fun b hb => by rintro rfl; exact hBg hb
    exact (((Kp.set ⟨g, j * 4, none⟩ _ hne).trans (Kp.set ⟨g, j * 4 + 1, none⟩ _ hne)).trans (Kp.set ⟨g, j * 4 + 2, none⟩ _ hne)).trans (Kp.set ⟨g, j * 4 + 3, none⟩ _ hne)
  have hrow := own_put (own_put (own_put (own_put (own_keep h1 hb0) (k := j * 4) (by omega) (.int .i64 a.num)) (k := j * 4 + 1) (by omega) v) (k := j * 4 + 2) (by omega) u) (k := j * 4 + 3) (by omega) t
  refine ⟨_, fun i => if i ≤ j then s i else wo.heap.size, hrow, ?_, ?_, ?_, ?_, ?_, ?_, ?_⟩
  · intro i hi
    rw [List.getElem?_set_ne (by omega), List.getElem?_set_ne (by omega), List.getElem?_set_ne (by omega), List.getElem?_set_ne (by omega)]
    exact h2 i (by omega)
  · intro k hk; simp only [Nat.zero_le, if_true]; exact h3 k hk
  · intro i hi hij
    by_cases e : i = j
    · subst e
      have hne : ¬ i + 1 ≤ i := by omega
      simp only [Nat.le_refl, if_true, if_neg hne]
      refine ⟨by omega, ?_⟩
      rw [ha]
      refine ⟨v, u, t, s1, s2, cr.flatten, co.flatten, by omega, q2, q3, ?_, ?_, ?_, ?_, ?_, l1, ?_, l2, ?_, fun k hk => (o3.lt k hk).2, ?_, ?_, hq⟩
      · rw [List.getElem?_set_ne (by omega), List.getElem?_set_ne (by omega), List.getElem?_set_ne (by omega), List.getElem?_set_self (by omega)]
      · rw [List.getElem?_set_ne (by omega), List.getElem?_set_ne (by omega), List.getElem?_set_self (by simp; omega)]
      · rw [List.getElem?_set_ne (by omega), List.getElem?_set_self (by simp; omega)]
      · rw [List.getElem?_set_self (by simp; omega)]
      · rw [← e1]; exact own_more (row4 (by omega) o1) (by omega)
      · rw [← e2]; exact row4 (by omega) o2
      · rw [← e3, ← bools_flat e3 r3]; exact row4 (by omega) o3
      · exact (els_of e1 r1).keep rd_Rq (hKw.trans kp4)
      · exact (els_of e2 r2).keep rd_Oq (hKw.trans kp4)
    · have hi1 : i ≤ j := by omega
      have hi2 : i + 1 ≤ j := by omega
      simp only [if_pos hi1, if_pos hi2]
      obtain ⟨k1, k2⟩ := h4 i hi (by omega)
      have hlo : g < s i := by
        have : ∀ m, m ≤ i → s 0 ≤ s m := by
          intro m
          induction m with
          | zero => intro _; exact Nat.le_refl _
          | succ m ih => intro hm; exact Nat.le_trans (ih (by omega)) (h4 m (by omega) (by omega)).1
        exact Nat.lt_of_lt_of_le hgs (this i (Nat.le_refl _))
      refine ⟨k1, AtW.row ((((((k2.keep hb0 hK).set (p := ⟨g, j * 4, none⟩) hlo hBg _).set (p := ⟨g, j * 4 + 1, none⟩) hlo hBg _).set (p := ⟨g, j * 4 + 2, none⟩) hlo hBg _).set (p := ⟨g, j * 4 + 3, none⟩) hlo hBg _)) (fun c hc => ?_)⟩
      rw [List.getElem?_set_ne (by omega), List.getElem?_set_ne (by omega), List.getElem?_set_ne (by omega), List.getElem?_set_ne (by omega)]
  · have hne : ¬ j + 1 ≤ j := by omega
    simp only [if_neg hne, hsz]
    exact Nat.le_refl _
  · simp only [Nat.zero_le, if_true]; exact h6
  · have hne : ¬ j + 1 ≤ j := by omega
    simp only [Nat.zero_le, if_true, if_neg hne]
    omega
  · exact (((((h8.trans (hb0.mono h8.size)).setCell (p := ⟨g, j * 4, none⟩) hgw _).setCell (p := ⟨g, j * 4 + 1, none⟩) hgw _).setCell (p := ⟨g, j * 4 + 2, none⟩) hgw _).setCell (p := ⟨g, j * 4 + 3, none⟩) hgw _)
end Go.Proofs.Ytihbonndinnohaa
