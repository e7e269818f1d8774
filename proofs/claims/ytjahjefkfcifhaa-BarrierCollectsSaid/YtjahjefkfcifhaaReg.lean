/- A region that draws its order, walked by what holds of whatever has been carried out: one case an operation, not one an order. -/
import Derived.Test.YtjahjefkfcifhaaBase
import Derived.OwnWalkIn
import Derived.TacticsInMore
import Derived.OrdersIn
namespace Go.Proofs.Ytjahjefkfcifhaa
open Go.RowKit
set_option linter.unusedVariables false
set_option linter.unusedSimpArgs false

theorem filter_le {α : Type} (p q : α → Bool) (h : ∀ y, q y = true → p y = true) : ∀ (l : List α), (l.filter q).length ≤ (l.filter p).length
  | [] => Nat.le_refl _
  | z :: l => by
    have ih := filter_le p q h l
    rw [List.filter_cons, List.filter_cons]
    by_cases hz : q z = true
    · rw [if_pos hz, if_pos (h z hz)]; simpa using ih
    · rw [if_neg hz]
      by_cases hp : p z = true
      · rw [if_pos hp, List.length_cons]; omega
      · rw [if_neg hp]; exact ih
theorem filter_lt {α : Type} (p q : α → Bool) (h : ∀ y, q y = true → p y = true) (x : α) (hp : p x = true) (hq : ¬ q x = true) : ∀ (l : List α), x ∈ l → (l.filter q).length < (l.filter p).length
  | [], hx => by cases hx
  | y :: l, hx => by
    rw [List.filter_cons, List.filter_cons]
    rcases List.mem_cons.1 hx with rfl | hx
    · have := filter_le p q h l
      rw [if_neg hq, if_pos hp, List.length_cons]; omega
    · have ih := filter_lt p q h x hp hq l hx
      by_cases hz : q y = true
      · rw [if_pos hz, if_pos (h y hz)]; simpa using ih
      · rw [if_neg hz]
        by_cases hp : p y = true
        · rw [if_pos hp, List.length_cons]; omega
        · rw [if_neg hp]; exact ih

def unl (n : Nat) (listed : Array Bool) : Nat := ((List.range n).filter fun i => !listed.getD i true).length

theorem ready_mem {md : Region.Mode} {ops : Array Oper} {listed : Array Bool} {i : Nat} (h : i ∈ Region.ready md ops listed) :
    i < ops.size ∧ listed.getD i true = false ∧ ∀ o, ops[i]? = some o → ∀ e ∈ o.after, Region.binds md e = true → listed.getD e.on false = true := by
  unfold Region.ready at h
  obtain ⟨h1, h2⟩ := List.mem_filter.1 h
  simp only [Bool.and_eq_true, Bool.not_eq_true'] at h2
  refine ⟨List.mem_range.1 h1, h2.1, fun o ho e he hb => ?_⟩
  have h3 := h2.2
  rw [ho] at h3
  simp only [Option.map_some, Option.getD_some, Array.all_eq_true'] at h3
  have := h3 e he
  simpa [hb] using this

section
variable {F : Fence} {n : Nat} {P : Program} {md : Region.Mode} {ops : Array Oper} {Q : Exit → Act → World → Prop}
theorem wpAnyIn_inv (Inv : Array Bool → Act → World → Prop)
    (hstep : ∀ (listed : Array Bool) (a : Act) (w : World) (i : Nat), Inv listed a w → i ∈ Region.ready md ops listed →
      ∀ K : Act → World → Prop, (∀ a' w', Inv (listed.setIfInBounds i true) a' w' → K a' w') → wpOpIn F n P ops Q i K a w)
    (hdone : ∀ (listed : Array Bool) (a : Act) (w : World), Inv listed a w → Region.ready md ops listed = [] → Q .normal a w) :
    ∀ (fuel : Nat) (listed : Array Bool) (a : Act) (w : World), unl ops.size listed ≤ fuel → Inv listed a w → wpAnyIn F n P md ops Q fuel listed a w
  | 0, listed, a, w, hu, hI => by
    have hr : Region.ready md ops listed = [] := by
      have h0 : (List.range ops.size).filter (fun i => !listed.getD i true) = [] := List.eq_nil_of_length_eq_zero (by unfold unl at hu; omega)
      unfold Region.ready
      rw [List.filter_eq_nil_iff] at h0 ⊢
      intro i hi
      have := h0 i hi
      simp only [Bool.and_eq_true, not_and]
      intro h; exact absurd h this
    exact ⟨hr, hdone listed a w hI hr⟩
  | fuel + 1, listed, a, w, hu, hI => by
    refine ⟨fun hr => hdone listed a w hI hr, fun i hi => hstep listed a w i hI hi _ fun a' w' hI' => wpAnyIn_inv Inv hstep hdone fuel _ a' w' ?_ hI'⟩
    obtain ⟨h1, h2, _⟩ := ready_mem hi
    have hlt : i < listed.size := by
      rcases Nat.lt_or_ge i listed.size with h | h
      · exact h
      · rw [Array.getD_eq_getD_getElem?, Array.getElem?_eq_none h] at h2; simp at h2
    have : unl ops.size (listed.setIfInBounds i true) < unl ops.size listed := by
      unfold unl
      refine filter_lt (fun j => !listed.getD j true) (fun j => !(listed.setIfInBounds i true).getD j true) (fun y hy => ?_) i (by simp [h2]) ?_ _ (List.mem_range.2 h1)
      · by_cases e : i = y
        · subst e; simp [Array.getElem?_setIfInBounds, hlt] at hy
        · simpa [Array.getElem?_setIfInBounds, e] using hy
      · simp [Array.getElem?_setIfInBounds, hlt]
    omega

theorem opIn_value {i : Nat} {o : Oper} {a : Act} {w w' : World} {K : Act → World → Prop} {v : Value} (hF : ∀ f, F.fn f) (hi : ops[i]? = some o) (hg : o.guard = none) (hd : ∀ c, o.op ≠ .defer c)
    (hr : (execOp a.eval o).run P w = .ok (.value v) w') (h : K (a.put o.dst v) w') : wpOpIn F n P ops Q i K a w := by
  unfold wpOpIn
  simp only [hi, Region.wanted, hg, if_true]
  refine ⟨fun f _ => hF f, ?_⟩
  rw [Oper.semAt_eq _ _ _ hd, hr]
  exact h
theorem opIn_skip {i : Nat} {o : Oper} {a : Act} {w w' : World} {K : Act → World → Prop} (hF : ∀ f, F.fn f) (hi : ops[i]? = some o) (hg : o.guard = none) (hd : ∀ c, o.op ≠ .defer c)
    (hr : (execOp a.eval o).run P w = .ok .skip w') (h : K (a.put o.dst undef) w') : wpOpIn F n P ops Q i K a w := by
  unfold wpOpIn
  simp only [hi, Region.wanted, hg, if_true]
  refine ⟨fun f _ => hF f, ?_⟩
  rw [Oper.semAt_eq _ _ _ hd, hr]
  exact h
/-- A region that draws, within a round too. -/
theorem wpIn_region_inv {id : Nat} {a : Act} {w : World} (hm : P.follows .mixedOrders = true) (Inv : Array Bool → Act → World → Prop)
    (h0 : Inv (Array.replicate ops.size false) a w.drew)
    (hstep : ∀ (listed : Array Bool) (a : Act) (w : World) (i : Nat), Inv listed a w → i ∈ Region.ready .any ops listed →
      ∀ K : Act → World → Prop, (∀ a' w', Inv (listed.setIfInBounds i true) a' w' → K a' w') → wpOpIn F n P ops Q i K a w)
    (hdone : ∀ (listed : Array Bool) (a : Act) (w : World), Inv listed a w → Region.ready .any ops listed = [] → Q .normal a w) :
    (Code.region id ops true).wpIn F n P Q a w := by
  refine wpIn_region_any hm ?_
  refine wpAnyIn_inv Inv hstep hdone ops.size _ a _ ?_ h0
  unfold unl
  exact Nat.le_trans (List.length_filter_le _ _) (by simp)
end

/-- A slot. -/
def slot (a : Act) (s : Nat) : Value := a.tmps.getD s undef
theorem eval_slot (a : Act) (s : Nat) : a.eval (.tmp s) = slot a s := rfl
theorem slot_same {a : Act} {d : Nat} (v : Value) (h : d < a.tmps.size) : slot (a.put (some d) v) d = v := by simp [slot, Act.put, h]
theorem slot_other {a : Act} {d s : Nat} (v : Value) (h : d ≠ s) : slot (a.put (some d) v) s = slot a s := by
  simp only [slot, Act.put, Array.getD_eq_getD_getElem?, Array.getElem?_setIfInBounds, if_neg h]
theorem size_put {a : Act} {d : Option Nat} (v : Value) : (a.put d v).tmps.size = a.tmps.size := by cases d <;> simp [Act.put]

/-- Every edge that binds leads back. -/
def acyB (ops : Array Oper) : Bool := (List.range ops.size).all fun i => ((ops[i]?).map fun o => o.after.all fun e => !Region.binds .any e || decide (e.on < i)).getD true
theorem all_listed {ops : Array Oper} {listed : Array Bool} (ha : acyB ops = true) (hs : listed.size = ops.size) (hr : Region.ready .any ops listed = []) : ∀ i, i < ops.size → listed.getD i false = true := by
  intro i
  induction i using Nat.strongRecOn with
  | _ i ih =>
    intro hi
    cases hl : listed.getD i false with
    | true => rfl
    | false =>
      have hlt : listed.getD i true = false := by
        simp only [Array.getD_eq_getD_getElem?, Array.getElem?_eq_getElem (show i < listed.size by omega), Option.getD_some] at hl ⊢; exact hl
      have hm : i ∈ Region.ready .any ops listed := by
        unfold Region.ready
        refine List.mem_filter.2 ⟨List.mem_range.2 hi, ?_⟩
        rw [hlt]
        have hai := List.all_eq_true.1 ha i (List.mem_range.2 hi)
        rw [Array.getElem?_eq_getElem hi] at hai ⊢
        simp only [Option.map_some, Option.getD_some] at hai ⊢
        simp only [Bool.not_false, Bool.true_and]
        rw [Array.all_eq_true'] at hai ⊢
        intro e he
        have h2 := hai e he
        simp only [Bool.or_eq_true, Bool.not_eq_true', decide_eq_true_eq] at h2 ⊢
        rcases h2 with h2 | h2
        · exact .inl h2
        · exact .inr (ih e.on h2 (by omega))
      rw [hr] at hm
      cases hm
end Go.Proofs.Ytjahjefkfcifhaa
