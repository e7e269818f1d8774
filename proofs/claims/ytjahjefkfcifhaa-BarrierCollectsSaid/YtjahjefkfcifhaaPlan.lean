/- A region that draws its order, walked by a plan: what each steady operation puts into its slot, and what the others do to the world. -/
import Derived.Test.YtjahjefkfcifhaaReg
namespace Go.Proofs.Ytjahjefkfcifhaa
open Go.RowKit
set_option linter.unusedVariables false
set_option linter.unusedSimpArgs false

def depOn (o : Oper) (j : Nat) : Bool := o.after.any fun e => e.on == j && Region.binds .any e
theorem dep_listed {ops : Array Oper} {listed : Array Bool} {i j : Nat} {o : Oper} (h : i ∈ Region.ready .any ops listed) (ho : ops[i]? = some o) (hd : depOn o j = true) : listed.getD j false = true := by
  obtain ⟨_, _, h3⟩ := ready_mem h
  unfold depOn at hd
  rw [Array.any_eq_true'] at hd
  obtain ⟨e, he, hb⟩ := hd
  simp only [Bool.and_eq_true, beq_iff_eq] at hb
  have := h3 o ho e he hb.2
  rwa [hb.1] at this

/-- What is known of the slots: those that came in, and those that steady operations have filled. -/
def Known (amb : Nat → Option Value) (fix : Nat → Option (Nat × Value)) (ls : Nat → Bool) (a : Act) : Prop :=
  (∀ s u, amb s = some u → slot a s = u) ∧ ∀ j d u, fix j = some (d, u) → ls j = true → slot a d = u
def upd (ls : Nat → Bool) (i : Nat) : Nat → Bool := fun j => if j = i then true else ls j
theorem upd_same (ls : Nat → Bool) (i : Nat) : upd ls i i = true := by simp [upd]
theorem upd_other {ls : Nat → Bool} {i j : Nat} (h : j ≠ i) : upd ls i j = ls j := by simp [upd, h]
theorem listed_upd {l : Array Bool} {i : Nat} (h : i < l.size) : (fun j => (l.setIfInBounds i true).getD j false) = upd (fun j => l.getD j false) i := by
  funext j
  unfold upd
  by_cases e : j = i
  · subst e; simp [h]
  · rw [if_neg e]
    simp only [Array.getD_eq_getD_getElem?, Array.getElem?_setIfInBounds, if_neg (Ne.symm e)]

section
variable {F : Fence} {n : Nat} {P : Program} {ops : Array Oper} {Q : Exit → Act → World → Prop}
theorem opIn_enter {i : Nat} {o : Oper} {a : Act} {w w' : World} {K : Act → World → Prop} {f : FuncId} {args : Array Value} (hF : ∀ f, F.fn f) (hdep : F.depth.isSome = false) (hi : ops[i]? = some o) (hg : o.guard = none) (hd : ∀ c, o.op ≠ .defer c)
    (hr : (execOp a.eval o).run P w = .ok (.enter f args) w') (h : CallsIn F (n - 1) P f args w' fun e w'' => ∃ v, e = .returned v ∧ K (a.put o.dst v) w'') : wpOpIn F n P ops Q i K a w := by
  unfold wpOpIn
  simp only [hi, Region.wanted, hg, if_true]
  refine ⟨fun f _ => hF f, ?_⟩
  rw [Oper.semAt_eq _ _ _ hd, hr]
  refine ⟨(fun hx => by rw [hdep] at hx; cases hx), h.mono ?_⟩
  rintro e w'' ⟨v, rfl, hk⟩
  exact hk

theorem region_plan {id : Nat} (hF : ∀ f, F.fn f) (hm : P.follows .mixedOrders = true) (N T : Nat) (hN : ops.size = N) (hac : acyB ops = true)
    (amb : Nat → Option Value) (fix : Nat → Option (Nat × Value)) (S : (Nat → Bool) → Act → World → Prop) (a : Act) (w : World) (hT : a.tmps.size = T)
    (hamb : ∀ s u, amb s = some u → slot a s = u) (hS0 : S (fun _ => false) a w.drew)
    (hfix : ∀ i d u, fix i = some (d, u) → i < N ∧ d < T ∧ amb d = none ∧ (∀ j d' u', fix j = some (d', u') → j ≠ i → d' ≠ d) ∧ ∃ o, ops[i]? = some o ∧ o.dst = some d ∧ o.guard = none ∧ (∀ c, o.op ≠ .defer c) ∧
      (∀ ls a w, Known amb fix ls a → (∀ j, depOn o j = true → ls j = true) → S ls a w → (execOp a.eval o).run P w = .ok (.value u) w))
    (hsteady : ∀ i d u, fix i = some (d, u) → ∀ ls a w, ls i = false → S ls a w → S (upd ls i) (a.put (some d) u) w)
    (hwrl : ∀ i, i < N → fix i = none → ∃ o, ops[i]? = some o ∧ (∀ d, o.dst = some d → amb d = none ∧ ∀ j d' u', fix j = some (d', u') → d' ≠ d) ∧
      ∀ ls a w, ls i = false → a.tmps.size = T → Known amb fix ls a → (∀ j, depOn o j = true → ls j = true) → S ls a w → ∀ K : Act → World → Prop, (∀ v w', S (upd ls i) (a.put o.dst v) w' → K (a.put o.dst v) w') → wpOpIn F n P ops Q i K a w)
    (hQ : ∀ ls a w, (∀ j, j < N → ls j = true) → a.tmps.size = T → Known amb fix ls a → S ls a w → Q .normal a w) :
    (Code.region id ops true).wpIn F n P Q a w := by
  have keep : ∀ {ls : Nat → Bool} {a : Act} (i : Nat) (dst : Option Nat) (v : Value), (∀ d, dst = some d → amb d = none ∧ ∀ j d' u', fix j = some (d', u') → j ≠ i → d' ≠ d) → (∀ d u, fix i = some (d, u) → dst = some d ∧ v = u ∧ d < a.tmps.size) →
      Known amb fix ls a → Known amb fix (upd ls i) (a.put dst v) := by
    intro ls a i dst v hd hi hk
    refine ⟨fun s u hs => ?_, fun j d u hj hl => ?_⟩
    · cases dst with
      | none => exact hk.1 s u hs
      | some d => rw [slot_other v (fun e => by rw [← e, (hd d rfl).1] at hs; cases hs)]; exact hk.1 s u hs
    · by_cases e : j = i
      · subst e
        obtain ⟨rfl, rfl, hlt⟩ := hi d u hj
        exact slot_same _ hlt
      · rw [upd_other e] at hl
        cases dst with
        | none => exact hk.2 j d u hj hl
        | some d' => rw [slot_other v (Ne.symm ((hd d' rfl).2 j d u hj e))]; exact hk.2 j d u hj hl
  refine wpIn_region_inv hm (fun listed a w => listed.size = N ∧ a.tmps.size = T ∧ Known amb fix (fun j => listed.getD j false) a ∧ S (fun j => listed.getD j false) a w) ?_ ?_ ?_
  · refine ⟨by simp [hN], hT, ⟨hamb, fun j d u _ hl => ?_⟩, ?_⟩
    · exfalso
      simp only [Array.getD_eq_getD_getElem?, Array.getElem?_replicate] at hl
      split at hl <;> simp at hl
    · have : (fun j => (Array.replicate ops.size false).getD j false) = fun _ => false := by
        funext j
        simp only [Array.getD_eq_getD_getElem?, Array.getElem?_replicate]
        split <;> rfl
      rw [this]; exact hS0
  · rintro listed a w i ⟨hls, hts, hk, hS⟩ hi K hK
    obtain ⟨hlt, hun, -⟩ := ready_mem hi
    rw [hN] at hlt
    have hsz : i < listed.size := by omega
    have hun' : listed.getD i false = false := by
      simp only [Array.getD_eq_getD_getElem?, Array.getElem?_eq_getElem hsz, Option.getD_some] at hun ⊢; exact hun
    cases hf : fix i with
    | some du =>
      obtain ⟨d, u⟩ := du
      obtain ⟨_, hdT, had, hoth, o, ho, hdst, hg, hdf, hrun⟩ := hfix i d u hf
      refine opIn_value hF ho hg hdf (hrun _ a w hk (fun j hj => dep_listed hi ho hj) hS) (hK _ _ ⟨by simpa using hls, by rw [size_put]; exact hts, ?_, ?_⟩)
      · rw [listed_upd hsz, hdst]
        exact keep i (some d) u (fun d' e => by cases e; exact ⟨had, hoth⟩) (fun d' u' e => by rw [hf] at e; cases e; exact ⟨rfl, rfl, by omega⟩) hk
      · rw [listed_upd hsz, hdst]
        exact hsteady i d u hf _ _ _ hun' hS
    | none =>
      obtain ⟨o, ho, hdst, hrun⟩ := hwrl i hlt hf
      refine hrun _ a w hun' hts hk (fun j hj => dep_listed hi ho hj) hS K fun v w' hS' => hK _ _ ⟨by simpa using hls, by rw [size_put]; exact hts, ?_, ?_⟩
      · rw [listed_upd hsz]
        exact keep i o.dst v (fun d e => ⟨(hdst d e).1, fun j d' u' hj _ => (hdst d e).2 j d' u' hj⟩) (fun d' u' e => by rw [hf] at e; cases e) hk
      · rw [listed_upd hsz]; exact hS'
  · rintro listed a w ⟨hls, hts, hk, hS⟩ hr
    exact hQ _ a w (fun j hj => all_listed hac (by omega) hr j (by omega)) hts hk hS
end
/-- All slots but those of ds, as they stand. -/
def ambA (ds : List Nat) (a : Act) : Nat → Option Value := fun s => if s ∈ ds then none else some (slot a s)
theorem amb_in {ds : List Nat} {a : Act} {s : Nat} (h : s ∈ ds) : ambA ds a s = none := if_pos h
theorem amb_out {ds : List Nat} {a : Act} {s : Nat} (h : ¬ s ∈ ds) : ambA ds a s = some (slot a s) := if_neg h
theorem amb_start {ds : List Nat} {a : Act} : ∀ s u, ambA ds a s = some u → slot a s = u := by
  intro s u hs
  unfold ambA at hs
  split at hs
  · cases hs
  · cases hs; rfl
theorem act_ext {a b : Act} (h : a.tmps.size = b.tmps.size) (hs : ∀ s, s < a.tmps.size → slot a s = slot b s) (hd : a.defers = b.defers) : a = b := by
  obtain ⟨ta, da⟩ := a
  obtain ⟨tb, db⟩ := b
  obtain rfl : da = db := hd
  congr 1
  apply Array.ext
  · exact h
  · intro i h1 h2
    have := hs i h1
    simp only [slot, Array.getD_eq_getD_getElem?, Array.getElem?_eq_getElem h1, Array.getElem?_eq_getElem h2, Option.getD_some] at this
    exact this
theorem defers_put {a : Act} {d : Option Nat} (v : Value) : (a.put d v).defers = a.defers := by cases d <;> rfl
end Go.Proofs.Ytjahjefkfcifhaa
