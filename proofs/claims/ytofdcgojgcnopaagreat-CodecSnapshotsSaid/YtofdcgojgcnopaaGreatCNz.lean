/- No error of an encoder is 0; two lists with one encoding are equal. -/
import Derived.Test.YtofdcgojgcnopaaGreatCOpen
import Derived.Test.YtofdcgojgcnopaaGreatCAwake
import Derived.Test.YtofdcgojgcnopaaGreatCSame2
namespace Go.Proofs.YtofdcgojgcnopaaGreat
open Go.RowKit
set_option linter.unusedVariables false
set_option linter.unusedSimpArgs false
def Nz (r : Ex Bs) : Prop := ∀ c, r = .error c → c ≠ 0
theorem nz_ok (b : Bs) : Nz (.ok b) := fun c h => nomatch h
theorem nz_and {a b : Ex Bs} (ha : Nz a) (hb : Nz b) : Nz (andE a b) := by
  intro c h
  cases a with
  | error x => cases h; exact ha _ rfl
  | ok x =>
    cases b with
    | error y => cases h; exact hb _ rfl
    | ok y => cases h
theorem nz_many {α : Type} {f : α → Ex Bs} (h : ∀ x, Nz (f x)) : ∀ l, Nz (eMany f l)
  | [] => nz_ok _
  | x :: l => nz_and (h x) (nz_many h l)
theorem nz_L {α : Type} {f : α → Ex Bs} (h : ∀ x, Nz (f x)) (l : List α) : Nz (eL f l) := by
  unfold eL
  split
  · intro c hc; cases hc; decide
  · exact nz_and (nz_ok _) (nz_many h l)
theorem nz_N (n : Int) : Nz (eN n) := nz_ok _
theorem nz_V (x : V3) : Nz (eV x) := by
  unfold eV
  split
  · rename_i h; intro c hc; cases hc; exact h
  · split <;> exact nz_and (nz_N _) (by first | exact nz_and (nz_N _) (nz_ok _) | exact nz_N _)
theorem nz_Ev (x : Evt) : Nz (eEv x) := nz_and (nz_N _) (nz_and (nz_N _) (nz_and (nz_N _) (nz_and (nz_N _) (nz_L nz_V _))))
theorem nz_seal {r : Ex Bs} (h : Nz r) : Nz (sealE r) := by
  unfold sealE
  cases r with
  | error c => exact h
  | ok b => simp only; split; (intro c hc; cases hc; decide); exact nz_ok _
theorem nz_num {r : Ex Bs} (h : Nz r) : (∃ s, r = .ok s) ∨ (numE r != 0) = true := by
  cases r with
  | error c => exact .inr (bne_iff_ne.2 (h c rfl))
  | ok b => exact .inl ⟨b, rfl⟩
theorem seal_one {l k : List Evt} {s : Bs} (hl : ∀ x ∈ l, gEv x) (hk : ∀ x ∈ k, gEv x) (h1 : sealE (eL eEv l) = .ok s) (h2 : sealE (eL eEv k) = .ok s) : l = k := by
  have a := open_seal (inv_list inv_Ev) hl h1
  have b := open_seal (inv_list inv_Ev) hk h2
  rw [a] at b
  cases b
  rfl
theorem str_differ {l k : List Evt} {s t : Bs} (hl : ∀ x ∈ l, gEv x) (hk : ∀ x ∈ k, gEv x) (h1 : sealE (eL eEv l) = .ok s) (h2 : sealE (eL eEv k) = .ok t) : ((strE (sealE (eL eEv l))).toList == (strE (sealE (eL eEv k))).toList) = true ↔ l = k := by
  rw [beq_iff_eq]
  constructor
  · intro hq
    have := toList_inj hq
    rw [h1, h2] at this
    have e2 : s = t := by
      have := congrArg (fun x : ByteArray => x.data.toList) this
      simpa [strE] using this
    subst e2
    exact seal_one hl hk h1 h2
  · intro e; subst e; rfl
theorem Lst.grow {α : Type} {R : World → (Nat → Prop) → List Value → α → Prop} {w w' : World} {sz : Nat} {v : Value} {l : List α} (hR : Rd R) (h : Lst w (· < w.heap.size) sz R v l) (hb : Below w.heap.size w w') : Lst w' (· < w'.heap.size) sz R v l :=
  (h.keep hR (Kp.of_below hb)).more hR (fun _ h => Nat.lt_of_lt_of_le h hb.size)
end Go.Proofs.YtofdcgojgcnopaaGreat
