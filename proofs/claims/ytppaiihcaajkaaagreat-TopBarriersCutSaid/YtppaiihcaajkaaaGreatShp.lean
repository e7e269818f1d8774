/- Data in memory: lists of structs, which hold lists of structs; what keeps them; how an argument opens. -/
import Derived.Test.YtppaiihcaajkaaaGreatGen
import Derived.Deep.Slices
namespace Go.Proofs.YtppaiihcaajkaaaGreat
open Go.RowKit
set_option linter.unusedVariables false
set_option linter.unusedSimpArgs false
/-- Blocks of Z are as they were. -/
def Kp (Z : Nat → Prop) (w w' : World) : Prop := w.heap.size ≤ w'.heap.size ∧ ∀ b, Z b → b < w.heap.size → w'.heap[b]? = w.heap[b]?
section
variable {Z Y : Nat → Prop} {w w' w'' : World}
theorem Kp.refl : Kp Z w w := ⟨Nat.le_refl _, fun _ _ _ => rfl⟩
theorem Kp.trans (h : Kp Z w w') (h' : Kp Z w' w'') : Kp Z w w'' := ⟨Nat.le_trans h.1 h'.1, fun b hz hb => (h'.2 b hz (Nat.lt_of_lt_of_le hb h.1)).trans (h.2 b hz hb)⟩
theorem Kp.less (h : Kp Z w w') (hs : ∀ b, Y b → Z b) : Kp Y w w' := ⟨h.1, fun b hz hb => h.2 b (hs b hz) hb⟩
theorem Kp.of_below (h : Below w.heap.size w w') : Kp Z w w' := ⟨h.size, fun b _ hb => h.block b hb⟩
theorem Kp.lowBelow {B : Nat} (h : Below B w w') (hz : ∀ b, Z b → b < B) : Kp Z w w' := ⟨h.size, fun b hb _ => h.block b (hz b hb)⟩
theorem Kp.cell (h : Kp Z w w') {p : Addr} {v : Value} (hz : Z p.block) (hc : w.cell? p = some v) : w'.cell? p = some v := by
  have hb := World.block_lt_of_cell? w _ hc
  unfold World.cell? at hc ⊢
  rw [h.2 _ hz hb]; exact hc
theorem Kp.set (a : Addr) (u : Value) (hz : ∀ b, Z b → b ≠ a.block) : Kp Z w (w.setCell a u) := by
  refine ⟨by simp [World.setCell], fun b hb _ => ?_⟩
  have := hz b hb
  simp only [World.setCell]
  rw [Array.getElem?_modify]
  simp [Ne.symm this]
theorem Kp.alloc (o : Obj) : Kp Z w (w.alloc o) := Kp.of_below (below_laid o)
end

/-- v is a list: element j lies in sz cells that read as l[j]. -/
def Lst {α : Type} (w : World) (Z : Nat → Prop) (sz : Nat) (R : World → (Nat → Prop) → List Value → α → Prop) (v : Value) (l : List α) : Prop :=
  (∃ A cap, v = .slice A l.length cap ∧ l.length ≤ cap ∧ l.length ≤ maxLen) ∧
  ∀ j (h : j < l.length), ∃ g off cap xs, v = .slice (some ⟨g, off, none⟩) l.length cap ∧ Z g ∧ xs.length = sz ∧ (∀ c u, xs[c]? = some u → w.cell? ⟨g, off + j * sz + c, none⟩ = some u) ∧ R w Z xs l[j]
/-- What reads stays, where the blocks stay; and in more blocks. -/
structure Rd {α : Type} (R : World → (Nat → Prop) → List Value → α → Prop) : Prop where
  keep : ∀ {w w' Z xs x}, Kp Z w w' → R w Z xs x → R w' Z xs x
  more : ∀ {w Z Y xs x}, (∀ b, Z b → Y b) → R w Z xs x → R w Y xs x
section
variable {α : Type} {R : World → (Nat → Prop) → List Value → α → Prop} {Z Y : Nat → Prop} {w w' : World} {sz : Nat} {v : Value} {l : List α}
theorem Lst.keep (hR : Rd R) (hk : Kp Z w w') (h : Lst w Z sz R v l) : Lst w' Z sz R v l := by
  refine ⟨h.1, fun j hj => ?_⟩
  obtain ⟨g, off, cap, xs, e, hz, hl, hc, hr⟩ := h.2 j hj
  exact ⟨g, off, cap, xs, e, hz, hl, fun c u hu => hk.cell (p := ⟨g, _, none⟩) hz (hc c u hu), hR.keep hk hr⟩
theorem Lst.more (hR : Rd R) (hs : ∀ b, Z b → Y b) (h : Lst w Z sz R v l) : Lst w Y sz R v l := by
  refine ⟨h.1, fun j hj => ?_⟩
  obtain ⟨g, off, cap, xs, e, hz, hl, hc, hr⟩ := h.2 j hj
  exact ⟨g, off, cap, xs, e, hs _ hz, hl, hc, hR.more hs hr⟩
theorem Lst.form (h : Lst w Z sz R v l) : ∃ A cap, v = .slice A l.length cap := by obtain ⟨A, cap, e, -⟩ := h.1; exact ⟨A, cap, e⟩
theorem Lst.len (h : Lst w Z sz R v l) : l.length ≤ maxLen := by obtain ⟨A, cap, e, -, h⟩ := h.1; exact h
theorem Lst.nil : Lst w Z sz R (.slice none 0 0) ([] : List α) := ⟨⟨none, 0, rfl, Nat.le_refl _, Nat.zero_le _⟩, fun j hj => absurd hj (Nat.not_lt_zero _)⟩
/-- The element at an index. -/
theorem Lst.at_ {A : Option Addr} {n cap : Nat} (h : Lst w Z sz R (.slice A n cap) l) {j : Nat} (hj : j < l.length) : ∃ g off xs, A = some ⟨g, off, none⟩ ∧ Z g ∧ xs.length = sz ∧ (∀ c u, xs[c]? = some u → w.cell? ⟨g, off + j * sz + c, none⟩ = some u) ∧ R w Z xs l[j] := by
  obtain ⟨g, off, cap', xs, e, hz, hl, hc, hr⟩ := h.2 j hj
  cases e
  exact ⟨g, off, xs, rfl, hz, hl, hc, hr⟩
theorem Lst.at1 {g off n cap : Nat} (h : Lst w Z sz R (.slice (some ⟨g, off, none⟩) n cap) l) {j : Nat} (hj : j < l.length) : Z g ∧ ∃ xs, xs.length = sz ∧ (∀ c u, xs[c]? = some u → w.cell? ⟨g, off + j * sz + c, none⟩ = some u) ∧ R w Z xs l[j] := by
  obtain ⟨g', off', xs, e, hz, hl, hc, hr⟩ := h.at_ hj
  cases e
  exact ⟨hz, xs, hl, hc, hr⟩
theorem lst_rd (hR : Rd R) (sz : Nat) : Rd (fun w Z (xs : List Value) (l : List α) => ∃ v, xs = [v] ∧ Lst w Z sz R v l) :=
  ⟨fun hk ⟨v, e, h⟩ => ⟨v, e, h.keep hR hk⟩, fun hs ⟨v, e, h⟩ => ⟨v, e, h.more hR hs⟩⟩
/-- A row of own memory, of n elements that read as l. -/
theorem Lst.of_own {base : Nat} {te : TypeId} (hsz : 0 < sz) {cells : List (List Value)} (hown : w.ownsRow base te sz v l.length cells.flatten) (hz : ∀ b, base ≤ b → Z b) (hlen : cells.length = l.length) (hm : l.length ≤ maxLen)
    (hR : ∀ j (h : j < l.length), ∃ xs, cells[j]? = some xs ∧ xs.length = sz ∧ R w Z xs l[j]) : Lst w Z sz R v l := by
  have hc := @World.ownsRow.cells w base te sz v l.length _ hown
  have hall : ∀ xs ∈ cells, xs.length = sz := by
    intro xs hx
    obtain ⟨j, hj, rfl⟩ := List.getElem_of_mem hx
    obtain ⟨xs', e, hl, -⟩ := hR j (by omega)
    rw [List.getElem?_eq_getElem hj] at e
    cases e
    exact hl
  have hflat : ∀ (cs : List (List Value)) (j : Nat) (xs : List Value), (∀ x ∈ cs, x.length = sz) → cs[j]? = some xs → ∀ c u, xs[c]? = some u → cs.flatten[j * sz + c]? = some u := by
    intro cs
    induction cs with
    | nil => intro j xs _ h; simp at h
    | cons y ys ih =>
      intro j xs hal h c u hu
      have hy := hal y (List.mem_cons_self ..)
      cases j with
      | zero =>
        simp at h
        subst h
        rw [List.flatten_cons, Nat.zero_mul, Nat.zero_add, List.getElem?_append_left (List.getElem?_eq_some_iff.1 hu).1]
        exact hu
      | succ j =>
        rw [List.flatten_cons, List.getElem?_append_right (by rw [hy, Nat.succ_mul]; omega), hy, show (j + 1) * sz + c - sz = j * sz + c by rw [Nat.succ_mul]; omega]
        exact ih j xs (fun x hx => hal x (List.mem_cons_of_mem _ hx)) (by simpa using h) c u hu
  rcases hown.2 with ⟨rfl, h0⟩ | ⟨g, cap, cur, rfl, hb, hg, hnc, _⟩
  · exact ⟨⟨none, 0, by rw [h0], by omega, hm⟩, fun j hj => by omega⟩
  · refine ⟨⟨_, cap, rfl, hnc, hm⟩, fun j hj => ?_⟩
    obtain ⟨xs, e, hl, hr⟩ := hR j hj
    refine ⟨g, 0, cap, xs, rfl, hz g hb, hl, fun c u hu => ?_, hr⟩
    have := hc (g := g) rfl (j * sz + c) u (hflat cells j xs hall e c u hu)
    rwa [show (⟨g, 0, none⟩ : Addr).add (j * sz + c) = ⟨g, 0 + j * sz + c, none⟩ by unfold Addr.add; split <;> simp_all <;> omega] at this
end
section
variable {P : Program} {H : Type} {enc : TypeId × Value → H} {w : World} {base : Nat} {sp : Nat → Bool} {held : Bool} {α : Type}
open Go.ChangeShapes Go.WideShapes Go.ChangeAt Go.Deep
/-- A slice that reads, whose elements read. -/
theorem lst_trod {R : World → (Nat → Prop) → List Value → α → Prop} {t e : TypeId} {sz : Nat} [Inhabited α] (hu : P.underlying t = some (.slice e)) (hc : P.cellsOf e = sz) (hsz : 0 < sz)
    (hR : ∀ {fuel cs x}, DataW.trod enc P w base sp held fuel e cs = some x → ∃ d : α, R w (· < w.heap.size) cs d)
    {fuel : Nat} {cs : List Value} {x : DataW H × List MemPlace} (h : DataW.trod enc P w base sp held fuel t cs = some x) : ∃ v l, cs = [v] ∧ Lst w (· < w.heap.size) sz R v (l : List α) := by
  rcases open_slice hu h with ⟨e1, -⟩ | ⟨a, len, cap, m, n, D, Pl, e1, -, hl, hm, hmm, -, hx⟩
  · exact ⟨_, [], e1, Lst.nil⟩
  · have hlm : len ≤ m := by rw [hmm]; split <;> omega
    rcases Nat.eq_zero_or_pos len with h0 | hpos
    · subst h0
      exact ⟨_, [], e1, ⟨_, cap, rfl, Nat.zero_le _, Nat.zero_le _⟩, fun j hj => absurd hj (Nat.not_lt_zero _)⟩
    obtain ⟨g, off, spot⟩ := a
    have hs0 : spot = none ∧ g < w.heap.size := by
      obtain ⟨cs', h1, h2⟩ := hx 0 (by omega)
      rw [hc] at h1
      obtain ⟨-, hlen, hcc⟩ := World.cells?_some h1
      have h0 := hcc 0 (by omega)
      rw [List.getElem?_eq_getElem (by omega)] at h0
      have e0 : ((⟨g, off, spot⟩ : Addr).add (0 * sz)).add 0 = ⟨g, off, spot⟩ := by simp [Addr.add]
      rw [e0] at h0
      refine ⟨?_, World.block_lt_of_cell? w _ h0⟩
      cases spot with
      | none => rfl
      | some z =>
        exfalso
        unfold World.cell? at h0
        split at h0
        · simp at h0
        · cases h0
    obtain ⟨rfl, hg⟩ := hs0
    have hX : ∀ i, i < len → ∃ y : α, ∃ xs : List Value, xs.length = sz ∧ (∀ c u, xs[c]? = some u → w.cell? ⟨g, off + i * sz + c, none⟩ = some u) ∧ R w (· < w.heap.size) xs y := by
      intro i hi
      obtain ⟨cs', h1, h2⟩ := hx i (by omega)
      rw [hc] at h1
      obtain ⟨d, hd⟩ := hR h2
      obtain ⟨-, hlen, hcc⟩ := World.cells?_some h1
      refine ⟨d, cs', hlen, fun c u hu => ?_, hd⟩
      have hcl := (List.getElem?_eq_some_iff.1 hu).1
      have := hcc c (by omega)
      rw [hu] at this
      rwa [show ((⟨g, off, none⟩ : Addr).add (i * sz)).add c = ⟨g, off + i * sz + c, none⟩ by simp only [Addr.add]; (repeat' split) <;> simp_all <;> omega] at this
    obtain ⟨X, hX⟩ := choose_lt hX
    refine ⟨_, (List.range len).map X, e1, ⟨some ⟨g, off, none⟩, cap, by simp, by simpa using hl, by simp; omega⟩, fun j hj => ?_⟩
    have hj' : j < len := by simpa using hj
    obtain ⟨xs, h1, h2, h3⟩ := hX j hj'
    exact ⟨g, off, cap, xs, by simp, hg, h1, h2, by simpa using h3⟩
end
end Go.Proofs.YtppaiihcaajkaaaGreat
