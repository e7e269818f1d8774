/- What a coordinator with its own attempts looks like in memory; the step of the loop that makes it. -/
import Derived.Test.YtihbonndinnohaaQOwn
namespace Go.Proofs.Ytihbonndinnohaa
open Go.RowKit
set_option linter.unusedVariables false
set_option linter.unusedSimpArgs false
theorem own_put {w : World} {base : Nat} {te : TypeId} {sz n g c : Nat} {xs : List Value} (h : w.ownsRow base te sz (.slice (some ⟨g, 0, none⟩) n c) n xs) {k : Nat} (hk : k < n * sz) (u : Value) : (w.setCell ⟨g, k, none⟩ u).ownsRow base te sz (.slice (some ⟨g, 0, none⟩) n c) n (xs.set k u) := by
  refine ⟨by rw [List.length_set]; exact h.1, ?_⟩
  rcases h.2 with ⟨e, -⟩ | ⟨g', cap, cur, e, hb, hg, h1, h2, h3, h4⟩
  · cases e
  · cases e
    refine .inr ⟨g, c, cur.setIfInBounds k u, rfl, hb, ?_, h1, h2, by simpa using h3, ?_⟩
    · show (w.heap.modify g _)[g]? = _
      rw [Array.getElem?_modify, if_pos rfl, hg]
      simp
    · rw [Array.toList_setIfInBounds, List.take_set, h4]
/-- The cells of a row of own memory. -/
theorem own_cell {w : World} {base : Nat} {te : TypeId} {sz n g c : Nat} {xs : List Value} (h : w.ownsRow base te sz (.slice (some ⟨g, 0, none⟩) n c) n xs) {k : Nat} {u : Value} (hk : xs[k]? = some u) : w.cell? ⟨g, k, none⟩ = some u := by
  have := @World.ownsRow.cells w base te sz _ n xs h g rfl k u hk
  rwa [show (⟨g, 0, none⟩ : Addr).add k = ⟨g, k, none⟩ by unfold Addr.add; split <;> simp_all] at this
theorem own_free {w : World} {base : Nat} {te : TypeId} {sz n g c : Nat} {xs : List Value} (h : w.ownsRow base te sz (.slice (some ⟨g, 0, none⟩) n c) n xs) (k : Nat) : w.frozen? ⟨g, k, none⟩ = false := by
  rcases h.2 with ⟨e, -⟩ | ⟨g', cap, cur, e, hb, hg, -⟩
  · cases e
  · cases e
    unfold World.frozen?
    rw [show (⟨g, k, none⟩ : Addr).block = g from rfl, hg]
    simp
theorem flat_at {sz : Nat} : ∀ {cs : List (List Value)} {j : Nat} {xs : List Value}, (∀ x ∈ cs, x.length = sz) → cs[j]? = some xs → ∀ c u, xs[c]? = some u → cs.flatten[j * sz + c]? = some u := by
  intro cs
  induction cs with
  | nil => intro j xs _ h; simp at h
  | cons y zs ih =>
    intro j xs hal h c u hu
    have hy := hal y (List.mem_cons_self ..)
    cases j with
    | zero =>
      simp at h
      subst h
      rw [List.flatten_cons, Nat.zero_mul, Nat.zero_add, List.getElem?_append_left (List.getElem?_eq_some_iff.1 hu).1]
      exact hu
    | succ j =>
      rw [List.flatten_cons, List.getElem?_append_right (by rw [hy, Nat.succ_mul]; omega), hy, show (j + 1) * sz + c - sz = j * sz + c by rw [Nat.succ_mul]; omega]
      exact ih (fun x hx => hal x (List.mem_cons_of_mem _ hx)) (by simpa using h) c u hu
/-- The elements of a row of cells, by what they read as. -/
def Els {α : Type} (w : World) (B : Nat → Prop) (sz : Nat) (R : World → (Nat → Prop) → List Value → α → Prop) (xs : List Value) (l : List α) : Prop := ∀ j (h : j < l.length), ∃ ys, ys.length = sz ∧ (∀ c u, ys[c]? = some u → xs[j * sz + c]? = some u) ∧ R w B ys l[j]
theorem Els.keep {α : Type} {w w' : World} {B : Nat → Prop} {sz : Nat} {R : World → (Nat → Prop) → List Value → α → Prop} {xs : List Value} {l : List α} (hR : Rd R) (h : Els w B sz R xs l) (hk : Kp B w w') : Els w' B sz R xs l := by
  intro j hj
  obtain ⟨ys, h1, h2, h3⟩ := h j hj
  exact ⟨ys, h1, h2, hR.keep hk h3⟩
theorem els_of {α : Type} {w : World} {B : Nat → Prop} {sz : Nat} {R : World → (Nat → Prop) → List Value → α → Prop} {cells : List (List Value)} {l : List α} (hlen : cells.length = l.length) (h : ∀ j (hj : j < l.length), ∃ xs, cells[j]? = some xs ∧ xs.length = sz ∧ R w B xs l[j]) : Els w B sz R cells.flatten l := by
  intro j hj
  obtain ⟨xs, h1, h2, h3⟩ := h j hj
  refine ⟨xs, h2, fun c u hu => flat_at (sz := sz) ?_ h1 c u hu, h3⟩
  intro x hx
  obtain ⟨i, hi, rfl⟩ := List.getElem_of_mem hx
  obtain ⟨zs, e1, e2, -⟩ := h i (by omega)
  rw [List.getElem?_eq_getElem hi] at e1; cases e1; exact e2
/-- A row of own memory whose elements read is a list. -/
theorem els_lst {α : Type} {w : World} {base sz n : Nat} {B : Nat → Prop} {te : TypeId} {R : World → (Nat → Prop) → List Value → α → Prop} {v : Value} {xs : List Value} {l : List α} {Z : Nat → Prop} (hR : Rd R) (hsz : 0 < sz) (hn : n = l.length) (hm : l.length ≤ maxLen)
    (hown : w.ownsRow base te sz v n xs) (h : Els w B sz R xs l) (hB : ∀ b, B b → Z b) (hZ : ∀ k, v.ownBlock = some k → Z k) : Lst w Z sz R v l := by
  subst hn
  rcases hown.2 with ⟨rfl, h0⟩ | ⟨g, cap, cur, rfl, hb, hg, hnc, -⟩
  · exact ⟨⟨none, 0, by rw [h0], by omega, hm⟩, fun j hj => by omega⟩
  · refine ⟨⟨_, cap, rfl, hnc, hm⟩, fun j hj => ?_⟩
    obtain ⟨ys, h1, h2, h3⟩ := h j hj
    refine ⟨g, 0, cap, ys, rfl, hZ g rfl, h1, fun c u hu => ?_, hR.more hB h3⟩
    rw [Nat.zero_add]
    exact own_cell hown (h2 c u hu)
/-- Attempt i of a row of attempts: three lists of own memory, in blocks from lo to hi; what they hold lies below B. -/
def AtW (w : World) (B : Nat → Prop) (lo hi : Nat) (xs : List Value) (i : Nat) (a : Aq) : Prop :=
  ∃ v u t s1 s2 cr co, lo ≤ s1 ∧ s1 ≤ s2 ∧ s2 ≤ hi ∧ xs[i * 4]? = some (.int .i64 a.num) ∧ xs[i * 4 + 1]? = some v ∧ xs[i * 4 + 2]? = some u ∧ xs[i * 4 + 3]? = some t ∧
    w.ownsRow lo 68 6 v a.rds.length cr ∧ (∀ k, v.ownBlock = some k → k < s1) ∧ w.ownsRow s1 42 2 u a.ops.length co ∧ (∀ k, u.ownBlock = some k → k < s2) ∧ w.ownsRow s2 4 1 t a.hv.length (bools a.hv) ∧ (∀ k, t.ownBlock = some k → k < hi) ∧
    Els w B 6 RRq cr a.rds ∧ Els w B 2 ROq co a.ops ∧ inQ a.num
section
variable {w w' : World} {B : Nat → Prop} {lo hi i : Nat} {xs ys : List Value} {a : Aq}
theorem AtW.keep (h : AtW w B lo hi xs i a) (hb : Below w.heap.size w w') (hk : Kp B w w') : AtW w' B lo hi xs i a := by
  obtain ⟨v, u, t, s1, s2, cr, co, h1, h2, h3, k0, k1, k2, k3, o1, l1, o2, l2, o3, l3, e1, e2, hq⟩ := h
  exact ⟨v, u, t, s1, s2, cr, co, h1, h2, h3, k0, k1, k2, k3, own_keep o1 hb, l1, own_keep o2 hb, l2, own_keep o3 hb, l3, e1.keep rd_Rq hk, e2.keep rd_Oq hk, hq⟩
theorem AtW.set (h : AtW w B lo hi xs i a) {p : Addr} (hp : p.block < lo) (hB : ¬ B p.block) (x : Value) : AtW (w.setCell p x) B lo hi xs i a := by
  obtain ⟨v, u, t, s1, s2, cr, co, h1, h2, h3, k0, k1, k2, k3, o1, l1, o2, l2, o3, l3, e1, e2, hq⟩ := h
  have hk : Kp B w (w.setCell p x) := Kp.set p x fun b hb => by rintro rfl; exact hB hb
  exact ⟨v, u, t, s1, s2, cr, co, h1, h2, h3, k0, k1, k2, k3, own_set_lt o1 hp x, l1, own_set_lt o2 (by omega) x, l2, own_set_lt o3 (by omega) x, l3, e1.keep rd_Rq hk, e2.keep rd_Oq hk, hq⟩
theorem AtW.row (h : AtW w B lo hi xs i a) (hx : ∀ c, c < 4 → ys[i * 4 + c]? = xs[i * 4 + c]?) : AtW w B lo hi ys i a := by
  obtain ⟨v, u, t, s1, s2, cr, co, h1, h2, h3, k0, k1, k2, k3, r⟩ := h
  exact ⟨v, u, t, s1, s2, cr, co, h1, h2, h3, (by have := hx 0 (by omega); simpa using this.trans (by simpa using k0)), (hx 1 (by omega)).trans k1, (hx 2 (by omega)).trans k2, (hx 3 (by omega)).trans k3, r⟩
/-- It reads as the attempt. -/
theorem AtW.reads {Z : Nat → Prop} (h : AtW w B lo hi xs i a) (hB : ∀ b, B b → Z b) (hZ : ∀ b, lo ≤ b → b < w.heap.size → Z b) (hm : a.rds.length ≤ maxLen ∧ a.ops.length ≤ maxLen ∧ a.hv.length ≤ maxLen) : ∃ ys, ys.length = 4 ∧ (∀ c u, ys[c]? = some u → xs[i * 4 + c]? = some u) ∧ RAq w Z ys a := by
  obtain ⟨v, u, t, s1, s2, cr, co, h1, h2, h3, k0, k1, k2, k3, o1, l1, o2, l2, o3, l3, e1, e2, hq⟩ := h
  have ebl : ∀ {base : Nat} {te : TypeId} {sz n : Nat} {v : Value} {xs : List Value}, lo ≤ base → w.ownsRow base te sz v n xs → ∀ k, v.ownBlock = some k → Z k := fun hb h k hk => hZ k (Nat.le_trans hb (h.lt k hk).1) (h.lt k hk).2
  refine ⟨[.int .i64 a.num, v, u, t], rfl, ?_, v, u, t, rfl, els_lst rd_Rq (by decide) rfl hm.1 o1 e1 hB (ebl (Nat.le_refl _) o1), els_lst rd_Oq (by decide) rfl hm.2.1 o2 e2 hB (ebl h1 o2), ?_, hq⟩
  · intro c y hy
    match c, hy with
    | 0, hy => simp at hy; subst hy; simpa using k0
    | 1, hy => simp at hy; subst hy; exact k1
    | 2, hy => simp at hy; subst hy; exact k2
    | 3, hy => simp at hy; subst hy; exact k3
  · refine els_lst (B := B) rd_Bq (by decide) rfl hm.2.2 o3 ?_ hB (ebl (Nat.le_trans h1 h2) o3)
    intro j hj
    refine ⟨[.bool a.hv[j]], rfl, fun c y hy => ?_, rfl⟩
    match c, hy with
    | 0, hy => simp at hy; subst hy; simp [bools, hj]
end
/-- What 'with' returns: the row of attempts, and their lists in windows behind it; what they hold lies below B. -/
def WthV (w : World) (B : Nat → Prop) (w' : World) (c : Cq) (V : Value) (xs : List Value) (s : Nat → Nat) : Prop :=
  w'.ownsRow w.heap.size 51 4 V c.atts.length xs ∧ (∀ k, V.ownBlock = some k → k < s 0) ∧ (∀ i (h : i < c.atts.length), s i ≤ s (i + 1) ∧ AtW w' B (s i) (s (i + 1)) xs i c.atts[i]) ∧ s c.atts.length ≤ w'.heap.size ∧ w.heap.size ≤ s 0 ∧ Below w.heap.size w w'
theorem WthV.mono {w w' : World} {B : Nat → Prop} {c : Cq} {V : Value} {xs : List Value} {s : Nat → Nat} (h : WthV w B w' c V xs s) : ∀ m, m ≤ c.atts.length → s 0 ≤ s m := by
  intro m
  induction m with
  | zero => intro _; exact Nat.le_refl _
  | succ m ih => intro hm; exact Nat.le_trans (ih (by omega)) (h.2.2.1 m (by omega)).1
theorem WthV.els {w w' : World} {B : Nat → Prop} {c : Cq} {V : Value} {xs : List Value} {s : Nat → Nat} {Z : Nat → Prop} (h : WthV w B w' c V xs s) (hB : ∀ b, B b → Z b) (hZ : ∀ b, w.heap.size ≤ b → b < w'.heap.size → Z b) (hms : ∀ a ∈ c.atts, a.rds.length ≤ maxLen ∧ a.ops.length ≤ maxLen ∧ a.hv.length ≤ maxLen) :
    ∀ j (hj : j < c.atts.length), ∃ ys, ys.length = 4 ∧ (∀ c u, ys[c]? = some u → xs[j * 4 + c]? = some u) ∧ RAq w' Z ys c.atts[j] :=
  fun j hj => (h.2.2.1 j hj).2.reads hB (fun b h1 h2 => hZ b (Nat.le_trans h.2.2.2.2.1 (Nat.le_trans (h.mono j (Nat.le_of_lt hj)) h1)) h2) (hms _ (List.getElem_mem hj))
/-- A row of own memory whose elements read in Z is a list in Z. -/
theorem row_lst {α : Type} {w : World} {base sz n : Nat} {te : TypeId} {R : World → (Nat → Prop) → List Value → α → Prop} {v : Value} {xs : List Value} {l : List α} {Z : Nat → Prop} (hsz : 0 < sz) (hn : n = l.length) (hm : l.length ≤ maxLen)
    (hown : w.ownsRow base te sz v n xs) (h : ∀ j (hj : j < l.length), ∃ ys, ys.length = sz ∧ (∀ c u, ys[c]? = some u → xs[j * sz + c]? = some u) ∧ R w Z ys l[j]) (hZ : ∀ k, v.ownBlock = some k → Z k) : Lst w Z sz R v l := by
  subst hn
  rcases hown.2 with ⟨rfl, h0⟩ | ⟨g, cap, cur, rfl, hb, hg, hnc, -⟩
  · exact ⟨⟨none, 0, by rw [h0], by omega, hm⟩, fun j hj => by omega⟩
  · refine ⟨⟨_, cap, rfl, hnc, hm⟩, fun j hj => ?_⟩
    obtain ⟨ys, h1, h2, h3⟩ := h j hj
    refine ⟨g, 0, cap, ys, rfl, hZ g rfl, h1, fun c u hu => ?_, h3⟩
    rw [Nat.zero_add]
    exact own_cell hown (h2 c u hu)
theorem WthV.lst {w w' : World} {B : Nat → Prop} {c : Cq} {V : Value} {xs : List Value} {s : Nat → Nat} {Z : Nat → Prop} (h : WthV w B w' c V xs s) (hB : ∀ b, B b → Z b) (hZ : ∀ b, w.heap.size ≤ b → b < w'.heap.size → Z b) (hm : c.atts.length ≤ maxLen) (hms : ∀ a ∈ c.atts, a.rds.length ≤ maxLen ∧ a.ops.length ≤ maxLen ∧ a.hv.length ≤ maxLen) : Lst w' Z 4 RAq V c.atts :=
  row_lst (by decide) rfl hm h.1 (h.els hB hZ hms) (fun k hk => hZ k (h.1.lt k hk).1 (h.1.lt k hk).2)
end Go.Proofs.Ytihbonndinnohaa
