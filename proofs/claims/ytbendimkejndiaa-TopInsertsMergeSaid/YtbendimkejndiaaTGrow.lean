/- Lists under way: rows of own memory in blocks of Y, whose elements read in blocks of Y beside the row's own; append of one element; a store into a row. -/
import Derived.Test.YtbendimkejndiaaTCln
namespace Go.Proofs.Ytbendimkejndiaa
open Go.RowKit
set_option linter.unusedVariables false
set_option linter.unusedSimpArgs false
theorem own_keep {w w' : World} {base : Nat} {e : TypeId} {size : Nat} {v : Value} {n : Nat} {xs : List Value} (h : w.ownsRow base e size v n xs) (hb : Below w.heap.size w w') : w'.ownsRow base e size v n xs :=
  h.kept (row := none) ⟨hb.os, hb.tape, hb.output, hb.size, fun k hk _ => hb.block k hk⟩ (by cases v.ownBlock <;> simp)
section
variable {w : World} {base : Nat} {te : TypeId} {sz n : Nat} {v : Value} {xs : List Value}
theorem own_set (h : w.ownsRow base te sz v n xs) {p : Addr} (hp : v.ownBlock ≠ some p.block) (u : Value) : (w.setCell p u).ownsRow base te sz v n xs := by
  refine h.kept (row := some p.block) ⟨rfl, rfl, rfl, by simp [World.setCell], fun k _ hk => Below.heap_setCell w p u k (fun hh => hk (by rw [hh]))⟩ ?_
  cases hv : v.ownBlock with
  | none => exact .inl rfl
  | some k => exact .inr (fun hh => hp (by rw [hv, ← hh]))
theorem own_form (h : w.ownsRow base te sz v n xs) : ∃ A cap, v = .slice A n cap := by
  rcases h.2 with ⟨rfl, h0⟩ | ⟨g, cap, cur, rfl, -⟩
  · exact ⟨none, 0, by rw [h0]⟩
  · exact ⟨_, _, rfl⟩
end
theorem own_cell {w : World} {base : Nat} {te : TypeId} {sz n g c : Nat} {xs : List Value} (h : w.ownsRow base te sz (.slice (some ⟨g, 0, none⟩) n c) n xs) {k : Nat} {u : Value} (hk : xs[k]? = some u) : w.cell? ⟨g, k, none⟩ = some u := by
  have := @World.ownsRow.cells w base te sz _ n xs h g rfl k u hk
  rwa [show (⟨g, 0, none⟩ : Addr).add k = ⟨g, k, none⟩ by unfold Addr.add; split <;> simp_all] at this
theorem row_lst {α : Type} {w : World} {base sz n : Nat} {te : TypeId} {R : World → (Nat → Prop) → List Value → α → Prop} {v : Value} {xs : List Value} {l : List α} {Z : Nat → Prop} (hsz : 0 < sz) (hn : n = l.length) (hm : l.length ≤ maxLen)
    (hown : w.ownsRow base te sz v n xs) (h : ∀ j (hj : j < l.length), ∃ ys, ys.length = sz ∧ (∀ c u, ys[c]? = some u → xs[j * sz + c]? = some u) ∧ R w Z ys l[j]) (hZ : ∀ k, v.ownBlock = some k → Z k) : Lst w Z sz R v l := by
  subst hn
  rcases hown.2 with ⟨rfl, h0⟩ | ⟨g, cap, cur, rfl, hb, hg, hnc, -⟩
  · exact ⟨⟨none, 0, by rw [h0], by omega, hm⟩, fun j hj => by omega⟩
  · refine ⟨⟨_, cap, rfl, hnc, hm⟩, fun j hj => ?_⟩
    obtain ⟨ys, h1, h2, h3⟩ := h j hj
    refine ⟨g, 0, cap, ys, rfl, hZ g rfl, h1, fun c u hu => ?_, h3⟩
    rw [Nat.zero_add]
    exact own_cell hown (h2 c u hu)
/-- The block b holds the cells xs, and more perhaps; it may be written. -/
structure Bl (w : World) (b : Nat) (xs : List Value) : Prop where
  c : ∀ j u, xs[j]? = some u → w.cell? ⟨b, j, none⟩ = some u
  f : ∀ j, w.frozen? ⟨b, j, none⟩ = false
  lt : b < w.heap.size
section
variable {w w' : World} {b : Nat} {xs : List Value}
theorem Bl.keep (h : Bl w b xs) (hb : Below w.heap.size w w') : Bl w' b xs :=
  ⟨fun j u hu => keep1 hb (h.c j u hu), fun j => ((bcell hb).2 b j h.lt).trans (h.f j), Nat.lt_of_lt_of_le h.lt hb.size⟩
theorem Bl.new (w : World) (xs : List Value) (t : TypeId) : Bl (w.alloc (.cells xs.toArray t)) w.heap.size xs :=
  ⟨cells_lit w xs t, fun j => step_frozen xs (Below.refl _ _) j, by simp⟩
theorem Bl.laid (h : Bl w b xs) (o : Obj) : Bl (w.alloc o) b xs := h.keep (below_laid o)
theorem Bl.far (h : Bl w b xs) {p : Addr} (hp : p.block ≠ b) (u : Value) : Bl (w.setCell p u) b xs := by
  have hb := Below.heap_setCell w p u b hp.symm
  exact ⟨fun j x hx => (World.cell?_of_block (w := w) (a := ⟨b, j, none⟩) hb).trans (h.c j x hx), fun j => (World.frozen?_of_block (w := w) (a := ⟨b, j, none⟩) hb).trans (h.f j), by simpa [World.setCell] using h.lt⟩
theorem Bl.put (h : Bl w b xs) {k : Nat} (hk : k < xs.length) (u : Value) : Bl (w.setCell ⟨b, k, none⟩ u) b (xs.set k u) := by
  refine ⟨fun j x hx => ?_, fun j => ?_, by simpa [World.setCell] using h.lt⟩
  · by_cases e : k = j
    · subst e
      rw [List.getElem?_set_self hk] at hx
      injection hx with hx
      subst hx
      exact World.cell?_setCell_same' _ _ _ (by rw [h.c k _ (List.getElem?_eq_getElem hk)]; rfl)
    · rw [List.getElem?_set_ne e] at hx
      exact (World.cell?_setCell_other _ _ _ _ (by intro hh; injection hh with _ hh _; exact e hh)).trans (h.c j x hx)
  · have := h.f j
    unfold World.frozen? at this ⊢
    simp only [World.setCell]
    rw [Array.getElem?_modify]
    rw [show (⟨b, j, none⟩ : Addr).block = b from rfl] at this
    rw [if_pos rfl]
    revert this
    cases w.heap[b]? with
    | none => simp
    | some o => cases o <;> simp
theorem Bl.undrew (h : Bl w.drew b xs) : Bl w b xs := ⟨h.c, h.f, h.lt⟩
theorem Bl.drew (h : Bl w b xs) : Bl w.drew b xs := ⟨h.c, h.f, h.lt⟩
/-- Behind a row that grows. -/
theorem Bl.grown (h : Bl w b xs) {row : Option Nat} (hg : w.grownBy w' row) (hne : row ≠ some b) : Bl w' b xs := by
  have hb := hg.block b h.lt (fun e => hne e.symm)
  exact ⟨fun j x hx => (World.cell?_of_block (w := w) (a := ⟨b, j, none⟩) hb).trans (h.c j x hx), fun j => (World.frozen?_of_block (w := w) (a := ⟨b, j, none⟩) hb).trans (h.f j), Nat.lt_of_lt_of_le h.lt hg.size⟩
end
def Gq {α : Type} (w : World) (Y : Nat → Prop) (base : Nat) (te : TypeId) (sz : Nat) (R : World → (Nat → Prop) → List Value → α → Prop) (v : Value) (l : List α) : Prop :=
  ∃ xs : List Value, w.ownsRow base te sz v l.length xs ∧ (∀ k, v.ownBlock = some k → Y k) ∧
    ∀ j (h : j < l.length), ∃ ys, ys.length = sz ∧ (∀ c u, ys[c]? = some u → xs[j * sz + c]? = some u) ∧ R w (fun b => Y b ∧ b < w.heap.size ∧ v.ownBlock ≠ some b) ys l[j]
section
variable {α : Type} {R : World → (Nat → Prop) → List Value → α → Prop} {w w' : World} {Y : Nat → Prop} {base sz : Nat} {te : TypeId} {v v' : Value} {l : List α}
theorem Gq.nil : Gq w Y base te sz R (.slice none 0 0) ([] : List α) := ⟨[], World.ownsRow_nil .., (fun k h => by cases h), fun j h => absurd h (Nat.not_lt_zero _)⟩
theorem Gq.form (h : Gq w Y base te sz R v l) : ∃ A cap, v = .slice A l.length cap := by
  obtain ⟨xs, hown, -⟩ := h
  exact own_form hown
theorem Gq.low (h : Gq w Y base te sz R v l) : ∀ k, v.ownBlock = some k → base ≤ k ∧ k < w.heap.size := by
  obtain ⟨xs, hown, -⟩ := h
  exact hown.lt
theorem Gq.inY (h : Gq w Y base te sz R v l) : ∀ k, v.ownBlock = some k → Y k := by
  obtain ⟨xs, -, hy, -⟩ := h
  exact hy
theorem Gq.keep (hR : Rd R) (h : Gq w Y base te sz R v l) (hb : Below w.heap.size w w') : Gq w' Y base te sz R v l := by
  obtain ⟨xs, hown, hy, hel⟩ := h
  refine ⟨xs, own_keep hown hb, hy, fun j hj => ?_⟩
  obtain ⟨ys, h1, h2, h3⟩ := hel j hj
  exact ⟨ys, h1, h2, hR.more (fun b hz => ⟨hz.1, Nat.lt_of_lt_of_le hz.2.1 hb.size, hz.2.2⟩) (hR.keep (Kp.of_below hb) h3)⟩
theorem Gq.undrew (h : Gq w.drew Y base te sz R v l) (hR : Rd R) : Gq w Y base te sz R v l := by
  obtain ⟨xs, hown, hy, hel⟩ := h
  refine ⟨xs, hown, hy, fun j hj => ?_⟩
  obtain ⟨ys, h1, h2, h3⟩ := hel j hj
  have h4 : R w (fun b => Y b ∧ b < w.drew.heap.size ∧ v.ownBlock ≠ some b) ys l[j] := hR.keep (w := w.drew) ⟨Nat.le_refl _, fun _ _ _ => rfl⟩ h3
  exact ⟨ys, h1, h2, h4⟩
theorem Gq.drew (h : Gq w Y base te sz R v l) (hR : Rd R) : Gq w.drew Y base te sz R v l := h.keep hR ((Below.refl _ _).drew)
/-- A store into a block outside of Y. -/
theorem Gq.set (hR : Rd R) (h : Gq w Y base te sz R v l) {b : Nat} (hb : ¬ Y b) (c : Nat) (u : Value) : Gq (w.setCell ⟨b, c, none⟩ u) Y base te sz R v l := by
  obtain ⟨xs, hown, hy, hel⟩ := h
  have hsz : (w.setCell ⟨b, c, none⟩ u).heap.size = w.heap.size := by simp [World.setCell]
  refine ⟨xs, own_set (p := ⟨b, c, none⟩) hown (fun e => hb (hy b e)) u, hy, fun j hj => ?_⟩
  obtain ⟨ys, h1, h2, h3⟩ := hel j hj
  refine ⟨ys, h1, h2, ?_⟩
  rw [hsz]
  exact hR.keep (Kp.set ⟨b, c, none⟩ u fun x hx => by show x ≠ b; rintro rfl; exact hb hx.1) h3
theorem Gq.lst (hR : Rd R) (hsz : 0 < sz) (h : Gq w Y base te sz R v l) (hm : l.length ≤ maxLen) : Lst w (fun b => Y b ∧ b < w.heap.size) sz R v l := by
  obtain ⟨xs, hown, hy, hel⟩ := h
  refine row_lst hsz rfl hm hown (fun j hj => ?_) (fun k hk => ⟨hy k hk, (hown.lt k hk).2⟩)
  obtain ⟨ys, h1, h2, h3⟩ := hel j hj
  exact ⟨ys, h1, h2, hR.more (fun b hb => ⟨hb.1, hb.2.1⟩) h3⟩
theorem Gq.less {Y' : Nat → Prop} (hR : Rd R) (h : Gq w Y base te sz R v l) (hY : ∀ b, Y b → b < w.heap.size → Y' b) : Gq w Y' base te sz R v l := by
  obtain ⟨xs, hown, hy, hel⟩ := h
  refine ⟨xs, hown, fun k hk => hY k (hy k hk) (hown.lt k hk).2, fun j hj => ?_⟩
  obtain ⟨ys, h1, h2, h3⟩ := hel j hj
  exact ⟨ys, h1, h2, hR.more (fun b hb => ⟨hY b hb.1 hb.2.1, hb.2⟩) h3⟩
/-- One element more. -/
theorem Gq.snoc (hR : Rd R) {xs ys : List Value} {x : α} (hown : w.ownsRow base te sz v l.length xs) (hy : ∀ k, v.ownBlock = some k → Y k)
    (hel : ∀ j (h : j < l.length), ∃ ys, ys.length = sz ∧ (∀ c u, ys[c]? = some u → xs[j * sz + c]? = some u) ∧ R w (fun b => Y b ∧ b < w.heap.size ∧ v.ownBlock ≠ some b) ys l[j])
    (hyl : ys.length = sz) (hx : R w (fun b => Y b ∧ b < w.heap.size ∧ v.ownBlock ≠ some b) ys x)
    (hown' : w'.ownsRow base te sz v' (l.length + 1) (xs ++ ys)) (hk : Kp (fun b => v.ownBlock ≠ some b) w w') (hat : v'.ownBlock = v.ownBlock ∨ ∃ k, v'.ownBlock = some k ∧ w.heap.size ≤ k) (hY : ∀ b, w.heap.size ≤ b → Y b) : Gq w' Y base te sz R v' (l ++ [x]) := by
  have hz : ∀ b, b < w.heap.size → v.ownBlock ≠ some b → v'.ownBlock ≠ some b := by
    intro b hb hne
    rcases hat with h | ⟨k, h, hkk⟩
    · rw [h]; exact hne
    · rw [h]; intro hh; injection hh with hh; omega
  have hkz : ∀ {zs : List Value} {y : α}, R w (fun b => Y b ∧ b < w.heap.size ∧ v.ownBlock ≠ some b) zs y → R w' (fun b => Y b ∧ b < w'.heap.size ∧ v'.ownBlock ≠ some b) zs y := fun h =>
    hR.more (fun b hb => ⟨hb.1, Nat.lt_of_lt_of_le hb.2.1 hk.1, hz b hb.2.1 hb.2.2⟩) (hR.keep (hk.less fun b hb => hb.2.2) h)
  refine ⟨xs ++ ys, by rw [List.length_append]; simpa using hown', fun k hkk => ?_, fun j hj => ?_⟩
  · rcases hat with h | ⟨k', h, h'⟩
    · rw [h] at hkk; exact hy k hkk
    · rw [h] at hkk; injection hkk with hkk; subst hkk; exact hY _ h'
  · by_cases hjl : j < l.length
    · obtain ⟨zs, h1, h2, h3⟩ := hel j hjl
      refine ⟨zs, h1, fun c u hu => ?_, ?_⟩
      · have := h2 c u hu
        rw [List.getElem?_append_left (List.getElem?_eq_some_iff.1 this).1]; exact this
      · rw [List.getElem_append_left hjl]; exact hkz h3
    · have hje : j = l.length := by rw [List.length_append] at hj; simp at hj; omega
      subst hje
      refine ⟨ys, hyl, fun c u hu => ?_, ?_⟩
      · rw [← hown.1, List.getElem?_append_right (by omega)]; simpa using hu
      · rw [List.getElem_append_right (Nat.le_refl _)]
        simp only [Nat.sub_self, List.getElem_cons_zero]
        exact hkz hx
end
section
variable {P : Program}
/-- append of one element that a composite literal has just laid. -/
theorem wpList_append_gq {α : Type} {R : World → (Nat → Prop) → List Value → α → Prop} (hR : Rd R) {ops : Array Oper} {rest : List Oper} {o : Oper} {a : Act} {Q : Exit → Act → World → Prop} {W : World} (hgd : o.guard = none) (s x : Operand) (t : TypeId)
    (ho : o.op = .call { callee := .builtin .append, args := #[s, x], argTypes := #[t, t] })
    (Y : Nat → Prop) (base : Nat) (e : TypeId) (i : TypeInfo) (z : Value) (sz bytes : Nat) (ht : P.underlying t = some (.slice e)) (hi : P.info? e = some i) (hz : i.zero = some z)
    (hsize : i.size = sz) (hby : i.bytes = bytes) (hzs : z.cells.size = sz) (hsz : 0 < sz)
    (v : Value) (l : List α) (hs : a.eval s = v) (hg : Gq W Y base e sz R v l)
    (g : Nat) (hx : a.eval x = .slice (some ⟨g, 0, none⟩) 1 1) (ys : List Value) (hyl : ys.length = sz) (hcell : ∀ j u, ys[j]? = some u → W.cell? ⟨g, j, none⟩ = some u) (h1 : ∀ y ∈ ys, y.oneCell' = true)
    (y : α) (hy : R W (fun b => Y b ∧ b < W.heap.size ∧ v.ownBlock ≠ some b) ys y) (hY : ∀ b, W.heap.size ≤ b → Y b)
    (hn : l.length < 1099511627776) (hb100 : bytes ≤ 128) (hbase : base ≤ W.heap.size)
    (h : ∀ v' w', Gq w' Y base e sz R v' (l ++ [y]) → W.grownBy w' v.ownBlock → Below base W w' → wpList P ops Q rest (a.put o.dst v') w') :
    wpList P ops Q (o :: rest) a W := by
  refine wpList_plain hgd fun K hK => ?_
  subst hyl
  obtain ⟨xs, hown, hyv, hel⟩ := hg
  obtain ⟨v', w', hr, hown', hgr, h3, hat⟩ := run_append_own_at (P := P) W base t o.type e i z ys.length bytes ht hi hz hsize hby hzs hsz v _ _ hown ⟨g, 0, none⟩ 1 1 ys (by simp)
    (fun j u hj => by
      rw [show (⟨g, 0, none⟩ : Addr).add j = ⟨g, j, none⟩ by unfold Addr.add; split <;> simp_all]
      exact hcell j u hj) h1 (by unfold maxLen; omega)
    (by calc (l.length + 1) * bytes ≤ 1099511627776 * 128 := Nat.mul_le_mul (by omega) hb100
          _ ≤ 140737488355328 := by omega) hbase
  have hbel : Below base W w' := (Below.refl base W).grown hgr hbase (fun k hk => (hown.lt k hk).1)
  have hfin := h v' w' (Gq.snoc hR hown hyv hel rfl hy hown' ⟨hgr.size, fun b hb hlt => hgr.block b hlt (fun e => hb e.symm)⟩ (by
    rcases hat with h | h
    · exact .inl h
    · exact .inr ⟨_, h, Nat.le_refl _⟩) hY) hgr hbel
  unfold Oper.wp execOp
  simp only [ho, resolve, invoke, builtin, Sem.run_bind, Sem.run_pure, Result.andThen_ok, List.map_toArray, List.map_cons, List.map_nil, hs, hx, hr]
  exact hK _ _ hfin
/-- append of one element that a composite literal has just laid, at a step of a drawn region: the list grows. -/
theorem step_append_gq {α : Type} {R : World → (Nat → Prop) → List Value → α → Prop} (hR : Rd R) {ops : Array Oper} {o : Oper} {a : Act} {K : Act → World → Prop} {Q : Exit → Act → World → Prop} {E : Prop} {W : World} (hgd : o.guard = none) (s x : Operand) (t : TypeId)
    (ho : o.op = .call { callee := .builtin .append, args := #[s, x], argTypes := #[t, t] })
    (Y : Nat → Prop) (base : Nat) (e : TypeId) (i : TypeInfo) (z : Value) (sz bytes : Nat) (ht : P.underlying t = some (.slice e)) (hi : P.info? e = some i) (hz : i.zero = some z)
    (hsize : i.size = sz) (hby : i.bytes = bytes) (hzs : z.cells.size = sz) (hsz : 0 < sz)
    (v : Value) (l : List α) (hs : a.eval s = v) (hg : Gq W Y base e sz R v l)
    (g : Nat) (hx : a.eval x = .slice (some ⟨g, 0, none⟩) 1 1) (ys : List Value) (hyl : ys.length = sz) (hcell : ∀ j u, ys[j]? = some u → W.cell? ⟨g, j, none⟩ = some u) (h1 : ∀ y ∈ ys, y.oneCell' = true)
    (y : α) (hy : R W (fun b => Y b ∧ b < W.heap.size ∧ v.ownBlock ≠ some b) ys y) (hY : ∀ b, W.heap.size ≤ b → Y b)
    (hn : l.length < 1099511627776) (hb100 : bytes ≤ 128) (hbase : base ≤ W.heap.size)
    (h : ∀ v' w', Gq w' Y base e sz R v' (l ++ [y]) → W.grownBy w' v.ownBlock → Below base W w' → K (a.put o.dst v') w') :
    if Region.wanted o (yielded ops a.tmps) = true then Oper.wp P o a W K Q else E := by
  have hw : Region.wanted o (yielded ops a.tmps) = true := by simp [Region.wanted, hgd]
  rw [if_pos hw]
  subst hyl
  obtain ⟨xs, hown, hyv, hel⟩ := hg
  obtain ⟨v', w', hr, hown', hgr, h3, hat⟩ := run_append_own_at (P := P) W base t o.type e i z ys.length bytes ht hi hz hsize hby hzs hsz v _ _ hown ⟨g, 0, none⟩ 1 1 ys (by simp)
    (fun j u hj => by
      rw [show (⟨g, 0, none⟩ : Addr).add j = ⟨g, j, none⟩ by unfold Addr.add; split <;> simp_all]
      exact hcell j u hj) h1 (by unfold maxLen; omega)
    (by calc (l.length + 1) * bytes ≤ 1099511627776 * 128 := Nat.mul_le_mul (by omega) hb100
          _ ≤ 140737488355328 := by omega) hbase
  have hbel : Below base W w' := (Below.refl base W).grown hgr hbase (fun k hk => (hown.lt k hk).1)
  have hfin := h v' w' (Gq.snoc hR hown hyv hel rfl hy hown' ⟨hgr.size, fun b hb hlt => hgr.block b hlt (fun e => hb e.symm)⟩ (by
    rcases hat with h | h
    · exact .inl h
    · exact .inr ⟨_, h, Nat.le_refl _⟩) hY) hgr hbel
  unfold Oper.wp execOp
  simp only [ho, resolve, invoke, builtin, Sem.run_bind, Sem.run_pure, Result.andThen_ok, List.map_toArray, List.map_cons, List.map_nil, hs, hx, hr]
  exact hfin
end
end Go.Proofs.Ytbendimkejndiaa
