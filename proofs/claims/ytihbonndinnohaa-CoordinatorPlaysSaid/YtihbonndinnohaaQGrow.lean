/- Lists under way: rows of own memory in blocks of Y, whose elements read in blocks of Y beside the row's own; append of one element; a store into a row. -/
import Derived.Test.YtihbonndinnohaaQFin2
import Derived.Deep.RegionLaw
import Derived.Deep.RegionHeld3
namespace Go.Proofs.Ytihbonndinnohaa
open Go.RowKit
set_option linter.unusedVariables false
set_option linter.unusedSimpArgs false
def Gq {α : Type} (w : World) (Y : Nat → Prop) (base : Nat) (te : TypeId) (sz : Nat) (R : World → (Nat → Prop) → List Value → α → Prop) (v : Value) (l : List α) : Prop :=
  ∃ xs : List Value, w.ownsRow base te sz v l.length xs ∧ (∀ k, v.ownBlock = some k → Y k) ∧
    ∀ j (h : j < l.length), ∃ ys, ys.length = sz ∧ (∀ c u, ys[c]? = some u → xs[j * sz + c]? = some u) ∧ R w (fun b => Y b ∧ b < w.heap.size ∧ v.ownBlock ≠ some b) ys l[j]
section
variable {α : Type} {R : World → (Nat → Prop) → List Value → α → Prop} {w w' : World} {Y : Nat → Prop} {base sz : Nat} {te : TypeId} {v v' : Value} {l : List α}
theorem Gq.nil : Gq w Y base te sz R (.slice none 0 0) ([] : List α) := ⟨[], World.ownsRow_nil .., (fun k h => by cases h), fun j h => absurd h (Nat.not_lt_zero _)⟩
theorem Gq.form (h : Gq w Y base te sz R v l) : ∃ A cap, v = .slice A l.length cap := by
  obtain ⟨xs, hown, -⟩ := h
  exact own_form hown
theorem Gq.low (h : Gq w Y base te sz R v l) : ∀ k, v.ownBlock = some k → base ≤ k ∧ k < w.heap.size := by
  obtain ⟨xs, hown, -⟩ := h
  exact hown.lt
theorem Gq.inY (h : Gq w Y base te sz R v l) : ∀ k, v.ownBlock = some k → Y k := by
  obtain ⟨xs, -, hy, -⟩ := h
  exact hy
theorem Gq.keep (hR : Rd R) (h : Gq w Y base te sz R v l) (hb : Below w.heap.size w w') : Gq w' Y base te sz R v l := by
  obtain ⟨xs, hown, hy, hel⟩ := h
  refine ⟨xs, own_keep hown hb, hy, fun j hj => ?_⟩
  obtain ⟨ys, h1, h2, h3⟩ := hel j hj
  exact ⟨ys, h1, h2, hR.more (fun b hz => ⟨hz.1, Nat.lt_of_lt_of_le hz.2.1 hb.size, hz.2.2⟩) (hR.keep (Kp.of_below hb) h3)⟩
theorem Gq.undrew (h : Gq w.drew Y base te sz R v l) (hR : Rd R) : Gq w Y base te sz R v l := by
  obtain ⟨xs, hown, hy, hel⟩ := h
  refine ⟨xs, hown, hy, fun j hj => ?_⟩
  obtain ⟨ys, h1, h2, h3⟩ := hel j hj
  have h4 : R w (fun b => Y b ∧ b < w.drew.heap.size ∧ v.ownBlock ≠ some b) ys l[j] := hR.keep (w := w.drew) ⟨Nat.le_refl _, fun _ _ _ => rfl⟩ h3
  exact ⟨ys, h1, h2, h4⟩
theorem Gq.drew (h : Gq w Y base te sz R v l) (hR : Rd R) : Gq w.drew Y base te sz R v l := h.keep hR ((Below.refl _ _).drew)
/-- A store into a block outside of Y. -/
theorem Gq.set (hR : Rd R) (h : Gq w Y base te sz R v l) {b : Nat} (hb : ¬ Y b) (c : Nat) (u : Value) : Gq (w.setCell ⟨b, c, none⟩ u) Y base te sz R v l := by
  obtain ⟨xs, hown, hy, hel⟩ := h
  have hsz : (w.setCell ⟨b, c, none⟩ u).heap.size = w.heap.size := by simp [World.setCell]
  refine ⟨xs, own_set (p := ⟨b, c, none⟩) hown (fun e => hb (hy b e)) u, hy, fun j hj => ?_⟩
  obtain ⟨ys, h1, h2, h3⟩ := hel j hj
  refine ⟨ys, h1, h2, ?_⟩
  rw [hsz]
  exact hR.keep (Kp.set ⟨b, c, none⟩ u fun x hx => by show x ≠ b; rintro rfl; exact hb hx.1) h3
theorem Gq.lst (hR : Rd R) (hsz : 0 < sz) (h : Gq w Y base te sz R v l) (hm : l.length ≤ maxLen) : Lst w (fun b => Y b ∧ b < w.heap.size) sz R v l := by
  obtain ⟨xs, hown, hy, hel⟩ := h
  refine row_lst hsz rfl hm hown (fun j hj => ?_) (fun k hk => ⟨hy k hk, (hown.lt k hk).2⟩)
  obtain ⟨ys, h1, h2, h3⟩ := hel j hj
  exact ⟨ys, h1, h2, hR.more (fun b hb => ⟨hb.1, hb.2.1⟩) h3⟩
theorem Gq.less {Y' : Nat → Prop} (hR : Rd R) (h : Gq w Y base te sz R v l) (hY : ∀ b, Y b → b < w.heap.size → Y' b) : Gq w Y' base te sz R v l := by
  obtain ⟨xs, hown, hy, hel⟩ := h
  refine ⟨xs, hown, fun k hk => hY k (hy k hk) (hown.lt k hk).2, fun j hj => ?_⟩
  obtain ⟨ys, h1, h2, h3⟩ := hel j hj
  exact ⟨ys, h1, h2, hR.more (fun b hb => ⟨hY b hb.1 hb.2.1, hb.2⟩) h3⟩
/-- A copy of a list. -/
theorem Gq.of_copy (hR : Rd R) {w0 : World} {cells : List (List Value)} (hown : w.ownsRow base te sz v cells.length cells.flatten) (hlen : cells.length = l.length)
    (hel : ∀ j (hj : j < l.length), ∃ xs, cells[j]? = some xs ∧ xs.length = sz ∧ R w0 (· < w0.heap.size) xs l[j]) (hb : Below w0.heap.size w0 w) (hbase : w0.heap.size ≤ base) (hY : ∀ b, b < w0.heap.size ∨ base ≤ b → Y b) : Gq w Y base te sz R v l := by
  refine ⟨cells.flatten, by rw [← hlen]; exact hown, fun k hk => hY k (.inr (hown.lt k hk).1), fun j hj => ?_⟩
  obtain ⟨ys, h1, h2, h3⟩ := els_of hlen hel j hj
  refine ⟨ys, h1, h2, hR.more (fun b hz => ?_) (hR.keep (Kp.of_below hb) h3)⟩
  have hz' : b < w0.heap.size := hz
  exact ⟨hY b (.inl hz'), Nat.lt_of_lt_of_le hz' hb.size, fun e => by have := (hown.lt b e).1; omega⟩
/-- One element more. -/
theorem Gq.snoc (hR : Rd R) {xs ys : List Value} {x : α} (hown : w.ownsRow base te sz v l.length xs) (hy : ∀ k, v.ownBlock = some k → Y k)
    (hel : ∀ j (h : j < l.length), ∃ ys, ys.length = sz ∧ (∀ c u, ys[c]? = some u → xs[j * sz + c]? = some u) ∧ R w (fun b => Y b ∧ b < w.heap.size ∧ v.ownBlock ≠ some b) ys l[j])
    (hyl : ys.length = sz) (hx : R w (fun b => Y b ∧ b < w.heap.size ∧ v.ownBlock ≠ some b) ys x)
    (hown' : w'.ownsRow base te sz v' (l.length + 1) (xs ++ ys)) (hk : Kp (fun b => v.ownBlock ≠ some b) w w') (hat : v'.ownBlock = v.ownBlock ∨ ∃ k, v'.ownBlock = some k ∧ w.heap.size ≤ k) (hY : ∀ b, w.heap.size ≤ b → Y b) : Gq w' Y base te sz R v' (l ++ [x]) := by
  have hz : ∀ b, b < w.heap.size → v.ownBlock ≠ some b → v'.ownBlock ≠ some b := by
    intro b hb hne
    rcases hat with h | ⟨k, h, hkk⟩
    · rw [h]; exact hne
    · rw [h]; intro hh; injection hh with hh; omega
  have hkz : ∀ {zs : List Value} {y : α}, R w (fun b => Y b ∧ b < w.heap.size ∧ v.ownBlock ≠ some b) zs y → R w' (fun b => Y b ∧ b < w'.heap.size ∧ v'.ownBlock ≠ some b) zs y := fun h =>
    hR.more (fun b hb => ⟨hb.1, Nat.lt_of_lt_of_le hb.2.1 hk.1, hz b hb.2.1 hb.2.2⟩) (hR.keep (hk.less fun b hb => hb.2.2) h)
  refine ⟨xs ++ ys, by rw [List.length_append]; simpa using hown', fun k hkk => ?_, fun j hj => ?_⟩
  · rcases hat with h | ⟨k', h, h'⟩
    · rw [h] at hkk; exact hy k hkk
    · rw [h] at hkk; injection hkk with hkk; subst hkk; exact hY _ h'
  · by_cases hjl : j < l.length
    · obtain ⟨zs, h1, h2, h3⟩ := hel j hjl
      refine ⟨zs, h1, fun c u hu => ?_, ?_⟩
      · have := h2 c u hu
        rw [List.getElem?_append_left (List.getElem?_eq_some_iff.1 this).1]; exact this
      · rw [List.getElem_append_left hjl]; exact hkz h3
    · have hje : j = l.length := by rw [List.length_append] at hj; simp at hj; omega
      subst hje
      refine ⟨ys, hyl, fun c u hu => ?_, ?_⟩
      · rw [← hown.1, List.getElem?_append_right (by omega)]; simpa using hu
      · rw [List.getElem_append_right (Nat.le_refl _)]
        simp only [Nat.sub_self, List.getElem_cons_zero]
        exact hkz hx
/-- A list of what 'with' returns. -/
theorem WthV.gq {w w' : World} {B : Nat → Prop} {c : Cq} {V : Value} {xs : List Value} {s : Nat → Nat} {Y : Nat → Prop} (h : WthV w B w' c V xs s) (hc : chkQ c = 0) (hBw : ∀ b, B b → b < w.heap.size) (hB : ∀ b, B b → Y b) (hw : ∀ b, w.heap.size ≤ b → Y b) : Gq w' Y w.heap.size 51 4 RAq V c.atts := by
  obtain ⟨hown, hs0, hel, hsz, h0, hbel⟩ := id h
  refine ⟨xs, hown, fun k hk => hw k (hown.lt k hk).1, fun j hj => ?_⟩
  have hms := small0 hc _ (List.getElem_mem hj)
  have hb := hbel.size
  refine ((hel j hj).2).reads (fun b hz => ⟨hB b hz, by have := hBw b hz; omega, fun e => by have := (hown.lt b e).1; have := hBw b hz; omega⟩) (fun b h1 h2 => ?_) (by unfold maxLen; omega)
  have hsj := h.mono j (Nat.le_of_lt hj)
  exact ⟨hw b (by omega), h2, fun e => by have := hs0 b e; omega⟩
end
section
variable {P : Program}
/-- append of one element that a composite literal has just laid. -/
theorem wpList_append_gq {α : Type} {R : World → (Nat → Prop) → List Value → α → Prop} (hR : Rd R) {ops : Array Oper} {rest : List Oper} {o : Oper} {a : Act} {Q : Exit → Act → World → Prop} {W : World} (hgd : o.guard = none) (s x : Operand) (t : TypeId)
    (ho : o.op = .call { callee := .builtin .append, args := #[s, x], argTypes := #[t, t] })
    (Y : Nat → Prop) (base : Nat) (e : TypeId) (i : TypeInfo) (z : Value) (sz bytes : Nat) (ht : P.underlying t = some (.slice e)) (hi : P.info? e = some i) (hz : i.zero = some z)
    (hsize : i.size = sz) (hby : i.bytes = bytes) (hzs : z.cells.size = sz) (hsz : 0 < sz)
    (v : Value) (l : List α) (hs : a.eval s = v) (hg : Gq W Y base e sz R v l)
    (g : Nat) (hx : a.eval x = .slice (some ⟨g, 0, none⟩) 1 1) (ys : List Value) (hyl : ys.length = sz) (hcell : ∀ j u, ys[j]? = some u → W.cell? ⟨g, j, none⟩ = some u) (h1 : ∀ y ∈ ys, y.oneCell' = true)
    (y : α) (hy : R W (fun b => Y b ∧ b < W.heap.size ∧ v.ownBlock ≠ some b) ys y) (hY : ∀ b, W.heap.size ≤ b → Y b)
    (hn : l.length < 1099511627776) (hb100 : bytes ≤ 128) (hbase : base ≤ W.heap.size)
    (h : ∀ v' w', Gq w' Y base e sz R v' (l ++ [y]) → W.grownBy w' v.ownBlock → Below base W w' → wpList P ops Q rest (a.put o.dst v') w') :
    wpList P ops Q (o :: rest) a W := by
  refine wpList_plain hgd fun K hK => ?_
  subst hyl
  obtain ⟨xs, hown, hyv, hel⟩ := hg
  obtain ⟨v', w', hr, hown', hgr, h3, hat⟩ := run_append_own_at (P := P) W base t o.type e i z ys.length bytes ht hi hz hsize hby hzs hsz v _ _ hown ⟨g, 0, none⟩ 1 1 ys (by simp)
    (fun j u hj => by
      rw [show (⟨g, 0, none⟩ : Addr).add j = ⟨g, j, none⟩ by unfold Addr.add; split <;> simp_all]
      exact hcell j u hj) h1 (by unfold maxLen; omega)
    (by calc (l.length + 1) * bytes ≤ 1099511627776 * 128 := Nat.mul_le_mul (by omega) hb100
          _ ≤ 140737488355328 := by omega) hbase
  have hbel : Below base W w' := (Below.refl base W).grown hgr hbase (fun k hk => (hown.lt k hk).1)
  have hfin := h v' w' (Gq.snoc hR hown hyv hel rfl hy hown' ⟨hgr.size, fun b hb hlt => hgr.block b hlt (fun e => hb e.symm)⟩ (by
    rcases hat with h | h
    · exact .inl h
    · exact .inr ⟨_, h, Nat.le_refl _⟩) hY) hgr hbel
  unfold Oper.wp execOp
  simp only [ho, resolve, invoke, builtin, Sem.run_bind, Sem.run_pure, Result.andThen_ok, List.map_toArray, List.map_cons, List.map_nil, hs, hx, hr]
  exact hK _ _ hfin
/-- append of one element that a composite literal has just laid, at a step of a drawn region: the list grows. -/
theorem step_append_gq {α : Type} {R : World → (Nat → Prop) → List Value → α → Prop} (hR : Rd R) {ops : Array Oper} {o : Oper} {a : Act} {K : Act → World → Prop} {Q : Exit → Act → World → Prop} {E : Prop} {W : World} (hgd : o.guard = none) (s x : Operand) (t : TypeId)
    (ho : o.op = .call { callee := .builtin .append, args := #[s, x], argTypes := #[t, t] })
    (Y : Nat → Prop) (base : Nat) (e : TypeId) (i : TypeInfo) (z : Value) (sz bytes : Nat) (ht : P.underlying t = some (.slice e)) (hi : P.info? e = some i) (hz : i.zero = some z)
    (hsize : i.size = sz) (hby : i.bytes = bytes) (hzs : z.cells.size = sz) (hsz : 0 < sz)
    (v : Value) (l : List α) (hs : a.eval s = v) (hg : Gq W Y base e sz R v l)
    (g : Nat) (hx : a.eval x = .slice (some ⟨g, 0, none⟩) 1 1) (ys : List Value) (hyl : ys.length = sz) (hcell : ∀ j u, ys[j]? = some u → W.cell? ⟨g, j, none⟩ = some u) (h1 : ∀ y ∈ ys, y.oneCell' = true)
    (y : α) (hy : R W (fun b => Y b ∧ b < W.heap.size ∧ v.ownBlock ≠ some b) ys y) (hY : ∀ b, W.heap.size ≤ b → Y b)
    (hn : l.length < 1099511627776) (hb100 : bytes ≤ 128) (hbase : base ≤ W.heap.size)
    (h : ∀ v' w', Gq w' Y base e sz R v' (l ++ [y]) → W.grownBy w' v.ownBlock → Below base W w' → K (a.put o.dst v') w') :
    if Region.wanted o (yielded ops a.tmps) = true then Oper.wp P o a W K Q else E := by
  have hw : Region.wanted o (yielded ops a.tmps) = true := by simp [Region.wanted, hgd]
  rw [if_pos hw]
  subst hyl
  obtain ⟨xs, hown, hyv, hel⟩ := hg
  obtain ⟨v', w', hr, hown', hgr, h3, hat⟩ := run_append_own_at (P := P) W base t o.type e i z ys.length bytes ht hi hz hsize hby hzs hsz v _ _ hown ⟨g, 0, none⟩ 1 1 ys (by simp)
    (fun j u hj => by
      rw [show (⟨g, 0, none⟩ : Addr).add j = ⟨g, j, none⟩ by unfold Addr.add; split <;> simp_all]
      exact hcell j u hj) h1 (by unfold maxLen; omega)
    (by calc (l.length + 1) * bytes ≤ 1099511627776 * 128 := Nat.mul_le_mul (by omega) hb100
          _ ≤ 140737488355328 := by omega) hbase
  have hbel : Below base W w' := (Below.refl base W).grown hgr hbase (fun k hk => (hown.lt k hk).1)
  have hfin := h v' w' (Gq.snoc hR hown hyv hel rfl hy hown' ⟨hgr.size, fun b hb hlt => hgr.block b hlt (fun e => hb e.symm)⟩ (by
    rcases hat with h | h
    · exact .inl h
    · exact .inr ⟨_, h, Nat.le_refl _⟩) hY) hgr hbel
  unfold Oper.wp execOp
  simp only [ho, resolve, invoke, builtin, Sem.run_bind, Sem.run_pure, Result.andThen_ok, List.map_toArray, List.map_cons, List.map_nil, hs, hx, hr]
  exact hfin
end
end Go.Proofs.Ytihbonndinnohaa
