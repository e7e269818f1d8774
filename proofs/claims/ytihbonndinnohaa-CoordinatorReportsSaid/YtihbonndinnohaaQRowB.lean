/- Two rows that grow side by side: their element types differ. -/
import Derived.Test.YtihbonndinnohaaQOrd2
import Derived.Test.YtihbonndinnohaaQRTrig2
namespace Go.Proofs.Ytihbonndinnohaa
open Go.RowKit
set_option linter.unusedVariables false
set_option linter.unusedSimpArgs false
/-- A row of own memory from B on; what its elements hold lies below L. -/
def GqB {α : Type} (w : World) (L B : Nat) (te : TypeId) (sz : Nat) (R : World → (Nat → Prop) → List Value → α → Prop) (v : Value) (l : List α) : Prop := ∃ xs : List Value, w.ownsRow B te sz v l.length xs ∧ Els w (· < L) sz R xs l
/-- A literal, with its block. -/
def LitT (te : TypeId) (ys : List Value) : World → Value → Prop := fun w v => ∃ g fr, v = .slice (some ⟨g, 0, none⟩) 1 1 ∧ w.heap[g]? = some (.cells ys.toArray te fr)
/-- Behind an append to a row of elements of type T. -/
def TrA (B : Nat) (T : TypeId) (w w' : World) : Prop := ∃ row, w.grownBy w' row ∧ Below B w w' ∧ ∀ b, row = some b → ∃ cur fr, w.heap[b]? = some (.cells cur T fr)
section
variable {α : Type} {R : World → (Nat → Prop) → List Value → α → Prop} {w w' : World} {L B sz : Nat} {te T : TypeId} {v : Value} {l : List α}
theorem GqB.nil : GqB w L B te sz R (.slice none 0 0) ([] : List α) := ⟨[], World.ownsRow_nil .., fun j h => absurd h (Nat.not_lt_zero _)⟩
theorem GqB.form (h : GqB w L B te sz R v l) : ∃ A cap, v = .slice A l.length cap := by
  obtain ⟨xs, hown, -⟩ := h
  exact own_form hown
theorem GqB.below (hR : Rd R) (h : GqB w L B te sz R v l) (hb : Below w.heap.size w w') : GqB w' L B te sz R v l := by
  obtain ⟨xs, hown, hel⟩ := h
  exact ⟨xs, own_keep hown hb, hel.keep hR (Kp.of_below hb)⟩
theorem GqB.set (hR : Rd R) (h : GqB w L B te sz R v l) {b : Nat} (hb : b < B) (hL : L ≤ b) (c : Nat) (u : Value) : GqB (w.setCell ⟨b, c, none⟩ u) L B te sz R v l := by
  obtain ⟨xs, hown, hel⟩ := h
  have hk : ∀ x, x < L → x ≠ b := fun x hx => by omega
  exact ⟨xs, own_set_lt (p := ⟨b, c, none⟩) hown hb u, hel.keep hR (Kp.set ⟨b, c, none⟩ u hk)⟩
theorem GqB.grown (hR : Rd R) (h : GqB w L B te sz R v l) (ht : TrA B T w w') (hne : T ≠ te) (hLB : L ≤ B) : GqB w' L B te sz R v l := by
  obtain ⟨xs, hown, hel⟩ := h
  obtain ⟨row, hg, hb, hT⟩ := ht
  refine ⟨xs, hown.kept hg ?_, hel.keep hR (Kp.lowBelow hb fun b hz => by have : b < L := hz; omega)⟩
  rcases hown.2 with ⟨rfl, -⟩ | ⟨g, cap, cur, rfl, -, hgc, -⟩
  · exact .inl rfl
  · refine .inr fun e => ?_
    obtain ⟨cur', fr, h2⟩ := hT g e.symm
    rw [hgc] at h2
    injection h2 with h2
    injection h2 with _ h2 _
    exact hne h2.symm
theorem lit_below {ys : List Value} (h : LitT te ys w v) (hb : Below w.heap.size w w') : LitT te ys w' v := by
  obtain ⟨g, fr, e, h1⟩ := h
  exact ⟨g, fr, e, (hb.block g (Array.getElem?_eq_some_iff.1 h1).1).trans h1⟩
theorem lit_grown {ys : List Value} (h : LitT te ys w v) (ht : TrA B T w w') (hne : T ≠ te) : LitT te ys w' v := by
  obtain ⟨g, fr, e, h1⟩ := h
  obtain ⟨row, hg, hb, hT⟩ := ht
  refine ⟨g, fr, e, (hg.block g (Array.getElem?_eq_some_iff.1 h1).1 fun hh => ?_).trans h1⟩
  obtain ⟨cur', fr', h2⟩ := hT g hh.symm
  rw [h1] at h2
  injection h2 with h2
  injection h2 with _ h2 _
  exact hne h2.symm
theorem lit_new (w : World) (ys : List Value) (te : TypeId) : LitT te ys (w.alloc (.cells ys.toArray te)) (.slice (some ⟨w.heap.size, 0, none⟩) 1 1) := ⟨w.heap.size, _, rfl, heap_alloc_new w _⟩
end
section
variable {P : Program}
/-- append of the element of a literal. -/
theorem wp_append_gqb {α : Type} {R : World → (Nat → Prop) → List Value → α → Prop} (hR : Rd R) {o : Oper} {a : Act} {K : Act → World → Prop} {Q : Exit → Act → World → Prop} {W : World} (s x : Operand) (t : TypeId)
    (ho : o.op = .call { callee := .builtin .append, args := #[s, x], argTypes := #[t, t] })
    (L B : Nat) (e : TypeId) (i : TypeInfo) (z : Value) (sz bytes : Nat) (ht : P.underlying t = some (.slice e)) (hi : P.info? e = some i) (hz : i.zero = some z)
    (hsize : i.size = sz) (hby : i.bytes = bytes) (hzs : z.cells.size = sz) (hsz : 0 < sz)
    (v : Value) (l : List α) (hs : a.eval s = v) (hg : GqB W L B e sz R v l)
    (u : Value) (hx : a.eval x = u) (ys : List Value) (hu : LitT e ys W u) (hyl : ys.length = sz) (h1 : ∀ y ∈ ys, y.oneCell' = true)
    (y : α) (hy : R W (· < L) ys y) (hLB : L ≤ B)
    (hn : l.length < 1099511627776) (hb100 : bytes ≤ 128) (hbase : B ≤ W.heap.size)
    (h : ∀ v' w', GqB w' L B e sz R v' (l ++ [y]) → TrA B e W w' → K (a.put o.dst v') w') :
    Oper.wp P o a W K Q := by
  subst hyl
  obtain ⟨xs, hown, hel⟩ := hg
  obtain ⟨g, fr, rfl, hgc⟩ := hu
  obtain ⟨v', w', hr, hown', hgr, h3, hat⟩ := run_append_own_at (P := P) W B t o.type e i z ys.length bytes ht hi hz hsize hby hzs hsz v _ _ hown ⟨g, 0, none⟩ 1 1 ys (by simp)
    (fun j u hj => by
      rw [show (⟨g, 0, none⟩ : Addr).add j = ⟨g, j, none⟩ by unfold Addr.add; split <;> simp_all]
      unfold World.cell?
      rw [show (⟨g, j, none⟩ : Addr).block = g from rfl, hgc]
      simpa using hj) h1 (by unfold maxLen; omega)
    (by calc (l.length + 1) * bytes ≤ 1099511627776 * 128 := Nat.mul_le_mul (by omega) hb100
          _ ≤ 140737488355328 := by omega) hbase
  have hbel : Below B W w' := (Below.refl B W).grown hgr hbase (fun k hk => (hown.lt k hk).1)
  have hkp : Kp (· < L) W w' := Kp.lowBelow hbel fun b hz => by have : b < L := hz; omega
  have hfin := h v' w' ⟨xs ++ ys, by rw [List.length_append]; simpa using hown', fun j hj => by
      by_cases hjl : j < l.length
      · obtain ⟨zs, e1, e2, e3⟩ := hel j hjl
        refine ⟨zs, e1, fun c u hu => ?_, by rw [List.getElem_append_left hjl]; exact hR.keep hkp e3⟩
        have := e2 c u hu
        rw [List.getElem?_append_left (List.getElem?_eq_some_iff.1 this).1]; exact this
      · have hje : j = l.length := by rw [List.length_append] at hj; simp at hj; omega
        subst hje
        refine ⟨ys, rfl, fun c u hu => ?_, ?_⟩
        · rw [← hown.1, List.getElem?_append_right (by omega)]; simpa using hu
        · rw [List.getElem_append_right (Nat.le_refl _)]
          simp only [Nat.sub_self, List.getElem_cons_zero]
          exact hR.keep hkp hy⟩
    ⟨v.ownBlock, hgr, hbel, fun b hb => by
      rcases hown.2 with ⟨rfl, -⟩ | ⟨g', cap, cur, rfl, -, hgc', -⟩
      · cases hb
      · have e : g' = b := by injection hb
        subst e
        exact ⟨_, _, hgc'⟩⟩
  unfold Oper.wp execOp
  simp only [ho, resolve, invoke, builtin, Sem.run_bind, Sem.run_pure, Result.andThen_ok, List.map_toArray, List.map_cons, List.map_nil, hs, hx, hr]
  exact hfin
end
end Go.Proofs.Ytihbonndinnohaa
