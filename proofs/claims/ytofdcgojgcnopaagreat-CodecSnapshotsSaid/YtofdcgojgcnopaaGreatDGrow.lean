/- Lists that a reader makes: what is in memory so far, and the step by append. -/
import Derived.Test.YtofdcgojgcnopaaGreatDOp
namespace Go.Proofs.YtofdcgojgcnopaaGreat
open Go.RowKit
set_option linter.unusedVariables false
set_option linter.unusedSimpArgs false
theorem pMany_snoc {α : Type} (p : Ps α) : ∀ (j : Nat) (s : Bs), pMany p (j + 1) s = pBind (pMany p j) (fun l => pBind p fun x => pRet (l ++ [x])) s := by
  intro j
  induction j with
  | zero => intro s; simp only [pMany, pBind, pRet]; cases p s <;> simp
  | succ j ih =>
    intro s
    have e : pMany p (j + 1 + 1) s = pBind p (fun x => pBind (pMany p (j + 1)) fun l => pRet (x :: l)) s := rfl
    rw [e]
    simp only [pBind]
    cases h : p s with
    | error c => simp [pMany, pBind, h]
    | ok xr =>
      obtain ⟨x, r⟩ := xr
      simp only [ih r]
      simp only [pMany, pBind, h]
      cases h2 : pMany p j r with
      | error c => simp
      | ok lr =>
        obtain ⟨l, r2⟩ := lr
        simp only [pRet]
        cases h3 : p r2 with
        | error c => simp
        | ok yr => obtain ⟨y, r3⟩ := yr; simp
theorem pMany_err {α : Type} {p : Ps α} {s : Bs} {c : Int} : ∀ {j m : Nat}, j ≤ m → pMany p j s = .error c → pMany p m s = .error c := by
  intro j m hjm
  induction hjm with
  | refl => exact id
  | step _ ih => intro h; rw [pMany_snoc]; unfold pBind; rw [ih h]
section
variable {α : Type} {p : Ps α} {s s' s'' : Bs} {e e' e'' : Int} {l : List α} {x : α}
theorem De.nil (h : s'.length ≤ s.length) (hs : e = 0 → s' = s) : De (pMany p 0) s e [] s' e := ⟨h, fun _ => rfl, fun h0 => .inr ⟨by rw [hs h0]; rfl, h0⟩⟩
theorem De.snoc {j : Nat} (h : De (pMany p j) s e l s' e') (h' : De p s' e' x s'' e'') : De (pMany p (j + 1)) s e (l ++ [x]) s'' e'' := by
  have hb : De (pBind (pMany p j) (fun l => pBind p fun x => pRet (l ++ [x]))) s e (l ++ [x]) s'' e'' := h.bind (h'.bind (De.ret _))
  exact ⟨hb.1, hb.2.1, fun h0 => by rw [pMany_snoc]; exact hb.2.2 h0⟩
/-- The loop ends: all are read, or behind an error. -/
theorem De.many {j m : Nat} (h : De (pMany p j) s e l s' e') (hjm : j ≤ m) (hx : j = m ∨ e' ≠ 0) : De (pMany p m) s e l s' e' := by
  refine ⟨h.1, h.2.1, fun h0 => ?_⟩
  rcases h.2.2 h0 with ⟨c, hp, hc, rfl⟩ | ⟨hp, rfl⟩
  · exact .inl ⟨_, pMany_err hjm hp, hc, rfl⟩
  · rcases hx with rfl | hx
    · exact .inr ⟨hp, rfl⟩
    · exact absurd rfl hx
theorem De.app {α β : Type} {p : Ps α} {q : α → Ps β} {s s' s'' : Bs} {e e' e'' : Int} {x : α} {y : β} (h : De p s e x s' e') (h' : De (q x) s' e' y s'' e'') : De (pBind p q) s e y s'' e'' := h.bind h'
/-- The list is read: the number n is good, and n elements are read. -/
theorem De.list {n : Int} {s1 : Bs} {e1 : Int} (h : De pnum s e n s1 e1) (hn : ¬ (n < 0 ∨ 4096 < n)) {j : Nat} (hm : De (pMany p j) s1 e1 l s' e') (hj : (j : Int) ≤ n) (hx : (j : Int) = n ∨ e' ≠ 0) : De (pL p) s e l s' e' := by
  refine De.bind h ?_
  rw [if_neg hn]
  exact hm.many (by omega) (hx.imp (fun h => by omega) id)
theorem De.listBad {n : Int} {s1 : Bs} {e1 : Int} (h : De pnum s e n s1 e1) (hn : n < 0 ∨ 4096 < n) {j : Nat} (hm : De (pMany p j) s1 (if e1 = 0 then 5 else e1) l s' e') : De (pL p) s e l s' e' := by
  have hne : (if e1 = 0 then (5 : Int) else e1) ≠ 0 := by split <;> omega
  have he := hm.2.1 hne
  subst he
  refine De.bind h ?_
  rw [if_pos hn]
  exact De.errl l hm.1 rfl (by decide)
end
/-- What reads lies in blocks that there are. -/
def Rl {α : Type} (R : World → (Nat → Prop) → List Value → α → Prop) : Prop := ∀ {w Z xs x}, R w Z xs x → R w (fun b => Z b ∧ b < w.heap.size) xs x
theorem lst_low {α : Type} {R : World → (Nat → Prop) → List Value → α → Prop} {w : World} {Z : Nat → Prop} {sz : Nat} {v : Value} {l : List α} (hR : Rl R) (hsz : 0 < sz) (h : Lst w Z sz R v l) : Lst w (fun b => Z b ∧ b < w.heap.size) sz R v l := by
  refine ⟨h.1, fun j hj => ?_⟩
  obtain ⟨g, off, cap, xs, e, hz, hl, hc, hr⟩ := h.2 j hj
  have hg : g < w.heap.size := World.block_lt_of_cell? w ⟨g, off + j * sz + 0, none⟩ (hc 0 xs[0] (List.getElem?_eq_getElem (by omega)))
  exact ⟨g, off, cap, xs, e, ⟨hz, hg⟩, hl, hc, hR hr⟩
/-- A list under way: own memory from base on; what the elements hold lies elsewhere. -/
def Grw {α : Type} (w : World) (base : Nat) (te : TypeId) (sz : Nat) (R : World → (Nat → Prop) → List Value → α → Prop) (v : Value) (l : List α) : Prop :=
  ∃ cells : List (List Value), w.ownsRow base te sz v l.length cells.flatten ∧ cells.length = l.length ∧ ∀ j (h : j < l.length), ∃ xs, cells[j]? = some xs ∧ xs.length = sz ∧ R w (fun b => base ≤ b ∧ b < w.heap.size ∧ v.ownBlock ≠ some b) xs l[j]
section
variable {α : Type} {R : World → (Nat → Prop) → List Value → α → Prop} {w w' : World} {base sz : Nat} {te : TypeId} {v v' : Value} {l : List α}
theorem Grw.nil : Grw w base te sz R (.slice none 0 0) ([] : List α) := ⟨[], World.ownsRow_nil .., rfl, fun j h => absurd h (Nat.not_lt_zero _)⟩
/-- Behind anything that turns only the block F, below base. -/
theorem Grw.keep {F : Nat} (hR : Rd R) (h : Grw w base te sz R v l) (ht : Rt F w w') (hF : F < base) : Grw w' base te sz R v l := by
  obtain ⟨cells, hown, hlen, hel⟩ := h
  refine ⟨cells, hown.kept (row := some F) ⟨ht.low.os, ht.low.tape, ht.low.output, ht.low.size, fun k hk hne => ht.kp.2 k (fun e => hne (by rw [e])) hk⟩ ?_, hlen, fun j hj => ?_⟩
  · cases hv : v.ownBlock with
    | none => exact .inl rfl
    | some k => exact .inr (fun hh => by have := (hown.lt k hv).1; injection hh with hh; omega)
  · obtain ⟨xs, h1, h2, h3⟩ := hel j hj
    refine ⟨xs, h1, h2, hR.more (fun b hb => ⟨hb.1, Nat.lt_of_lt_of_le hb.2.1 ht.kp.1, hb.2.2⟩) (hR.keep (ht.kp.less fun b hb => ?_) h3)⟩
    show b ≠ F
    have := hb.1; omega
theorem Grw.own (h : Grw w base te sz R v l) : ∃ cells : List (List Value), w.ownsRow base te sz v l.length cells.flatten := by obtain ⟨c, h, -⟩ := h; exact ⟨c, h⟩
/-- One element more. -/
theorem Grw.snoc (hR : Rd R) (hl : Rl R) {w0 : World} {cells : List (List Value)} (hown : w.ownsRow base te sz v l.length cells.flatten) (hlen : cells.length = l.length)
    (hel : ∀ j (h : j < l.length), ∃ xs, cells[j]? = some xs ∧ xs.length = sz ∧ R w (fun b => base ≤ b ∧ b < w.heap.size ∧ v.ownBlock ≠ some b) xs l[j])
    {xs : List Value} {x : α} (hxl : xs.length = sz) (hx : R w (w0.heap.size ≤ ·) xs x) (h0 : base ≤ w0.heap.size) (hv : ∀ k, v.ownBlock = some k → k < w0.heap.size)
    (hown' : w'.ownsRow base te sz v' (l.length + 1) (cells.flatten ++ xs)) (hk : Kp (fun b => v.ownBlock ≠ some b) w w') (hat : v'.ownBlock = v.ownBlock ∨ ∃ k, v'.ownBlock = some k ∧ w.heap.size ≤ k) : Grw w' base te sz R v' (l ++ [x]) := by
  refine ⟨cells ++ [xs], by rw [List.length_append]; simpa using hown', by simp [hlen], fun j hj => ?_⟩
  have hz : ∀ b, b < w.heap.size → v.ownBlock ≠ some b → v'.ownBlock ≠ some b := by
    intro b hb hne
    rcases hat with h | ⟨k, h, hkk⟩
    · rw [h]; exact hne
    · rw [h]; intro hh; injection hh with hh; omega
  by_cases hjl : j < l.length
  · obtain ⟨ys, h1, h2, h3⟩ := hel j hjl
    refine ⟨ys, by rw [List.getElem?_append_left (by omega)]; exact h1, h2, ?_⟩
    rw [List.getElem_append_left hjl]
    exact hR.more (fun b hb => ⟨hb.1, Nat.lt_of_lt_of_le hb.2.1 hk.1, hz b hb.2.1 hb.2.2⟩) (hR.keep (hk.less fun b hb => hb.2.2) h3)
  · have hje : j = l.length := by rw [List.length_append] at hj; simp at hj; omega
    subst hje
    refine ⟨xs, by rw [List.getElem?_append_right (by omega), hlen]; simp, hxl, ?_⟩
    rw [List.getElem_append_right (Nat.le_refl _)]
    simp only [Nat.sub_self, List.getElem_cons_zero]
    have hx2 := hl hx
    have hvb : ∀ b, w0.heap.size ≤ b → v.ownBlock ≠ some b := fun b hb hh => by have := hv b hh; omega
    exact hR.more (fun b hb => ⟨Nat.le_trans h0 hb.1, Nat.lt_of_lt_of_le hb.2 hk.1, hz b hb.2 (hvb b hb.1)⟩) (hR.keep (hk.less fun b hb => hvb b hb.1) hx2)
/-- The list is done. -/
theorem Grw.lst (hR : Rd R) (hsz : 0 < sz) (h : Grw w base te sz R v l) (hm : l.length ≤ maxLen) : Lst w (base ≤ ·) sz R v l := by
  obtain ⟨cells, hown, hlen, hel⟩ := h
  refine Lst.of_own hsz hown (fun b hb => hb) hlen hm fun j hj => ?_
  obtain ⟨xs, h1, h2, h3⟩ := hel j hj
  exact ⟨xs, h1, h2, hR.more (fun b hb => hb.1) h3⟩
end
theorem Rw.low {w w' : World} {F : Nat} {s : Bs} {e : Int} {B : Nat} (h : Rw w F s e) (hb : Below B w w') (hF : F < B) : Rw w' F s e :=
  ⟨(hb.cell (p := ⟨F, 0, none⟩) hF).trans h.c0, (hb.cell (p := ⟨F, 1, none⟩) hF).trans h.c1, (hb.frozen (p := ⟨F, 0, none⟩) hF).trans h.f0, (hb.frozen (p := ⟨F, 1, none⟩) hF).trans h.f1⟩
theorem Rt.below {F : Nat} {w0 w w' : World} (h : Rt F w0 w) (hb : Below w0.heap.size w w') (hF : F ≤ w0.heap.size) : Rt F w0 w' :=
  ⟨h.low.trans (hb.mono hF), ⟨Nat.le_trans h.kp.1 hb.size, fun b hz hl => (hb.block b hl).trans (h.kp.2 b hz hl)⟩⟩
section
variable {P : Program}
/-- append(s, x) of one element that a composite literal has just laid: the list grows. -/
theorem wpList_append_grw {α : Type} {R : World → (Nat → Prop) → List Value → α → Prop} (hR : Rd R) (hl : Rl R) {ops : Array Oper} {rest : List Oper} {o : Oper} {a : Act} {Q : Exit → Act → World → Prop} {wr : World} (hgd : o.guard = none) (s x : Operand) (t : TypeId)
    (ho : o.op = .call { callee := .builtin .append, args := #[s, x], argTypes := #[t, t] })
    (base : Nat) (e : TypeId) (i : TypeInfo) (z : Value) (bytes : Nat) (ht : P.underlying t = some (.slice e)) (hi : P.info? e = some i) (hz : i.zero = some z)
    (ys : List Value) (hsize : i.size = ys.length) (hby : i.bytes = bytes) (hzs : z.cells.size = ys.length) (hsz : 0 < ys.length)
    (v : Value) (l : List α) (hs : a.eval s = v) (hg : Grw wr base e ys.length R v l)
    (te : TypeId) (hx : a.eval x = .slice (some ⟨wr.heap.size, 0, none⟩) 1 1) (h1 : ∀ y ∈ ys, y.oneCell' = true)
    (y : α) {w0 : World} (hy : R wr (w0.heap.size ≤ ·) ys y) (h0 : base ≤ w0.heap.size) (hv : ∀ k, v.ownBlock = some k → k < w0.heap.size)
    (hn : l.length < 1099511627776) (hb100 : bytes ≤ 128) (hbase : base ≤ wr.heap.size)
    (h : ∀ v' w', Grw w' base e ys.length R v' (l ++ [y]) → Below base wr w' → wr.heap.size ≤ w'.heap.size → wpList P ops Q rest (a.put o.dst v') w') :
    wpList P ops Q (o :: rest) a (wr.alloc (.cells ys.toArray te)) := by
  obtain ⟨cells, hown, hlen, hel⟩ := hg
  refine wpList_append_own_at (wr.alloc (.cells ys.toArray te)) hgd s x t ho base e i z ys.length bytes ht hi hz hsize hby hzs hsz v _ _ hs (hown.alloc _) ⟨wr.heap.size, 0, none⟩ 1 1 ys hx (by simp) ?_ h1 (by unfold maxLen; omega) ?_ (by simp; omega) ?_
  · intro j u hj
    rw [show (⟨wr.heap.size, 0, none⟩ : Addr).add j = ⟨wr.heap.size, j, none⟩ by unfold Addr.add; split <;> simp_all]
    rw [World.cell?_alloc_at _ _ _ _ rfl]
    simpa using hj
  · calc (l.length + 1) * bytes ≤ 1099511627776 * 128 := Nat.mul_le_mul (by omega) hb100
      _ ≤ 140737488355328 := by omega
  · intro v' w' hown' hg _ hat
    have hbel : Below base wr w' := ((Below.refl base wr).alloc hbase _).grown hg (by simp; omega) (fun k hk => (hown.lt k hk).1)
    refine h v' w' (Grw.snoc hR hl hown hlen hel rfl hy h0 hv hown' ?_ ?_) hbel hbel.size
    · refine (Kp.alloc _).trans ⟨hg.size, fun b hb hlt => hg.block b hlt (fun e => hb e.symm)⟩
    · rcases hat with h | h
      · exact .inl h
      · exact .inr ⟨_, h, by simp⟩
end
theorem Grw.low {α : Type} {R : World → (Nat → Prop) → List Value → α → Prop} {w : World} {base sz : Nat} {te : TypeId} {v : Value} {l : List α} (h : Grw w base te sz R v l) : ∀ k, v.ownBlock = some k → k < w.heap.size := by
  obtain ⟨c, h, -⟩ := h; exact fun k hk => (h.lt k hk).2
end Go.Proofs.YtofdcgojgcnopaaGreat
