/- Lists that a reader makes in a field of a struct of its own. -/
import Derived.Test.YtofdcgojgcnopaaDGrow
import Derived.Test.YtofdcgojgcnopaaDTake
import Derived.Deep.RegionLaw
namespace Go.Proofs.Ytofdcgojgcnopaa
open Go.RowKit
set_option linter.unusedVariables false
set_option linter.unusedSimpArgs false
theorem Rw.drew {w : World} {F : Nat} {s : Bs} {e : Int} (h : Rw w F s e) : Rw w.drew F s e := ⟨h.c0, h.c1, h.f0, h.f1⟩
/-- Nothing but the blocks F and b has turned, of what there was. -/
structure Rt2 (F b : Nat) (w w' : World) : Prop where
  low : Below F w w'
  kp : Kp (fun x => x ≠ F ∧ x ≠ b) w w'
section
variable {F b : Nat} {w w' w'' : World}
theorem Rt2.refl : Rt2 F b w w := ⟨Below.refl _ _, Kp.refl⟩
theorem Rt2.of (h : Rt F w w') : Rt2 F b w w' := ⟨h.low, h.kp.less fun _ h => h.1⟩
theorem Rt2.trans (h : Rt2 F b w w') (h' : Rt2 F b w' w'') : Rt2 F b w w'' := ⟨h.low.trans h'.low, h.kp.trans h'.kp⟩
theorem Rt2.below (h : Rt2 F b w w') (hb : Below w.heap.size w' w'') (hF : F ≤ w.heap.size) : Rt2 F b w w'' :=
  ⟨h.low.trans (hb.mono hF), ⟨Nat.le_trans h.kp.1 hb.size, fun x hz hl => (hb.block x hl).trans (h.kp.2 x hz hl)⟩⟩
theorem Rt2.set (h : Rt2 F b w w') (hF : F ≤ b) (c : Nat) (u : Value) : Rt2 F b w (w'.setCell ⟨b, c, none⟩ u) := by
  have hk : Kp (fun x => x ≠ F ∧ x ≠ b) w' (w'.setCell ⟨b, c, none⟩ u) := Kp.set ⟨b, c, none⟩ u (fun d hd => hd.2)
  exact ⟨h.low.setCell (p := ⟨b, c, none⟩) hF _, h.kp.trans hk⟩
/-- A box that is laid later than w0. -/
theorem Rt.then2 {w0 : World} (h : Rt F w0 w) (hb : w0.heap.size ≤ b) (h2 : Rt2 F b w w') : Rt F w0 w' :=
  ⟨h.low.trans h2.low, Nat.le_trans h.kp.1 h2.kp.1, fun x hz hl => (h2.kp.2 x ⟨hz, by omega⟩ (Nat.lt_of_lt_of_le hl h.kp.1)).trans (h.kp.2 x hz hl)⟩
theorem Bo.keep2 {r : Nat} {x : Value} {xs : List Value} (h : Bo F w r (x :: xs)) (hr : r ≠ b) (ht : Rt2 F b w w') : Bo F w' r (x :: xs) := by
  have hb := ht.kp.2 r ⟨h.1, hr⟩ h.lt
  exact ⟨h.1, fun c u hu => (World.cell?_of_block (w := w) (a := ⟨r, c, none⟩) hb).trans (h.2.1 c u hu), fun c hc => (World.frozen?_of_block (w := w) (a := ⟨r, c, none⟩) hb).trans (h.2.2 c hc)⟩
theorem Bo.low {r B : Nat} {xs : List Value} (h : Bo F w r xs) (hb : Below B w w') (hr : r < B) : Bo F w' r xs :=
  ⟨h.1, fun c u hu => (hb.cell (p := ⟨r, c, none⟩) hr).trans (h.2.1 c u hu), fun c hc => (hb.frozen (p := ⟨r, c, none⟩) hr).trans (h.2.2 c hc)⟩
theorem Bo.undrew {r : Nat} {xs : List Value} (h : Bo F w.drew r xs) : Bo F w r xs := h
end
section
variable {α : Type} {R : World → (Nat → Prop) → List Value → α → Prop} {w w' : World} {base sz : Nat} {te : TypeId} {v v' : Value} {l : List α}
/-- A store below base. -/
theorem Grw.set (hR : Rd R) (h : Grw w base te sz R v l) {b : Nat} (hb : b < base) (c : Nat) (u : Value) : Grw (w.setCell ⟨b, c, none⟩ u) base te sz R v l := by
  obtain ⟨cells, hown, hlen, hel⟩ := h
  have hsz : (w.setCell ⟨b, c, none⟩ u).heap.size = w.heap.size := by simp [World.setCell]
  refine ⟨cells, hown.kept (row := some b) ⟨rfl, rfl, rfl, by rw [hsz]; exact Nat.le_refl _, fun k _ hk => Below.heap_setCell w ⟨b, c, none⟩ u k (fun hh => hk (by rw [hh]))⟩ ?_, hlen, fun j hj => ?_⟩
  · cases hv : v.ownBlock with
    | none => exact .inl rfl
    | some k => exact .inr (fun hh => by have := (hown.lt k hv).1; injection hh with hh; omega)
  · obtain ⟨xs, h1, h2, h3⟩ := hel j hj
    refine ⟨xs, h1, h2, ?_⟩
    rw [hsz]
    exact hR.keep (Kp.set ⟨b, c, none⟩ u fun x hx => by show x ≠ b; have := hx.1; omega) h3
theorem Grw.undrew (h : Grw w.drew base te sz R v l) (hR : Rd R) : Grw w base te sz R v l := by
  obtain ⟨cells, hown, hlen, hel⟩ := h
  refine ⟨cells, hown, hlen, fun j hj => ?_⟩
  obtain ⟨xs, h1, h2, h3⟩ := hel j hj
  have h4 : R w (fun b => base ≤ b ∧ b < w.drew.heap.size ∧ v.ownBlock ≠ some b) xs l[j] := hR.keep (w := w.drew) ⟨Nat.le_refl _, fun _ _ _ => rfl⟩ h3
  exact ⟨xs, h1, h2, h4⟩
theorem Grw.form (h : Grw w base te sz R v l) : ∃ A cap, v = .slice A l.length cap := by
  obtain ⟨cells, hown, -⟩ := h
  rcases hown.2 with ⟨rfl, h0⟩ | ⟨g, cap, cur, rfl, -⟩
  · exact ⟨none, 0, by rw [h0]⟩
  · exact ⟨_, _, rfl⟩
end
section
variable {P : Program}
/-- append of one element that a composite literal has just laid, at a step of a drawn region: the list grows. -/
theorem step_append_grw {α : Type} {R : World → (Nat → Prop) → List Value → α → Prop} (hR : Rd R) (hl : Rl R) {ops : Array Oper} {o : Oper} {a : Act} {K : Act → World → Prop} {Q : Exit → Act → World → Prop} {E : Prop} {wr : World} (hgd : o.guard = none) (s x : Operand) (t : TypeId)
    (ho : o.op = .call { callee := .builtin .append, args := #[s, x], argTypes := #[t, t] })
    (base : Nat) (e : TypeId) (i : TypeInfo) (z : Value) (bytes : Nat) (ht : P.underlying t = some (.slice e)) (hi : P.info? e = some i) (hz : i.zero = some z)
    (ys : List Value) (hsize : i.size = ys.length) (hby : i.bytes = bytes) (hzs : z.cells.size = ys.length) (hsz : 0 < ys.length)
    (v : Value) (l : List α) (hs : a.eval s = v) (hg : Grw wr base e ys.length R v l)
    (te : TypeId) (hx : a.eval x = .slice (some ⟨wr.heap.size, 0, none⟩) 1 1) (h1 : ∀ y ∈ ys, y.oneCell' = true)
    (y : α) {w0 : World} (hy : R wr (w0.heap.size ≤ ·) ys y) (h0 : base ≤ w0.heap.size) (hv : ∀ k, v.ownBlock = some k → k < w0.heap.size)
    (hn : l.length < 1099511627776) (hb100 : bytes ≤ 128) (hbase : base ≤ wr.heap.size)
    (h : ∀ v' w', Grw w' base e ys.length R v' (l ++ [y]) → Below base wr w' → wr.heap.size ≤ w'.heap.size → K (a.put o.dst v') w') :
    if Region.wanted o (yielded ops a.tmps) = true then Oper.wp P o a (wr.alloc (.cells ys.toArray te)) K Q else E := by
  have hw : Region.wanted o (yielded ops a.tmps) = true := by simp [Region.wanted, hgd]
  rw [if_pos hw]
  obtain ⟨cells, hown, hlen, hel⟩ := hg
  obtain ⟨v', w', hr, hown', hg, h3, hat⟩ := run_append_own_at (P := P) (wr.alloc (.cells ys.toArray te)) base t o.type e i z ys.length bytes ht hi hz hsize hby hzs hsz v _ _ (hown.alloc _) ⟨wr.heap.size, 0, none⟩ 1 1 ys (by simp)
    (fun j u hj => by
      rw [show (⟨wr.heap.size, 0, none⟩ : Addr).add j = ⟨wr.heap.size, j, none⟩ by unfold Addr.add; split <;> simp_all]
      rw [World.cell?_alloc_at _ _ _ _ rfl]
      simpa using hj) h1 (by unfold maxLen; omega)
    (by calc (l.length + 1) * bytes ≤ 1099511627776 * 128 := Nat.mul_le_mul (by omega) hb100
          _ ≤ 140737488355328 := by omega) (by simp; omega)
  have hbel : Below base wr w' := ((Below.refl base wr).alloc hbase _).grown hg (by simp; omega) (fun k hk => (hown.lt k hk).1)
  have hfin := h v' w' (Grw.snoc hR hl hown hlen hel rfl hy h0 hv hown' ((Kp.alloc _).trans ⟨hg.size, fun b hb hlt => hg.block b hlt (fun e => hb e.symm)⟩) (by
    rcases hat with h | h
    · exact .inl h
    · exact .inr ⟨_, h, by simp⟩)) hbel hbel.size
  unfold Oper.wp execOp
  simp only [ho, resolve, invoke, builtin, Sem.run_bind, Sem.run_pure, Result.andThen_ok, List.map_toArray, List.map_cons, List.map_nil, hs, hx, hr]
  exact hfin
end
/-- The length of a list. -/
def pCount : Ps Int := pBind pnum fun n => if n < 0 ∨ 4096 < n then pErr 5 else pRet n
def RCt (_ : World) (v : Value) (n : Int) : Prop := v = .int .i64 n ∧ 0 ≤ n ∧ n ≤ 4096
theorem pL_count {α : Type} (p : Ps α) (s : Bs) : pL p s = pBind pCount (fun n => pMany p n.toNat) s := by
  unfold pL pCount pBind
  cases pnum s with
  | error c => rfl
  | ok x =>
    obtain ⟨n, r⟩ := x
    simp only
    by_cases h : n < 0 ∨ 4096 < n
    · rw [if_pos h, if_pos h]; rfl
    · rw [if_neg h, if_neg h]; rfl
theorem De.counted {α : Type} {p : Ps α} {s s1 s' : Bs} {e e1 e' n : Int} {l : List α} {j : Nat} (h : De pCount s e n s1 e1) (hm : De (pMany p j) s1 e1 l s' e') (hj : (j : Int) ≤ n) (hx : n ≤ (j : Int) ∨ e' ≠ 0) : De (pL p) s e l s' e' := by
  have := h.bind (q := fun n => pMany p n.toNat) (hm.many (m := n.toNat) (by omega) (hx.imp (fun h => by omega) id))
  exact ⟨this.1, this.2.1, fun h0 => by rw [pL_count]; exact this.2.2 h0⟩
section
variable (F : Nat) (s : Bs) (e : Int) (w : World)
set_option maxRecDepth 100000 in
set_option maxHeartbeats 4000000 in
theorem rcount_any (hs : s.length ≤ 100000000) (h : Rw w F s e) : Calls Try.prog 86 #[.pointer (some ⟨F, 0, none⟩)] w (Rds F pCount RCt s e w) := by
  have HI := hide (rtake_any F s e w hs h)
  clear h
  go_enter Try.func86, Try.ntmps86
  go_wp2_with fail
  refine HI.out.mono ?_
  rintro en w1 ⟨_, n, s1, e1, rfl, ⟨rfl, hn⟩, hd, hw, ht⟩
  have HD := hide hd
  have HW := hide hw
  have HT := hide ht
  clear hd hw ht
  unfold inI at hn
  by_cases hbad : n < 0 ∨ 4096 < n
  · have HF := hide (rfail_any F s1 e1 w1 5 HW.out)
    have HDE := hide (HD.out.bind (q := fun n => if n < 0 ∨ 4096 < n then pErr 5 else pRet n) (De.errl (e := e1) (0 : Int) (Nat.le_refl _) (by rw [if_pos hbad]; rfl) (by decide : (5 : Int) ≠ 0)))
    obtain ⟨e2, he2⟩ : ∃ e2, (if e1 = 0 then 5 else e1) = e2 := ⟨_, rfl⟩
    rw [he2] at HF HDE
    clear he2
    rcases hbad with hb1 | hb1
    all_goals
      go_wp2_with fail
      refine HF.out.mono ?_
      rintro en w2 ⟨rfl, hw, ht⟩
      have HW2 := hide hw
      have HT2 := hide (HT.out.trans ht)
      clear hw ht
      go_wp2
      go_ret
      exact ⟨_, 0, s1, e2, rfl, ⟨rfl, by omega, by omega⟩, HDE.out, HW2.out, HT2.out⟩
  · have HDE := hide (HD.out.bind (q := fun n => if n < 0 ∨ 4096 < n then pErr 5 else pRet n) (show De _ s1 e1 n s1 e1 by rw [if_neg hbad]; exact De.ret n))
    have hb1 : 0 ≤ n := by omega
    have hb2 : n ≤ 4096 := by omega
    go_wp2
    go_ret
    exact ⟨_, n, s1, e1, rfl, ⟨rfl, hb1, hb2⟩, HDE.out, HW.out, HT.out⟩
end
end Go.Proofs.Ytofdcgojgcnopaa
