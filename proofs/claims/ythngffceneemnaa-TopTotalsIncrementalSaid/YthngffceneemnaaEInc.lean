/- The walk of the law TopTotalsIncremental. -/
import Derived.Test.YthngffceneemnaaETT
namespace Go.Proofs.Ythngffceneemnaa
open Go.RowKit
set_option linter.unusedVariables false
set_option linter.unusedSimpArgs false
section
variable {P : Program} {w : World}
/-- append(s, x...) of a list that lies anywhere. -/
theorem wpList_append_row {ops : Array Oper} {rest : List Oper} {o : Oper} {a : Act} {Q : Exit → Act → World → Prop} (hgd : o.guard = none) (s x : Operand) (t : TypeId)
    (ho : o.op = .call { callee := .builtin .append, args := #[s, x], argTypes := #[t, t] })
    (base : Nat) (e : TypeId) (i : TypeInfo) (z : Value) (size bytes : Nat) (ht : P.underlying t = some (.slice e)) (hi : P.info? e = some i) (hz : i.zero = some z)
    (hsize : i.size = size) (hby : i.bytes = bytes) (hzs : z.cells.size = size) (hsz : 0 < size)
    (v : Value) (n : Nat) (xs : List Value) (hs : a.eval s = v) (hown : w.ownsRow base e size v n xs)
    (vx : Value) (B m : Nat) (news : List Value) (hx : a.eval x = vx) (hrow : Row w B size vx m news) (h1 : ∀ u ∈ news, u.oneCell' = true)
    (h63 : n + m ≤ maxLen) (hbytes : (n + m) * bytes ≤ 140737488355328) (hbase : base ≤ w.heap.size)
    (h : ∀ v' w', w'.ownsRow base e size v' (n + m) (xs ++ news) → Below base w w' → wpList P ops Q rest (a.put o.dst v') w') :
    wpList P ops Q (o :: rest) a w := by
  refine wpList_plain hgd fun K hK => ?_
  rcases hrow.2 with ⟨rfl, rfl⟩ | ⟨g, off, cap, rfl, hg, hn, hc⟩
  · have hnil : news = [] := by have := hrow.1; simp at this; exact this
    subst hnil
    have hrun := run_append_owned_none (P := P) (w := w) base t o.type e i size ht hi v n xs hown
    unfold Oper.wp
    simp [execOp, ho, resolve, invoke, builtin, hs, hx, hrun, Result.andThen]
    exact hK _ _ (h v w (by simpa using hown) (Below.refl _ _))
  · obtain ⟨v', w', hr, h2, h3, _, h5⟩ := run_append_own_at (P := P) w base t o.type e i z size bytes ht hi hz hsize hby hzs hsz v n xs hown ⟨g, off, none⟩ m cap news hrow.1
      (fun j u hj => by rw [show (⟨g, off, none⟩ : Addr).add j = ⟨g, off + j, none⟩ by unfold Addr.add; split <;> simp_all]; exact hc j u hj) h1 h63 hbytes hbase
    unfold Oper.wp execOp
    simp only [ho, resolve, invoke, builtin, Sem.run_bind, Sem.run_pure, Result.andThen_ok, List.map_toArray, List.map_cons, List.map_nil, hs, hx, hr]
    exact hK _ _ (h v' w' h2 ((Below.refl base w).grown h3 hbase (fun k hk => (hown.lt k hk).1)))
end
/-- The cells of an accumulator. -/
def a5c (a : A5) : List Value := [.int .i64 a.k, .int .i64 a.c, .int .i64 a.q, .int .i64 a.n, .string a.s]
/-- A box of three accumulators. -/
def BoxL (w : World) (F : Nat) (f : Nat → A5) : Prop := ∀ i, i < 3 → ∀ c u, (a5c (f i))[c]? = some u → w.cell? ⟨F, i * 5 + c, none⟩ = some u ∧ w.frozen? ⟨F, i * 5 + c, none⟩ = false
def upd (f : Nat → A5) (j : Nat) (a : A5) : Nat → A5 := fun i => if i = j then a else f i
theorem a5c_lt {a : A5} {c : Nat} {u : Value} (h : (a5c a)[c]? = some u) : c < 5 := (List.getElem?_eq_some_iff.1 h).1
theorem BoxL.set {w : World} {F j : Nat} {f : Nat → A5} (h : BoxL w F f) (hj : j < 3) (a : A5) : BoxL (((((w.setCell ⟨F, j * 5, none⟩ (.int .i64 a.k)).setCell ⟨F, j * 5 + 1, none⟩ (.int .i64 a.c)).setCell ⟨F, j * 5 + 2, none⟩ (.int .i64 a.q)).setCell ⟨F, j * 5 + 3, none⟩ (.int .i64 a.n)).setCell ⟨F, j * 5 + 4, none⟩ (.string a.s)) F (upd f j a) := by
  intro i hi c u hu
  have hc := a5c_lt hu
  refine ⟨?_, by simp only [World.frozen?_setCell]; exact (h i hi c _ (List.getElem?_eq_getElem (show c < (a5c (f i)).length from hc))).2⟩
  unfold upd at hu
  have ne : ∀ m n : Nat, m ≠ n → (⟨F, m, none⟩ : Addr) ≠ ⟨F, n, none⟩ := fun m n h e => by injection e with _ e _; exact h e
  by_cases e : i = j
  · subst e
    rw [if_pos rfl] at hu
    have old : ∀ c, c < 5 → (w.cell? ⟨F, i * 5 + c, none⟩).isSome = true := fun c hc => by rw [(h i hi c _ (List.getElem?_eq_getElem (show c < (a5c (f i)).length from hc))).1]; rfl
    have hc5 : c = 0 ∨ c = 1 ∨ c = 2 ∨ c = 3 ∨ c = 4 := by omega
    have some_set : ∀ (w : World) (p q : Addr) (v : Value), (w.cell? q).isSome = true → ((w.setCell p v).cell? q).isSome = true := by
      intro w p q v hs
      by_cases e : p = q
      · subst e; rw [World.cell?_setCell_same' _ _ _ hs]; rfl
      · rw [World.cell?_setCell_other _ _ _ _ e]; exact hs
    rcases hc5 with rfl | rfl | rfl | rfl | rfl <;> (simp [a5c] at hu; subst hu)
    · rw [World.cell?_setCell_other _ _ _ _ (ne _ _ (by omega)), World.cell?_setCell_other _ _ _ _ (ne _ _ (by omega)), World.cell?_setCell_other _ _ _ _ (ne _ _ (by omega)), World.cell?_setCell_other _ _ _ _ (ne _ _ (by omega))]
      exact World.cell?_setCell_same' _ _ _ (old 0 (by omega))
    · rw [World.cell?_setCell_other _ _ _ _ (ne _ _ (by omega)), World.cell?_setCell_other _ _ _ _ (ne _ _ (by omega)), World.cell?_setCell_other _ _ _ _ (ne _ _ (by omega))]
      exact World.cell?_setCell_same' _ _ _ (some_set _ _ _ _ (old 1 (by omega)))
    · rw [World.cell?_setCell_other _ _ _ _ (ne _ _ (by omega)), World.cell?_setCell_other _ _ _ _ (ne _ _ (by omega))]
      exact World.cell?_setCell_same' _ _ _ (some_set _ _ _ _ (some_set _ _ _ _ (old 2 (by omega))))
    · rw [World.cell?_setCell_other _ _ _ _ (ne _ _ (by omega))]
      exact World.cell?_setCell_same' _ _ _ (some_set _ _ _ _ (some_set _ _ _ _ (some_set _ _ _ _ (old 3 (by omega)))))
    · exact World.cell?_setCell_same' _ _ _ (some_set _ _ _ _ (some_set _ _ _ _ (some_set _ _ _ _ (some_set _ _ _ _ (old 4 (by omega))))))
  · rw [if_neg e] at hu
    rw [World.cell?_setCell_other _ _ _ _ (ne _ _ (by omega)), World.cell?_setCell_other _ _ _ _ (ne _ _ (by omega)), World.cell?_setCell_other _ _ _ _ (ne _ _ (by omega)), World.cell?_setCell_other _ _ _ _ (ne _ _ (by omega)), World.cell?_setCell_other _ _ _ _ (ne _ _ (by omega))]
    exact (h i hi c u hu).1
theorem BoxL.low {w w' : World} {B F : Nat} {f : Nat → A5} (h : BoxL w F f) (hb : Below B w w') (hF : F < B) : BoxL w' F f := fun i hi c u hu =>
  ⟨(hb.cell (p := ⟨F, _, none⟩) hF).trans (h i hi c u hu).1, (hb.frozen (p := ⟨F, _, none⟩) hF).trans (h i hi c u hu).2⟩
/-- Three accumulators of zeros. -/
def z15 : List Value := a5c A5.z ++ (a5c A5.z ++ a5c A5.z)
theorem BoxL.new (w : World) (t : TypeId) : BoxL (w.alloc (.cells z15.toArray t)) w.heap.size (fun _ => A5.z) := by
  intro i hi c u hu
  have hc := a5c_lt hu
  refine ⟨cells_lit w z15 t _ u ?_, laid_free w _ _ _⟩
  have hi3 : i = 0 ∨ i = 1 ∨ i = 2 := by omega
  have hc5 : c = 0 ∨ c = 1 ∨ c = 2 ∨ c = 3 ∨ c = 4 := by omega
  rcases hi3 with rfl | rfl | rfl <;> rcases hc5 with rfl | rfl | rfl | rfl | rfl <;> exact hu
theorem own_low {w w' : World} {base : Nat} {te : TypeId} {sz n A : Nat} {v : Value} {xs : List Value} (h : w.ownsRow base te sz v n xs) (hb : Below A w w') (hA : ∀ k, v.ownBlock = some k → k < A) : w'.ownsRow base te sz v n xs := by
  refine ⟨h.1, ?_⟩
  rcases h.2 with h0 | ⟨g, cap, cur, rfl, hbg, hg, rest⟩
  · exact .inl h0
  · exact .inr ⟨g, cap, cur, rfl, hbg, (hb.block g (hA g rfl)).trans hg, rest⟩
/-- The first j lists, one behind the other. -/
def cat (Q : Nat → List V3) : Nat → List V3
  | 0 => []
  | j + 1 => cat Q j ++ Q j
section
variable (k : Int) (o : V3) (pv : Nat → Value) (Q : Nat → List V3) (w : World)
set_option maxRecDepth 100000 in
set_option maxHeartbeats 4000000 in
theorem inc_no (hp : ∀ i, i < 3 → InV w (pv i) (Q i)) (hk : knownB k = false ∨ k = 0) : Calls Try.prog 3 #[.int .i64 k, .agg #[pv 0, pv 1, pv 2], .agg #[.int .i64 o.q, .int .i64 o.n, .string o.s]] w (Ret (.bool true) w) := by
  obtain ⟨A0, c0, e0⟩ := (hp 0 (by omega)).2.2.1
  obtain ⟨A1, c1, e1⟩ := (hp 1 (by omega)).2.2.1
  obtain ⟨A2, c2, e2⟩ := (hp 2 (by omega)).2.2.1
  rw [e0, e1, e2]
  have HT := hide (fun w => trytot_any w)
  have HBG := hide (fun w => abegin_any k w)
  have hl0 := (hp 0 (by omega)).1
  clear hp e0 e1 e2
  go_enter Try.func3, Try.ntmps3
  go_wp2_with fail
  refine (HT.out _).mono ?_
  rintro e w1 ⟨rfl, hb⟩
  have HW := hide (bthen (bthen (below_laid _) (below_laid _)) hb)
  clear hb
  go_wp2_with fail
  refine wp_loop_rounds 1 ?_
  rw [rounds_succ]
  go_wp2_with fail
  refine (HBG.out _).mono ?_
  rintro e w2 ⟨rfl, hb⟩
  have hW2 := bthen HW.out (bel1 hb)
  clear hb
  rcases hk with hk | hk
  · rw [show begE k = 1 from if_neg (by simp [hk]), show begV k = 0 from if_neg (by simp [hk])]
    go_wp2
    go_ret
    exact Ret.bool rfl (bthen hW2 (below_laid _))
  · subst hk
    rw [show begE 0 = 0 from rfl, show begV 0 = 0 from rfl]
    go_wp2
    go_ret
    exact Ret.bool rfl (bthen hW2 (below_laid _))
end
end Go.Proofs.Ythngffceneemnaa
