/- Events in memory; the events of a variable, the field of an event. -/
import Derived.Test.YtkcbjnhphekadaaFOps
namespace Go.Proofs.Ytkcbjnhphekadaa
open Go.RowKit
set_option linter.unusedVariables false
set_option linter.unusedSimpArgs false
instance : Inhabited V3 := ⟨V3.z⟩
/-- An event. -/
structure Evx where
  a : Int
  b : Int
  c : Int
  t : Int
  vs : List V3
def Evx.z : Evx := ⟨0, 0, 0, 0, []⟩
instance : Inhabited Evx := ⟨Evx.z⟩
def RVx (_ : World) (_ : Nat → Prop) (xs : List Value) (x : V3) : Prop := xs = [.int .i64 x.q, .int .i64 x.n, .string x.s] ∧ x.s.size ≤ maxLen
theorem rd_Vx : Rd RVx := ⟨fun _ h => h, fun _ h => h⟩
def REx (w : World) (Z : Nat → Prop) (xs : List Value) (e : Evx) : Prop := ∃ v, xs = [.int .i64 e.a, .int .i64 e.b, .int .i64 e.c, .int .i64 e.t, v] ∧ Lst w Z 3 RVx v e.vs
theorem rd_Ex : Rd REx := ⟨fun hk ⟨v, e, h⟩ => ⟨v, e, h.keep rd_Vx hk⟩, fun hs ⟨v, e, h⟩ => ⟨v, e, h.more rd_Vx hs⟩⟩
def RLx (w : World) (Z : Nat → Prop) (xs : List Value) (l : List Evx) : Prop := ∃ v, xs = [v] ∧ Lst w Z 5 REx v l
theorem rd_Lx : Rd RLx := lst_rd rd_Ex 5
/-- A list in memory that there is. -/
def There {α : Type} (R : World → (Nat → Prop) → List Value → α → Prop) (sz : Nat) (w : World) (v : Value) (l : List α) : Prop := Lst w (· < w.heap.size) sz R v l
theorem There.keep {α : Type} {R : World → (Nat → Prop) → List Value → α → Prop} (hR : Rd R) {sz : Nat} {w w' : World} {v : Value} {l : List α} (h : There R sz w v l) (hb : Below w.heap.size w w') : There R sz w' v l :=
  (Lst.keep hR (Kp.of_below hb) h).more hR fun _ hz => Nat.lt_of_lt_of_le hz hb.size
theorem There.nil {α : Type} {R : World → (Nat → Prop) → List Value → α → Prop} {sz : Nat} {w : World} : There R sz w (.slice none 0 0) [] := Lst.nil
/-- The events of a variable. -/
def evsQ (E : List (List Evx)) (v : Int) : List Evx := if v < 0 ∨ (E.length : Int) ≤ v then [] else E.getD v.toNat []
/-- A box: its cells. -/
def Bxs (w : World) (F : Nat) (xs : List Value) : Prop := ∀ c u, xs[c]? = some u → w.cell? ⟨F, c, none⟩ = some u
theorem Bxs.keep {w w' : World} {F : Nat} {xs : List Value} (h : Bxs w F xs) (hb : Below w.heap.size w w') : Bxs w' F xs := fun c u hu => keep1 hb (h c u hu)
theorem Bxs.new (w : World) (xs : List Value) (t : TypeId) : Bxs (w.alloc (.cells xs.toArray t)) w.heap.size xs := cells_lit w xs t
/-- The cells of an evaluator. -/
@[reducible] def evC (v mv : Value) : List Value := [v, .int .i64 (-1), .int .i64 0, .int .i64 0, .int .i64 0, .int .i64 0, .slice none 0 0, mv]
section
variable (E : List (List Evx)) (mv : Value) (w : World)
set_option maxHeartbeats 2000000 in
theorem xevents_any (v : Value) (k : Int) (h : There RLx 1 w v E) : Calls Try.prog 60 #[.agg (evC v mv).toArray, .int .i64 k] w (fun e w' => ∃ u, Ret u w e w' ∧ There REx 5 w u (evsQ E k)) := by
  have HT := hide h
  obtain ⟨A, cap, rfl⟩ := h.form
  have hm := h.len
  unfold maxLen at hm
  obtain ⟨m, hmm⟩ : ∃ m, E.length = m := ⟨_, rfl⟩
  have HM := hide hmm
  rw [hmm] at HT hm ⊢
  have hx := Bxs.new w ([(.slice A m cap), .int .i64 (-1), .int .i64 0, .int .i64 0, .int .i64 0, .int .i64 0, .slice none 0 0, mv]) 74
  have a0 := hx 0 _ rfl
  have hW := below_laid (w := w) (.cells ([(.slice A m cap), .int .i64 (-1), .int .i64 0, .int .i64 0, .int .i64 0, .int .i64 0, .slice none 0 0, mv]).toArray 74)
  have HW := hide hW
  clear h hmm hx
  by_cases h1 : k < 0
  · have t1 : decide (k < 0) = true := decide_eq_true h1
    have HE : Hid (evsQ E k = []) := hide (if_pos (.inl h1))
    rw [HE.out]
    go_enter Try.func60, Try.ntmps60
    go_wp2
    go_ret
    exact ⟨_, ⟨rfl, HW.out⟩, There.nil⟩
  · have t1 : decide (k < 0) = false := decide_eq_false h1
    by_cases h2 : (m : Int) ≤ k
    · have t2 : decide ((m : Int) ≤ k) = true := decide_eq_true h2
      have HE : Hid (evsQ E k = []) := hide (if_pos (.inr (by rw [HM.out]; exact h2)))
      rw [HE.out]
      go_enter Try.func60, Try.ntmps60
      go_wp2
      go_ret
      exact ⟨_, ⟨rfl, HW.out⟩, There.nil⟩
    · have t2 : decide ((m : Int) ≤ k) = false := decide_eq_false h2
      obtain ⟨j, rfl⟩ : ∃ j : Nat, k = j := ⟨k.toNat, by omega⟩
      have hj : j < E.length := by rw [HM.out]; omega
      have HE : Hid (evsQ E j = E[j]) := hide (by
        unfold evsQ
        rw [if_neg (by rw [HM.out]; omega)]
        simp [hj])
      rw [HE.out]
      obtain ⟨g, off, ys, e2, hg, hyl, hc, ⟨u, rfl, hl⟩⟩ := Lst.at_ HT.out hj
      subst e2
      have hgw : g < w.heap.size := hg
      have hc0 := keep1 hW (hc 0 _ rfl)
      simp only [Nat.mul_one, Nat.add_zero] at hc0
      have HL : Hid (There REx 5 w u E[j]) := hide hl
      clear hc hl hg hyl t1 h1 t2
      have hu0 : (0 : Int) ≤ (j : Int) := by omega
      have hu1 : (j : Int) < (m : Int) := by omega
      have t1 : decide ((j : Int) < 0) = false := decide_eq_false (by omega)
      have t2 : decide ((m : Int) ≤ (j : Int)) = false := decide_eq_false (by omega)
      have t3 : decide (m ≤ j) = false := decide_eq_false (by omega)
      go_enter Try.func60, Try.ntmps60
      go_wp2
      go_ret
      exact ⟨_, ⟨rfl, HW.out⟩, HL.out⟩
def fieldE (e : Evx) (k : Int) : Int := if (e.vs.length : Int) ≤ k then 6 else 0
def fieldV (e : Evx) (k : Int) : V3 := if (e.vs.length : Int) ≤ k then V3.z else e.vs.getD k.toNat V3.z
set_option maxHeartbeats 2000000 in
theorem xfield_any (e : Evx) (v : Value) (k : Int) (hk : 0 ≤ k) (h : There RVx 3 w v e.vs) : Calls Try.prog 62 #[.agg #[.int .i64 e.a, .int .i64 e.b, .int .i64 e.c, .int .i64 e.t, v], .int .i64 k] w (Ret (.tuple #[V3.v (fieldV e k), .int .i64 (fieldE e k)]) w) := by
  have HT := hide h
  obtain ⟨A, cap, rfl⟩ := h.form
  have hm := h.len
  unfold maxLen at hm
  obtain ⟨m, hmm⟩ : ∃ m, e.vs.length = m := ⟨_, rfl⟩
  have HM := hide hmm
  rw [hmm] at HT hm ⊢
  have hx := Bxs.new w [.int .i64 e.a, .int .i64 e.b, .int .i64 e.c, .int .i64 e.t, .slice A m cap] 50
  have a4 := hx 4 _ rfl
  have hW := below_laid (w := w) (.cells #[.int .i64 e.a, .int .i64 e.b, .int .i64 e.c, .int .i64 e.t, .slice A m cap] 50)
  have hW2 := bthen hW (below_laid (.cells #[.int .i64 0, .int .i64 0, .string ⟨#[]⟩] 28))
  have HW := hide hW
  clear h hmm hx
  by_cases h2 : (m : Int) ≤ k
  · have t2 : decide ((m : Int) ≤ k) = true := decide_eq_true h2
    have HE : Hid (fieldE e k = 6 ∧ fieldV e k = V3.z) := hide ⟨if_pos (by rw [HM.out]; exact h2), if_pos (by rw [HM.out]; exact h2)⟩
    rw [HE.out.1, HE.out.2]
    go_enter Try.func62, Try.ntmps62
    go_wp2
    refine bodyPost_ret (v := .tuple #[.agg #[.int .i64 0, .int .i64 0, .string ⟨#[]⟩], .int .i64 6]) (by rw [results_cell_tmp rfl]; go_simp) rfl ?_
    exact Ret.mk rfl (bthen HW.out (below_laid _))
  · obtain ⟨j, rfl⟩ : ∃ j : Nat, k = j := ⟨k.toNat, by omega⟩
    have hj : j < e.vs.length := by rw [HM.out]; omega
    have HE : Hid (fieldE e j = 0 ∧ fieldV e j = e.vs[j]) := hide ⟨if_neg (by rw [HM.out]; omega), by unfold fieldV; rw [if_neg (by rw [HM.out]; omega)]; simp [hj]⟩
    rw [HE.out.1, HE.out.2]
    obtain ⟨g, off, ys, e2, hg, hyl, hc, ⟨rfl, hl⟩⟩ := Lst.at_ HT.out hj
    subst e2
    have hgw : g < w.heap.size := hg
    have hc0 := keep1 hW2 (hc 0 _ rfl)
    have hc1 := keep1 hW2 (hc 1 _ rfl)
    have hc2 := keep1 hW2 (hc 2 _ rfl)
    rw [Nat.add_zero] at hc0
    obtain ⟨x, hxx⟩ : ∃ x, e.vs[j] = x := ⟨_, rfl⟩
    rw [hxx] at hc0 hc1 hc2 ⊢
    clear hc hl hg hyl hxx HE hW hW2
    obtain ⟨q, n, s⟩ := x
    simp only at hc0 hc1 hc2
    have hu0 : (0 : Int) ≤ (j : Int) := by omega
    have hu1 : (j : Int) < (m : Int) := by omega
    have t2 : decide ((m : Int) ≤ (j : Int)) = false := decide_eq_false (by omega)
    have t3 : decide (m ≤ j) = false := decide_eq_false (by omega)
    go_enter Try.func62, Try.ntmps62
    go_wp2
    refine bodyPost_ret (v := .tuple #[.agg #[.int .i64 q, .int .i64 n, .string s], .int .i64 0]) (by rw [results_cell_tmp rfl]; go_simp) rfl ?_
    exact Ret.mk rfl (bthen HW.out (below_laid _))
end
end Go.Proofs.Ytkcbjnhphekadaa
