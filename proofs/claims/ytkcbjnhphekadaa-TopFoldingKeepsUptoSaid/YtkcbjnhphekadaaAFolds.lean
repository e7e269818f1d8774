/- Adding the values of a list one after another, or merging the accumulators of two parts. -/
import Derived.Test.YtkcbjnhphekadaaAOrd
import Derived.Deep.RegionHeld3
import Derived.Laws.AppendOwnNone
namespace Go.Proofs.Ytkcbjnhphekadaa
open Go.RowKit
set_option linter.unusedVariables false
set_option linter.unusedSimpArgs false
theorem good_right {k : Int} {L : List V3} {o : V3} (h : goodB k L o = true) : knownB k = true ∧ Right k L ∧ L.length ≤ 20 ∧ wrE k o.q o.n o.s.size = 0 := by
  unfold goodB at h
  simp only [Bool.and_eq_true, decide_eq_true_eq] at h
  obtain ⟨h1, h2, h3, h4, h5⟩ := h
  have hk : knownB k = true := by simp only [knownB, decide_eq_true_eq]; omega
  have one : ∀ x : V3, okV k x = true → wrE k x.q x.n x.s.size = 0 := by
    intro x hx
    unfold okV at hx
    simp only [Bool.and_eq_true, decide_eq_true_eq] at hx
    have h6 : suitsB k x.q = true := by rw [← suits_same hk]; exact hx.2
    unfold wrE
    rw [if_neg (by simp [hx.1]), if_pos h6]
  exact ⟨hk, fun x hx => one x (List.all_eq_true.1 h2 x hx), h1, one o h5⟩

section
variable {P : Program} {w : World}
/-- append(s, x...) of a list that lies anywhere, at a step of a drawn region. -/
theorem step_append_row {ops : Array Oper} {o : Oper} {a : Act} {K : Act → World → Prop} {Q : Exit → Act → World → Prop} {E : Prop} (hgd : o.guard = none) (s x : Operand) (t : TypeId)
    (ho : o.op = .call { callee := .builtin .append, args := #[s, x], argTypes := #[t, t] })
    (base : Nat) (e : TypeId) (i : TypeInfo) (z : Value) (size bytes : Nat) (ht : P.underlying t = some (.slice e)) (hi : P.info? e = some i) (hz : i.zero = some z)
    (hsize : i.size = size) (hby : i.bytes = bytes) (hzs : z.cells.size = size) (hsz : 0 < size)
    (v : Value) (n : Nat) (xs : List Value) (hs : a.eval s = v) (hown : w.ownsRow base e size v n xs)
    (vx : Value) (B m : Nat) (news : List Value) (hx : a.eval x = vx) (hrow : Row w B size vx m news) (h1 : ∀ u ∈ news, u.oneCell' = true)
    (h63 : n + m ≤ maxLen) (hbytes : (n + m) * bytes ≤ 140737488355328) (hbase : base ≤ w.heap.size)
    (h : ∀ v' w', w'.ownsRow base e size v' (n + m) (xs ++ news) → Below base w w' → K (a.put o.dst v') w') :
    if Region.wanted o (yielded ops a.tmps) = true then Oper.wp P o a w K Q else E := by
  have hw : Region.wanted o (yielded ops a.tmps) = true := by simp [Region.wanted, hgd]
  rw [if_pos hw]
  rcases hrow.2 with ⟨rfl, rfl⟩ | ⟨g, off, cap, rfl, hg, hn, hc⟩
  · have hnil : news = [] := by have := hrow.1; simp at this; exact this
    subst hnil
    have hrun := run_append_owned_none (P := P) (w := w) base t o.type e i size ht hi v n xs hown
    unfold Oper.wp
    simp [execOp, ho, resolve, invoke, builtin, hs, hx, hrun, Result.andThen]
    exact h v w (by simpa using hown) (Below.refl _ _)
  · obtain ⟨v', w', hr, h2, h3, _, h5⟩ := run_append_own_at (P := P) w base t o.type e i z size bytes ht hi hz hsize hby hzs hsz v n xs hown ⟨g, off, none⟩ m cap news hrow.1
      (fun j u hj => by rw [show (⟨g, off, none⟩ : Addr).add j = ⟨g, off + j, none⟩ by unfold Addr.add; split <;> simp_all]; exact hc j u hj) h1 h63 hbytes hbase
    unfold Oper.wp execOp
    simp only [ho, resolve, invoke, builtin, Sem.run_bind, Sem.run_pure, Result.andThen_ok, List.map_toArray, List.map_cons, List.map_nil, hs, hx, hr]
    exact h v' w' h2 ((Below.refl base w).grown h3 hbase (fun k hk => (hown.lt k hk).1))
end
theorem flat_one (L : List V3) : ∀ u ∈ flat L, u.oneCell' = true := by
  intro u hu
  obtain ⟨x, -, hx⟩ := List.mem_flatMap.1 hu
  simp at hx
  rcases hx with rfl | rfl | rfl <;> rfl
theorem InV.keep {w w' : World} {v : Value} {L : List V3} (h : InV w v L) (hb : Below w.heap.size w w') : InV w' v L := ⟨h.1, h.2.1, h.2.2.1, h.2.2.2.grow hb⟩
/-- A box of two lists. -/
def Box2 (w : World) (F : Nat) (u v : Value) : Prop := w.cell? ⟨F, 0, none⟩ = some u ∧ w.cell? ⟨F, 1, none⟩ = some v
theorem Box2.keep {w w' : World} {F : Nat} {u v : Value} (h : Box2 w F u v) (hb : Below w.heap.size w w') : Box2 w' F u v := ⟨keep1 hb h.1, keep1 hb h.2⟩
section
variable (k : Int) (A0 A1 : Option Addr) (c0 c1 : Nat) (A B : List V3) (o : V3) (w : World)
end
end Go.Proofs.Ytkcbjnhphekadaa
