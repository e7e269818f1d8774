/- put, of lists: general words, and of a list of values. -/
import Derived.Test.YtofdcgojgcnopaaGreatCVal
namespace Go.Proofs.YtofdcgojgcnopaaGreat
open Go.RowKit
set_option linter.unusedVariables false
set_option linter.unusedSimpArgs false
theorem len3 {α : Type} {l : List α} (h : l.length = 3) : ∃ a b c, l = [a, b, c] := by
  match l, h with
  | [a, b, c], _ => exact ⟨a, b, c, rfl⟩
theorem Wr.wt_laid {F : Nat} {w : World} {o : Bs} {e : Int} (h : Wr w F o e) (ob : Obj) : Wt F w (w.alloc ob) := Wt.laid h ob
section
variable {α : Type} {f : α → Ex Bs} {wt : α → Nat} {l : List α}
theorem andE_nil (a : Ex Bs) : andE a (.ok []) = a := by unfold andE; cases a <;> simp
theorem andE_assoc (a b c : Ex Bs) : andE (andE a b) c = andE a (andE b c) := by
  unfold andE
  cases a with
  | error x => rfl
  | ok x => cases b with
    | error y => rfl
    | ok y => cases c with
      | error z => rfl
      | ok z => simp
theorem eMany_app (l m : List α) : eMany f (l ++ m) = andE (eMany f l) (eMany f m) := by
  induction l with
  | nil => cases h : eMany f m <;> simp [eMany, andE, h]
  | cons x l ih => rw [List.cons_append, eMany, eMany, ih, andE_assoc]
theorem eMany_take {j : Nat} (hj : j < l.length) : eMany f (l.take (j + 1)) = andE (eMany f (l.take j)) (f l[j]) := by
  rw [List.take_succ_eq_append_getElem hj, eMany_app, eMany, eMany, andE_nil]
theorem andE_err {a b : Ex Bs} {c : Int} (h : a = .error c) : andE a b = .error c := by rw [h]; rfl
theorem eMany_err {j : Nat} {a : Ex Bs} {c : Int} (h : andE a (eMany f (l.take j)) = .error c) : andE a (eMany f l) = .error c := by
  rw [← List.take_append_drop j l, eMany_app, ← andE_assoc]
  exact andE_err h
/-- At most so many bytes. -/
def wtS (wt : α → Nat) (l : List α) : Nat := (l.map wt).sum
theorem wtS_take {j : Nat} (hj : j < l.length) : wtS wt (l.take (j + 1)) = wtS wt (l.take j) + wt l[j] := by
  unfold wtS
  rw [List.take_succ_eq_append_getElem hj, List.map_append, List.sum_append]
  simp
theorem wtS_le (j : Nat) : wtS wt (l.take j) ≤ wtS wt l := by
  unfold wtS
  conv => rhs; rw [← List.take_append_drop j l, List.map_append, List.sum_append]
  omega
theorem wtS_nil : wtS wt ([] : List α) = 0 := rfl
end
theorem Wd.early {r r' : Ex Bs} {n m : Nat} {o o' : Bs} {e e' : Int} (h : Wd r n o e o' e') (he : e' ≠ 0) (hr : ∀ c, r = .error c → r' = .error c) (hn : n ≤ m) : Wd r' m o e o' e' := by
  obtain ⟨h1, h2, h3⟩ := h
  refine ⟨h1, fun h0 => ?_, by omega⟩
  have := h2 h0
  cases r with
  | ok b => exact absurd this.2 he
  | error c => rw [hr c rfl]; exact this
/-- What has been written behind j rounds. -/
def PInv {α : Type} (F : Nat) (f : α → Ex Bs) (wt : α → Nat) (l : List α) (o : Bs) (e : Int) (w : World) (j : Nat) (wr : World) : Prop :=
  ∃ o' e', Wd (andE (eN l.length) (eMany f (l.take j))) (10 + wtS wt (l.take j)) o e o' e' ∧ Wr wr F o' e' ∧ Wt F w wr
theorem PInv.start {α : Type} {F : Nat} {f : α → Ex Bs} {wt : α → Nat} {l : List α} {o : Bs} {e : Int} {w wr : World} (hn : inI l.length) (h : Wr wr F (o ++ num l.length) e) (ht : Wt F w wr) : PInv F f wt l o e w 0 wr :=
  ⟨_, _, by rw [List.take_zero]; exact ((Wd.num hn o e).and Wd.skip).more (by rw [wtS_nil]; omega), h, ht⟩
theorem PInv.next {α : Type} {F : Nat} {f : α → Ex Bs} {wt : α → Nat} {l : List α} {o o' o'' : Bs} {e e' e'' : Int} {w wr w' : World} {j : Nat} (hj : j < l.length)
    (hd : Wd (andE (eN l.length) (eMany f (l.take j))) (10 + wtS wt (l.take j)) o e o' e') (h : Wd (f l[j]) (wt l[j]) o' e' o'' e'') (hr : Wr w' F o'' e'') (ht : Wt F w w') : PInv F f wt l o e w (j + 1) w' :=
  ⟨_, _, by rw [eMany_take hj, ← andE_assoc, wtS_take hj, ← Nat.add_assoc]; exact hd.and h, hr, ht⟩
theorem PInv.stop {α : Type} {f : α → Ex Bs} {wt : α → Nat} {l : List α} {o o' : Bs} {e e' : Int} {j : Nat} (hl : ¬ 4096 < l.length) (he : e' ≠ 0)
    (hd : Wd (andE (eN l.length) (eMany f (l.take j))) (10 + wtS wt (l.take j)) o e o' e') : Wd (eL f l) (10 + wtS wt l) o e o' e' := by
  refine hd.early he (fun c hc => ?_) (by have := wtS_le (wt := wt) (l := l) j; omega)
  unfold eL
  rw [if_neg hl]
  exact eMany_err hc
theorem PInv.done {α : Type} {f : α → Ex Bs} {wt : α → Nat} {l : List α} {o o' : Bs} {e e' : Int} {j : Nat} (hl : ¬ 4096 < l.length) (hj : l.length ≤ j)
    (hd : Wd (andE (eN l.length) (eMany f (l.take j))) (10 + wtS wt (l.take j)) o e o' e') : Wd (eL f l) (10 + wtS wt l) o e o' e' := by
  rw [List.take_of_length_le hj] at hd
  unfold eL
  rw [if_neg hl]
  exact hd
theorem eL_long {α : Type} {f : α → Ex Bs} {l : List α} (h : 4096 < l.length) : eL f l = .error 5 := if_pos h
theorem Wd.long {o : Bs} {e : Int} {b : Bs} {n : Nat} (hb : b.length ≤ n) : Wd (.error 5) n o e (o ++ b) (if e = 0 then 5 else e) :=
  ⟨fun h => if_neg h, fun h => ⟨if_pos h, by decide⟩, by rw [List.length_append]; omega⟩
/-- The cells of a value. -/
def RV (_ : World) (_ : Nat → Prop) (xs : List Value) (x : V3) : Prop := xs = [.int .i64 x.q, .int .i64 x.n, .string x.s] ∧ gV x ∧ x.s.size ≤ 1000000
theorem rd_V : Rd RV := ⟨fun _ h => h, fun _ h => h⟩
def wtV (x : V3) : Nat := x.s.size + 30
end Go.Proofs.YtofdcgojgcnopaaGreat
