/- Trackers: as data, in memory, and as part of a reader. -/
import Derived.Test.YtofdcgojgcnopaaGreatDRel2
namespace Go.Proofs.YtofdcgojgcnopaaGreat
open Go.RowKit
set_option linter.unusedVariables false
set_option linter.unusedSimpArgs false
structure Trk where
  next : Int
  beyond : List Int
  points : List Pnt
  mark : Int
def Rdr.trk (x : Rdr) : Trk := ⟨x.next, x.beyond, x.points, x.mark⟩
def RTr (w : World) (Z : Nat → Prop) (xs : List Value) (x : Trk) : Prop := ∃ u v, xs = [.int .i64 x.next, u, v, .int .i64 x.mark] ∧ Lst w Z 1 RIn u x.beyond ∧ Lst w Z 2 RPn v x.points ∧ inI x.next ∧ inI x.mark
def pTrk : Ps Trk := pBind pnum fun a => pBind (pL pnum) fun b => pBind (pL pPnt) fun c => pBind pnum fun d => pRet ⟨a, b, c, d⟩
theorem pBind_assoc {α β γ : Type} (p : Ps α) (q : α → Ps β) (r : β → Ps γ) : pBind (pBind p q) r = pBind p fun x => pBind (q x) r := by
  funext s
  unfold pBind
  cases p s with
  | error c => rfl
  | ok x => rfl
theorem pBind_ret {α β : Type} (x : α) (q : α → Ps β) : pBind (pRet x) q = q x := rfl
theorem pRdr_eq : pRdr = pBind pnum fun a => pBind pnum fun b => pBind pTrk fun t => pRet (⟨a, b, t.next, t.beyond, t.points, t.mark⟩ : Rdr) := by
  unfold pTrk
  simp only [pBind_assoc, pBind_ret]
  rfl
end Go.Proofs.YtofdcgojgcnopaaGreat
