/- What the values that are read look like: relations for lists of integers, values, events. -/
import Derived.Test.YtofdcgojgcnopaaGreatDGrow
import Derived.Test.YtofdcgojgcnopaaGreatCFew
namespace Go.Proofs.YtofdcgojgcnopaaGreat
open Go.RowKit
set_option linter.unusedVariables false
set_option linter.unusedSimpArgs false
/-- A struct of whose cells R speaks, and of blocks from B on. -/
def RA {α : Type} (R : World → (Nat → Prop) → List Value → α → Prop) (B : Nat) (w : World) (v : Value) (x : α) : Prop := ∃ xs, v = .agg xs.toArray ∧ R w (B ≤ ·) xs x
/-- A list in blocks from B on. -/
def RLs {α : Type} (sz : Nat) (R : World → (Nat → Prop) → List Value → α → Prop) (B : Nat) (w : World) (v : Value) (l : List α) : Prop := Lst w (B ≤ ·) sz R v l ∧ l.length ≤ 4096
def RIn (_ : World) (_ : Nat → Prop) (xs : List Value) (n : Int) : Prop := xs = [.int .i64 n] ∧ inI n
theorem rd_In : Rd RIn := ⟨fun _ h => h, fun _ h => h⟩
theorem rl_In : Rl RIn := fun h => h
theorem rl_V0 : Rl RV0 := fun h => h
theorem rl_Ev0 : Rl REv0 := fun ⟨v, e, h, hg⟩ => ⟨v, e, lst_low rl_V0 (by decide) h, hg⟩
theorem info_int : (Tryz.prog.info? 3).map (fun i => (i.zero, i.size, i.bytes)) = some (some (.int .i64 0), 1, 8) := by kernel_rfl
theorem info_value : (Tryz.prog.info? 49).map (fun i => (i.zero, i.size, i.bytes)) = some (some (.agg #[.int .i64 0, .int .i64 0, .string ⟨#[]⟩]), 3, 32) := by kernel_rfl
theorem info_event : (Tryz.prog.info? 88).map (fun i => (i.zero, i.size, i.bytes)) = some (some (.agg #[.int .i64 0, .int .i64 0, .int .i64 0, .int .i64 0, .slice none 0 0]), 5, 56) := by kernel_rfl
theorem Lst.nil' {α : Type} {w : World} {Z : Nat → Prop} {sz : Nat} {R : World → (Nat → Prop) → List Value → α → Prop} : Lst w Z sz R (.slice none 0 0) ([] : List α) := Lst.nil
theorem lst_out {α : Type} {R : World → (Nat → Prop) → List Value → α → Prop} (hR : Rd R) {sz : Nat} {w w' : World} {lo hi B : Nat} {v : Value} {l : List α} (h : Lst w (fun x => lo ≤ x ∧ x < hi) sz R v l) (hk : Kp (fun x => lo ≤ x ∧ x < hi) w w') (hB : B ≤ lo) : Lst w' (B ≤ ·) sz R v l :=
  (h.keep hR hk).more hR fun _ hx => Nat.le_trans hB hx.1
theorem lst_from {α : Type} {R : World → (Nat → Prop) → List Value → α → Prop} (hR : Rd R) {sz : Nat} {w : World} {lo B : Nat} {v : Value} {l : List α} (h : Lst w (lo ≤ ·) sz R v l) (hB : B ≤ lo) : Lst w (B ≤ ·) sz R v l :=
  h.more hR fun _ hx => Nat.le_trans hB hx
/-- What Decode returns, of events. -/
def ROL (Z : Nat → Prop) (w : World) (v : Value) (x : List Evt) : Prop := Lst w Z 5 REv0 v x ∧ x.length ≤ 4096
/-- A list that was just read lies between two sizes of the heap. -/
theorem lst_win {α : Type} {R : World → (Nat → Prop) → List Value → α → Prop} (hR : Rd R) (hl : Rl R) {sz : Nat} (hsz : 0 < sz) {w : World} {B B' : Nat} {v : Value} {l : List α} (hB : B' ≤ B) (h : Lst w (B ≤ ·) sz R v l) : Lst w (fun x => B' ≤ x ∧ x < w.heap.size) sz R v l :=
  (lst_low hl hsz h).more hR fun _ hx => ⟨Nat.le_trans hB hx.1, hx.2⟩
end Go.Proofs.YtofdcgojgcnopaaGreat
