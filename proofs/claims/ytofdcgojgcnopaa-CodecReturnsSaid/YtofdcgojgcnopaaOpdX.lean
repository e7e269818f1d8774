/- What Decode returns, of events and of engines. -/
import Derived.Test.YtofdcgojgcnopaaDDecL
import Derived.Test.YtofdcgojgcnopaaDDecEn
namespace Go.Proofs.Ytofdcgojgcnopaa
open Go.RowKit
set_option linter.unusedVariables false
set_option linter.unusedSimpArgs false
theorem opd_l {s : Bs} {w w' : World} {en : Ending} (h : Opd (pL pEv) ROL (.slice none 0 0) s w en w') :
    ∃ u, en = .returned (.tuple #[u, .int .i64 (codE (openE (pL pEv) s))]) ∧ Lst w' (· < w'.heap.size) 5 REv0 u (outE [] (openE (pL pEv) s)) ∧ Below w.heap.size w w' := by
  obtain ⟨v, rfl, hb, hr⟩ := h
  refine ⟨v, rfl, ?_, hb⟩
  cases ho : openE (pL pEv) s with
  | error c => rw [ho] at hr; obtain rfl := hr; exact Lst.nil
  | ok x => rw [ho] at hr; exact (lst_low rl_Ev0 (by decide) hr.1).more rd_Ev0 fun _ h => h.2
theorem rd_grow {α : Type} {R : World → (Nat → Prop) → List Value → α → Prop} (hR : Rd R) {w w' : World} {xs : List Value} {x : α} (h : R w (· < w.heap.size) xs x) (hb : Below w.heap.size w w') : R w' (· < w'.heap.size) xs x :=
  hR.more (fun _ h => Nat.lt_of_lt_of_le h hb.size) (hR.keep (Kp.of_below hb) h)
def zEng : Eng := ⟨0, [], [], []⟩
theorem opd_en {s : Bs} {w w' : World} {en : Ending} (h : Opd pEng (ROs REn) (.agg #[.int .i64 0, .slice none 0 0, .slice none 0 0, .slice none 0 0]) s w en w') :
    ∃ xs, en = .returned (.tuple #[.agg xs.toArray, .int .i64 (codE (openE pEng s))]) ∧ REn w' (· < w'.heap.size) xs (outE zEng (openE pEng s)) ∧ Below w.heap.size w w' := by
  obtain ⟨v, rfl, hb, hr⟩ := h
  cases ho : openE pEng s with
  | error c =>
    rw [ho] at hr
    obtain rfl := hr
    exact ⟨[.int .i64 0, .slice none 0 0, .slice none 0 0, .slice none 0 0], rfl, ⟨_, _, _, rfl, Lst.nil, Lst.nil, Lst.nil, by show inI 0; unfold inI; omega⟩, hb⟩
  | ok x =>
    rw [ho] at hr
    obtain ⟨xs, rfl, hx⟩ := hr
    exact ⟨xs, rfl, rd_En.more (fun _ h => h.2) (rl_En hx), hb⟩
end Go.Proofs.Ytofdcgojgcnopaa
