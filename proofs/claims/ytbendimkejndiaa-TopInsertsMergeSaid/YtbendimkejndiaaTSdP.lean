/- Towards stream.sorted: what the map of the events seen holds; lists under way beside a map. -/
import Derived.Test.YtbendimkejndiaaTSrt2
namespace Go.Proofs.Ytbendimkejndiaa
open Go.RowKit
set_option linter.unusedVariables false
set_option linter.unusedSimpArgs false
/-- v is the event x, whose values lie in w. -/
def AggE (w : World) (v : Value) (x : Evt) : Prop := ∃ A c, v = .agg #[.int .i64 x.a, .int .i64 x.b, .int .i64 x.c, .int .i64 x.d, .slice A x.vs.length c] ∧ Lst w (· < w.heap.size) 3 RV0 (.slice A x.vs.length c) x.vs
/-- At each identity the first event of o that has it. -/
def FirstF (w : World) (f : Value → Option Value) (o : List Evt) : Prop := ∀ x : Evt, (f (idv x) = none ∧ ∀ e ∈ o, ¬ Idq e x) ∨ ∃ v e, f (idv x) = some v ∧ e ∈ o ∧ Idq e x ∧ AggE w v e
theorem firstF_nil (w : World) : FirstF w (fun _ => none) [] := fun x => .inl ⟨rfl, by simp⟩
theorem FirstF.snoc {w : World} {f : Value → Option Value} {o : List Evt} (h : FirstF w f o) {x : Evt} {v : Value} (hv : AggE w v x) : FirstF w (updF f (idv x) v) (o ++ [x]) := by
  intro y
  unfold updF
  by_cases hy : idv y = idv x
  · rw [if_pos hy]
    exact .inr ⟨v, x, rfl, by simp, idv_inj.1 hy.symm, hv⟩
  · rw [if_neg hy]
    rcases h y with ⟨h1, h2⟩ | ⟨u, e, h1, h2, h3, h4⟩
    · refine .inl ⟨h1, fun e he hi => ?_⟩
      rcases List.mem_append.1 he with he | he
      · exact h2 e he hi
      · obtain rfl := List.mem_singleton.1 he; exact hy (idv_inj.2 hi).symm
    · exact .inr ⟨u, e, h1, by simp [h2], h3, h4⟩
theorem idq_one {o : List Evt} (h : o.Pairwise fun x y => ¬ Idq x y) : ∀ x ∈ o, ∀ y ∈ o, Idq x y → x = y := by
  induction o with
  | nil => intro x hx; cases hx
  | cons a o ih =>
    intro x hx y hy hi
    obtain ⟨h1, h2⟩ := List.pairwise_cons.1 h
    rcases List.mem_cons.1 hx with e1 | g1 <;> rcases List.mem_cons.1 hy with e2 | g2
    · rw [e1, e2]
    · subst e1; exact absurd hi (h1 y g2)
    · subst e2; exact absurd (show Idq y x from ⟨hi.1.symm, hi.2.symm⟩) (h1 x g1)
    · exact ih h2 x g1 y g2 hi
theorem ddp_clash {o l : List Evt} {e x : Evt} (h : o.Pairwise fun x y => ¬ Idq x y) (he : e ∈ o) (hi : Idq e x) (hne : e ≠ x) : ddp o (x :: l) = none := by
  rcases stepD_cases o x with ⟨f, -, -, -, -, hs⟩ | ⟨hx, -, -⟩ | ⟨hn, -, -⟩
  · rw [ddp, hs]
  · exact absurd (idq_one h e he x hx hi) hne
  · exact absurd hi (hn e he)
theorem ddp_old {o l : List Evt} {x : Evt} (h : o.Pairwise fun x y => ¬ Idq x y) (hx : x ∈ o) : ddp o (x :: l) = ddp o l := by
  rcases stepD_cases o x with ⟨f, hf, hi, hne, -, -⟩ | ⟨-, -, hs⟩ | ⟨hn, -, -⟩
  · exact absurd (idq_one h f hf x hx hi) hne
  · rw [ddp, hs]
  · exact absurd ⟨rfl, rfl⟩ (hn x hx)
theorem ddp_new {o l : List Evt} {x : Evt} (hn : ∀ e ∈ o, ¬ Idq e x) : ddp o (x :: l) = ddp (o ++ [x]) l := by
  rcases stepD_cases o x with ⟨f, hf, hi, -, -, -⟩ | ⟨hx, -, -⟩ | ⟨-, -, hs⟩
  · exact absurd hi (hn f hf)
  · exact absurd ⟨rfl, rfl⟩ (hn x hx)
  · rw [ddp, hs]
theorem not_compat {l : List Evt} (h : ddp [] l = none) : ¬ Compat l := fun hc => by
  obtain ⟨q, hq⟩ := ddp_iff.2 hc
  rw [h] at hq; cases hq
theorem iq_event : (Try.prog.info? 32).map (fun i => (i.zero, i.size, i.bytes)) = some (some (.agg #[.int .i64 0, .int .i64 0, .int .i64 0, .int .i64 0, .slice none 0 0]), 5, 56) := by kernel_rfl
section
variable {α : Type} {R : World → (Nat → Prop) → List Value → α → Prop} {w w' : World} {Y : Nat → Prop} {base : Nat} {te : TypeId} {sz : Nat} {v : Value} {l : List α}
/-- A list under way, while a block outside of Y turns. -/
theorem Gq.beside (hR : Rd R) (h : Gq w Y base te sz R v l) {b : Nat} (hb : ¬ Y b) (hg : w.grownBy w' (some b)) : Gq w' Y base te sz R v l := by
  obtain ⟨xs, hown, hy, hel⟩ := h
  refine ⟨xs, hown.kept hg ?_, hy, fun j hj => ?_⟩
  · cases hv : v.ownBlock with
    | none => exact .inl rfl
    | some k => exact .inr (fun e => hb (hy b (by rw [hv, ← e])))
  · obtain ⟨ys, h1, h2, h3⟩ := hel j hj
    refine ⟨ys, h1, h2, hR.more (fun c hc => ⟨hc.1, Nat.lt_of_lt_of_le hc.2.1 hg.size, hc.2.2⟩) (hR.keep (w := w) ⟨hg.size, fun c hc hlt => hg.block c hlt fun e => ?_⟩ h3)⟩
    injection e with e; subst e; exact hb hc.1
end
/-- What 'sorted' returns. -/
def RetSd (l : List Evt) (w : World) (e : Ending) (w' : World) : Prop :=
  Below w.heap.size w w' ∧ ((Compat l ∧ ∃ v o, e = .returned (.tuple #[v, .bool true]) ∧ SrtOf l o ∧ Lst w' (fun b => w.heap.size ≤ b ∧ b < w'.heap.size) 5 REv0 v o) ∨ (¬ Compat l ∧ e = .returned (.tuple #[.slice none 0 0, .bool false])))
end Go.Proofs.Ytbendimkejndiaa
