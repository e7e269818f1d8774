/- The aligners of the play. The job's insert. -/
import Derived.Test.YtppaiihcaajkaaaGreatKSend
namespace Go.Proofs.YtppaiihcaajkaaaGreat
open Go.RowKit
set_option linter.unusedVariables false
set_option linter.unusedSimpArgs false
theorem row_of_lst {w : World} {Z : Nat → Prop} {v : Value} {l : List Bool} (h : Lst w Z 1 RBo v l) (hpos : 0 < l.length) (hz : ∀ k, Z k → k < w.heap.size) : Row w w.heap.size 1 v l.length (bools l) := by
  refine ⟨by simp [bools], ?_⟩
  obtain ⟨A, cap, rfl, hc, -⟩ := h.1
  · obtain ⟨g, off, cap', xs, e, hg, -, -, -⟩ := h.2 0 hpos
    injection e with e1 e2 e3
    subst e1 e3
    refine .inr ⟨g, off, cap, rfl, hz g hg, hc, fun j u hj => ?_⟩
    have hjl : j < l.length := by have := (List.getElem?_eq_some_iff.1 hj).1; simpa [bools] using this
    obtain ⟨g', off', cap', xs, e, hg', hxl, hxc, hR⟩ := h.2 j hjl
    injection e with e1 e2 e3
    injection e1 with e1
    injection e1 with e4 e5 e6
    subst e4 e5
    unfold RBo at hR
    subst hR
    have := hxc 0 _ rfl
    rw [Nat.mul_one, Nat.add_zero] at this
    rw [this]
    simp only [bools] at hj
    rw [List.getElem?_map, List.getElem?_eq_getElem hjl] at hj
    exact hj
theorem lst_of_row {w : World} {B : Nat} {Z : Nat → Prop} {v : Value} {l : List Bool} (h : Row w B 1 v l.length (bools l)) (hm : l.length ≤ maxLen) (hz : ∀ k, v.ownBlock = some k → k < B → Z k) : Lst w Z 1 RBo v l := by
  obtain ⟨-, ⟨rfl, h0⟩ | ⟨g, off, cap, rfl, hg, hc, hcl⟩⟩ := h
  · have : l = [] := List.eq_nil_of_length_eq_zero h0
    subst this
    exact Lst.nil
  · refine ⟨⟨_, _, rfl, hc, hm⟩, fun j hj => ⟨g, off, cap, [.bool l[j]], rfl, hz g rfl hg, rfl, fun c u hu => ?_, rfl⟩⟩
    have hc0 : c = 0 := by have := (List.getElem?_eq_some_iff.1 hu).1; simp at this; omega
    subst hc0
    rw [Nat.mul_one, Nat.add_zero]
    refine hcl j u ?_
    simp only [bools]
    rw [List.getElem?_map, List.getElem?_eq_getElem hj]
    exact hu
theorem al_free {n : Int} {bl : List Bool} {i0 i1 : Bool} {q0 q1 se ta : List Itm} (h : AlP n bl i0 i1 q0 q1 se ta) {f : Nat} (hf : f < 2) : Bar.inp n bl (f : Int) = 0 ∧ Bar.blkV n bl (f : Int) = bl.getD f false := by
  have hfc : f = 0 ∨ f = 1 := by omega
  rcases h with ⟨rfl, b0, b1, rfl, hne, -⟩ | ⟨rfl, rfl, -⟩
  · rcases hfc with rfl | rfl <;> cases b0 <;> cases b1 <;> first | exact absurd ⟨rfl, rfl⟩ hne | exact ⟨by decide, by decide⟩
  · rcases hfc with rfl | rfl <;> exact ⟨by decide, by decide⟩
theorem tak_bar {b0 b1 : Bool} {f : Nat} (hf : f < 2) (hne : ¬ (b0 = true ∧ b1 = true)) (hb : [b0, b1].getD f false = false) : Bar.takE 0 [b0, b1] (f : Int) 1 = 0 ∧ Bar.takN 0 [b0, b1] (f : Int) 1 = barN 0 [b0, b1] f ∧ Bar.takL 0 [b0, b1] (f : Int) 1 = barB [b0, b1] f := by
  have hfc : f = 0 ∨ f = 1 := by omega
  rcases hfc with rfl | rfl <;> cases b0 <;> cases b1 <;> first | exact absurd ⟨rfl, rfl⟩ hne | (simp at hb; done) | exact ⟨by decide, by decide, by decide⟩
end Go.Proofs.YtppaiihcaajkaaaGreat

namespace Go.Proofs.YtppaiihcaajkaaaGreat
open Go.RowKit
set_option linter.unusedVariables false
set_option linter.unusedSimpArgs false
theorem barI_ok : ItemOK barI := .inr (.inr ⟨rfl, ⟨by decide, by decide⟩, rfl, rfl, rfl, rfl, rfl⟩)
theorem good_ok {x : Itm} (h : GoodI x ∨ x = barI) : ItemOK x := by
  rcases h with h | rfl
  · exact h.1
  · exact barI_ok
theorem inI_lit {n : Int} (h : 0 ≤ n ∧ n ≤ 1000) : inI n := by unfold inI; omega
theorem barI_num : NumI barI := ⟨inI_lit (by decide), ⟨inI_lit (by decide), inI_lit (by decide), inI_lit (by decide), inI_lit (by decide)⟩, inI_lit (by decide)⟩
theorem send_inv (w : World) (W0 : World) (L : Nat → List Msg) (b : Nat) (f : Nat → Value) (J : Job) {N sl : Nat → Nat} (hJ : JobAt W0 L w b f J) (hI : JInv N sl J) (i : Nat) (hi : i < 2) (it : Itm) (A : Option Addr) (c : Nat) (hE : VsE W0 A c it.e) (hN : NumI it) (hg : GoodI it ∨ it = barI) :
    Calls Tryz.prog 24 #[.pointer (some ⟨b, 0, none⟩), .int .i64 (i : Int), .agg #[.int .i64 it.k, .int .i64 it.e.a, .int .i64 it.e.b, .int .i64 it.e.c, .int .i64 it.e.d, .slice A it.e.vs.length c, .int .i64 it.n]] w (RetJ W0 L b f (sendJ J i it) w) := by
  have h0 : JInv N sl0 J := hI.weak fun k _ => Nat.zero_le _
  refine send_any w W0 L b f J hJ i hi it A c hE hN (good_ok hg) (fun hk => ?_) (fun k hk y hy => good_ok (h0.good k hk y hy)) (fun k hk => ?_) (fun v hv => by have := (rows_le h0 hv).2.2; omega)
  · rcases hg with hg | rfl
    · exact hg.2.2 hk
    · exact absurd hk (by decide)
  · have h1 := h0.len (k / 2) (k % 2) (by omega) (by omega)
    rw [show 2 * (k / 2) + k % 2 = k by omega] at h1
    have h2 := h0.off (k / 2) (by omega)
    have h3 := h0.n8 (k / 2) (by omega)
    split at h1 <;> omega
section
variable {W0 w w' w1 : World} {L : Nat → List Msg} {b : Nat} {f f' : Nat → Value} {J J' : Job}
theorem JobAt.insput (h : JobAt W0 L w b f J) {i : Nat} (hi : i < 2) : JobAt W0 L (w.setCell ⟨b, 19 + i, none⟩ (.bool true)) b (fset f (19 + i) (.bool true)) { J with ins := fset J.ins i true } ∧ JTo b w f (w.setCell ⟨b, 19 + i, none⟩ (.bool true)) (fset f (19 + i) (.bool true)) := by
  have hf : ∀ k, k ≠ 19 + i → fset f (19 + i) (.bool true) k = f k := fun k hk => fset_ne hk
  refine ⟨h.turn (off_one b (19 + i) _ w) (h.bl.put (by omega) _) (fun i hi => hf _ (by omega)) (fun j hj => hf _ (by omega)) (fun _ _ => rfl) (fun k hk => ?_) ?_ (fun k hk => ?_) (fun k hk => ?_) (by rw [hf _ (by omega)]; exact h.ok), jto_off (off_one b (19 + i) _ w) fun j hj => hf _ (by omega)⟩
  · obtain ⟨A, a, B, c', h0, h1, h2, h3, h4, h5, h6⟩ := h.rd k hk
    refine ⟨A, a, B, c', ?_, ?_, ?_, ?_, ?_, ?_, h6⟩ <;> rw [hf _ (by omega)] <;> assumption
  · obtain ⟨g, c, h0, h1⟩ := h.qu
    exact ⟨g, c, by rw [hf _ (by omega)]; exact h0, h1⟩
  · obtain ⟨h0, h1⟩ := h.al k hk
    exact ⟨by rw [hf _ (by omega)]; exact h0, by rw [hf _ (by omega)]; exact h1⟩
  · show fset f (19 + i) (.bool true) (19 + k) = .bool (fset J.ins i true k)
    rw [fset_at]
    by_cases e : k = i
    · subst e
      rw [if_pos rfl, fset_same]
    · rw [if_neg (by omega), fset_ne e]
      exact h.ins k hk
end
section
variable (w : World)
set_option maxRecDepth 100000 in
set_option maxHeartbeats 16000000 in
theorem insert_any (W0 : World) (L : Nat → List Msg) (b : Nat) (f : Nat → Value) (J : Job) {N : Nat → Nat} (hJ : JobAt W0 L w b f J) (hI : JInv N sl0 J) (i : Nat) (hi : i < 2) :
    Calls Tryz.prog 11 #[.pointer (some ⟨b, 0, none⟩), .int .i64 (i : Int)] w (RetJ W0 L b f (insJ J i) w) := by
  have hsd : Calls Tryz.prog 24 #[.pointer (some ⟨b, 0, none⟩), .int .i64 (i : Int), .agg #[.int .i64 2, .int .i64 0, .int .i64 0, .int .i64 0, .int .i64 0, .slice none 0 0, .int .i64 1]] w (RetJ W0 L b f (sendJ J i barI) w) := send_inv w W0 L b f J hJ hI i hi barI none 0 Lst.nil barI_num (.inr rfl)
  have HSD := hide hsd
  have kins : w.cell? ⟨b, 19 + i, none⟩ = some (.bool (J.ins i)) := by rw [← hJ.ins i hi]; exact hJ.bl.c _ (by omega)
  have hi0 : (0 : Int) ≤ (i : Int) := by omega
  have hi1 : (i : Int) < 2 := by omega
  obtain ⟨B, hB⟩ : ∃ B, J.ins i = B := ⟨_, rfl⟩
  have HJ := hide hJ
  have HB := hide hB
  rw [hB] at kins
  clear hJ hI hsd hB
  go_enter Tryz.func11, Tryz.ntmps11
  cases B
  · go_wp2_with fail
    refine HSD.out.mono ?_
    rintro e1 w1 ⟨rfl, f1, hJ1, hT1⟩
    have HJ1 := hide hJ1
    have HT1 := hide hT1
    have c1 := hJ1.bl.c (19 + i) (by omega)
    have g1 := hJ1.bl.fz (19 + i)
    clear hJ1 hT1 kins HSD
    go_wp2
    go_end0
    have hp := HJ1.out.insput hi
    refine ⟨rfl, _, hp.1.of_eq ?_, HT1.out.trans hp.2⟩
    unfold insJ
    rw [if_neg (by rw [HB.out]; decide)]
    have e := (sendJ_off J i barI).2.1
    rw [e]
  · go_wp2
    go_end0
    refine ⟨rfl, f, HJ.out.of_eq ?_, JTo.refl⟩
    unfold insJ
    rw [if_pos HB.out]
end
end Go.Proofs.YtppaiihcaajkaaaGreat
