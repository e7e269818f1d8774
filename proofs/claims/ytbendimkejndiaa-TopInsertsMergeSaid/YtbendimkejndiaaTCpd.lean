/- stream.copied. -/
import Derived.Test.YtbendimkejndiaaTGrow
namespace Go.Proofs.Ytbendimkejndiaa
open Go.RowKit
set_option linter.unusedVariables false
set_option linter.unusedSimpArgs false
theorem one_V0 : One RV0 := by
  rintro w Z xs x ⟨rfl, -⟩ u hu
  simp at hu
  rcases hu with rfl | rfl | rfl <;> rfl
/-- A copy of an event: its values lie in memory of its own. -/
def RetC (x : Evt) (w : World) (e : Ending) (w' : World) : Prop := ∃ B q, e = .returned (.agg #[.int .i64 x.a, .int .i64 x.b, .int .i64 x.c, .int .i64 x.d, .slice B x.vs.length q]) ∧ Lst w' (fun b => w.heap.size ≤ b ∧ b < w'.heap.size) 3 RV0 (.slice B x.vs.length q) x.vs ∧ Below w.heap.size w w'
theorem lst_top {w : World} {Z : Nat → Prop} {v : Value} {l : List V3} (h : Lst w Z 3 RV0 v l) : Lst w (fun b => Z b ∧ b < w.heap.size) 3 RV0 v l := by
  refine ⟨h.1, fun j hj => ?_⟩
  obtain ⟨g, off, cap, xs, e, hz, hl, hc, hr⟩ := h.2 j hj
  refine ⟨g, off, cap, xs, e, ⟨hz, ?_⟩, hl, hc, hr⟩
  exact World.block_lt_of_cell? w ⟨g, off + j * 3 + 0, none⟩ (hc 0 xs[0] (List.getElem?_eq_getElem (by omega)))
set_option maxRecDepth 100000 in
set_option maxHeartbeats 4000000 in
theorem copied_any (x : Evt) (A : Option Addr) (c : Nat) (w : World) (hv : Lst w (· < w.heap.size) 3 RV0 (.slice A x.vs.length c) x.vs) (hl : x.vs.length ≤ 1000) :
    Calls Try.prog 24 #[.agg #[.int .i64 x.a, .int .i64 x.b, .int .i64 x.c, .int .i64 x.d, .slice A x.vs.length c]] w (RetC x w) := by
  obtain ⟨cells, hc, hcl, hce⟩ := lst_raw one_V0 hv
  have HCE := hide hce
  have HCN := hide hcl
  have HCL := hide (fun (w' : World) (h : Below w.heap.size w w') => vclone_any A c cells w' _ (by rw [hcl]; exact hc.keep rd_Wq (Kp.of_below h)) (by omega))
  rw [hcl] at HCL
  obtain ⟨a, b, t, d, l⟩ := x
  simp only at *
  obtain ⟨m, hm⟩ : ∃ m, l.length = m := ⟨_, rfl⟩
  have HM := hide hm
  have HML := hide hl
  rw [hm] at HCL ⊢
  have HX := hide ((Bl.new w [.int .i64 a, .int .i64 b, .int .i64 t, .int .i64 d, .slice A m c] 32).laid (.cells #[.int .i64 0, .int .i64 0, .int .i64 0, .int .i64 0, .slice none 0 0] 32))
  have HZ := hide (Bl.new (w.alloc (.cells #[.int .i64 a, .int .i64 b, .int .i64 t, .int .i64 d, .slice A m c] 32)) [.int .i64 0, .int .i64 0, .int .i64 0, .int .i64 0, .slice none 0 0] 32)
  have HB := hide (bthen (below_laid (w := w) (.cells #[.int .i64 a, .int .i64 b, .int .i64 t, .int .i64 d, .slice A m c] 32)) (below_laid (.cells #[.int .i64 0, .int .i64 0, .int .i64 0, .int .i64 0, .slice none 0 0] 32)))
  clear hc hcl hce hv hl hm
  go_enter Try.func24, Try.ntmps24
  go_wp2_with fail
  refine (HCL.out _ HB.out).mono ?_
  rintro e w3 ⟨v', rfl, hown, hb⟩
  simp only [World.size_alloc] at HX HZ HB hown hb
  have hL : Lst w3 (fun b => w.heap.size + 1 + 1 ≤ b ∧ b < w3.heap.size) 3 RV0 v' l := by
    rw [HCN.out] at hown
    refine lst_top (Lst.of_own (Z := fun b => w.heap.size + 1 + 1 ≤ b) (by decide) hown (fun b h => h) HCN.out (by have := HM.out; have := HML.out; unfold maxLen; omega) fun j hj => ?_)
    exact HCE.out j hj
  obtain ⟨B, q, hV⟩ := hL.form
  rw [HM.out] at hV
  subst hV
  have HL := hide hL
  have hz3 := hb.size
  simp only [World.size_alloc] at hz3
  have HX3 := hide (HX.out.keep (hb.mono (by simp)))
  have HZ3 := hide (HZ.out.keep (hb.mono (by simp)))
  have HB3 := hide (HB.out.trans (hb.mono (by omega)))
  clear hL hown hb HX HZ HB HCL HCE HCN
  have x0 := HX3.out.c 0 _ rfl
  have x1 := HX3.out.c 1 _ rfl
  have x2 := HX3.out.c 2 _ rfl
  have x3 := HX3.out.c 3 _ rfl
  have x4 := HX3.out.c 4 _ rfl
  have f4 := HX3.out.f 4
  have z0 := HZ3.out.c 0 _ rfl
  have z1 := HZ3.out.c 1 _ rfl
  have z2 := HZ3.out.c 2 _ rfl
  have z3 := HZ3.out.c 3 _ rfl
  have z4 := HZ3.out.c 4 _ rfl
  have g0 := HZ3.out.f 0
  have g1 := HZ3.out.f 1
  have g2 := HZ3.out.f 2
  have g3 := HZ3.out.f 3
  have g4 := HZ3.out.f 4
  go_wp2
  refine bodyPost_ret (v := .agg #[.int .i64 a, .int .i64 b, .int .i64 t, .int .i64 d, .slice B m q]) (by rw [results_c rfl]; go_simp) rfl ?_
  refine ⟨B, q, by simp only [HM.out], ?_, ?_⟩
  · have kz := (show Kp (fun b => w.heap.size + 1 + 1 ≤ b ∧ b < w3.heap.size) w3 _ from ((((((Kp.set ⟨w.heap.size, 4, none⟩ (.slice B m q) (fun b hb => by show b ≠ w.heap.size; omega)).trans (Kp.set ⟨w.heap.size + 1, 0, none⟩ (.int .i64 a) (fun b hb => by show b ≠ w.heap.size + 1; omega))).trans (Kp.set ⟨w.heap.size + 1, 1, none⟩ (.int .i64 b) (fun b hb => by show b ≠ w.heap.size + 1; omega))).trans (Kp.set ⟨w.heap.size + 1, 2, none⟩ (.int .i64 t) (fun b hb => by show b ≠ w.heap.size + 1; omega))).trans (Kp.set ⟨w.heap.size + 1, 3, none⟩ (.int .i64 d) (fun b hb => by show b ≠ w.heap.size + 1; omega))).trans (Kp.set ⟨w.heap.size + 1, 4, none⟩ (.slice B m q) (fun b hb => by show b ≠ w.heap.size + 1; omega))))
    simp only [HM.out]
    refine Lst.more rd_V0 (fun b (hb : w.heap.size + 1 + 1 ≤ b ∧ b < w3.heap.size) => ?_) (HL.out.keep rd_V0 kz)
    refine ⟨by omega, ?_⟩
    simpa [World.setCell] using hb.2
  · exact ((((((HB3.out.setCell (p := ⟨w.heap.size, 4, none⟩) (by show w.heap.size ≤ w.heap.size; omega) _).setCell (p := ⟨w.heap.size + 1, 0, none⟩) (by show w.heap.size ≤ w.heap.size + 1; omega) _).setCell (p := ⟨w.heap.size + 1, 1, none⟩) (by show w.heap.size ≤ w.heap.size + 1; omega) _).setCell (p := ⟨w.heap.size + 1, 2, none⟩) (by show w.heap.size ≤ w.heap.size + 1; omega) _).setCell (p := ⟨w.heap.size + 1, 3, none⟩) (by show w.heap.size ≤ w.heap.size + 1; omega) _).setCell (p := ⟨w.heap.size + 1, 4, none⟩) (by show w.heap.size ≤ w.heap.size + 1; omega) _)
end Go.Proofs.Ytbendimkejndiaa
