/- Eval of an aggregate over the events of a variable. -/
import Derived.Test.YthngffceneemnaaETry
import Derived.Deep.RegionHeld3
import Derived.Deep.RegionWith
namespace Go.Proofs.Ythngffceneemnaa
open Go.RowKit
set_option linter.unusedVariables false
set_option linter.unusedSimpArgs false
/-- The cells of an event of zeros. -/
def BoxZ (w : World) (F : Nat) : Prop :=
  w.cell? ⟨F, 0, none⟩ = some (.int .i64 0) ∧ w.cell? ⟨F, 1, none⟩ = some (.int .i64 0) ∧ w.cell? ⟨F, 2, none⟩ = some (.int .i64 0) ∧ w.cell? ⟨F, 3, none⟩ = some (.int .i64 0) ∧ w.cell? ⟨F, 4, none⟩ = some (.slice none 0 0)
theorem BoxZ.keep {w w' : World} {F : Nat} (h : BoxZ w F) (hb : Below w.heap.size w w') : BoxZ w' F := by
  obtain ⟨a0, a1, a2, a3, a4⟩ := h
  exact ⟨keep1 hb a0, keep1 hb a1, keep1 hb a2, keep1 hb a3, keep1 hb a4⟩
theorem BoxZ.new (w : World) (t : TypeId) : BoxZ (w.alloc (.cells #[.int .i64 0, .int .i64 0, .int .i64 0, .int .i64 0, .slice none 0 0] t)) w.heap.size := by
  have h := fun (i : Nat) => cells_lit w [.int .i64 0, .int .i64 0, .int .i64 0, .int .i64 0, .slice none 0 0] t i
  exact ⟨h 0 _ rfl, h 1 _ rfl, h 2 _ rfl, h 3 _ rfl, h 4 _ rfl⟩
theorem set3_far {W : World} {F : Nat} {v0 v1 v2 : Value} {p : Addr} (hp : F ≠ p.block) : (((W.setCell ⟨F, 0, none⟩ v0).setCell ⟨F, 1, none⟩ v1).setCell ⟨F, 2, none⟩ v2).cell? p = W.cell? p := by
  rw [World.cell?_setCell_other _ _ _ _ (by rintro rfl; exact hp rfl), World.cell?_setCell_other _ _ _ _ (by rintro rfl; exact hp rfl), World.cell?_setCell_other _ _ _ _ (by rintro rfl; exact hp rfl)]
section
variable (k : Int) (o : V3) (g : Nat) (E : Value) (L : List V3) (w : World)
set_option maxRecDepth 100000 in
set_option maxHeartbeats 4000000 in
theorem eev_any (h1 : 1 ≤ k) (h5 : k ≤ 5) (ho : o.s.size ≤ maxLen) (hwr : wrE k o.q o.n o.s.size = 0) (hz : k = 1 → o = V3.z) (hl : L.length ≤ 4096) (hsz : ∀ x ∈ L, x.s.size ≤ maxLen) (hE : w.cell? ⟨g, 0, none⟩ = some E) (hev : Evs w E L) :
    Calls Try.prog 12 #[.agg #[.int .i64 4, .slice none 0 0, .int .i64 0, .int .i64 0, .int .i64 k, .int .i64 o.q, .int .i64 o.n, .string o.s], .agg #[.slice (some ⟨g, 0, none⟩) 1 1], .int .i64 (-1), .agg #[.int .i64 0, .int .i64 0, .int .i64 0, .int .i64 0, .slice none 0 0]] w (Ret (.tuple #[V3.v (ofV k L o), .int .i64 (ofE k L o)]) w) := by
  have HC := hide (fun w => echeck_any k o w h1 h5 ho hwr hz)
  have HT := hide (fun w mv h1 h2 => eeval_any k o g mv E L w ho hl hsz h1 h2)
  have hB1 := below_laid (w := w) (.cells #[.int .i64 4, .slice none 0 0, .int .i64 0, .int .i64 0, .int .i64 k, .int .i64 o.q, .int .i64 o.n, .string o.s] 42)
  have hB2 := bthen hB1 (below_laid (.cells #[.slice (some ⟨g, 0, none⟩) 1 1] 46))
  have hB3 := bthen hB2 (below_laid (.cells #[.int .i64 0, .int .i64 0, .int .i64 0, .int .i64 0, .slice none 0 0] 49))
  have hB4 := bthen hB3 (below_laid (.cells #[.int .i64 0, .int .i64 0, .string ⟨#[]⟩] 25))
  have HX := hide ((((BoxE.new w k o).keep (below_laid (.cells #[.slice (some ⟨g, 0, none⟩) 1 1] 46))).keep (below_laid (.cells #[.int .i64 0, .int .i64 0, .int .i64 0, .int .i64 0, .slice none 0 0] 49))).keep (below_laid (.cells #[.int .i64 0, .int .i64 0, .string ⟨#[]⟩] 25)))
  have hy0 := keep1 (below_laid (.cells #[.int .i64 0, .int .i64 0, .string ⟨#[]⟩] 25)) (keep1 (below_laid (.cells #[.int .i64 0, .int .i64 0, .int .i64 0, .int .i64 0, .slice none 0 0] 49)) (cells_lit (w.alloc (.cells #[.int .i64 4, .slice none 0 0, .int .i64 0, .int .i64 0, .int .i64 k, .int .i64 o.q, .int .i64 o.n, .string o.s] 42)) [.slice (some ⟨g, 0, none⟩) 1 1] 46 0 _ rfl))
  rw [World.size_alloc] at hy0
  have hZ := (BoxZ.new ((w.alloc (.cells #[.int .i64 4, .slice none 0 0, .int .i64 0, .int .i64 0, .int .i64 k, .int .i64 o.q, .int .i64 o.n, .string o.s] 42)).alloc (.cells #[.slice (some ⟨g, 0, none⟩) 1 1] 46)) 49).keep (below_laid (.cells #[.int .i64 0, .int .i64 0, .string ⟨#[]⟩] 25))
  simp only [World.size_alloc] at hZ
  have HZ := hide hZ
  have hR := Box3.new (((w.alloc (.cells #[.int .i64 4, .slice none 0 0, .int .i64 0, .int .i64 0, .int .i64 k, .int .i64 o.q, .int .i64 o.n, .string o.s] 42)).alloc (.cells #[.slice (some ⟨g, 0, none⟩) 1 1] 46)).alloc (.cells #[.int .i64 0, .int .i64 0, .int .i64 0, .int .i64 0, .slice none 0 0] 49)) V3.z 25
  simp only [World.size_alloc] at hR
  have HR := hide hR
  have HCE := hide (keep1 hB4 hE)
  have HEV := hide (hev.keep hB4)
  clear hev hE hB1 hB2 hB3 hB4 hsz ho hl hZ hR h1 h5 hwr hz
  generalize ofV k L o = r at *
  generalize ofE k L o = z at *
  obtain ⟨rq, rn, rs⟩ := r
  obtain ⟨a0, a1, a2, a3, a4, a5, a6, a7⟩ := HX.out
  go_enter Try.func12, Try.ntmps12
  go_wp2_with fail
  refine (HC.out _).mono ?_
  rintro e w1 ⟨rfl, hb⟩
  have HW := hide (bthen (bthen (bthen (bthen (below_laid _) (below_laid _)) (below_laid _)) (below_laid _)) hb)
  have HX := hide (HX.out.keep hb)
  have hy0 := keep1 hb hy0
  have HZ := hide (HZ.out.keep hb)
  have HR := hide (HR.out.keep hb)
  have HCE := hide (keep1 hb HCE.out)
  have HEV := hide (HEV.out.keep hb)
  clear hb a0 a1 a2 a3 a4 a5 a6 a7
  obtain ⟨a0, a1, a2, a3, a4, a5, a6, a7⟩ := HX.out
  obtain ⟨z0, z1, z2, z3, z4⟩ := HZ.out
  go_wp2_with fail
  have ne0 : w.heap.size + 1 + 1 + 1 ≠ w.heap.size := by omega
  have ne1 : w.heap.size + 1 + 1 + 1 ≠ w.heap.size + 1 := by omega
  have ne2 : w.heap.size + 1 + 1 + 1 ≠ w.heap.size + 1 + 1 := by omega
  go_region_held3 (fun w' => w'.cell? ⟨w.heap.size, 0, none⟩ = some (.int .i64 4) ∧ w'.cell? ⟨w.heap.size, 1, none⟩ = some (.slice none 0 0) ∧ w'.cell? ⟨w.heap.size, 2, none⟩ = some (.int .i64 0) ∧ w'.cell? ⟨w.heap.size, 3, none⟩ = some (.int .i64 0) ∧ w'.cell? ⟨w.heap.size, 4, none⟩ = some (.int .i64 k) ∧ w'.cell? ⟨w.heap.size, 5, none⟩ = some (.int .i64 o.q) ∧ w'.cell? ⟨w.heap.size, 6, none⟩ = some (.int .i64 o.n) ∧ w'.cell? ⟨w.heap.size, 7, none⟩ = some (.string o.s) ∧ w'.cell? ⟨w.heap.size + 1, 0, none⟩ = some (.slice (some ⟨g, 0, none⟩) 1 1) ∧ w'.cell? ⟨w.heap.size + 1 + 1, 0, none⟩ = some (.int .i64 0) ∧ w'.cell? ⟨w.heap.size + 1 + 1, 1, none⟩ = some (.int .i64 0) ∧ w'.cell? ⟨w.heap.size + 1 + 1, 2, none⟩ = some (.int .i64 0) ∧ w'.cell? ⟨w.heap.size + 1 + 1, 3, none⟩ = some (.int .i64 0) ∧ w'.cell? ⟨w.heap.size + 1 + 1, 4, none⟩ = some (.slice none 0 0))
    (first
      | with_reducible exact ⟨keep1 hbA a0, keep1 hbA a1, keep1 hbA a2, keep1 hbA a3, keep1 hbA a4, keep1 hbA a5, keep1 hbA a6, keep1 hbA a7, keep1 hbA hy0, keep1 hbA z0, keep1 hbA z1, keep1 hbA z2, keep1 hbA z3, keep1 hbA z4⟩
      | with_reducible exact ⟨keep1 hbB a0, keep1 hbB a1, keep1 hbB a2, keep1 hbB a3, keep1 hbB a4, keep1 hbB a5, keep1 hbB a6, keep1 hbB a7, keep1 hbB hy0, keep1 hbB z0, keep1 hbB z1, keep1 hbB z2, keep1 hbB z3, keep1 hbB z4⟩
      | with_reducible exact ⟨(set3_far (p := ⟨w.heap.size, 0, none⟩) ne0).trans (keep1 hbB a0), (set3_far (p := ⟨w.heap.size, 1, none⟩) ne0).trans (keep1 hbB a1), (set3_far (p := ⟨w.heap.size, 2, none⟩) ne0).trans (keep1 hbB a2), (set3_far (p := ⟨w.heap.size, 3, none⟩) ne0).trans (keep1 hbB a3), (set3_far (p := ⟨w.heap.size, 4, none⟩) ne0).trans (keep1 hbB a4), (set3_far (p := ⟨w.heap.size, 5, none⟩) ne0).trans (keep1 hbB a5), (set3_far (p := ⟨w.heap.size, 6, none⟩) ne0).trans (keep1 hbB a6), (set3_far (p := ⟨w.heap.size, 7, none⟩) ne0).trans (keep1 hbB a7), (set3_far (p := ⟨w.heap.size + 1, 0, none⟩) ne1).trans (keep1 hbB hy0), (set3_far (p := ⟨w.heap.size + 1 + 1, 0, none⟩) ne2).trans (keep1 hbB z0), (set3_far (p := ⟨w.heap.size + 1 + 1, 1, none⟩) ne2).trans (keep1 hbB z1), (set3_far (p := ⟨w.heap.size + 1 + 1, 2, none⟩) ne2).trans (keep1 hbB z2), (set3_far (p := ⟨w.heap.size + 1 + 1, 3, none⟩) ne2).trans (keep1 hbB z3), (set3_far (p := ⟨w.heap.size + 1 + 1, 4, none⟩) ne2).trans (keep1 hbB z4)⟩
      | (go_keep; done))
    (first
      | (go_at_call 22; refine (eops_any _).mono ?_; rintro e w3 ⟨mv, rfl, hb⟩; have hbA : Below w1.heap.size w1 w3 := below_undrew hb)
      | (go_at_call 23; refine (HT.out _ (.map (some mv)) (keep1 hbA HCE.out) (HEV.out.keep hbA)).mono ?_; rintro e w4 ⟨rfl, hb2⟩; have hbB : Below w1.heap.size w1 w4 := bthen hbA hb2; obtain ⟨⟨r0, r1, r2⟩, g0, g1, g2⟩ := HR.out.keep hbB; simp only [V3.z] at r0 r1 r2; simp only [V3.v]))
  go_wp2
  refine bodyPost_ret (v := .tuple #[V3.v ⟨rq, rn, rs⟩, .int .i64 z]) (by rw [results_cell_tmp rfl]; go_simp) rfl ?_
  exact Ret.mk rfl (below_set3' (bthen HW.out hbB) (by omega) _ _ _)
end
end Go.Proofs.Ythngffceneemnaa
