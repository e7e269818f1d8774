/- leaf and eval, of an evaluator, at an aggregate. -/
import Derived.Test.YthngffceneemnaaETot
namespace Go.Proofs.Ythngffceneemnaa
open Go.RowKit
set_option linter.unusedVariables false
set_option linter.unusedSimpArgs false
section
variable (k : Int) (o : V3) (g : Nat) (mv : Value) (E : Value) (L : List V3) (w : World)
set_option maxRecDepth 100000 in
set_option maxHeartbeats 4000000 in
theorem eleaf_any (ho : o.s.size ≤ maxLen) (hl : L.length ≤ 4096) (hsz : ∀ x ∈ L, x.s.size ≤ maxLen) (hE : w.cell? ⟨g, 0, none⟩ = some E) (hev : Evs w E L) :
    Calls Try.prog 39 #[.agg #[.slice (some ⟨g, 0, none⟩) 1 1, .int .i64 (-1), .int .i64 0, .int .i64 0, .int .i64 0, .int .i64 0, .slice none 0 0, mv], .agg #[.int .i64 4, .slice none 0 0, .int .i64 0, .int .i64 0, .int .i64 k, .int .i64 o.q, .int .i64 o.n, .string o.s]] w (Ret (.tuple #[V3.v (ofV k L o), .int .i64 (ofE k L o)]) w) := by
  have HV := hide (fun w h => eevents_any g mv w E h)
  have HT := hide (fun w h1 h2 => etotal_any k o g mv E L w ho hl hsz h1 h2)
  have hB1 := below_laid (w := w) (.cells #[.slice (some ⟨g, 0, none⟩) 1 1, .int .i64 (-1), .int .i64 0, .int .i64 0, .int .i64 0, .int .i64 0, .slice none 0 0, mv] 64)
  have hB2 := bthen hB1 (below_laid (.cells #[.int .i64 4, .slice none 0 0, .int .i64 0, .int .i64 0, .int .i64 k, .int .i64 o.q, .int .i64 o.n, .string o.s] 42))
  have hB3 := bthen hB2 (below_laid (.cells #[.int .i64 0, .int .i64 0, .string ⟨#[]⟩] 25))
  have HX := hide (((BoxX.new w g mv).keep (below_laid (.cells #[.int .i64 4, .slice none 0 0, .int .i64 0, .int .i64 0, .int .i64 k, .int .i64 o.q, .int .i64 o.n, .string o.s] 42))).keep (below_laid (.cells #[.int .i64 0, .int .i64 0, .string ⟨#[]⟩] 25)))
  have hY := (BoxE.new (w.alloc (.cells #[.slice (some ⟨g, 0, none⟩) 1 1, .int .i64 (-1), .int .i64 0, .int .i64 0, .int .i64 0, .int .i64 0, .slice none 0 0, mv] 64)) k o).keep (below_laid (.cells #[.int .i64 0, .int .i64 0, .string ⟨#[]⟩] 25))
  rw [World.size_alloc] at hY
  have HY := hide hY
  have hR : Box3 (((w.alloc (.cells #[.slice (some ⟨g, 0, none⟩) 1 1, .int .i64 (-1), .int .i64 0, .int .i64 0, .int .i64 0, .int .i64 0, .slice none 0 0, mv] 64)).alloc (.cells #[.int .i64 4, .slice none 0 0, .int .i64 0, .int .i64 0, .int .i64 k, .int .i64 o.q, .int .i64 o.n, .string o.s] 42)).alloc (.cells #[.int .i64 0, .int .i64 0, .string ⟨#[]⟩] 25)) (w.heap.size + 1 + 1) V3.z := by
    have := Box3.new ((w.alloc (.cells #[.slice (some ⟨g, 0, none⟩) 1 1, .int .i64 (-1), .int .i64 0, .int .i64 0, .int .i64 0, .int .i64 0, .slice none 0 0, mv] 64)).alloc (.cells #[.int .i64 4, .slice none 0 0, .int .i64 0, .int .i64 0, .int .i64 k, .int .i64 o.q, .int .i64 o.n, .string o.s] 42)) V3.z 25
    simp only [World.size_alloc] at this
    exact this
  have HR := hide hR
  have HC := hide (keep1 hB3 hE)
  have HEV := hide (hev.keep hB3)
  clear hev hE hB1 hB2 hB3 hsz ho hl hY hR
  generalize ofV k L o = r at *
  generalize ofE k L o = z at *
  obtain ⟨rq, rn, rs⟩ := r
  obtain ⟨x0, x1, x2, x3, x4, x5, x6, x7⟩ := HX.out
  obtain ⟨y0, y1, y2, y3, y4, y5, y6, y7⟩ := HY.out
  go_enter Try.func39, Try.ntmps39
  go_wp2_with fail
  refine (HV.out _ HC.out).mono ?_
  rintro e w1 ⟨rfl, hb⟩
  have HB := hide (bel3 hb)
  have HX := hide (HX.out.keep hb)
  have HY := hide (HY.out.keep hb)
  have HEV := hide (HEV.out.keep hb)
  have HR := hide (HR.out.keep hb)
  have HC := hide (keep1 hb HC.out)
  clear hb x0 x1 x2 x3 x4 x5 x6 x7 y0 y1 y2 y3 y4 y5 y6 y7
  obtain ⟨x0, x1, x2, x3, x4, x5, x6, x7⟩ := HX.out
  obtain ⟨y0, y1, y2, y3, y4, y5, y6, y7⟩ := HY.out
  go_wp2_with fail
  refine (HT.out _ HC.out HEV.out).mono ?_
  rintro e w2 ⟨rfl, hb⟩
  have HB := hide (bthen HB.out hb)
  have HR := hide (HR.out.keep hb)
  clear hb x0 x1 x2 x3 x4 x5 x6 x7 y0 y1 y2 y3 y4 y5 y6 y7
  obtain ⟨⟨r0, r1, r2⟩, g0, g1, g2⟩ := HR.out
  simp only [V3.z] at r0 r1 r2
  go_wp2
  refine bodyPost_ret (v := .tuple #[V3.v ⟨rq, rn, rs⟩, .int .i64 z]) (by rw [results_cell_tmp rfl]; go_simp) rfl ?_
  exact Ret.mk rfl (below_set3' HB.out (by omega) _ _ _)
set_option maxRecDepth 100000 in
set_option maxHeartbeats 4000000 in
theorem eeval_any (ho : o.s.size ≤ maxLen) (hl : L.length ≤ 4096) (hsz : ∀ x ∈ L, x.s.size ≤ maxLen) (hE : w.cell? ⟨g, 0, none⟩ = some E) (hev : Evs w E L) :
    Calls Try.prog 23 #[.agg #[.slice (some ⟨g, 0, none⟩) 1 1, .int .i64 (-1), .int .i64 0, .int .i64 0, .int .i64 0, .int .i64 0, .slice none 0 0, mv], .agg #[.int .i64 4, .slice none 0 0, .int .i64 0, .int .i64 0, .int .i64 k, .int .i64 o.q, .int .i64 o.n, .string o.s]] w (Ret (.tuple #[V3.v (ofV k L o), .int .i64 (ofE k L o)]) w) := by
  have HT := hide (fun w h1 h2 => eleaf_any k o g mv E L w ho hl hsz h1 h2)
  have hB1 := below_laid (w := w) (.cells #[.slice (some ⟨g, 0, none⟩) 1 1, .int .i64 (-1), .int .i64 0, .int .i64 0, .int .i64 0, .int .i64 0, .slice none 0 0, mv] 64)
  have hB2 := bthen hB1 (below_laid (.cells #[.int .i64 4, .slice none 0 0, .int .i64 0, .int .i64 0, .int .i64 k, .int .i64 o.q, .int .i64 o.n, .string o.s] 42))
  have hB3 := bthen hB2 (below_laid (.cells #[.int .i64 0, .int .i64 0, .string ⟨#[]⟩] 25))
  have HX := hide (((BoxX.new w g mv).keep (below_laid (.cells #[.int .i64 4, .slice none 0 0, .int .i64 0, .int .i64 0, .int .i64 k, .int .i64 o.q, .int .i64 o.n, .string o.s] 42))).keep (below_laid (.cells #[.int .i64 0, .int .i64 0, .string ⟨#[]⟩] 25)))
  have hY := (BoxE.new (w.alloc (.cells #[.slice (some ⟨g, 0, none⟩) 1 1, .int .i64 (-1), .int .i64 0, .int .i64 0, .int .i64 0, .int .i64 0, .slice none 0 0, mv] 64)) k o).keep (below_laid (.cells #[.int .i64 0, .int .i64 0, .string ⟨#[]⟩] 25))
  rw [World.size_alloc] at hY
  have HY := hide hY
  have hR : Box3 (((w.alloc (.cells #[.slice (some ⟨g, 0, none⟩) 1 1, .int .i64 (-1), .int .i64 0, .int .i64 0, .int .i64 0, .int .i64 0, .slice none 0 0, mv] 64)).alloc (.cells #[.int .i64 4, .slice none 0 0, .int .i64 0, .int .i64 0, .int .i64 k, .int .i64 o.q, .int .i64 o.n, .string o.s] 42)).alloc (.cells #[.int .i64 0, .int .i64 0, .string ⟨#[]⟩] 25)) (w.heap.size + 1 + 1) V3.z := by
    have := Box3.new ((w.alloc (.cells #[.slice (some ⟨g, 0, none⟩) 1 1, .int .i64 (-1), .int .i64 0, .int .i64 0, .int .i64 0, .int .i64 0, .slice none 0 0, mv] 64)).alloc (.cells #[.int .i64 4, .slice none 0 0, .int .i64 0, .int .i64 0, .int .i64 k, .int .i64 o.q, .int .i64 o.n, .string o.s] 42)) V3.z 25
    simp only [World.size_alloc] at this
    exact this
  have HR := hide hR
  have HC := hide (keep1 hB3 hE)
  have HEV := hide (hev.keep hB3)
  have HB0 := hide hB3
  clear hev hE hB1 hB2 hB3 hsz ho hl hY hR
  generalize ofV k L o = r at *
  generalize ofE k L o = z at *
  obtain ⟨rq, rn, rs⟩ := r
  obtain ⟨x0, x1, x2, x3, x4, x5, x6, x7⟩ := HX.out
  obtain ⟨y0, y1, y2, y3, y4, y5, y6, y7⟩ := HY.out
  go_enter Try.func23, Try.ntmps23
  go_wp2_with fail
  refine (HT.out _ HC.out HEV.out).mono ?_
  rintro e w2 ⟨rfl, hb⟩
  have HB := hide (bthen HB0.out hb)
  have HR := hide (HR.out.keep hb)
  clear hb x0 x1 x2 x3 x4 x5 x6 x7 y0 y1 y2 y3 y4 y5 y6 y7
  obtain ⟨⟨r0, r1, r2⟩, g0, g1, g2⟩ := HR.out
  simp only [V3.z] at r0 r1 r2
  go_wp2
  refine bodyPost_ret (v := .tuple #[V3.v ⟨rq, rn, rs⟩, .int .i64 z]) (by rw [results_cell_tmp rfl]; go_simp) rfl ?_
  exact Ret.mk rfl (below_set3' HB.out (by omega) _ _ _)
end
end Go.Proofs.Ythngffceneemnaa
