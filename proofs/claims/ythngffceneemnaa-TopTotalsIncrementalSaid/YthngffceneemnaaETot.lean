/- total, of an evaluator: the aggregate of a field over the events of a variable. -/
import Derived.Test.YthngffceneemnaaEOps
import Derived.Test.YthngffceneemnaaAFolds
namespace Go.Proofs.Ythngffceneemnaa
open Go.RowKit
set_option linter.unusedVariables false
set_option linter.unusedSimpArgs false
/-- An event of which field 0 is x, at (g, off). -/
def Ev (w : World) (g off : Nat) (x : V3) : Prop := ∃ (a b c d : Int) (p q n cap : Nat), 1 ≤ n ∧ g < w.heap.size ∧ p < w.heap.size ∧
  w.cell? ⟨g, off, none⟩ = some (.int .i64 a) ∧ w.cell? ⟨g, off + 1, none⟩ = some (.int .i64 b) ∧ w.cell? ⟨g, off + 2, none⟩ = some (.int .i64 c) ∧ w.cell? ⟨g, off + 3, none⟩ = some (.int .i64 d) ∧
  w.cell? ⟨g, off + 4, none⟩ = some (.slice (some ⟨p, q, none⟩) n cap) ∧
  w.cell? ⟨p, q, none⟩ = some (.int .i64 x.q) ∧ w.cell? ⟨p, q + 1, none⟩ = some (.int .i64 x.n) ∧ w.cell? ⟨p, q + 2, none⟩ = some (.string x.s)
theorem Ev.keep {w w' : World} {g off : Nat} {x : V3} (h : Ev w g off x) (hb : Below w.heap.size w w') : Ev w' g off x := by
  obtain ⟨a, b, c, d, p, q, n, cap, hn, hg, hp, h0, h1, h2, h3, h4, h5, h6, h7⟩ := h
  have := hb.size
  exact ⟨a, b, c, d, p, q, n, cap, hn, by omega, by omega, keep1 hb h0, keep1 hb h1, keep1 hb h2, keep1 hb h3, keep1 hb h4, keep1 hb h5, keep1 hb h6, keep1 hb h7⟩
/-- A list of events, whose fields 0 are L. -/
def Evs (w : World) (E : Value) (L : List V3) : Prop := (∃ A cap, E = .slice A L.length cap) ∧ ∀ j (hj : j < L.length), ∃ g off cap, E = .slice (some ⟨g, off, none⟩) L.length cap ∧ Ev w g (off + j * 5) L[j]
theorem Evs.keep {w w' : World} {E : Value} {L : List V3} (h : Evs w E L) (hb : Below w.heap.size w w') : Evs w' E L :=
  ⟨h.1, fun j hj => by obtain ⟨g, off, cap, e, he⟩ := h.2 j hj; exact ⟨g, off, cap, e, he.keep hb⟩⟩
theorem own_keep {w w' : World} {base : Nat} {e : TypeId} {size : Nat} {v : Value} {n : Nat} {xs : List Value} (h : w.ownsRow base e size v n xs) (hb : Below w.heap.size w w') : w'.ownsRow base e size v n xs :=
  h.kept (row := none) ⟨hb.os, hb.tape, hb.output, hb.size, fun k hk _ => hb.block k hk⟩ (by cases v.ownBlock <;> simp)
section
variable (k : Int) (o : V3) (g : Nat) (mv : Value) (E : Value) (L : List V3) (w : World)
set_option maxRecDepth 100000 in
set_option maxHeartbeats 4000000 in
theorem etotal_any (ho : o.s.size ≤ maxLen) (hl : L.length ≤ 4096) (hsz : ∀ x ∈ L, x.s.size ≤ maxLen) (hE : w.cell? ⟨g, 0, none⟩ = some E) (hev : Evs w E L) :
    Calls Try.prog 53 #[.agg #[.slice (some ⟨g, 0, none⟩) 1 1, .int .i64 (-1), .int .i64 0, .int .i64 0, .int .i64 0, .int .i64 0, .slice none 0 0, mv], .agg #[.int .i64 4, .slice none 0 0, .int .i64 0, .int .i64 0, .int .i64 k, .int .i64 o.q, .int .i64 o.n, .string o.s]] w (Ret (.tuple #[V3.v (ofV k L o), .int .i64 (ofE k L o)]) w) := by
  have HV := hide (fun w h => eevents_any g mv w E h)
  have HOF := hide (fun w' v' (h : Row w' w'.heap.size 3 v' L.length (flat L)) => of_any k L o w' v' (by omega) ho (fun _ => hsz) h.form (fun _ => h))
  obtain ⟨i0, hi0, hz0, hz1, hz2⟩ := info_parts info_value
  have hB1 := below_laid (w := w) (.cells #[.slice (some ⟨g, 0, none⟩) 1 1, .int .i64 (-1), .int .i64 0, .int .i64 0, .int .i64 0, .int .i64 0, .slice none 0 0, mv] 64)
  have hB2 := bthen hB1 (below_laid (.cells #[.int .i64 4, .slice none 0 0, .int .i64 0, .int .i64 0, .int .i64 k, .int .i64 o.q, .int .i64 o.n, .string o.s] 42))
  have hB3 := bthen hB2 (below_laid (.cells #[.int .i64 0, .int .i64 0, .string ⟨#[]⟩] 25))
  have HX := hide (((BoxX.new w g mv).keep (below_laid (.cells #[.int .i64 4, .slice none 0 0, .int .i64 0, .int .i64 0, .int .i64 k, .int .i64 o.q, .int .i64 o.n, .string o.s] 42))).keep (below_laid (.cells #[.int .i64 0, .int .i64 0, .string ⟨#[]⟩] 25)))
  have hY := (BoxE.new (w.alloc (.cells #[.slice (some ⟨g, 0, none⟩) 1 1, .int .i64 (-1), .int .i64 0, .int .i64 0, .int .i64 0, .int .i64 0, .slice none 0 0, mv] 64)) k o).keep (below_laid (.cells #[.int .i64 0, .int .i64 0, .string ⟨#[]⟩] 25))
  rw [World.size_alloc] at hY
  have HY := hide hY
  have hR : Box3 (((w.alloc (.cells #[.slice (some ⟨g, 0, none⟩) 1 1, .int .i64 (-1), .int .i64 0, .int .i64 0, .int .i64 0, .int .i64 0, .slice none 0 0, mv] 64)).alloc (.cells #[.int .i64 4, .slice none 0 0, .int .i64 0, .int .i64 0, .int .i64 k, .int .i64 o.q, .int .i64 o.n, .string o.s] 42)).alloc (.cells #[.int .i64 0, .int .i64 0, .string ⟨#[]⟩] 25)) (w.heap.size + 1 + 1) V3.z := by
    have := Box3.new ((w.alloc (.cells #[.slice (some ⟨g, 0, none⟩) 1 1, .int .i64 (-1), .int .i64 0, .int .i64 0, .int .i64 0, .int .i64 0, .slice none 0 0, mv] 64)).alloc (.cells #[.int .i64 4, .slice none 0 0, .int .i64 0, .int .i64 0, .int .i64 k, .int .i64 o.q, .int .i64 o.n, .string o.s] 42)) V3.z 25
    simp only [World.size_alloc] at this
    exact this
  have HR := hide hR
  have HC := hide (keep1 hB3 hE)
  have HEV := hide (hev.keep hB3)
  obtain ⟨A, cap, hEq⟩ := hev.1
  obtain ⟨m, hm⟩ : ∃ m, L.length = m := ⟨_, rfl⟩
  rw [hm] at hEq hl
  subst hEq
  have HM := hide hm
  clear hev hE hB1 hB2 hB3 hsz ho hY hm hR
  obtain ⟨x0, x1, x2, x3, x4, x5, x6, x7⟩ := HX.out
  obtain ⟨y0, y1, y2, y3, y4, y5, y6, y7⟩ := HY.out
  go_enter Try.func53, Try.ntmps53
  go_wp2_with fail
  refine (HV.out _ HC.out).mono ?_
  rintro e w1 ⟨rfl, hb⟩
  have HB := hide (bel3 hb)
  go_wp2_with fail
  have HX := hide (HX.out.keep hb)
  have HY := hide (HY.out.keep hb)
  have HEV := hide (HEV.out.keep hb)
  have HR := hide (HR.out.keep hb)
  clear hb x0 x1 x2 x3 x4 x5 x6 x7 y0 y1 y2 y3 y4 y5 y6 y7
  go_loopw [6, 16] (fun v i wr => ∃ j : Nat, j ≤ m ∧ i = .int .i64 j ∧ wr.ownsRow w1.heap.size 25 3 v j (flat (L.take j)) ∧ Below w1.heap.size w1 wr) (fun _ i _ => m - (intOf i).toNat)
  case atStart => exact ⟨0, by omega, rfl, World.ownsRow_nil _ _ _ _, Below.refl _ _⟩
  case round =>
    obtain ⟨j, hj, rfl, hown, hB⟩ := hrel
    have HYr := hide (HY.out.keep hB)
    have HEr := hide (HEV.out.keep hB)
    obtain ⟨y0, y1, y2, y3, y4, y5, y6, y7⟩ := HYr.out
    by_cases hlt : j < m
    · have hjl : j < L.length := by rw [HM.out]; exact hlt
      obtain ⟨g', off, cap', e', hev⟩ := HEr.out.2 j hjl
      rw [HM.out] at e'
      cases e'
      have HS : Hid (flat (L.take (j + 1)) = flat (L.take j) ++ [.int .i64 L[j].q, .int .i64 L[j].n, .string L[j].s]) := hide (by
        rw [List.take_succ_eq_append_getElem hjl, flat_app]; rfl)
      obtain ⟨x, hx⟩ : ∃ x, L[j] = x := ⟨_, rfl⟩
      rw [hx] at hev HS
      clear hx
      obtain ⟨a, b, c, d, p, q, n, cp, hn, hg, hp, c0, c1, c2, c3, c4, c5, c6, c7⟩ := hev
      have HF := hide (fun w' (hb : Below wr.heap.size wr w') => efield_any w' a b c d p q n cp x hn (keep1 hb c5) (keep1 hb c6) (keep1 hb c7))
      have hu0 : (0 : Int) ≤ (j : Int) := by omega
      have hu1 : (j : Int) < (m : Int) := by omega
      have hlY := World.block_lt_of_cell? wr _ y3
      have hlY : w.heap.size + 1 < wr.heap.size := hlY
      have ne1 : wr.heap.size ≠ w.heap.size + 1 := by omega
      have ne2 : wr.heap.size ≠ g' := by omega
      clear c5 c6 c7 hn hp hlY
      go_wp2_with fail
      refine (HF.out _ (below_laid _)).mono ?_
      rintro e w2 ⟨rfl, hb⟩
      have hbw := bel1 hb
      have hbx := bthen hbw (below_laid (.cells #[.int .i64 x.q, .int .i64 x.n, .string x.s] 25))
      have hB2 := hB.trans (hbx.mono hB.size)
      have hown := own_keep hown hbx
      have HYr := hide (HYr.out.keep hbx)
      clear hb hbw hbx y0 y1 y2 y3 y4 y5 y6 y7 c0 c1 c2 c3 c4
      go_wp2_with (at_builtin; refine wpList_append_one rfl _ _ 22 rfl w1.heap.size 25 i0 _ 32 Try.underlying22 hi0 hz0 [.int .i64 x.q, .int .i64 x.n, .string x.s] hz1 hz2 rfl (by simp) _ _ _ rfl hown _ (by rw [World.size_alloc]; rfl) (by simp [Value.oneCell']) ?c1 (by decide) ?c2 ?_; (case c1 => omega); (case c2 => exact hB2.size); intro v2 w3 hown2 hb2 _)
      go_roundw
      case rel => exact ⟨j + 1, by omega, by go_num, by rw [HS.out]; exact hown2, hB2.trans hb2⟩
      case measure => simp [intOf]; omega
    · obtain rfl : j = m := by omega
      rw [List.take_of_length_le (by rw [HM.out]; exact Nat.le_refl _)] at hown
      have HO := hide (HOF.out wr u6 (by rw [HM.out]; exact Row.of_own hown))
      have HW := hide (bthen HB.out hB)
      have HR := hide (HR.out.keep hB)
      clear hown hB
      generalize ofV k L o = r at *
      generalize ofE k L o = z at *
      obtain ⟨rq, rn, rs⟩ := r
      go_wp2_with fail
      refine (HO.out).mono ?_
      rintro e w2 ⟨rfl, hb⟩
      have HW := hide (bthen HW.out hb)
      have HR := hide (HR.out.keep hb)
      clear hb
      obtain ⟨⟨r0, r1, r2⟩, g0, g1, g2⟩ := HR.out
      simp only [V3.z] at r0 r1 r2
      go_wp2
      refine bodyPost_ret (v := .tuple #[V3.v ⟨rq, rn, rs⟩, .int .i64 z]) (by rw [results_cell_tmp rfl]; go_simp) rfl ?_
      exact Ret.mk rfl (below_set3' HW.out (by omega) _ _ _)
end
end Go.Proofs.Ythngffceneemnaa
