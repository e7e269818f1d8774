/- coordinator.find: the addresses of the attempt with a number and of the one before it. -/
import Derived.Test.YtihbonndinnohaaQRef3
import Derived.Sort.QuietIn
namespace Go.Proofs.Ytihbonndinnohaa
open Go.RowKit Go.Shelf
set_option linter.unusedVariables false
set_option linter.unusedSimpArgs false
attribute [local go_sem] Oper.semAt_some
theorem results_cc {fn : Func} {p u : Tmp} {ty tu : TypeId} (h : fn.results = #[.cell p ty, .cell u tu]) (tmps : Array Value) (P : Program) (w : World) :
    (results fn tmps).run P w = ((asAddr (tmps.getD p undef)).run P w).andThen fun a w₁ => ((loadVar ty a).run P w₁).andThen fun v w₂ => ((asAddr (tmps.getD u undef)).run P w₂).andThen fun b w₃ => ((loadVar tu b).run P w₃).andThen fun x w₄ => .ok (.tuple #[v, x]) w₄ := by
  simp only [results, h]
  simp [Sem.run_bind, Result.andThen]
/-- A function whose results lie in two cells leaves, with one mark among its deferred calls. -/
theorem leave_cc {F : Fence} {n : Nat} {P : Program} {fn : Func} {R : Ending → World → Prop} {tmps : Array Value} {D o o' i i' : Nat} {T T' : TypeId} {x y : Value} {W : World} (hfn : fn.results = #[.cell i T, .cell i' T'])
    (hl : ∀ w' : World, w'.cell? ⟨o, 0, none⟩ = some x → (loadVar T ⟨o, 0, none⟩).run P w' = .ok x w') (hl' : ∀ w' : World, w'.cell? ⟨o', 0, none⟩ = some y → (loadVar T' ⟨o', 0, none⟩).run P w' = .ok y w')
    (ht : tmps.getD i undef = .pointer (some ⟨o, 0, none⟩)) (ht' : tmps.getD i' undef = .pointer (some ⟨o', 0, none⟩)) (hD : W.heap[D]? = some (.deferred (some []))) (c0 : W.cell? ⟨o, 0, none⟩ = some x) (c1 : W.cell? ⟨o', 0, none⟩ = some y)
    (hR : R (.returned (.tuple #[x, y])) (W.putObj D (.deferred none))) : bodyPostM F n P fn R .ret { tmps := tmps, defers := [{ target := .collected D, args := #[] }] } W := by
  refine ⟨by simp, .inl ⟨_, _, rfl, run_takeDeferred hD, ?_⟩⟩
  refine ⟨_, ?_, hR⟩
  have k0 := (cell_putObj hD (.deferred none) (by rw [c0]; simp)).trans c0
  have k1 := (cell_putObj hD (.deferred none) (by rw [c1]; simp)).trans c1
  rw [results_cc hfn, ht, ht']
  simp only [asAddr, Sem.run_pure, Result.andThen, hl _ k0, hl' _ k1]
/-- What find returns. -/
def findA (g off : Nat) (c : Cq) (num : Int) : Value := if findQ num c.atts = c.atts.length then .pointer none else aptr g off (findQ num c.atts)
def findB (g off : Nat) (c : Cq) (num : Int) : Value := if findQ num c.atts = c.atts.length then .pointer none else bptr g off (findQ num c.atts)
section
variable (w : World) (c : Cq) (A : Option Addr) (g off cap : Nat) (num : Int)
set_option maxRecDepth 100000 in
set_option maxHeartbeats 4000000 in
theorem find_any (hA : 0 < c.atts.length → A = some ⟨g, off, none⟩) (h : Lq w 4 RAq (.slice A c.atts.length cap) c.atts) (hn : c.atts.length ≤ 256) :
    Calls Try.prog 40 #[.agg #[.int .i64 c.next, .slice A c.atts.length cap, .int .i64 c.dur], .int .i64 num] w fun e w' => e = .returned (.tuple #[findA g off c num, findB g off c num]) ∧ Below w.heap.size w w' := by
  have HL := hide h
  clear h
  obtain ⟨pa, hpa⟩ : ∃ v, findA g off c num = v := ⟨_, rfl⟩
  obtain ⟨pb, hpb⟩ : ∃ v, findB g off c num = v := ⟨_, rfl⟩
  have HPA := hide hpa
  have HPB := hide hpb
  rw [hpa, hpb]
  clear hpa hpb
  obtain ⟨m, hmm⟩ : ∃ m, c.atts.length = m := ⟨_, rfl⟩
  rw [hmm] at hn HL hA ⊢
  have HM := hide hmm
  clear hmm
  refine callsIn_wide.1 (callsIn_of_wp_marks (F := Fence.wide) (n := 10) Try.func40 rfl trivial ?_ rfl)
  simp only [Try.ntmps40, List.size_toArray, List.length_cons, List.length_nil, Nat.reduceAdd, Nat.reduceSub, Array.replicate_succ, Array.replicate_zero, List.push_toArray, List.append_toArray, List.nil_append, List.cons_append]
  refine wpIn_wide.2 ?_
  go_wp2_with fail
  refine (atts_any _ _ _ _ rfl).mono ?_
  rintro e w2 ⟨rfl, hw2⟩
  have hz2 : w2.heap.size = w.heap.size + 5 := by rw [← hw2]; simp
  have HB2 : Hid (Below w.heap.size w w2) := hide (by rw [← hw2]; exact ((((below_laid _).alloc (by simp) _).alloc (by simp only [World.size_alloc]; omega) _).alloc (by simp only [World.size_alloc]; omega) _).alloc (by simp only [World.size_alloc]; omega) _)
  have r1 : w2.cell? ⟨w.heap.size + 1, 0, none⟩ = some (.int .i64 num) := by
    rw [← hw2, World.cell?_alloc_lt _ _ _ (by simp only [World.size_alloc]; omega), World.cell?_alloc_lt _ _ _ (by simp only [World.size_alloc]; omega), World.cell?_alloc_lt _ _ _ (by simp only [World.size_alloc]; omega), World.cell?_alloc_at _ _ _ _ (by simp)]
    simp
  have r2 : w2.cell? ⟨w.heap.size + 1 + 1, 0, none⟩ = some (.pointer none) := by
    rw [← hw2, World.cell?_alloc_lt _ _ _ (by simp only [World.size_alloc]; omega), World.cell?_alloc_lt _ _ _ (by simp only [World.size_alloc]; omega), World.cell?_alloc_at _ _ _ _ (by simp)]
    simp
  have r3 : w2.cell? ⟨w.heap.size + 1 + 1 + 1, 0, none⟩ = some (.pointer none) := by
    rw [← hw2, World.cell?_alloc_lt _ _ _ (by simp only [World.size_alloc]; omega), World.cell?_alloc_at _ _ _ _ (by simp)]
    simp
  have r4 : w2.cell? ⟨w.heap.size + 1 + 1 + 1 + 1, 1, none⟩ = some (.slice A m cap) := by
    rw [← hw2, World.cell?_alloc_at _ _ _ _ (by simp)]
    simp
  have f2 : w2.frozen? ⟨w.heap.size + 1 + 1, 0, none⟩ = false := by rw [← hw2]; clear hz2 HB2 r1 r2 r3 r4 hw2; go_simp
  have f3 : w2.frozen? ⟨w.heap.size + 1 + 1 + 1, 0, none⟩ = false := by rw [← hw2]; clear hz2 HB2 r1 r2 r3 r4 f2 hw2; go_simp
  have hR2 : w.heap.size + 1 + 1 < w2.heap.size := by omega
  have hR3 : w.heap.size + 1 + 1 + 1 < w2.heap.size := by omega
  clear hw2
  go_wp2_with fail
  rename_i K hK'
  have hF : ∀ f, Fence.wide.fn f := fun _ => trivial
  have hdep : Fence.wide.depth.isSome = false := rfl
  refine (wpIn_wide (n := 10)).1 ?_
  refine rangeFunc_told rfl (by omega) (gf := 56) (lb := #[.pointer (some ⟨w.heap.size + 1 + 1 + 1 + 1, 0, none⟩)]) rfl trivial (enters_of Try.func56 (by kernel_rfl) rfl)
    (atts_stops 9 (by omega) (w.heap.size + 1 + 1 + 1 + 1) (fun k => k = w.heap.size + 1 + 1 + 1 + 1) A g off m cap hA (by omega) w2 rfl (by rintro k rfl; omega) r4) KeepS.trans (keepS_b (n := w2.heap.size) (by rintro k rfl; omega)) (Below.refl _ _) (fun _ => rfl)
    (fun pre W => (∀ q, q < pre.length → (attQ c q).num ≠ num) ∧ Below w2.heap.size w2 W)
    (fun _ W => Below w2.heap.size ((w2.setCell ⟨w.heap.size + 1 + 1, 0, none⟩ pa).setCell ⟨w.heap.size + 1 + 1 + 1, 0, none⟩ pb) W)
    (OwnFrom.and (ownFrom_pure _ (fun (pre : List Nat) => ∀ q, q < pre.length → (attQ c q).num ≠ num)) (ownFrom_below (Nat.le_refl _) (Nat.le_refl _)))
    (ownFrom_below (by simp [World.setCell]) (Nat.le_refl _))
    ⟨fun q hq => absurd hq (Nat.not_lt_zero _), Below.refl _ _⟩
    (fun x => { tmps := #[.agg #[.int .i64 c.next, .slice A m cap, .int .i64 c.dur], .int .i64 num, .pointer (some ⟨w.heap.size, 0, none⟩), .pointer (some ⟨w.heap.size + 1, 0, none⟩), .pointer (some ⟨w.heap.size + 1 + 1, 0, none⟩), .pointer (some ⟨w.heap.size + 1 + 1 + 1, 0, none⟩), aptr g off x, bptr g off x, .agg #[.int .i64 c.next, .slice A m cap, .int .i64 c.dur], .func (.func 56) #[] #[.pointer (some ⟨w.heap.size + 1 + 1 + 1 + 1, 0, none⟩)], aptr g off x, bptr g off x, undef, undef, undef, undef, undef, undef, undef, undef], defers := [] }) ?assign ?body ?done ?stop
  case assign =>
    intro l x W K hK
    unfold encQ
    gi_wp2
    exact hK
  case done =>
    rintro D ys W hD rfl ⟨hz, hB⟩ hK
    have s2 := keep1 hB r2
    have s3 := keep1 hB r3
    have s2f := ((bcell hB).2 _ 0 hR2).trans f2
    have s3f := ((bcell hB).2 _ 0 hR3).trans f3
    have HD := hide hK
    have HBW := hide hB
    have hf : findQ num c.atts = c.atts.length := findQ_none fun q hq => by rw [← attQ_get]; exact hz q (by rw [HM.out] at hq; simpa using hq)
    have HA0 : Hid (pa = .pointer none) := hide (by rw [← HPA.out]; unfold findA; rw [if_pos hf])
    have HB0 : Hid (pb = .pointer none) := hide (by rw [← HPB.out]; unfold findB; rw [if_pos hf])
    have hDl : D < W.heap.size := (Array.getElem?_eq_some_iff.1 hK).1
    clear hK hB hz hf
    refine hK' _ _ ?_
    go_wp2
    refine leave_cc (o := w.heap.size + 1 + 1) (o' := w.heap.size + 1 + 1 + 1) (x := .pointer none) (y := .pointer none) rfl (fun w' h0 => by go_simp) (fun w' h0 => by go_simp) rfl rfl ?_ (by go_simp) (by go_simp) ?_
    · rw [Below.heap_setCell _ _ _ _ (by show D ≠ w.heap.size + 1 + 1 + 1; omega), Below.heap_setCell _ _ _ _ (by show D ≠ w.heap.size + 1 + 1; omega)]; exact HD.out
    · have hq := ((HB2.out.trans (HBW.out.mono (by omega))).setCell (p := ⟨w.heap.size + 1 + 1, 0, none⟩) (by show w.heap.size ≤ w.heap.size + 1 + 1; omega) (.pointer none)).setCell (p := ⟨w.heap.size + 1 + 1 + 1, 0, none⟩) (by show w.heap.size ≤ w.heap.size + 1 + 1 + 1; omega) (.pointer none)
      refine ⟨by rw [HA0.out, HB0.out], hq.trans (belowK_b (w := w) (Nat.le_refl _) _ D (.deferred (some [])) _ (by omega) ?_ rfl rfl)⟩
      rw [Below.heap_setCell _ _ _ _ (by show D ≠ w.heap.size + 1 + 1 + 1; omega), Below.heap_setCell _ _ _ _ (by show D ≠ w.heap.size + 1 + 1; omega)]; exact HD.out
  case stop =>
    rintro D pre W hD - hB hK
    have HD := hide hK
    have HBW := hide hB
    have hDl : D < W.heap.size := (Array.getElem?_eq_some_iff.1 hK).1
    have u2 : (w2.setCell ⟨w.heap.size + 1 + 1, 0, none⟩ pa).cell? ⟨w.heap.size + 1 + 1, 0, none⟩ = some pa := World.cell?_setCell_same' _ _ _ (by rw [r2]; rfl)
    have u3 : (w2.setCell ⟨w.heap.size + 1 + 1, 0, none⟩ pa).cell? ⟨w.heap.size + 1 + 1 + 1, 0, none⟩ = some (.pointer none) := by rw [World.cell?_setCell_other _ _ _ _ (by intro e; injection e with e; omega)]; exact r3
    have s2 : W.cell? ⟨w.heap.size + 1 + 1, 0, none⟩ = some pa := (hB.cell (p := ⟨w.heap.size + 1 + 1, 0, none⟩) hR2).trans (by rw [World.cell?_setCell_other _ _ _ _ (by intro e; injection e with e; omega)]; exact u2)
    have s3 : W.cell? ⟨w.heap.size + 1 + 1 + 1, 0, none⟩ = some pb := (hB.cell (p := ⟨w.heap.size + 1 + 1 + 1, 0, none⟩) hR3).trans (World.cell?_setCell_same' _ _ _ (by rw [u3]; rfl))
    have hpt : (∃ a, pa = .pointer a) ∧ ∃ a, pb = .pointer a := by
      rw [← HPA.out, ← HPB.out]
      unfold findA findB
      by_cases h0 : findQ num c.atts = c.atts.length
      · rw [if_pos h0, if_pos h0]; exact ⟨⟨_, rfl⟩, _, rfl⟩
      · rw [if_neg h0, if_neg h0]; unfold bptr; split <;> exact ⟨⟨_, rfl⟩, _, rfl⟩
    obtain ⟨⟨qa, rfl⟩, qb, rfl⟩ := hpt
    clear hK hB u2 u3
    gi_wp2
    refine leave_cc (o := w.heap.size + 1 + 1) (o' := w.heap.size + 1 + 1 + 1) rfl (fun w' h0 => by go_simp) (fun w' h0 => by go_simp) rfl rfl HD.out s2 s3 ?_
    have hq := ((HB2.out.setCell (p := ⟨w.heap.size + 1 + 1, 0, none⟩) (by show w.heap.size ≤ w.heap.size + 1 + 1; omega) (.pointer qa)).setCell (p := ⟨w.heap.size + 1 + 1 + 1, 0, none⟩) (by show w.heap.size ≤ w.heap.size + 1 + 1 + 1; omega) (.pointer qb)).trans (HBW.out.mono (by omega))
    exact ⟨rfl, hq.trans (belowK_b (w := w) (Nat.le_refl _) _ D (.deferred (some [])) _ (by omega) HD.out rfl rfl)⟩
  case body =>
    rintro l pre x W ⟨hz, hB⟩ ⟨rfl, hx⟩
    rw [List.length_range] at hz
    obtain rfl := hA (by omega)
    have hxl : x < c.atts.length := by rw [HM.out]; exact hx
    obtain ⟨hg, A1, A2, A3, c1, c2, c3, ha⟩ := att_at HL.out hxl
    have k0 := keep1 (HB2.out.trans (hB.mono (by omega))) ha.k0
    have s1 := keep1 hB r1
    have s2 := keep1 hB r2
    have s3 := keep1 hB r3
    have s2f := ((bcell hB).2 _ 0 hR2).trans f2
    have s3f := ((bcell hB).2 _ 0 hR3).trans f3
    have HBW := hide hB
    have HZ := hide hz
    have hWs := hB.size
    by_cases he : (attQ c x).num = num
    · have hf : findQ num c.atts = x := findQ_hit hxl (fun q hq => by rw [← attQ_get]; exact hz q hq) (by rw [← attQ_get]; exact he)
      have HA1 : Hid (pa = .pointer (some ⟨g, off + x * 4, none⟩)) := hide (by rw [← HPA.out]; unfold findA; rw [hf, if_neg (by omega)]; rfl)
      have HA2 : Hid (pb = bptr g off x) := hide (by rw [← HPB.out]; unfold findB; rw [hf, if_neg (by omega)])
      obtain ⟨qb, hqb⟩ : ∃ a, bptr g off x = .pointer a := by unfold bptr; split <;> exact ⟨_, rfl⟩
      rw [hqb] at HA2 ⊢
      have te : ((attQ c x).num == num) = true := by rw [beq_iff_eq]; exact he
      obtain ⟨y, hy⟩ : ∃ y, (attQ c x).num = y := ⟨_, rfl⟩
      rw [hy] at k0 te
      unfold aptr
      clear ha he hf hy hqb hB hz
      gi_wp2
      gi_region_with (fail)
      all_goals
        gi_wp2
        refine ⟨keepsFrom_set (keepsFrom_set (keepsFrom_below (W' := W.drew) (below_drewN (Below.refl _ _) 1)) (p := ⟨w.heap.size + 1 + 1, 0, none⟩) hR2 _) (p := ⟨w.heap.size + 1 + 1 + 1, 0, none⟩) hR3 _, ?_⟩
        rw [HA1.out, HA2.out]
        exact below_set_both (below_set_both (below_drewN HBW.out 1) _ _) _ _
    · have te : ((attQ c x).num == num) = false := by rw [beq_eq_false_iff_ne]; exact he
      have HE := hide he
      obtain ⟨y, hy⟩ : ∃ y, (attQ c x).num = y := ⟨_, rfl⟩
      rw [hy] at k0 te HE
      have HY := hide hy
      obtain ⟨vb, hvb⟩ : ∃ a, bptr g off x = a := ⟨_, rfl⟩
      rw [hvb]
      unfold aptr
      clear ha he hy hvb hB hz
      gi_wp2
      gi_region_with (fail)
      all_goals
        gi_wp2
        refine ⟨keepsFrom_below (W' := W.drew) (below_drewN (Below.refl _ _) 1), (KeepS.refl W).drew, fun q hq => ?_, below_drewN HBW.out 1⟩
        rw [List.length_append, List.length_range] at hq
        by_cases e : q = x
        · rw [e, HY.out]; exact HE.out
        · exact HZ.out q (by simp at hq; omega)
end
end Go.Proofs.Ytihbonndinnohaa
