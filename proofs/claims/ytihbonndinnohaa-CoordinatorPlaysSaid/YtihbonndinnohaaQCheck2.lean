/- coordinator.Check: the loop over the attempts. -/
import Derived.Test.YtihbonndinnohaaQCheck
namespace Go.Proofs.Ytihbonndinnohaa
open Go.RowKit Go.Shelf
set_option linter.unusedVariables false
set_option linter.unusedSimpArgs false
attribute [local go_sem] Oper.semAt_some
section
variable (c : Cq) (A : Option Addr) (cap : Nat) (w : World)
/-- The cells that conditions lays, with the closures' captured blocks Bx and Bf. -/
def condCells (Bx Bf : Nat) : List Value := [.func (.func 51) #[] #[.pointer (some ⟨Bx, 0, none⟩)], .int .i64 14, .func (.func 52) #[] #[.pointer (some ⟨Bf, 0, none⟩)], .int .i64 15, .func (.func 53) #[] #[.pointer (some ⟨Bf, 0, none⟩)], .int .i64 15, .func (.func 54) #[] #[], .int .i64 3, .func (.func 55) #[] #[], .int .i64 21]
set_option maxRecDepth 100000 in
set_option maxHeartbeats 4000000 in
theorem chk_go (h : Lq w 4 RAq (.slice A c.atts.length cap) c.atts) (hok : numsOk c = true) (hm : c.atts.length ≤ 256) :
    Calls Try.prog 13 #[.agg #[.int .i64 c.next, .slice A c.atts.length cap, .int .i64 c.dur]] w (Ret (.int .i64 (firstE (errQ c) 0 c.atts.length)) w) := by
  obtain ⟨b1, b2, b3, b4⟩ := nums_t hok
  have HK1 := hide (btw_any c.next 1 1099511627776)
  have HK2 := hide (btw_any c.dur 0 (c.next - 1))
  rw [btw_t b1 b2] at HK1
  rw [btw_t b3 (by omega)] at HK2
  have HL := hide h
  clear hok h
  obtain ⟨m, hmm⟩ : ∃ m, c.atts.length = m := ⟨_, rfl⟩
  rw [hmm] at hm HL ⊢
  have HM := hide hmm
  clear hmm
  have hd : decide ((256 : Int) < (m : Int)) = false := decide_eq_false (by omega)
  have hmx : (m : Int) ≤ 256 := by omega
  refine callsIn_wide.1 (callsIn_of_wp_marks (F := Fence.wide) (n := 10) Try.func13 rfl trivial ?_ rfl)
  simp only [Try.ntmps13, List.size_toArray, List.length_cons, List.length_nil, Nat.reduceAdd, Nat.reduceSub, Array.replicate_succ, Array.replicate_zero, List.push_toArray, List.append_toArray, List.nil_append, List.cons_append]
  refine wpIn_wide.2 ?_
  go_wp2_with fail
  refine (HK1.out _).mono ?_
  rintro e w1 ⟨rfl, rfl⟩
  go_wp2_with fail
  refine (HK2.out _).mono ?_
  rintro e w1 ⟨rfl, rfl⟩
  have HB0 := hide (((Below.refl w.heap.size w).alloc (Nat.le_refl _) (.cells #[.int .i64 c.next, .slice A m cap, .int .i64 c.dur] 24)).alloc (by simp) (.cells #[.int .i64 0] 28))
  go_wp2_with fail
  refine (conditions_any _ _ _ _ rfl).mono ?_
  rintro e w1 ⟨rfl, hw1⟩
  -- what lies in w1
  have hz1 : w1.heap.size = w.heap.size + 5 := by rw [hw1]; simp
  have HB1 : Hid (Below w.heap.size w w1) := hide (by rw [hw1]; exact ((HB0.out.alloc (by simp only [World.size_alloc]; omega) _).alloc (by simp only [World.size_alloc]; omega) _).alloc (by simp only [World.size_alloc]; omega) _)
  have q1 : w1.cell? ⟨w.heap.size + 1, 0, none⟩ = some (.int .i64 0) := by
    rw [hw1, World.cell?_alloc_lt _ _ _ (by simp only [World.size_alloc]; omega), World.cell?_alloc_lt _ _ _ (by simp only [World.size_alloc]; omega), World.cell?_alloc_lt _ _ _ (by simp only [World.size_alloc]; omega)]
    rw [World.cell?_alloc_at _ _ _ _ (by simp)]
    simp
  have q0 : ∀ j u, ([.int .i64 c.next, .slice A m cap, .int .i64 c.dur] : List Value)[j]? = some u → w1.cell? ⟨w.heap.size, j, none⟩ = some u := by
    intro j u hj
    rw [hw1, World.cell?_alloc_lt _ _ _ (by simp only [World.size_alloc]; omega), World.cell?_alloc_lt _ _ _ (by simp only [World.size_alloc]; omega), World.cell?_alloc_lt _ _ _ (by simp only [World.size_alloc]; omega), World.cell?_alloc_lt _ _ _ (by simp only [World.size_alloc]; omega)]
    exact cells_lit w [.int .i64 c.next, .slice A m cap, .int .i64 c.dur] _ j u hj
  have q2 : ∀ j u, ([.int .i64 c.next, .slice A m cap, .int .i64 c.dur] : List Value)[j]? = some u → w1.cell? ⟨w.heap.size + 2, j, none⟩ = some u := by
    intro j u hj
    rw [hw1, World.cell?_alloc_lt _ _ _ (by simp only [World.size_alloc]; omega), World.cell?_alloc_lt _ _ _ (by simp only [World.size_alloc]; omega)]
    have := cells_lit ((w.alloc (.cells #[.int .i64 c.next, .slice A m cap, .int .i64 c.dur] 24)).alloc (.cells #[.int .i64 0] 28)) [.int .i64 c.next, .slice A m cap, .int .i64 c.dur] 24 j u hj
    simpa using this
  have q3 : w1.cell? ⟨w.heap.size + 3, 0, none⟩ = some (.func (.func 50) #[] #[.pointer (some ⟨w.heap.size + 2, 0, none⟩)]) := by
    rw [hw1, World.cell?_alloc_lt _ _ _ (by simp only [World.size_alloc]; omega)]
    rw [World.cell?_alloc_at _ _ _ _ (by simp)]
    simp
  have q4 : ∀ j u, (condCells (w.heap.size + 2) (w.heap.size + 3))[j]? = some u → w1.cell? ⟨w.heap.size + 1 + 1 + 2, j, none⟩ = some u := by
    intro j u hj
    rw [hw1, World.cell?_alloc_at _ _ _ _ (by simp)]
    simpa [condCells] using hj
  have fz : w1.frozen? ⟨w.heap.size + 1, 0, none⟩ = false := by
    rw [hw1]
    go_simp
  clear hw1
  have p0 := q0 0 _ rfl
  have p1 := q0 1 _ rfl
  have p2 := q0 2 _ rfl
  go_wp2_with fail
  refine (atts_any _ _ _ _ rfl).mono ?_
  rintro e w2 ⟨rfl, hw2⟩
  have hz2 : w2.heap.size = w.heap.size + 7 := by rw [← hw2]; simp [hz1]
  have h12 : Below w1.heap.size w1 w2 := by rw [← hw2]; exact (below_laid _).alloc (by simp) _
  have HB2 := hide (HB1.out.trans (h12.mono (by omega)))
  have r1 := keep1 h12 q1
  have r20 := keep1 h12 (q2 0 _ rfl)
  have r21 := keep1 h12 (q2 1 _ rfl)
  have r22 := keep1 h12 (q2 2 _ rfl)
  have r3 := keep1 h12 q3
  have d0 := keep1 h12 (q4 0 _ rfl)
  have d1 := keep1 h12 (q4 1 _ rfl)
  have d2 := keep1 h12 (q4 2 _ rfl)
  have d3 := keep1 h12 (q4 3 _ rfl)
  have d4 := keep1 h12 (q4 4 _ rfl)
  have d5 := keep1 h12 (q4 5 _ rfl)
  have d6 := keep1 h12 (q4 6 _ rfl)
  have d7 := keep1 h12 (q4 7 _ rfl)
  have d8 := keep1 h12 (q4 8 _ rfl)
  have d9 := keep1 h12 (q4 9 _ rfl)
  have rf : w2.frozen? ⟨w.heap.size + 1, 0, none⟩ = false := ((bcell h12).2 _ _ (by omega)).trans fz
  have r5 : w2.cell? ⟨w.heap.size + 5, 0, none⟩ = some (.slice (some ⟨w.heap.size + 1 + 1 + 2, 0, none⟩) 5 5) := by
    rw [← hw2, World.cell?_alloc_lt _ _ _ (by simp only [World.size_alloc]; omega)]
    have := cells_lit w1 [.slice (some ⟨w.heap.size + 1 + 1 + 2, 0, none⟩) 5 5] 81 0 _ rfl
    simpa [hz1] using this
  have r6 : w2.cell? ⟨w.heap.size + 5 + 1, 1, none⟩ = some (.slice A m cap) := by
    rw [← hw2]
    have := cells_lit (w1.alloc (.cells #[.slice (some ⟨w.heap.size + 1 + 1 + 2, 0, none⟩) 5 5] 81)) [.int .i64 c.next, .slice A m cap, .int .i64 c.dur] 24 1 _ rfl
    simpa [hz1] using this
  obtain ⟨g, off, hA⟩ : ∃ g off, 0 < m → A = some ⟨g, off, none⟩ := by
    rcases Nat.eq_zero_or_pos m with h0 | h0
    · exact ⟨0, 0, fun h => by omega⟩
    · obtain ⟨g, off, xs, e, -⟩ := Lst.at_ HL.out (j := 0) (by rw [HM.out]; exact h0)
      exact ⟨g, off, fun _ => e⟩
  obtain ⟨E, hE⟩ : ∃ E, firstE (errQ c) 0 m = E := ⟨_, rfl⟩
  have HE := hide hE
  clear q0 q1 q2 q3 q4 fz hw2 p0 p1 p2 h12 hE
  go_wp2_with fail
  rename_i K hK'
  have hF : ∀ f, Fence.wide.fn f := fun _ => trivial
  have hdep : Fence.wide.depth.isSome = false := rfl
  have hR1 : w.heap.size + 1 < w2.heap.size := by omega
  refine (wpIn_wide (n := 10)).1 ?_
  refine rangeFunc_told rfl (by omega) (gf := 56) (lb := #[.pointer (some ⟨w.heap.size + 5 + 1, 0, none⟩)]) rfl trivial (enters_of Try.func56 (by kernel_rfl) rfl)
    (atts_stops 9 (by omega) (w.heap.size + 5 + 1) (fun k => k = w.heap.size + 5 + 1) A g off m cap hA (by omega) w2 rfl (by rintro k rfl; omega) r6) KeepS.trans (keepS_b (n := w2.heap.size) (by rintro k rfl; omega)) (Below.refl _ _) (fun _ => rfl)
    (fun pre W => (∀ q, q < pre.length → errQ c q = 0) ∧ Below w2.heap.size w2 W)
    (fun _ W => Below w2.heap.size (w2.setCell ⟨w.heap.size + 1, 0, none⟩ (.int .i64 E)) W)
    (OwnFrom.and (ownFrom_pure _ (fun (pre : List Nat) => ∀ q, q < pre.length → errQ c q = 0)) (ownFrom_below (Nat.le_refl _) (Nat.le_refl _)))
    (ownFrom_below (by simp [World.setCell]) (Nat.le_refl _))
    ⟨fun q hq => absurd hq (Nat.not_lt_zero _), Below.refl _ _⟩
    (fun x => { tmps := #[.agg #[.int .i64 c.next, .slice A m cap, .int .i64 c.dur], .pointer (some ⟨w.heap.size, 0, none⟩), .pointer (some ⟨w.heap.size + 1, 0, none⟩), .pointer (some ⟨w.heap.size + 5, 0, none⟩), aptr g off x, bptr g off x, undef, undef, .bool false, .pointer (some ⟨w.heap.size, 0, none⟩), .int .i64 c.next, .bool true, .bool false, .bool false, .pointer (some ⟨w.heap.size, 2, none⟩), .int .i64 c.dur, .pointer (some ⟨w.heap.size, 0, none⟩), .int .i64 c.next, .int .i64 (c.next - 1), .bool true, .bool false, .bool false, .bool false, .pointer (some ⟨w.heap.size, 1, none⟩), .slice A m cap, .int .i64 (m : Int), .bool false, .agg #[.int .i64 c.next, .slice A m cap, .int .i64 c.dur], .slice (some ⟨w.heap.size + 1 + 1 + 2, 0, none⟩) 5 5, .agg #[.int .i64 c.next, .slice A m cap, .int .i64 c.dur], .func (.func 56) #[] #[.pointer (some ⟨w.heap.size + 5 + 1, 0, none⟩)], aptr g off x, bptr g off x, undef, undef, undef, undef, undef, undef, undef, undef, undef, undef, undef, undef, undef, undef, undef], defers := [] }) ?assign ?body ?done ?stop
  case assign =>
    intro l x W K hK
    unfold encQ
    gi_wp2
    exact hK
  case done =>
    rintro D ys W hD rfl ⟨hz, hB⟩ hK
    have s1 := keep1 hB r1
    have s1f := ((bcell hB).2 _ 0 hR1).trans rf
    have HD := hide hK
    have HBW := hide hB
    have HE0 : Hid (E = 0) := hide (by rw [← HE.out]; exact firstE_all fun i _ h => hz i (by simpa using h))
    have hDl : D < W.heap.size := (Array.getElem?_eq_some_iff.1 hK).1
    clear hK hB hz
    refine hK' _ _ ?_
    go_wp2
    refine leave_c (o := w.heap.size + 1) (x := .int .i64 0) rfl (fun w' h0 => by go_simp) rfl ?_ (by go_simp) ?_
    · rw [Below.heap_setCell _ _ _ _ (by show D ≠ w.heap.size + 1; omega)]; exact HD.out
    · have hq := (HB2.out.trans (HBW.out.mono (by omega))).setCell (p := ⟨w.heap.size + 1, 0, none⟩) (by show w.heap.size ≤ w.heap.size + 1; omega) (.int .i64 0)
      refine Ret.int (HE0.out.symm.trans HE.out.symm) (hq.trans (belowK_b (w := w) (Nat.le_refl _) _ D (.deferred (some [])) _ (by omega) ?_ rfl rfl))
      rw [Below.heap_setCell _ _ _ _ (by show D ≠ w.heap.size + 1; omega)]; exact HD.out
  case stop =>
    rintro D pre W hD - hB hK
    have HD := hide hK
    have HBW := hide hB
    have hDl : D < W.heap.size := (Array.getElem?_eq_some_iff.1 hK).1
    have s1 : W.cell? ⟨w.heap.size + 1, 0, none⟩ = some (.int .i64 E) := (hB.cell (p := ⟨w.heap.size + 1, 0, none⟩) hR1).trans (World.cell?_setCell_same' _ _ _ (by rw [r1]; rfl))
    clear hK hB
    gi_wp2
    refine leave_c (o := w.heap.size + 1) (x := .int .i64 E) rfl (fun w' h0 => by go_simp) rfl HD.out s1 ?_
    have hq := (HB2.out.setCell (p := ⟨w.heap.size + 1, 0, none⟩) (by show w.heap.size ≤ w.heap.size + 1; omega) (.int .i64 E)).trans (HBW.out.mono (by omega))
    exact Ret.int HE.out.symm (hq.trans (belowK_b (w := w) (Nat.le_refl _) _ D (.deferred (some [])) _ (by omega) HD.out rfl rfl))
  case body =>
    rintro l pre x W ⟨hz, hB⟩ ⟨rfl, hx⟩
    rw [List.length_range] at hz
    obtain rfl := hA (by omega)
    have HZ := hide hz
    have HC := hide (fun (W' : World) (hb : Below w2.heap.size w2 W') => conds_at (Bx := w.heap.size + 2) (Bf := w.heap.size + 3) HL.out HM.out.symm (by rw [HM.out]; exact hx) HZ.out (HB2.out.trans (hb.mono (by omega))) (keep1 hb r20) (keep1 hb r21) (keep1 hb r22) (keep1 hb r3))
    have HX := hide hx
    have HX0 := hide (fun (e : errQ c x ≠ 0) => show errQ c x = E from (firstE_hit (E := errQ c) (n := m) (k := 0) (j := x) (Nat.zero_le _) (by omega) (fun i _ h => HZ.out i h) e).symm.trans HE.out)
    have t0 := keep1 hB d0
    have t1 := keep1 hB d1
    have t2 := keep1 hB d2
    have t3 := keep1 hB d3
    have t4 := keep1 hB d4
    have t5 := keep1 hB d5
    have t6 := keep1 hB d6
    have t7 := keep1 hB d7
    have t8 := keep1 hB d8
    have t9 := keep1 hB d9
    have u5 := keep1 hB r5
    have hW : w2.heap.size ≤ W.heap.size := hB.size
    have HBW := hide hB
    clear d0 d1 d2 d3 d4 d5 d6 d7 d8 d9 r5 r6 r20 r21 r22 r3 hz hx hB HK1 HK2 HB0
    obtain ⟨pa, hpa⟩ : ∃ v, aptr g off x = v := ⟨_, rfl⟩
    obtain ⟨pb, hpb⟩ : ∃ v, bptr g off x = v := ⟨_, rfl⟩
    rw [hpa, hpb] at HC ⊢
    clear hpa hpb
    gi_wp2_with fail
    refine wpIn_loop_rounds 6 ?_
    have HBX := hide (bthen HBW.out (below_laid (.cells #[.func (.func 51) #[] #[.pointer (some ⟨w.heap.size + 2, 0, none⟩)], .int .i64 14] 89)))
    have HCI := hide ((HC.out _ HBX.out).1)
    cases e1 : ok1 c x
    · have he0 : errQ c x = 14 := by unfold errQ; rw [e1]; rfl
      have HER : Hid (E = 14) := hide (by rw [← HX0.out (by rw [he0]; decide), he0])
      clear he0
      rw [e1] at HCI
      rw [roundsIn_succ]
      gi_wp2_with fail
      with_reducible refine (CallsIn.inRound _ (callsIn_wide.2 HCI.out)).mono ?_
      rintro e u1 ⟨rfl, hb1⟩
      obtain ⟨hb1', hzz1, hx1⟩ := step_box [.func (.func 51) #[] #[.pointer (some ⟨w.heap.size + 2, 0, none⟩)], .int .i64 14] hb1
      have x1 := hx1 1 _ rfl
      have HBN := hide (bthen HBW.out hb1')
      have s1 := keep1 HBN.out r1
      have s1f := ((bcell HBN.out).2 _ 0 hR1).trans rf
      have HKF := hide (keepsFrom_below (B := w2.heap.size) hb1')
      clear hx1 HCI HBX hb1
      gi_wp2
      exact ⟨keepsFrom_set HKF.out (p := ⟨w.heap.size + 1, 0, none⟩) hR1 _, by rw [HER.out]; exact below_set_both HBN.out _ _⟩
    · skip
      rw [e1] at HCI
      rw [roundsIn_succ]
      gi_wp2_with fail
      with_reducible refine (CallsIn.inRound _ (callsIn_wide.2 HCI.out)).mono ?_
      rintro e u1 ⟨rfl, hb1⟩
      obtain ⟨hb1', hzz1, hx1⟩ := step_box [.func (.func 51) #[] #[.pointer (some ⟨w.heap.size + 2, 0, none⟩)], .int .i64 14] hb1
      have x1 := hx1 1 _ rfl
      have HBL1 := hide (bthen HBW.out hb1')
      have HKF := hide (keepsFrom_below (B := w2.heap.size) hb1')
      have HKS := hide (KeepS.below (S := fun k => k = w.heap.size + 5 + 1) (KeepS.refl W) (n := W.heap.size) (by rintro k rfl; omega) hb1')
      replace t2 := keep1 hb1' t2
      replace t3 := keep1 hb1' t3
      replace t4 := keep1 hb1' t4
      replace t5 := keep1 hb1' t5
      replace t6 := keep1 hb1' t6
      replace t7 := keep1 hb1' t7
      replace t8 := keep1 hb1' t8
      replace t9 := keep1 hb1' t9
      clear x1 hx1 HCI HBX hb1 t0 t1
      have hsz1 : w2.heap.size ≤ u1.heap.size := HBL1.out.size
      gi_wp2_with fail
      have HBX := hide (bthen HBL1.out (below_laid (.cells #[.func (.func 52) #[] #[.pointer (some ⟨w.heap.size + 3, 0, none⟩)], .int .i64 15] 89)))
      have HCI := hide ((HC.out _ HBX.out).2.1)
      cases e2 : ok2 c x
      · have he0 : errQ c x = 15 := by unfold errQ; rw [e1, e2]; rfl
        have HER : Hid (E = 15) := hide (by rw [← HX0.out (by rw [he0]; decide), he0])
        clear he0
        rw [e2] at HCI
        rw [roundsIn_succ]
        gi_wp2_with fail
        with_reducible refine (CallsIn.inRound _ (callsIn_wide.2 HCI.out)).mono ?_
        rintro e u2 ⟨rfl, hb2⟩
        obtain ⟨hb2', hzz2, hx2⟩ := step_box [.func (.func 52) #[] #[.pointer (some ⟨w.heap.size + 3, 0, none⟩)], .int .i64 15] hb2
        have x2 := hx2 1 _ rfl
        have HBN := hide (bthen HBL1.out hb2')
        have s1 := keep1 HBN.out r1
        have s1f := ((bcell HBN.out).2 _ 0 hR1).trans rf
        have HKF := hide (HKF.out.trans (keepsFrom_below (B := w2.heap.size) hb2'))
        clear hx2 HCI HBX hb2
        gi_wp2
        exact ⟨keepsFrom_set HKF.out (p := ⟨w.heap.size + 1, 0, none⟩) hR1 _, by rw [HER.out]; exact below_set_both HBN.out _ _⟩
      · skip
        rw [e2] at HCI
        rw [roundsIn_succ]
        gi_wp2_with fail
        with_reducible refine (CallsIn.inRound _ (callsIn_wide.2 HCI.out)).mono ?_
        rintro e u2 ⟨rfl, hb2⟩
        obtain ⟨hb2', hzz2, hx2⟩ := step_box [.func (.func 52) #[] #[.pointer (some ⟨w.heap.size + 3, 0, none⟩)], .int .i64 15] hb2
        have x2 := hx2 1 _ rfl
        have HBL2 := hide (bthen HBL1.out hb2')
        replace HKF := hide (HKF.out.trans (keepsFrom_below (B := w2.heap.size) hb2'))
        replace HKS := hide (KeepS.below HKS.out (n := u1.heap.size) (by rintro k rfl; omega) hb2')
        replace t4 := keep1 hb2' t4
        replace t5 := keep1 hb2' t5
        replace t6 := keep1 hb2' t6
        replace t7 := keep1 hb2' t7
        replace t8 := keep1 hb2' t8
        replace t9 := keep1 hb2' t9
        clear x2 hx2 HCI HBX hb2 t2 t3
        have hsz2 : w2.heap.size ≤ u2.heap.size := HBL2.out.size
        gi_wp2_with fail
        have HBX := hide (bthen HBL2.out (below_laid (.cells #[.func (.func 53) #[] #[.pointer (some ⟨w.heap.size + 3, 0, none⟩)], .int .i64 15] 89)))
        have HCI := hide ((HC.out _ HBX.out).2.2.1)
        cases e3 : ok3 c x
        · have he0 : errQ c x = 15 := by unfold errQ; rw [e1, e2, e3]; rfl
          have HER : Hid (E = 15) := hide (by rw [← HX0.out (by rw [he0]; decide), he0])
          clear he0
          rw [e3] at HCI
          rw [roundsIn_succ]
          gi_wp2_with fail
          with_reducible refine (CallsIn.inRound _ (callsIn_wide.2 HCI.out)).mono ?_
          rintro e u3 ⟨rfl, hb3⟩
          obtain ⟨hb3', hzz3, hx3⟩ := step_box [.func (.func 53) #[] #[.pointer (some ⟨w.heap.size + 3, 0, none⟩)], .int .i64 15] hb3
          have x3 := hx3 1 _ rfl
          have HBN := hide (bthen HBL2.out hb3')
          have s1 := keep1 HBN.out r1
          have s1f := ((bcell HBN.out).2 _ 0 hR1).trans rf
          have HKF := hide (HKF.out.trans (keepsFrom_below (B := w2.heap.size) hb3'))
          clear hx3 HCI HBX hb3
          gi_wp2
          exact ⟨keepsFrom_set HKF.out (p := ⟨w.heap.size + 1, 0, none⟩) hR1 _, by rw [HER.out]; exact below_set_both HBN.out _ _⟩
        · skip
          rw [e3] at HCI
          rw [roundsIn_succ]
          gi_wp2_with fail
          with_reducible refine (CallsIn.inRound _ (callsIn_wide.2 HCI.out)).mono ?_
          rintro e u3 ⟨rfl, hb3⟩
          obtain ⟨hb3', hzz3, hx3⟩ := step_box [.func (.func 53) #[] #[.pointer (some ⟨w.heap.size + 3, 0, none⟩)], .int .i64 15] hb3
          have x3 := hx3 1 _ rfl
          have HBL3 := hide (bthen HBL2.out hb3')
          replace HKF := hide (HKF.out.trans (keepsFrom_below (B := w2.heap.size) hb3'))
          replace HKS := hide (KeepS.below HKS.out (n := u2.heap.size) (by rintro k rfl; omega) hb3')
          have OK3 := hide e3
          replace t6 := keep1 hb3' t6
          replace t7 := keep1 hb3' t7
          replace t8 := keep1 hb3' t8
          replace t9 := keep1 hb3' t9
          clear x3 hx3 HCI HBX hb3 t4 t5
          have hsz3 : w2.heap.size ≤ u3.heap.size := HBL3.out.size
          gi_wp2_with fail
          have HBX := hide (bthen HBL3.out (below_laid (.cells #[.func (.func 54) #[] #[], .int .i64 3] 89)))
          have HCI := hide ((HC.out _ HBX.out).2.2.2.1 OK3.out)
          cases e4 : ok4 c x
          · have he0 : errQ c x = 3 := by unfold errQ; rw [e1, e2, e3, e4]; rfl
            have HER : Hid (E = 3) := hide (by rw [← HX0.out (by rw [he0]; decide), he0])
            clear he0
            rw [e4] at HCI
            rw [roundsIn_succ]
            gi_wp2_with fail
            with_reducible refine (CallsIn.inRound _ (callsIn_wide.2 HCI.out)).mono ?_
            rintro e u4 ⟨rfl, hb4⟩
            obtain ⟨hb4', hzz4, hx4⟩ := step_box [.func (.func 54) #[] #[], .int .i64 3] hb4
            have x4 := hx4 1 _ rfl
            have HBN := hide (bthen HBL3.out hb4')
            have s1 := keep1 HBN.out r1
            have s1f := ((bcell HBN.out).2 _ 0 hR1).trans rf
            have HKF := hide (HKF.out.trans (keepsFrom_below (B := w2.heap.size) hb4'))
            clear hx4 HCI HBX hb4
            gi_wp2
            exact ⟨keepsFrom_set HKF.out (p := ⟨w.heap.size + 1, 0, none⟩) hR1 _, by rw [HER.out]; exact below_set_both HBN.out _ _⟩
          · skip
            rw [e4] at HCI
            rw [roundsIn_succ]
            gi_wp2_with fail
            with_reducible refine (CallsIn.inRound _ (callsIn_wide.2 HCI.out)).mono ?_
            rintro e u4 ⟨rfl, hb4⟩
            obtain ⟨hb4', hzz4, hx4⟩ := step_box [.func (.func 54) #[] #[], .int .i64 3] hb4
            have x4 := hx4 1 _ rfl
            have HBL4 := hide (bthen HBL3.out hb4')
            replace HKF := hide (HKF.out.trans (keepsFrom_below (B := w2.heap.size) hb4'))
            replace HKS := hide (KeepS.below HKS.out (n := u3.heap.size) (by rintro k rfl; omega) hb4')
            replace t8 := keep1 hb4' t8
            replace t9 := keep1 hb4' t9
            clear x4 hx4 HCI HBX hb4 t6 t7
            have hsz4 : w2.heap.size ≤ u4.heap.size := HBL4.out.size
            gi_wp2_with fail
            have HBX := hide (bthen HBL4.out (below_laid (.cells #[.func (.func 55) #[] #[], .int .i64 21] 89)))
            have HCI := hide ((HC.out _ HBX.out).2.2.2.2 OK3.out)
            cases e5 : ok5 c x
            · have he0 : errQ c x = 21 := by unfold errQ; rw [e1, e2, e3, e4, e5]; rfl
              have HER : Hid (E = 21) := hide (by rw [← HX0.out (by rw [he0]; decide), he0])
              clear he0
              rw [e5] at HCI
              rw [roundsIn_succ]
              gi_wp2_with fail
              with_reducible refine (CallsIn.inRound _ (callsIn_wide.2 HCI.out)).mono ?_
              rintro e u5 ⟨rfl, hb5⟩
              obtain ⟨hb5', hzz5, hx5⟩ := step_box [.func (.func 55) #[] #[], .int .i64 21] hb5
              have x5 := hx5 1 _ rfl
              have HBN := hide (bthen HBL4.out hb5')
              have s1 := keep1 HBN.out r1
              have s1f := ((bcell HBN.out).2 _ 0 hR1).trans rf
              have HKF := hide (HKF.out.trans (keepsFrom_below (B := w2.heap.size) hb5'))
              clear hx5 HCI HBX hb5
              gi_wp2
              exact ⟨keepsFrom_set HKF.out (p := ⟨w.heap.size + 1, 0, none⟩) hR1 _, by rw [HER.out]; exact below_set_both HBN.out _ _⟩
            · skip
              rw [e5] at HCI
              rw [roundsIn_succ]
              gi_wp2_with fail
              with_reducible refine (CallsIn.inRound _ (callsIn_wide.2 HCI.out)).mono ?_
              rintro e u5 ⟨rfl, hb5⟩
              obtain ⟨hb5', hzz5, hx5⟩ := step_box [.func (.func 55) #[] #[], .int .i64 21] hb5
              have x5 := hx5 1 _ rfl
              have HBL5 := hide (bthen HBL4.out hb5')
              replace HKF := hide (HKF.out.trans (keepsFrom_below (B := w2.heap.size) hb5'))
              replace HKS := hide (KeepS.below HKS.out (n := u4.heap.size) (by rintro k rfl; omega) hb5')
              clear x5 hx5 HCI HBX hb5 t8 t9
              have hsz5 : w2.heap.size ≤ u5.heap.size := HBL5.out.size
              have HERZ : Hid (errQ c x = 0) := hide (by unfold errQ; rw [e1, e2, e3, e4, e5]; rfl)
              gi_wp2_with fail
              rw [roundsIn_succ]
              gi_wp2
              refine ⟨HKF.out, HKS.out, fun q hq => ?_, HBL5.out⟩
              rw [List.length_append, List.length_range] at hq
              by_cases e : q = x
              · rw [e]; exact HERZ.out
              · exact HZ.out q (by simp at hq; omega)
end
end Go.Proofs.Ytihbonndinnohaa
