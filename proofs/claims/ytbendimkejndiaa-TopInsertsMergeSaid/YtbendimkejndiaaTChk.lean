/- stream.Check: whether a list is a stream. -/
import Derived.Test.YtbendimkejndiaaTMap
namespace Go.Proofs.Ytbendimkejndiaa
open Go.RowKit
set_option linter.unusedVariables false
set_option linter.unusedSimpArgs false
/-- The identity of an event, as a value. -/
def idv (x : Evt) : Value := .agg #[.int .i64 x.a, .int .i64 x.b]
theorem idv_inj {x y : Evt} : idv x = idv y ↔ Idq x y := by
  unfold idv Idq
  constructor
  · intro h; injection h with h; injection h with h; injection h with h1 h; injection h with h2 _; injection h1 with _ h1; injection h2 with _ h2; exact ⟨h1, h2⟩
  · rintro ⟨h1, h2⟩; rw [h1, h2]
open Classical in
noncomputable def seenF (L : List Evt) : Value → Option Value := fun k => if ∃ x ∈ L, idv x = k then some (.bool true) else none
theorem seenF_nil : seenF [] = fun _ => none := by funext k; simp [seenF]
theorem seenF_upd (L : List Evt) (x : Evt) : updF (seenF L) (idv x) (.bool true) = seenF (L ++ [x]) := by
  funext k
  unfold updF seenF
  by_cases h : k = idv x
  · rw [if_pos h, if_pos ⟨x, by simp, h.symm⟩]
  · rw [if_neg h]
    by_cases h2 : ∃ y ∈ L, idv y = k
    · rw [if_pos h2]; obtain ⟨y, hy, e⟩ := h2; rw [if_pos ⟨y, by simp [hy], e⟩]
    · rw [if_neg h2, if_neg]; rintro ⟨y, hy, e⟩
      rcases List.mem_append.1 hy with hy | hy
      · exact h2 ⟨y, hy, e⟩
      · obtain rfl := List.mem_singleton.1 hy; exact h e.symm
theorem seenF_yes {L : List Evt} {x : Evt} (h : ∃ y ∈ L, Idq y x) : (seenF L (idv x)).getD (.bool false) = .bool true := by
  obtain ⟨y, hy, hi⟩ := h
  unfold seenF
  rw [if_pos ⟨y, hy, idv_inj.2 hi⟩]; rfl
theorem seenF_no {L : List Evt} {x : Evt} (h : ¬ ∃ y ∈ L, Idq y x) : (seenF L (idv x)).getD (.bool false) = .bool false := by
  unfold seenF
  rw [if_neg]; · rfl
  rintro ⟨y, hy, e⟩; exact h ⟨y, hy, idv_inj.1 e⟩
theorem strm_nil : Strm [] := ⟨by simp, List.Pairwise.nil, List.Pairwise.nil⟩
theorem strm_take {l : List Evt} {j : Nat} (h : Strm l) : Strm (l.take j) := ⟨fun x hx => h.1 x (List.mem_of_mem_take hx), h.2.1.sublist (List.take_sublist ..), h.2.2.sublist (List.take_sublist ..)⟩
theorem strm_snoc {l : List Evt} {x : Evt} : Strm (l ++ [x]) ↔ Strm l ∧ Plcd x ∧ (∀ y ∈ l, LtE y x) ∧ ¬ ∃ y ∈ l, Idq y x := by
  unfold Strm
  simp only [List.pairwise_append, List.pairwise_singleton, List.mem_append, List.mem_singleton, true_and]
  constructor
  · rintro ⟨h1, ⟨h2, h3⟩, h4, h5⟩
    exact ⟨⟨fun y hy => h1 y (.inl hy), h2, h4⟩, h1 x (.inr rfl), fun y hy => h3 y hy x rfl, fun ⟨y, hy, hi⟩ => h5 y hy x rfl hi⟩
  · rintro ⟨⟨h1, h2, h3⟩, h4, h5, h6⟩
    refine ⟨fun y hy => hy.elim (h1 y) (fun e => e ▸ h4), ⟨h2, fun y hy z hz => hz ▸ h5 y hy⟩, h3, fun y hy z hz hi => h6 ⟨y, hy, hz ▸ hi⟩⟩
theorem take_snoc {l : List Evt} {j : Nat} (hj : j < l.length) : l.take (j + 1) = l.take j ++ [l[j]] := List.take_succ_eq_append_getElem hj
/-- The last one of a list in order is the greatest. -/
theorem lt_last {l : List Evt} {j : Nat} {x : Evt} (hj : j < l.length) (hp : (l.take (j + 1)).Pairwise LtE) (hx : LtE l[j] x) : ∀ y ∈ l.take (j + 1), LtE y x := by
  intro y hy
  rw [take_snoc hj] at hy hp
  rcases List.mem_append.1 hy with h | h
  · exact ((List.pairwise_append.1 hp).2.2 y h _ (by simp)).trans hx
  · obtain rfl := List.mem_singleton.1 h; exact hx
set_option maxRecDepth 100000 in
set_option maxHeartbeats 8000000 in
theorem scheck_any (v : Value) (l : List Evt) (w : World) (hv : Lst w (· < w.heap.size) 5 REv0 v l) : Calls Try.prog 19 #[v] w (RetZero (l.length ≤ 4096 ∧ Strm l) w) := by
  obtain ⟨A, cap, rfl⟩ := hv.form
  have HV := hide hv
  obtain ⟨m, hm⟩ : ∃ m, l.length = m := ⟨_, rfl⟩
  rw [hm] at HV ⊢
  have HM := hide hm
  clear hv hm
  by_cases hl : m ≤ 4096
  · have t1 : decide ((4096 : Int) < (m : Int)) = false := decide_eq_false (by omega)
    have HY := hide (show Strm l → (m ≤ 4096 ∧ Strm l) from fun h => ⟨hl, h⟩)
    obtain ⟨p, hp⟩ : ∃ p : Prop, (m ≤ 4096 ∧ Strm l) = p := ⟨_, rfl⟩
    have HN := hide (show p → Strm l from fun h => by rw [← hp] at h; exact h.2)
    rw [hp] at HY ⊢
    clear hp
    have HS := hide (MapF.made 65 w)
    have hmk := @run_makeMap Try.prog
    have hB0 := hide (below_laid (w := w) (.map #[] 0))
    go_enter Try.func19, Try.ntmps19
    go_wp2_with fail
    obtain ⟨w0, hw0⟩ : ∃ w0, w.alloc (.map #[] 0) = w0 := ⟨_, rfl⟩
    rw [hw0] at HS hB0 ⊢
    clear hw0 hmk
    go_loopw [12] (fun i wr => ∃ j : Nat, j ≤ m ∧ i = .int .i64 j ∧ Hid (MapF 65 wr w.heap.size j (seenF (l.take j))) ∧ Hid (Strm (l.take j)) ∧ Hid (Below w.heap.size w wr)) (fun i _ => m - (intOf i).toNat)
    case atStart => exact ⟨0, Nat.zero_le _, rfl, hide (by rw [List.take_zero, seenF_nil]; exact HS.out), hide strm_nil, hide hB0.out⟩
    case round =>
      obtain ⟨j, hj, rfl, HMP, HST, HB⟩ := hrel
      clear HS hB0
      by_cases hlt : j < m
      · have hjl : j < l.length := by rw [HM.out]; exact hlt
        obtain ⟨g, off, xs, e2, hg, hxl, hc, hR⟩ := HV.out.at_ hjl
        cases e2
        have HSN : Hid (Strm (l.take (j + 1)) ↔ Strm (l.take j) ∧ Plcd l[j] ∧ (∀ y ∈ l.take j, LtE y l[j]) ∧ ¬ ∃ y ∈ l.take j, Idq y l[j]) := hide (by rw [take_snoc hjl]; exact strm_snoc)
        have HUP : Hid (updF (seenF (l.take j)) (idv l[j]) (.bool true) = seenF (l.take (j + 1))) := hide (by rw [take_snoc hjl]; exact seenF_upd _ _)
        have HTK : Hid (Strm l → Strm (l.take (j + 1))) := hide strm_take
        obtain ⟨x, hx⟩ : ∃ x, l[j] = x := ⟨_, rfl⟩
        rw [hx] at hR HSN HUP
        obtain ⟨u, rfl, hu, ha, hb, -, -⟩ := hR
        obtain ⟨A', c', rfl⟩ := hu.form
        obtain ⟨n', hn'⟩ : ∃ n, x.vs.length = n := ⟨_, rfl⟩
        rw [hn'] at hc
        have k0 := keep1 HB.out (hc 0 _ rfl)
        have k1 := keep1 HB.out (hc 1 _ rfl)
        have k2 := keep1 HB.out (hc 2 _ rfl)
        have k3 := keep1 HB.out (hc 3 _ rfl)
        have k4 := keep1 HB.out (hc 4 _ rfl)
        rw [Nat.add_zero] at k0
        have hu0 : (0 : Int) ≤ (j : Int) := by omega
        have hu1 : (j : Int) < (m : Int) := by omega
        have HKY := hide (id_of ha hb)
        have HP := hide (fun w => placed_any x A' n' c' w)
        have HOF := hide (fun w => eof_any x.a x.b x.c x.d A' n' c' w)
        have HBX := hide (below_laid (w := wr) (.cells #[.int .i64 x.a, .int .i64 x.b, .int .i64 x.c, .int .i64 x.d, .slice A' n' c'] 32))
        have HX := hide (Bl.new wr [.int .i64 x.a, .int .i64 x.b, .int .i64 x.c, .int .i64 x.d, .slice A' n' c'] 32)
        clear hc hxl hu hn' hb ha
        by_cases hp : Plcd x
        · rw [decide_eq_true hp] at HP
          have HPX := hide hp
          clear hp
          go_wp2_with fail
          refine (HP.out _).mono ?_
          rintro en w2 ⟨rfl, hg2⟩
          by_cases hj0 : j = 0
          · subst hj0
            have b0 := (HX.out.keep hg2.below).c 0 _ rfl
            have b1 := (HX.out.keep hg2.below).c 1 _ rfl
            have b2 := (HX.out.keep hg2.below).c 2 _ rfl
            have b3 := (HX.out.keep hg2.below).c 3 _ rfl
            have b4 := (HX.out.keep hg2.below).c 4 _ rfl
            have t9 : decide ((0 : Int) < ((0 : Nat) : Int)) = false := rfl
            have HLT := hide (show ∀ y ∈ l.take 0, LtE y x from fun y hy => by simp at hy)
            go_wp2_with fail
            go_quiet (fail)
            have HB3 := hide (show Below w.heap.size w (w2.drewN nq) from below_drewN (bthen (bthen HB.out HBX.out) hg2.below) nq)
            have HM3 := hide (HMP.out.keep (show Below wr.heap.size wr (w2.drewN nq) from below_drewN (bthen HBX.out hg2.below) nq))
            have HX3 := hide (HX.out.keep (show Below _ _ (w2.drewN nq) from below_drewN hg2.below nq))
            obtain ⟨w3, hw3⟩ : ∃ w3, w2.drewN nq = w3 := ⟨_, rfl⟩
            rw [hw3] at HB3 HM3 HX3 ⊢
            clear hw3
            have x0 := HX3.out.c 0 _ rfl
            have x1 := HX3.out.c 1 _ rfl
            have x2 := HX3.out.c 2 _ rfl
            have x3 := HX3.out.c 3 _ rfl
            have x4 := HX3.out.c 4 _ rfl
            by_cases hsn : ∃ y ∈ l.take (0), Idq y x
            · have HSY := hide (seenF_yes hsn)
              have HF : Hid (¬ p) := hide (fun h => (HSN.out.1 (HTK.out (HN.out h))).2.2.2 hsn)
              clear hsn
              go_wp2_with fail
              refine (HOF.out _).mono ?_
              rintro en w4 ⟨rfl, hg4⟩
              go_wp2_with (at_lookup; refine wpList_look rfl (.tmp 35) (.tmp 37) 63 (by rfl) 4 id_key Try.underlying63 (.bool false) (by kernel_rfl) w.heap.size (0) (seenF (l.take (0))) (idv x) (by rfl) (by rfl) HKY.out (HM3.out.keep hg4.below) ?_; rw [HSY.out])
              go_ret
              exact ⟨7, rfl, ⟨fun h => absurd h (by decide), fun h => absurd h HF.out⟩, bthen HB3.out hg4.below⟩
            · have HSY := hide (seenF_no hsn)
              have HS2 := hide (HSN.out.2 ⟨HST.out, HPX.out, HLT.out, hsn⟩)
              clear hsn
              go_wp2_with fail
              refine (HOF.out _).mono ?_
              rintro en w4 ⟨rfl, hg4⟩
              have x0 := keepG hg4 x0
              have x1 := keepG hg4 x1
              have x2 := keepG hg4 x2
              have x3 := keepG hg4 x3
              have x4 := keepG hg4 x4
              go_wp2_with (at_lookup; refine wpList_look rfl (.tmp 35) (.tmp 37) 63 (by rfl) 4 id_key Try.underlying63 (.bool false) (by kernel_rfl) w.heap.size (0) (seenF (l.take (0))) (idv x) (by rfl) (by rfl) HKY.out (HM3.out.keep hg4.below) ?_; rw [HSY.out])
              refine (HOF.out _).mono ?_
              rintro en w5 ⟨rfl, hg5⟩
              have hbw5 := (bthen (bthen HB3.out hg4.below) hg5.below).size
              go_wp2_with (at_mapUpdate; refine wpList_store rfl (.tmp 39) (.tmp 41) _ 63 (by rfl) 4 id_key Try.underlying63 w.heap.size (0) (seenF (l.take (0))) (idv x) (.bool true) (by rfl) (by rfl) (by rfl) HKY.out ((HM3.out.keep hg4.below).keep hg5.below) (by unfold maxLen; omega) w.heap.size (Nat.le_refl _) hbw5 ?_; intro w6 hm6 hgr6 hb6)
              go_roundw
              case rel => exact ⟨0 + 1, by omega, by go_num, hide (by rw [← HUP.out]; exact hm6), hide HS2.out, hide ((bthen (bthen HB3.out hg4.below) hg5.below).trans hb6)⟩
              case measure => simp [intOf]; omega
          · obtain ⟨i, rfl⟩ : ∃ i, j = i + 1 := ⟨j - 1, by omega⟩
            have hil : i < l.length := by rw [HM.out]; omega
            obtain ⟨g2, off2, ys, e3, -, -, hc2, hR2⟩ := HV.out.at_ hil
            cases e3
            have HLL : Hid (LtE l[i] x → ∀ y ∈ l.take (i + 1), LtE y x) := hide (fun h => lt_last hil HST.out.2.1 h)
            have HLI : Hid (l[i] ∈ l.take (i + 1)) := hide (by rw [take_snoc hil]; exact List.mem_append_right _ (List.mem_singleton.2 rfl))
            obtain ⟨y, hy⟩ : ∃ y, l[i] = y := ⟨_, rfl⟩
            rw [hy] at hR2 HLL HLI
            obtain ⟨u2, rfl, hu2, -⟩ := hR2
            obtain ⟨A2, c2, rfl⟩ := hu2.form
            obtain ⟨n2, hn2⟩ : ∃ n, y.vs.length = n := ⟨_, rfl⟩
            rw [hn2] at hc2
            have HBW := hide (bthen (bthen HB.out HBX.out) hg2.below)
            have HX2 := hide (HX.out.keep hg2.below)
            have b0 := HX2.out.c 0 _ rfl
            have b1 := HX2.out.c 1 _ rfl
            have b2 := HX2.out.c 2 _ rfl
            have b3 := HX2.out.c 3 _ rfl
            have b4 := HX2.out.c 4 _ rfl
            have q0 := keep1 HBW.out (hc2 0 _ rfl)
            have q1 := keep1 HBW.out (hc2 1 _ rfl)
            have q2 := keep1 HBW.out (hc2 2 _ rfl)
            have q3 := keep1 HBW.out (hc2 3 _ rfl)
            have q4 := keep1 HBW.out (hc2 4 _ rfl)
            rw [Nat.add_zero] at q0
            clear hc2 hy hu2 hn2 hj0
            have t9 : decide ((0 : Int) < (i : Int) + 1) = true := decide_eq_true (by omega)
            have v0 : (0 : Int) ≤ (i : Int) := by omega
            have t11 : IntKind.i64.wrap (i : Int) = (i : Int) := by rw [IntKind.wrap_i64]; omega
            have v1 : (i : Int) < (m : Int) := by omega
            have HCE := hide (fun w => ecmp_any y.a y.b y.c y.d x.a x.b x.c x.d A2 A' n2 c2 n' c' w)
            have HLE : Hid (or2 (cmpI y.d x.d) (or2 (cmpI y.a x.a) (cmpI y.b x.b)) < 0 ↔ LtE y x) := hide cmpE_lt
            obtain ⟨cv, hcv⟩ : ∃ c, or2 (cmpI y.d x.d) (or2 (cmpI y.a x.a) (cmpI y.b x.b)) = c := ⟨_, rfl⟩
            rw [hcv] at HCE HLE
            clear hcv
            go_wp2_with fail
            go_region_held3 (fun w' => (w'.cell? ⟨g, off + i * 5, none⟩ = some (.int .i64 y.a) ∧ w'.cell? ⟨g, off + i * 5 + 1, none⟩ = some (.int .i64 y.b) ∧ w'.cell? ⟨g, off + i * 5 + 2, none⟩ = some (.int .i64 y.c) ∧ w'.cell? ⟨g, off + i * 5 + 3, none⟩ = some (.int .i64 y.d) ∧ w'.cell? ⟨g, off + i * 5 + 4, none⟩ = some (.slice A2 n2 c2)) ∧ w'.cell? ⟨wr.heap.size, 0, none⟩ = some (.int .i64 x.a) ∧ w'.cell? ⟨wr.heap.size, 1, none⟩ = some (.int .i64 x.b) ∧ w'.cell? ⟨wr.heap.size, 2, none⟩ = some (.int .i64 x.c) ∧ w'.cell? ⟨wr.heap.size, 3, none⟩ = some (.int .i64 x.d) ∧ w'.cell? ⟨wr.heap.size, 4, none⟩ = some (.slice A' n' c'))
              (first
                | with_reducible exact ⟨⟨keep1 hb9 q0, keep1 hb9 q1, keep1 hb9 q2, keep1 hb9 q3, keep1 hb9 q4⟩, keep1 hb9 b0, keep1 hb9 b1, keep1 hb9 b2, keep1 hb9 b3, keep1 hb9 b4⟩
                | (go_keep; done))
              ((go_at_call 29; refine (HCE.out _).mono ?_; rintro en w9 ⟨rfl, hg9⟩; have hb9 : Below w2.heap.size w2 w9 := below_undrew hg9.below))
            by_cases hcl : 0 ≤ cv
            · have t10 : decide (0 ≤ cv) = true := decide_eq_true hcl
              have HF : Hid (¬ p) := hide (fun h => by
                have h1 := HLE.out.2 ((HSN.out.1 (HTK.out (HN.out h))).2.2.1 y HLI.out)
                omega)
              go_wp2
              go_ret
              exact ⟨14, rfl, ⟨fun h => absurd h (by decide), fun h => absurd h HF.out⟩, bthen HBW.out hb9⟩
            · have t10 : decide (0 ≤ cv) = false := decide_eq_false hcl
              have HLT := hide (HLL.out (HLE.out.1 (by omega)))
              have hcl2 : cv < 0 := by omega
              clear b0 b1 b2 b3 b4 q0 q1 q2 q3 q4
              have hb0' := hb9
              have HB3 := hide (show Below w.heap.size w (w9) from bthen HBW.out hb9)
              have HM3 := hide (HMP.out.keep (show Below wr.heap.size wr (w9) from bthen (bthen HBX.out hg2.below) hb9))
              have HX3 := hide (HX.out.keep (show Below _ _ (w9) from bthen hg2.below hb9))
              obtain ⟨w3, hw3⟩ : ∃ w3, w9 = w3 := ⟨_, rfl⟩
              rw [hw3] at HB3 HM3 HX3 ⊢
              clear hw3
              have x0 := HX3.out.c 0 _ rfl
              have x1 := HX3.out.c 1 _ rfl
              have x2 := HX3.out.c 2 _ rfl
              have x3 := HX3.out.c 3 _ rfl
              have x4 := HX3.out.c 4 _ rfl
              by_cases hsn : ∃ y ∈ l.take (i + 1), Idq y x
              · have HSY := hide (seenF_yes hsn)
                have HF : Hid (¬ p) := hide (fun h => (HSN.out.1 (HTK.out (HN.out h))).2.2.2 hsn)
                clear hsn
                go_wp2_with fail
                refine (HOF.out _).mono ?_
                rintro en w4 ⟨rfl, hg4⟩
                go_wp2_with (at_lookup; refine wpList_look rfl (.tmp 35) (.tmp 37) 63 (by rfl) 4 id_key Try.underlying63 (.bool false) (by kernel_rfl) w.heap.size (i + 1) (seenF (l.take (i + 1))) (idv x) (by rfl) (by rfl) HKY.out (HM3.out.keep hg4.below) ?_; rw [HSY.out])
                go_ret
                exact ⟨7, rfl, ⟨fun h => absurd h (by decide), fun h => absurd h HF.out⟩, bthen HB3.out hg4.below⟩
              · have HSY := hide (seenF_no hsn)
                have HS2 := hide (HSN.out.2 ⟨HST.out, HPX.out, HLT.out, hsn⟩)
                clear hsn
                go_wp2_with fail
                refine (HOF.out _).mono ?_
                rintro en w4 ⟨rfl, hg4⟩
                have x0 := keepG hg4 x0
                have x1 := keepG hg4 x1
                have x2 := keepG hg4 x2
                have x3 := keepG hg4 x3
                have x4 := keepG hg4 x4
                go_wp2_with (at_lookup; refine wpList_look rfl (.tmp 35) (.tmp 37) 63 (by rfl) 4 id_key Try.underlying63 (.bool false) (by kernel_rfl) w.heap.size (i + 1) (seenF (l.take (i + 1))) (idv x) (by rfl) (by rfl) HKY.out (HM3.out.keep hg4.below) ?_; rw [HSY.out])
                refine (HOF.out _).mono ?_
                rintro en w5 ⟨rfl, hg5⟩
                have hbw5 := (bthen (bthen HB3.out hg4.below) hg5.below).size
                go_wp2_with (at_mapUpdate; refine wpList_store rfl (.tmp 39) (.tmp 41) _ 63 (by rfl) 4 id_key Try.underlying63 w.heap.size (i + 1) (seenF (l.take (i + 1))) (idv x) (.bool true) (by rfl) (by rfl) (by rfl) HKY.out ((HM3.out.keep hg4.below).keep hg5.below) (by unfold maxLen; omega) w.heap.size (Nat.le_refl _) hbw5 ?_; intro w6 hm6 hgr6 hb6)
                go_roundw
                case rel => exact ⟨i + 1 + 1, by omega, by go_num, hide (by rw [← HUP.out]; exact hm6), hide HS2.out, hide ((bthen (bthen HB3.out hg4.below) hg5.below).trans hb6)⟩
                case measure => simp [intOf]; omega
        · rw [decide_eq_false hp] at HP
          have HF : Hid (¬ p) := hide (fun h => hp (HSN.out.1 (HTK.out (HN.out h))).2.1)
          clear hp
          go_wp2_with fail
          refine (HP.out _).mono ?_
          rintro en w2 ⟨rfl, hg2⟩
          go_wp2
          go_ret
          exact ⟨2, rfl, ⟨fun h => absurd h (by decide), fun h => absurd h HF.out⟩, bthen (bthen HB.out HBX.out) hg2.below⟩
      · obtain rfl : j = m := by omega
        have HF : Hid p := hide (HY.out (by
          have := HST.out
          rwa [List.take_of_length_le (by rw [HM.out]; exact Nat.le_refl _)] at this))
        go_wp2
        go_ret
        exact ⟨0, rfl, ⟨fun _ => HF.out, fun _ => rfl⟩, HB.out⟩
  · have t1 : decide ((4096 : Int) < (m : Int)) = true := decide_eq_true (by omega)
    have HN := hide (show ¬ (m ≤ 4096 ∧ Strm l) from fun h => hl h.1)
    go_enter Try.func19, Try.ntmps19
    go_wp2
    go_ret
    exact ⟨5, rfl, ⟨fun h => absurd h (by decide), fun h => absurd h HN.out⟩, Below.refl _ _⟩
end Go.Proofs.Ytbendimkejndiaa
