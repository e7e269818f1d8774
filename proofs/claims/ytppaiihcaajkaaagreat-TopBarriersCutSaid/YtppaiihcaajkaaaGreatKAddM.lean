/- punctuation.Add. watermark: ranged, checkEvent, checkPoint: that they return. -/
import Derived.Test.YtppaiihcaajkaaaGreatKOwnM
import Derived.Test.YtppaiihcaajkaaaGreatKIns
namespace Go.Proofs.YtppaiihcaajkaaaGreat
open Go.RowKit
set_option linter.unusedVariables false
set_option linter.unusedSimpArgs false
/-- A row under way: its bare cells. -/
theorem gq_raw {α : Type} {R : World → (Nat → Prop) → List Value → α → Prop} {w : World} {Y : Nat → Prop} {base sz : Nat} {te : TypeId} {v : Value} {l : List α} (hO : One R) (hsz : 0 < sz) (h : Gq w Y base te sz R v l) :
    ∃ xs, w.ownsRow base te sz v l.length xs ∧ (∀ u ∈ xs, u.oneCell' = true) ∧ ∀ j (h : j < l.length), ∃ ys, ys.length = sz ∧ (∀ c u, ys[c]? = some u → xs[j * sz + c]? = some u) ∧ R w (fun b => Y b ∧ b < w.heap.size ∧ v.ownBlock ≠ some b) ys l[j] := by
  obtain ⟨xs, hown, -, hel⟩ := h
  refine ⟨xs, hown, fun u hu => ?_, hel⟩
  obtain ⟨k, hk, rfl⟩ := List.getElem_of_mem hu
  have hkl : k / sz < l.length := by rw [Nat.div_lt_iff_lt_mul hsz, ← hown.1]; exact hk
  obtain ⟨ys, h1, h2, h3⟩ := hel (k / sz) hkl
  have hc : k % sz < ys.length := by rw [h1]; exact Nat.mod_lt _ hsz
  have := h2 (k % sz) ys[k % sz] (List.getElem?_eq_getElem hc)
  rw [Nat.div_add_mod', List.getElem?_eq_getElem hk] at this
  injection this with this
  rw [this]
  exact hO h3 _ (List.getElem_mem hc)
theorem ins_rows {α : Type} {R : List Value → α → Prop} {xs ys : List Value} {l : List α} {sz i : Nat} {y : α} (hsz : 0 < sz) (hx : xs.length = l.length * sz) (hi : i ≤ l.length)
    (hel : ∀ j (h : j < l.length), ∃ zs, zs.length = sz ∧ (∀ c u, zs[c]? = some u → xs[j * sz + c]? = some u) ∧ R zs l[j]) (hyl : ys.length = sz) (hy : R ys y) :
    ∀ j (h : j < (l.take i ++ y :: l.drop i).length), ∃ zs, zs.length = sz ∧ (∀ c u, zs[c]? = some u → (insL xs (i * sz) ys)[j * sz + c]? = some u) ∧ R zs (l.take i ++ y :: l.drop i)[j] := by
  intro j hj
  have htl : (l.take i).length = i := by rw [List.length_take, Nat.min_eq_left hi]
  have hil : i * sz ≤ xs.length := by rw [hx]; exact Nat.mul_le_mul_right _ hi
  have htx : (xs.take (i * sz)).length = i * sz := by rw [List.length_take, Nat.min_eq_left hil]
  simp only [List.length_append, List.length_cons, List.length_drop, htl] at hj
  rcases Nat.lt_trichotomy j i with h | h | h
  · obtain ⟨zs, h1, h2, h3⟩ := hel j (by omega)
    refine ⟨zs, h1, fun c u hu => ?_, ?_⟩
    · have hc := (List.getElem?_eq_some_iff.1 hu).1
      have hlt : j * sz + c < i * sz := by
        have := Nat.mul_le_mul_right sz (show j + 1 ≤ i from h)
        rw [Nat.succ_mul] at this
        omega
      unfold insL
      rw [List.append_assoc, List.getElem?_append_left (by rw [htx]; exact hlt), List.getElem?_take, if_pos hlt]
      exact h2 c u hu
    · rw [List.getElem_append_left (by rw [htl]; exact h), List.getElem_take]; exact h3
  · subst h
    refine ⟨ys, hyl, fun c u hu => ?_, ?_⟩
    · have hc := (List.getElem?_eq_some_iff.1 hu).1
      unfold insL
      rw [List.append_assoc, List.getElem?_append_right (by rw [htx]; omega), htx, List.getElem?_append_left (by omega)]
      rwa [show j * sz + c - j * sz = c by omega]
    · rw [List.getElem_append_right (by rw [htl]; exact Nat.le_refl _)]
      simp only [htl, Nat.sub_self, List.getElem_cons_zero]
      exact hy
  · obtain ⟨k, rfl⟩ : ∃ k, j = k + 1 := ⟨j - 1, by omega⟩
    obtain ⟨zs, h1, h2, h3⟩ := hel k (by omega)
    refine ⟨zs, h1, fun c u hu => ?_, ?_⟩
    · have hc := (List.getElem?_eq_some_iff.1 hu).1
      have hge : i * sz ≤ k * sz := Nat.mul_le_mul_right _ (by omega)
      unfold insL
      rw [Nat.succ_mul, List.append_assoc, List.getElem?_append_right (by rw [htx]; omega), htx, List.getElem?_append_right (by omega), hyl, List.getElem?_drop]
      rw [show i * sz + (k * sz + sz + c - i * sz - sz) = k * sz + c by omega]
      exact h2 c u hu
    · rw [List.getElem_append_right (by rw [htl]; omega)]
      simp only [htl, show k + 1 - i = (k - i) + 1 by omega, List.getElem_cons_succ, List.getElem_drop, show i + (k - i) = k by omega]
      exact h3
section
variable (w : World)
set_option maxRecDepth 100000 in
set_option maxHeartbeats 16000000 in
theorem add_any (x : Trk) (p : Pnt) (A B : Option Addr) (a b : Nat) (hx : TrV w (· < w.heap.size) A a B b x) (hm1 : x.beyond.length ≤ 1000) (hpI : inI p.s ∧ inI p.t) : Calls Tryz.prog 110 #[.agg #[.int .i64 x.next, .slice A x.beyond.length a, .slice B x.points.length b, .int .i64 x.mark], .agg #[.int .i64 p.s, .int .i64 p.t]] w (RetTE TrkOK w) := by
  obtain ⟨X1, hX1⟩ : ∃ X, X = w.alloc (.cells #[.int .i64 x.next, .slice A x.beyond.length a, .slice B x.points.length b, .int .i64 x.mark] 33) := ⟨_, rfl⟩
  have hB1 : Below w.heap.size w X1 := by rw [hX1]; exact below_laid _
  have hsz1 : X1.heap.size = w.heap.size + 1 := by rw [hX1]; simp
  have hbx := Bl.new w [.int .i64 x.next, .slice A x.beyond.length a, .slice B x.points.length b, .int .i64 x.mark] 33
  rw [← hX1] at hbx
  obtain ⟨X2, hX2⟩ : ∃ X, X = X1.alloc (.cells #[.int .i64 p.s, .int .i64 p.t] 84) := ⟨_, rfl⟩
  have hB2 : Below w.heap.size w X2 := by rw [hX2]; exact bthen hB1 (below_laid _)
  have hsz2 : X2.heap.size = w.heap.size + 2 := by rw [hX2]; simp [hsz1]
  have hbp := Bl.new X1 [.int .i64 p.s, .int .i64 p.t] 84
  rw [← hX2, hsz1] at hbp
  replace hbx : Bl X2 w.heap.size [.int .i64 x.next, .slice A x.beyond.length a, .slice B x.points.length b, .int .i64 x.mark] := by rw [hX2]; exact hbx.laid _
  obtain ⟨W3, hW3⟩ : ∃ X, X = X2.alloc (.cells #[.int .i64 0, .slice none 0 0, .slice none 0 0, .int .i64 0] 33) := ⟨_, rfl⟩
  have hB3 : Below w.heap.size w W3 := by rw [hW3]; exact bthen hB2 (below_laid _)
  have hbz := Bl.new X2 [.int .i64 0, .slice none 0 0, .slice none 0 0, .int .i64 0] 33
  rw [← hW3, hsz2] at hbz
  have HX := hide (show Bl W3 w.heap.size [.int .i64 x.next, .slice A x.beyond.length a, .slice B x.points.length b, .int .i64 x.mark] by rw [hW3]; exact hbx.laid _)
  have HP := hide (show Bl W3 (w.heap.size + 1) [.int .i64 p.s, .int .i64 p.t] by rw [hW3]; exact hbp.laid _)
  have HZ := hide hbz
  have HB := hide hB3
  have HTV := hide (fun (w1 : World) (hb : Below w.heap.size w w1) => hx.below hb)
  have HPC := hide (pcheck_any W3 x A B a b (hx.below hB3))
  have HWW := hide (show ((w.alloc (.cells #[.int .i64 x.next, .slice A x.beyond.length a, .slice B x.points.length b, .int .i64 x.mark] 33)).alloc (.cells #[.int .i64 p.s, .int .i64 p.t] 84)).alloc (.cells #[.int .i64 0, .slice none 0 0, .slice none 0 0, .int .i64 0] 33) = W3 by rw [hW3, hX2, hX1])
  have HML := hide hm1
  have HPI := hide hpI
  clear hx hB1 hB2 hB3 hbx hbp hbz hsz1 hsz2 hX1 hX2 hW3 hm1 hpI
  obtain ⟨next, beyond, points, mark⟩ := x
  obtain ⟨ps, pt⟩ := p
  simp only at HX HP HTV HPC HWW HML HPI ⊢
  obtain ⟨m, hm⟩ : ∃ m, beyond.length = m := ⟨_, rfl⟩
  obtain ⟨n, hn⟩ : ∃ n, points.length = n := ⟨_, rfl⟩
  have HM := hide hm
  have HNN := hide hn
  simp only [hm, hn] at HX HPC HWW HML ⊢
  clear hm hn
  go_enter Tryz.func110, Tryz.ntmps110
  go_upto_region 1 with (fail)
  rw [HWW.out]
  clear HWW
  have d0 := HX.out.c 0 _ rfl
  have d1 := HX.out.c 1 _ rfl
  have d2 := HX.out.c 2 _ rfl
  have d3 := HX.out.c 3 _ rfl
  go_wp2_with (go_at_call 64; refine HPC.out.mono ?_; rintro e1 w1 ⟨e, rfl, hok, hb1⟩; have HOK := hide hok; have HX1 := hide (HX.out.keep hb1); have HP1 := hide (HP.out.keep hb1); have HZ1 := hide (HZ.out.keep hb1); have HB1 := hide (bthen HB.out hb1); clear hok hb1 d0 d1 d2 d3 HX HP HZ HB HPC; have d0 := HX1.out.c 0 _ rfl; have d1 := HX1.out.c 1 _ rfl; have d2 := HX1.out.c 2 _ rfl; have d3 := HX1.out.c 3 _ rfl; have p0 := HP1.out.c 0 _ rfl; have p1 := HP1.out.c 1 _ rfl; have z0 := HZ1.out.c 0 _ rfl; have z1 := HZ1.out.c 1 _ rfl; have z2 := HZ1.out.c 2 _ rfl; have z3 := HZ1.out.c 3 _ rfl; have g0 := HZ1.out.f 0; have g1 := HZ1.out.f 1; have g2 := HZ1.out.f 2; have g3 := HZ1.out.f 3; by_cases he : e = 0; all_goals first | (obtain rfl := he; have HASK := hide (HOK.out.1 rfl)) | have t1 : (e != 0) = true := bne_iff_ne.2 he)
  · have HPV := hide (pvalid_any w1 ps pt)
    cases hv : vldB ps pt
    · rw [hv] at HPV
      clear hv
      go_wp2_with (go_at_call 94; go_loud (refine HPV.out.mono ?_; rintro e2 w2 ⟨rfl, hw2⟩; have hb2 : Below w1.heap.size w1 w2 := (by rw [hw2]; exact below_laid _); clear hw2; have HX2 := hide (HX1.out.keep hb2); have HP2 := hide (HP1.out.keep hb2); have HZ2 := hide (HZ1.out.keep hb2); have HB2 := hide (bthen HB1.out hb2); clear hb2 d0 d1 d2 d3 p0 p1 z0 z1 z2 z3 g0 g1 g2 g3; have d0 := HX2.out.c 0 _ rfl; have d1 := HX2.out.c 1 _ rfl; have d2 := HX2.out.c 2 _ rfl; have d3 := HX2.out.c 3 _ rfl; have p0 := HP2.out.c 0 _ rfl; have p1 := HP2.out.c 1 _ rfl; have z0 := HZ2.out.c 0 _ rfl; have z1 := HZ2.out.c 1 _ rfl; have z2 := HZ2.out.c 2 _ rfl; have z3 := HZ2.out.c 3 _ rfl; have g0 := HZ2.out.f 0; have g1 := HZ2.out.f 1; have g2 := HZ2.out.f 2; have g3 := HZ2.out.f 3))
      refine bodyPost_ret (v := .tuple #[zeT, .int .i64 2]) (by rw [results_cell_tmp rfl]; unfold zeT; go_simp) rfl ?_
      refine .inl ⟨2, by decide, rfl, Off.below (s := w.heap.size) (d := 3) ?_ HB2.out (Nat.le_refl _)⟩
      repeat (first | refine Off.set ?_ (by constructor <;> simp <;> omega) | exact Off.refl)
    · rw [hv] at HPV
      have HV := hide hv
      clear hv
      go_wp2_with (go_at_call 94; go_loud (refine HPV.out.mono ?_; rintro e2 w2 ⟨rfl, hw2⟩; have hb2 : Below w1.heap.size w1 w2 := (by rw [hw2]; exact below_laid _); clear hw2; have HX2 := hide (HX1.out.keep hb2); have HP2 := hide (HP1.out.keep hb2); have HZ2 := hide (HZ1.out.keep hb2); have HB2 := hide (bthen HB1.out hb2); clear hb2 d0 d1 d2 d3 p0 p1 z0 z1 z2 z3 g0 g1 g2 g3; have d0 := HX2.out.c 0 _ rfl; have d1 := HX2.out.c 1 _ rfl; have d2 := HX2.out.c 2 _ rfl; have d3 := HX2.out.c 3 _ rfl; have p0 := HP2.out.c 0 _ rfl; have p1 := HP2.out.c 1 _ rfl; have z0 := HZ2.out.c 0 _ rfl; have z1 := HZ2.out.c 1 _ rfl; have z2 := HZ2.out.c 2 _ rfl; have z3 := HZ2.out.c 3 _ rfl; have g0 := HZ2.out.f 0; have g1 := HZ2.out.f 1; have g2 := HZ2.out.f 2; have g3 := HZ2.out.f 3))
      have HOWN := hide (own_any w2 ⟨next, beyond, points, mark⟩ A B a b (HTV.out w2 HB2.out) (by simp only [HM.out]; exact HML.out) (Nat.le_trans HASK.out.2.2.1 (by decide)))
      simp only [HM.out, HNN.out] at HOWN
      refine HOWN.out.mono ?_
      rintro e3 w3 ⟨A1, a1, B1, b1, rfl, hT, hb3⟩
      have hz2 := HZ2.out.lt
      have hz3 := hb3.size
      have HT := hide hT
      have HX3 := hide (HX2.out.keep hb3)
      have HP3 := hide (HP2.out.keep hb3)
      have HZ3 := hide (HZ2.out.keep hb3)
      have HB3 := hide (bthen HB2.out hb3)
      clear hb3 d0 d1 d2 d3 p0 p1 z0 z1 z2 z3 g0 g1 g2 g3
      clear hT
      simp only [HM.out, HNN.out]
      go_upto_region 7 with (fail)
      obtain ⟨W4, hW4⟩ : ∃ W4, w3.alloc (.cells #[.int .i64 next, .slice A1 m a1, .slice B1 n b1, .int .i64 mark] 33) = W4 := ⟨_, rfl⟩
      have H74 := hide (show Bl W4 w3.heap.size [.int .i64 next, .slice A1 m a1, .slice B1 n b1, .int .i64 mark] by rw [← hW4]; exact Bl.new w3 [.int .i64 next, .slice A1 m a1, .slice B1 n b1, .int .i64 mark] 33)
      have hbW : Below w3.heap.size w3 W4 := by rw [← hW4]; exact below_laid _
      have HX4 := hide (HX3.out.keep hbW)
      have HP4 := hide (HP3.out.keep hbW)
      have HZ4 := hide (HZ3.out.keep hbW)
      have HB4 := hide (bthen HB3.out hbW)
      have HT4 := hide (HT.out.keep (Kp.of_below hbW))
      rw [hW4]
      clear hW4 hbW HX1 HX2 HX3 HP1 HP2 HP3 HZ1 HZ2 HZ3 HT HOWN HPV
      have key1 := hide (show ∀ W5 W', Below W4.heap.size W4 W5 → Off w.heap.size 3 W5 W' → RetTE TrkOK w (.returned (.tuple #[.agg #[.int .i64 next, .slice A1 m a1, .slice B1 n b1, .int .i64 mark], .int .i64 0])) W' from fun W5 W' hb hO => by
        have hz4 := H74.out.lt
        have hz5 := hb.size
        have hO2 := hO.size
        have hT5 := HT4.out.keep (Kp.of_below hb)
        refine .inr ⟨⟨next, beyond, points, mark⟩, A1, a1, B1, b1, by simp only [HM.out, HNN.out], ⟨?_, ?_, hT5.n, hT5.m⟩, HASK.out, hO.below (bthen HB4.out hb) (Nat.le_refl _)⟩
        · exact (hT5.u.keep rd_In (hO.kp (fun k hk => .inr (by omega)))).more rd_In (fun k hk => ⟨by omega, by omega⟩)
        · exact (hT5.v.keep rd_Pn (hO.kp (fun k hk => .inr (by omega)))).more rd_Pn (fun k hk => ⟨by omega, by omega⟩))
      have d0 := HX4.out.c 0 _ rfl
      have d2 := HX4.out.c 2 _ rfl
      have d3 := HX4.out.c 3 _ rfl
      have p0 := HP4.out.c 0 _ rfl
      have p1 := HP4.out.c 1 _ rfl
      by_cases hmk : pt ≤ mark
      · have t1 : decide (pt ≤ mark) = true := decide_eq_true hmk
        have b0 := H74.out.c 0 _ rfl
        have b1' := H74.out.c 1 _ rfl
        have b2 := H74.out.c 2 _ rfl
        have b3 := H74.out.c 3 _ rfl
        have z0 := HZ4.out.c 0 _ rfl
        have z1 := HZ4.out.c 1 _ rfl
        have z2 := HZ4.out.c 2 _ rfl
        have z3 := HZ4.out.c 3 _ rfl
        have g0 := HZ4.out.f 0
        have g1 := HZ4.out.f 1
        have g2 := HZ4.out.f 2
        have g3 := HZ4.out.f 3
        go_wp2
        refine bodyPost_ret (v := .tuple #[.agg #[.int .i64 next, .slice A1 m a1, .slice B1 n b1, .int .i64 mark], .int .i64 0]) (by rw [results_cell_tmp rfl]; go_simp) rfl ?_
        exact key1.out W4 _ (Below.refl _ _) (by repeat (first | refine Off.set ?_ (by constructor <;> simp <;> omega) | exact Off.refl))
      · have t1 : decide (pt ≤ mark) = false := decide_eq_false hmk
        have HCN := hide (contf_any W4 points B b (w.heap.size + 1) (fun r => impB r ⟨ps, pt⟩) (HTV.out W4 HB4.out).v (hide fun w' r hb => addb1_any w' r ⟨ps, pt⟩ (w.heap.size + 1) (keep1 hb (HP4.out.c 0 _ rfl)) (keep1 hb (HP4.out.c 1 _ rfl))))
        rw [HNN.out] at HCN
        cases hcn : points.any (fun r => impB r ⟨ps, pt⟩)
        · rw [hcn] at HCN
          have HNI := hide hcn
          clear hcn
          have HFIL := hide (fun (w' : World) (hb : Below W4.heap.size W4 w') => filC_any w' points B b (w.heap.size + 1) (fun r => !impB ⟨ps, pt⟩ r) (HTV.out w' (bthen HB4.out hb)).v (Nat.le_trans HASK.out.2.2.1 (by decide)) (hide fun w'' r hb2 => addb2_any w'' r ⟨ps, pt⟩ (w.heap.size + 1) (keep1 hb2 (keep1 hb (HP4.out.c 0 _ rfl))) (keep1 hb2 (keep1 hb (HP4.out.c 1 _ rfl)))))
          rw [HNN.out] at HFIL
          obtain ⟨F, hF⟩ : ∃ F, points.filter (fun r => !impB ⟨ps, pt⟩ r) = F := ⟨_, rfl⟩
          have HFF := hide hF
          rw [hF] at HFIL
          clear hF
          go_upto_region 10 with (first
            | (go_at_call 118; go_loud (refine HCN.out.mono ?_; rintro e5 w5 ⟨rfl, hb5⟩; have HX5 := hide (HX4.out.keep hb5); have HB45 := hide hb5; clear hb5 d0 d2 d3 p0 p1; have d2 := HX5.out.c 2 _ rfl))
            | (go_at_call 116; go_loud (refine (HFIL.out w5 HB45.out).mono ?_; rintro e6 w6 ⟨v6, rfl, hg6, hb6⟩; obtain ⟨A6, c6, rfl⟩ := hg6.form; have HG6 := hide hg6; have HB46 := hide (bthen HB45.out hb6); have H76 := hide (H74.out.keep HB46.out); have f2 := H76.out.f 2; have b2 := H76.out.c 2 _ rfl; have hz6 := hb6.size; clear hg6 hb6 d2)))
          obtain ⟨W7, hW7⟩ : ∃ W7, w6.setCell ⟨w3.heap.size, 2, none⟩ (.slice A6 F.length c6) = W7 := ⟨_, rfl⟩
          have hl4 := H74.out.lt
          have hl5 := HB45.out.size
          have hne0 : w3.heap.size ≠ w.heap.size := by omega
          have hne1 : w3.heap.size ≠ w.heap.size + 1 := by omega
          have hne2 : w3.heap.size ≠ w.heap.size + 2 := by omega
          have H77 := hide (show Bl W7 w3.heap.size [.int .i64 next, .slice A1 m a1, .slice A6 F.length c6, .int .i64 mark] by rw [← hW7]; exact H76.out.put (k := 2) (by simp) _)
          have HX7 := hide (show Bl W7 w.heap.size [.int .i64 next, .slice A m a, .slice B n b, .int .i64 mark] by rw [← hW7]; exact (HX4.out.keep HB46.out).far (p := ⟨w3.heap.size, 2, none⟩) hne0 _)
          have HP7 := hide (show Bl W7 (w.heap.size + 1) [.int .i64 ps, .int .i64 pt] by rw [← hW7]; exact (HP4.out.keep HB46.out).far (p := ⟨w3.heap.size, 2, none⟩) hne1 _)
          have HZ7 := hide (show Bl W7 (w.heap.size + 2) [.int .i64 0, .slice none 0 0, .slice none 0 0, .int .i64 0] by rw [← hW7]; exact (HZ4.out.keep HB46.out).far (p := ⟨w3.heap.size, 2, none⟩) hne2 _)
          have HB7 := hide (show Below w.heap.size w W7 by rw [← hW7]; exact (bthen HB4.out HB46.out).setCell (p := ⟨w3.heap.size, 2, none⟩) (by show w.heap.size ≤ w3.heap.size; omega) _)
          have HU7 := hide (show Lst W7 (fun k => w2.heap.size ≤ k ∧ k < w3.heap.size) 1 RIn (.slice A1 beyond.length a1) beyond by rw [← hW7]; exact (HT4.out.keep (Kp.of_below HB46.out)).u.keep rd_In (Kp.set ⟨w3.heap.size, 2, none⟩ _ fun b hb => by show b ≠ w3.heap.size; omega))
          have HG7 := hide (show Gq W7 (fun b => w5.heap.size ≤ b) w5.heap.size 84 2 RPn (.slice A6 F.length c6) F by rw [← hW7]; exact Gq.set rd_Pn HG6.out (by omega) 2 _)
          have hFl : F.length ≤ 256 := by rw [← HFF.out]; exact Nat.le_trans (List.length_filter_le _ _) HASK.out.2.2.1
          have hs7 : W7.heap.size = w6.heap.size := by rw [← hW7]; simp [World.setCell]
          rw [hW7]
          clear hW7 f2 b2 H74 H76 HX4 HX5 HP4 HZ4 HT4 HG6 key1 HCN HFIL
          have x0 := HX7.out.c 0 _ rfl
          have p0 := HP7.out.c 0 _ rfl
          have p1 := HP7.out.c 1 _ rfl
          by_cases hle : ps ≤ next
          · have t2 : decide (ps ≤ next) = true := decide_eq_true hle
            have b0 := H77.out.c 0 _ rfl
            have b1' := H77.out.c 1 _ rfl
            have b2 := H77.out.c 2 _ rfl
            have b3 := H77.out.c 3 _ rfl
            have f3 := H77.out.f 3
            have z0 := HZ7.out.c 0 _ rfl
            have z1 := HZ7.out.c 1 _ rfl
            have z2 := HZ7.out.c 2 _ rfl
            have z3 := HZ7.out.c 3 _ rfl
            have g0 := HZ7.out.f 0
            have g1 := HZ7.out.f 1
            have g2 := HZ7.out.f 2
            have g3 := HZ7.out.f 3
            go_upto_region 12 with (fail)
            obtain ⟨W8, hW8⟩ : ∃ W8, W7.setCell ⟨w3.heap.size, 3, none⟩ (.int .i64 pt) = W8 := ⟨_, rfl⟩
            have H78 := hide (show Bl W8 w3.heap.size [.int .i64 next, .slice A1 m a1, .slice A6 F.length c6, .int .i64 pt] by rw [← hW8]; exact H77.out.put (k := 3) (by simp) _)
            have HZ8 := hide (show Bl W8 (w.heap.size + 2) [.int .i64 0, .slice none 0 0, .slice none 0 0, .int .i64 0] by rw [← hW8]; exact HZ7.out.far (p := ⟨w3.heap.size, 3, none⟩) hne2 _)
            have HB8 := hide (show Below w.heap.size w W8 by rw [← hW8]; exact HB7.out.setCell (p := ⟨w3.heap.size, 3, none⟩) (by show w.heap.size ≤ w3.heap.size; omega) _)
            have HU8 := hide (show Lst W8 (fun k => w2.heap.size ≤ k ∧ k < w3.heap.size) 1 RIn (.slice A1 beyond.length a1) beyond by rw [← hW8]; exact HU7.out.keep rd_In (Kp.set ⟨w3.heap.size, 3, none⟩ _ fun b hb => by show b ≠ w3.heap.size; omega))
            have HV8 := hide (show Lst W8 (fun b => w5.heap.size ≤ b ∧ b < W7.heap.size) 2 RPn (.slice A6 F.length c6) F by rw [← hW8]; exact (HG7.out.lst rd_Pn (by decide) (by unfold maxLen; omega)).keep rd_Pn (Kp.set ⟨w3.heap.size, 3, none⟩ _ fun b hb => by show b ≠ w3.heap.size; omega))
            have hs8 : W8.heap.size = W7.heap.size := by rw [← hW8]; simp [World.setCell]
            rw [hW8]
            clear hW8 b0 b1' b2 b3 f3 z0 z1 z2 z3 g0 g1 g2 g3 x0 p0 p1
            have b0 := H78.out.c 0 _ rfl
            have b1' := H78.out.c 1 _ rfl
            have b2 := H78.out.c 2 _ rfl
            have b3 := H78.out.c 3 _ rfl
            have z0 := HZ8.out.c 0 _ rfl
            have z1 := HZ8.out.c 1 _ rfl
            have z2 := HZ8.out.c 2 _ rfl
            have z3 := HZ8.out.c 3 _ rfl
            have g0 := HZ8.out.f 0
            have g1 := HZ8.out.f 1
            have g2 := HZ8.out.f 2
            have g3 := HZ8.out.f 3
            go_wp2
            refine bodyPost_ret (v := .tuple #[.agg #[.int .i64 next, .slice A1 m a1, .slice A6 F.length c6, .int .i64 pt], .int .i64 0]) (by rw [results_cell_tmp rfl]; go_simp) rfl ?_
            have key : ∀ W', Off w.heap.size 3 W8 W' → RetTE TrkOK w (.returned (.tuple #[.agg #[.int .i64 next, .slice A1 m a1, .slice A6 F.length c6, .int .i64 pt], .int .i64 0])) W' := fun W' hO => by
              have hok := addM_ok (p := ⟨ps, pt⟩) HASK.out HV.out hle
              simp only [HFF.out] at hok
              have hO2 := hO.size
              refine .inr ⟨⟨next, beyond, F, pt⟩, A1, a1, A6, c6, by simp only [HM.out], ⟨?_, ?_, (trk_nums HASK.out).1, HPI.out.2⟩, hok, hO.below HB8.out (Nat.le_refl _)⟩
              · exact (HU8.out.keep rd_In (hO.kp (fun k hk => .inr (by omega)))).more rd_In (fun k hk => ⟨by omega, by omega⟩)
              · exact (HV8.out.keep rd_Pn (hO.kp (fun k hk => .inr (by omega)))).more rd_Pn (fun k hk => ⟨by omega, by omega⟩)
            exact key _ (by repeat (first | refine Off.set ?_ (by constructor <;> simp <;> omega) | exact Off.refl))
          · have t2 : decide (ps ≤ next) = false := decide_eq_false hle
            have HFO := hide (addF_ok (p := ⟨ps, pt⟩) HASK.out HNI.out)
            simp only [HFF.out] at HFO
            have HBS := hide (bsearch_any W7 F ⟨ps, pt⟩ A6 c6 ((HG7.out.lst rd_Pn (by decide) (by unfold maxLen; omega)).more rd_Pn (fun b hb => hb.2)) (by omega) (upP_pair HFO.out.1) (fun r hr => by
              have h1 := (upP_all HFO.out.1 r hr).1
              have h2 := HV.out
              rw [vldB_iff] at h1 h2
              unfold inI
              show -9223372036854775808 ≤ r.s - ps ∧ r.s - ps ≤ 9223372036854775807
              omega))
            have b2 := H77.out.c 2 _ rfl
            go_upto_region 14 with (go_at_call 122; go_loud (refine HBS.out.mono ?_; rintro e8 w8 ⟨i, ti, hi, rfl, hlo, hhi, hb8⟩; have HLO := hide hlo; have HHI := hide hhi; have HB78 := hide hb8; clear hlo hhi hb8 b2 x0 p0 p1))
            have hb78 := HB78.out
            have hz8 := hb78.size
            have HG8 := hide (HG7.out.keep rd_Pn hb78)
            have hlow := HG8.out.low
            have H78 := hide (H77.out.keep hb78)
            have HP8 := hide (HP7.out.keep hb78)
            have HZ8 := hide (HZ7.out.keep hb78)
            have HB8 := hide (bthen HB7.out hb78)
            have HU8 := hide (HU7.out.keep rd_In (Kp.of_below hb78))
            obtain ⟨xs, hown, h1x, hel⟩ := gq_raw one_Pn (by decide) (HG8.out.keep rd_Pn (below_laid (.cells #[.int .i64 ps, .int .i64 pt] 84)))
            have HINS := hide (pins_any (.slice A6 F.length c6) F.length i w8.heap.size w5.heap.size xs [.int .i64 ps, .int .i64 pt] (w8.alloc (.cells #[.int .i64 ps, .int .i64 pt] 84)) hown hi (by omega) rfl (heap_alloc_new w8 _) (fun e => by have := (hlow _ e).2; omega) h1x (by simp [Value.oneCell']) (by simp; omega))
            have HEL := hide hel
            have HXL := hide hown.1
            clear hown h1x hel hb78
            have b2 := H78.out.c 2 _ rfl
            have p0 := HP8.out.c 0 _ rfl
            have p1 := HP8.out.c 1 _ rfl
            go_upto_region 15 with (go_at_call 124; go_loud (refine HINS.out.mono ?_; rintro e9 w9 ⟨v9, rfl, hown9, hgr9⟩; obtain ⟨A9, c9, rfl⟩ := own_form hown9; have H79 := hide ((H78.out.laid (.cells #[.int .i64 ps, .int .i64 pt] 84)).grown hgr9 (fun e => by have := (hlow _ e).1; omega)); have HOW := hide hown9; have HGR := hide hgr9; clear hown9 hgr9 b2 p0 p1; have f2 := H79.out.f 2; have b2 := H79.out.c 2 _ rfl))
            obtain ⟨W10, hW10⟩ : ∃ W10, w9.setCell ⟨w3.heap.size, 2, none⟩ (.slice A9 (F.length + 1) c9) = W10 := ⟨_, rfl⟩
            have hz9 := HGR.out.size
            simp only [World.size_alloc] at hz9
            have kpG : ∀ Z : Nat → Prop, (∀ b, Z b → b < w5.heap.size) → Kp Z (w8.alloc (.cells #[.int .i64 ps, .int .i64 pt] 84)) w9 := fun Z hZ => ⟨HGR.out.size, fun b hb hlt => HGR.out.block b hlt (fun e => by have := (hlow _ e.symm).1; have := hZ b hb; omega)⟩
            have H710 := hide (show Bl W10 w3.heap.size [.int .i64 next, .slice A1 m a1, .slice A9 (F.length + 1) c9, .int .i64 mark] by rw [← hW10]; exact H79.out.put (k := 2) (by simp) _)
            have HZ10 := hide (show Bl W10 (w.heap.size + 2) [.int .i64 0, .slice none 0 0, .slice none 0 0, .int .i64 0] by rw [← hW10]; exact ((HZ8.out.laid _).grown HGR.out (fun e => by have := (hlow _ e).1; omega)).far (p := ⟨w3.heap.size, 2, none⟩) hne2 _)
            have HB10 := hide (show Below w.heap.size w W10 by rw [← hW10]; exact ((HB8.out.alloc HB8.out.size _).grown HGR.out (by have := HB8.out.size; simp; omega) (fun k hk => by have := (hlow k hk).1; omega)).setCell (p := ⟨w3.heap.size, 2, none⟩) (by show w.heap.size ≤ w3.heap.size; omega) _)
            have HU10 := hide (show Lst W10 (fun k => w2.heap.size ≤ k ∧ k < w3.heap.size) 1 RIn (.slice A1 beyond.length a1) beyond by rw [← hW10]; exact ((HU8.out.keep rd_In (Kp.alloc _)).keep rd_In (kpG _ (fun b hb => by omega))).keep rd_In (Kp.set ⟨w3.heap.size, 2, none⟩ _ fun b hb => by show b ≠ w3.heap.size; omega))
            have hLl : (F.take i ++ ⟨ps, pt⟩ :: F.drop i).length = F.length + 1 := by simp only [List.length_append, List.length_cons, List.length_take, List.length_drop]; omega
            have HV10 := hide (show Lst W10 (fun b => w5.heap.size ≤ b ∧ b < w9.heap.size) 2 RPn (.slice A9 (F.length + 1) c9) (F.take i ++ ⟨ps, pt⟩ :: F.drop i) by
              rw [← hW10]
              refine Lst.keep rd_Pn (Kp.set ⟨w3.heap.size, 2, none⟩ _ fun b hb => by show b ≠ w3.heap.size; omega) ?_
              refine row_lst (by decide) hLl.symm (by rw [hLl]; unfold maxLen; omega) HOW.out ?_ (fun k hk => HOW.out.lt k hk)
              exact ins_rows (R := RPn w9 (fun b => w5.heap.size ≤ b ∧ b < w9.heap.size)) (by decide) HXL.out hi HEL.out rfl ⟨rfl, HPI.out⟩)
            have hs10 : W10.heap.size = w9.heap.size := by rw [← hW10]; simp [World.setCell]
            rw [hW10]
            clear hW10 b2 f2 H77 H78 H79 HX7 HP7 HP8 HZ7 HZ8 HB7 HU7 HU8 HG7 HG8 HEL HXL HOW HGR HINS HBS kpG
            have b0 := H710.out.c 0 _ rfl
            have b1' := H710.out.c 1 _ rfl
            have b2 := H710.out.c 2 _ rfl
            have b3 := H710.out.c 3 _ rfl
            have z0 := HZ10.out.c 0 _ rfl
            have z1 := HZ10.out.c 1 _ rfl
            have z2 := HZ10.out.c 2 _ rfl
            have z3 := HZ10.out.c 3 _ rfl
            have g0 := HZ10.out.f 0
            have g1 := HZ10.out.f 1
            have g2 := HZ10.out.f 2
            have g3 := HZ10.out.f 3
            by_cases h256 : F.length + 1 ≤ 256
            · have t3 : decide ((256 : Int) < (F.length : Int) + 1) = false := decide_eq_false (by omega)
              go_wp2
              refine bodyPost_ret (v := .tuple #[.agg #[.int .i64 next, .slice A1 m a1, .slice A9 (F.length + 1) c9, .int .i64 mark], .int .i64 0]) (by rw [results_cell_tmp rfl]; go_simp) rfl ?_
              have key : ∀ W', Off w.heap.size 3 W10 W' → RetTE TrkOK w (.returned (.tuple #[.agg #[.int .i64 next, .slice A1 m a1, .slice A9 (F.length + 1) c9, .int .i64 mark], .int .i64 0])) W' := fun W' hO => by
                have hok : TrkOK ⟨next, beyond, F.take i ++ ⟨ps, pt⟩ :: F.drop i, mark⟩ := ⟨HASK.out.1, HASK.out.2.1, by rw [hLl]; exact h256, upP_put (p := ⟨ps, pt⟩) HV.out i HFO.out.1 (by show next < ps; omega) (by show mark < pt; omega) hi (fun r hr => ⟨HLO.out r hr, (HFO.out.2 r (List.mem_of_mem_take hr)).1 (HLO.out r hr)⟩) (fun r hr => (HFO.out.2 r (List.mem_of_mem_drop hr)).2 (HHI.out r hr))⟩
                have hO2 := hO.size
                refine .inr ⟨⟨next, beyond, F.take i ++ ⟨ps, pt⟩ :: F.drop i, mark⟩, A1, a1, A9, c9, by simp only [HM.out, hLl], ⟨?_, ?_, (trk_nums HASK.out).1, (trk_nums HASK.out).2⟩, hok, hO.below HB10.out (Nat.le_refl _)⟩
                · exact (HU10.out.keep rd_In (hO.kp (fun k hk => .inr (by omega)))).more rd_In (fun k hk => ⟨by omega, by omega⟩)
                · rw [hLl]; exact (HV10.out.keep rd_Pn (hO.kp (fun k hk => .inr (by omega)))).more rd_Pn (fun k hk => ⟨by omega, by omega⟩)
              exact key _ (by repeat (first | refine Off.set ?_ (by constructor <;> simp <;> omega) | exact Off.refl))
            · have t3 : decide ((256 : Int) < (F.length : Int) + 1) = true := decide_eq_true (by omega)
              go_wp2
              refine bodyPost_ret (v := .tuple #[zeT, .int .i64 5]) (by rw [results_cell_tmp rfl]; unfold zeT; go_simp) rfl ?_
              refine .inl ⟨5, by decide, rfl, Off.below (s := w.heap.size) (d := 3) ?_ HB10.out (Nat.le_refl _)⟩
              repeat (first | refine Off.set ?_ (by constructor <;> simp <;> omega) | exact Off.refl)
        · rw [hcn] at HCN
          clear hcn
          go_wp2_with (go_at_call 118; go_loud (refine HCN.out.mono ?_; rintro e5 w5 ⟨rfl, hb5⟩; have H75 := hide (H74.out.keep hb5); have HZ5 := hide (HZ4.out.keep hb5); have HB5 := hide hb5; clear hb5 d0 d2 d3 p0 p1; have b0 := H75.out.c 0 _ rfl; have b1' := H75.out.c 1 _ rfl; have b2 := H75.out.c 2 _ rfl; have b3 := H75.out.c 3 _ rfl; have z0 := HZ5.out.c 0 _ rfl; have z1 := HZ5.out.c 1 _ rfl; have z2 := HZ5.out.c 2 _ rfl; have z3 := HZ5.out.c 3 _ rfl; have g0 := HZ5.out.f 0; have g1 := HZ5.out.f 1; have g2 := HZ5.out.f 2; have g3 := HZ5.out.f 3))
          refine bodyPost_ret (v := .tuple #[.agg #[.int .i64 next, .slice A1 m a1, .slice B1 n b1, .int .i64 mark], .int .i64 0]) (by rw [results_cell_tmp rfl]; go_simp) rfl ?_
          exact key1.out _ _ HB5.out (by repeat (first | refine Off.set ?_ (by constructor <;> simp <;> omega) | exact Off.refl))
  · refine bodyPost_ret (v := .tuple #[zeT, .int .i64 e]) (by rw [results_cell_tmp rfl]; unfold zeT; go_simp) rfl ?_
    refine .inl ⟨e, he, rfl, Off.below (s := w.heap.size) (d := 3) ?_ HB1.out (Nat.le_refl _)⟩
    repeat (first | refine Off.set ?_ (by constructor <;> simp <;> omega) | exact Off.refl)
end
end Go.Proofs.YtppaiihcaajkaaaGreat

namespace Go.Proofs.YtppaiihcaajkaaaGreat
open Go.RowKit
set_option linter.unusedVariables false
set_option linter.unusedSimpArgs false
theorem RetTE.weak {P : Trk → Prop} {w w' : World} {e : Ending} (h : RetTE P w e w') : ∃ (i j n : Int) (A B : Option Addr) (la a lb b : Nat), e = .returned (.tuple #[.agg #[.int .i64 i, .slice A la a, .slice B lb b, .int .i64 j], .int .i64 n]) ∧ Below w.heap.size w w' := by
  rcases h with ⟨n, -, rfl, hb⟩ | ⟨x, A, a, B, b, rfl, -, -, hb⟩
  · exact ⟨0, 0, n, none, none, 0, 0, 0, 0, rfl, hb⟩
  · exact ⟨_, _, 0, A, B, _, a, _, b, rfl, hb⟩
section
variable (w : World)
set_option maxHeartbeats 4000000 in
theorem ranged_any (n m : Int) : Calls Tryz.prog 104 #[.int .i64 n, .int .i64 m] w (RetS (.bool (decide (0 ≤ n) && decide (n ≤ m))) w w) := by
  cases t1 : decide (0 ≤ n) <;> cases t2 : decide (n ≤ m)
  all_goals
    go_enter Tryz.func104, Tryz.ntmps104
    go_wp2
    go_ret
    exact ⟨rfl, rfl⟩
/-- An event's message that passes. -/
def PassE (x : Msg) : Prop := x.s = 0 ∧ x.q = 0 ∧ x.t = 0 ∧ (0 ≤ x.e.a ∧ x.e.a ≤ 7) ∧ (0 ≤ x.e.b ∧ x.e.b ≤ 1099511627776) ∧ (0 ≤ x.e.d ∧ x.e.d ≤ 1099511627776)
set_option maxRecDepth 100000 in
set_option maxHeartbeats 16000000 in
theorem checkev_any (x : Msg) (A : Option Addr) (c : Nat) : Calls Tryz.prog 95 #[.agg #[.int .i64 x.k, .int .i64 x.e.a, .int .i64 x.e.b, .int .i64 x.e.c, .int .i64 x.e.d, .slice A x.e.vs.length c, .int .i64 x.s, .int .i64 x.q, .int .i64 x.t]] w (RetNP (fun n => PassE x → n = 0) w) := by
  obtain ⟨P, hP⟩ : ∃ P : Int → Prop, P = (fun n => PassE x → n = 0) := ⟨_, rfl⟩
  rw [← hP]
  have HP := hide hP
  clear hP
  obtain ⟨k, ⟨a, b, c', d, vs⟩, s, q, t⟩ := x
  simp only [PassE] at HP ⊢
  have HW := hide (fun w' n m => ranged_any w' n m)
  by_cases h : s = 0 ∧ q = 0 ∧ t = 0 ∧ (0 ≤ a ∧ a ≤ 7) ∧ (0 ≤ b ∧ b ≤ 1099511627776) ∧ (0 ≤ d ∧ d ≤ 1099511627776)
  · have HP0 := hide (show P 0 by rw [HP.out]; exact fun _ => rfl)
    clear HP
    obtain ⟨rfl, rfl, rfl, ⟨h1, h2⟩, ⟨h3, h4⟩, h5, h6⟩ := h
    have r1 := hide (show (decide (0 ≤ a) && decide (a ≤ 7)) = true by simp; omega)
    have r2 := hide (show (decide (0 ≤ b) && decide (b ≤ 1099511627776)) = true by simp; omega)
    have r3 := hide (show (decide (0 ≤ d) && decide (d ≤ 1099511627776)) = true by simp; omega)
    have W1 := hide (fun w' => (by have := HW.out w' a 7; rw [r1.out] at this; exact this : Calls Tryz.prog 104 #[.int .i64 a, .int .i64 7] w' (RetS (.bool true) w' w')))
    have W2 := hide (fun w' => (by have := HW.out w' b 1099511627776; rw [r2.out] at this; exact this : Calls Tryz.prog 104 #[.int .i64 b, .int .i64 1099511627776] w' (RetS (.bool true) w' w')))
    have W3 := hide (fun w' => (by have := HW.out w' d 1099511627776; rw [r3.out] at this; exact this : Calls Tryz.prog 104 #[.int .i64 d, .int .i64 1099511627776] w' (RetS (.bool true) w' w')))
    clear h1 h2 h3 h4 h5 h6
    go_enter Tryz.func95, Tryz.ntmps95
    go_wp2_with (go_at_call 104; (first | with_reducible refine (W1.out _).mono ?_ | with_reducible refine (W2.out _).mono ?_ | with_reducible refine (W3.out _).mono ?_); rintro e1 w1 ⟨rfl, rfl⟩)
    all_goals go_ret
    all_goals exact ⟨_, rfl, HP0.out, (below_laid _).alloc (by simp) _⟩
  · have HPA := hide (show ∀ n, P n by intro n; rw [HP.out]; exact fun hn => absurd hn h)
    clear HP h
    go_enter Tryz.func95, Tryz.ntmps95
    go_wp2_with (go_at_call 104; refine (HW.out _ _ _).mono ?_; rintro e1 w1 ⟨rfl, rfl⟩; generalize (_ && _ : Bool) = bb)
    all_goals go_ret
    all_goals refine ⟨_, rfl, HPA.out _, ?_⟩
    all_goals exact ((below_laid _).alloc (by simp) _)
set_option maxHeartbeats 4000000 in
theorem sbegin_any : Calls Tryz.prog 28 #[] w (Ret (.agg #[.int .i64 0, .slice none 0 0, .slice none 0 0, .int .i64 (-1)]) w) := by
  go_enter Tryz.func28, Tryz.ntmps28
  go_wp2
  refine bodyPost_ret (v := .agg #[.int .i64 0, .slice none 0 0, .slice none 0 0, .int .i64 (-1)]) (by rw [results_c rfl]; go_simp) rfl ?_
  exact ⟨rfl, below_laid _⟩
def trk0 : Trk := ⟨0, [], [], -1⟩
theorem trk0_v : TrV w (· < w.heap.size) none 0 none 0 trk0 := ⟨Lst.nil, Lst.nil, by unfold inI trk0; decide, by unfold inI trk0; decide⟩
end
end Go.Proofs.YtppaiihcaajkaaaGreat
