/- Report of the program, where it succeeds. -/
import Derived.Test.YtihbonndinnohaaQRep
namespace Go.Proofs.Ytihbonndinnohaa
open Go.RowKit
set_option linter.unusedVariables false
set_option linter.unusedSimpArgs false
section
variable (w : World) (c : Cq)
set_option maxRecDepth 100000 in
set_option maxHeartbeats 8000000 in
theorem rep_good (Y : Nat → Prop) (v : Value) (num : Int) (k : Nat) (o : Oq) (xs : List Value) (hz' : CoVz w Y v c) (hY : ∀ b, Y b → b < w.heap.size) (ho : ROq w (· < w.heap.size) xs o) (hc : chkQ c = 0) (i : Nat) (hfi : findQ num c.atts = i) (hi : i < c.atts.length) (hk : k < (attQ c i).hv.length) (hm : o.marks.length ≤ 1000) (he : o.engs.length ≤ 1000) (hh : (attQ c i).hv.getD k false = false) (hb4 : 0 < i → (attQ c (i - 1)).hv.getD k true = true) : Calls Try.prog 18 #[v, .int .i64 num, .int .i64 (k : Int), .agg xs.toArray] w (RetC1z w Y (repC c num (k : Int) o) (repE c num (k : Int))) := by
  have hE0 := repE_found (wk := (k : Int)) hc hfi hi
  rw [if_neg (by omega), Int.toNat_natCast] at hE0
  have hE : repE c num (k : Int) = 0 := by rw [hE0, if_neg (by rw [hh]; decide), if_neg (by rintro ⟨h0, h1⟩; rw [hb4 h0] at h1; cases h1)]
  have HC : Hid (repC c num (k : Int) o = ⟨c.next, c.atts.set i (repA (attQ c i) k o), c.dur⟩) := hide (by unfold repC; rw [if_pos hE, hfi, Int.toNat_natCast])
  have HEA := hide (findA_at hfi hi)
  have HI := hide hi
  have HK9 := hide hk
  rw [hE]
  obtain ⟨n3, hn3⟩ : ∃ n, (attQ c i).hv.length = n := ⟨_, rfl⟩
  have HR3 := hide hn3
  rw [hn3] at hk
  have hn8 : n3 ≤ 8 := by have := (err0 ((chk0 hc).2.2.2.2.2 i hi)).2.2.2.2.2.2.1; omega
  have t1 : decide ((k : Int) < 0) = false := decide_eq_false (by omega)
  have t2 : decide ((n3 : Int) ≤ (k : Int)) = false := decide_eq_false (by omega)
  have t3 : (0 : Int) ≤ (k : Int) := by omega
  have t4 : (k : Int) < (n3 : Int) := by omega
  have HH := hide hh
  have HB4 := hide hb4
  have HK1 : Hid (0 < i → k < (attQ c (i - 1)).hv.length) := hide (fun h0 => by have e1 := err0 ((chk0 hc).2.2.2.2.2 i hi); have e2 := err0 ((chk0 hc).2.2.2.2.2 (i - 1) (by omega)); omega)
  clear hh hb4
  clear hE hE0 hfi hi hn3
  obtain ⟨u, rfl, hlz, hq1, hq2⟩ := id hz'
  have h := hz'.cov hY
  have hl : Lq w 4 RAq u c.atts := hlz.more rd_Aq hY
  have HYY := hide hY
  clear hz' hY
  obtain ⟨A, cap, rfl⟩ := hl.form
  obtain ⟨vm, ve, rfl, ho1, ho2, ho3, ho4⟩ := ho
  obtain ⟨M, cm, rfl⟩ := ho1.form
  obtain ⟨D, cd, rfl⟩ := ho2.form
  have HB := hide (show Below w.heap.size w (((w.alloc (.cells #[.int .i64 c.next, .slice A c.atts.length cap, .int .i64 c.dur] 24)).alloc (.cells #[.slice M o.marks.length cm, .slice D o.engs.length cd] 42)).alloc (.cells #[.int .i64 0, .slice none 0 0, .int .i64 0] 24)) from bA_alloc (bA_alloc (below_laid _) _) _)
  have HX := hide (((Bl.new w [.int .i64 c.next, .slice A c.atts.length cap, .int .i64 c.dur] 24).laid (.cells #[.slice M o.marks.length cm, .slice D o.engs.length cd] 42)).laid (.cells #[.int .i64 0, .slice none 0 0, .int .i64 0] 24))
  have HO := hide (show Bl (((w.alloc (.cells #[.int .i64 c.next, .slice A c.atts.length cap, .int .i64 c.dur] 24)).alloc (.cells #[.slice M o.marks.length cm, .slice D o.engs.length cd] 42)).alloc (.cells #[.int .i64 0, .slice none 0 0, .int .i64 0] 24)) (w.heap.size + 1) [.slice M o.marks.length cm, .slice D o.engs.length cd] by have := (Bl.new (w.alloc (.cells #[.int .i64 c.next, .slice A c.atts.length cap, .int .i64 c.dur] 24)) [.slice M o.marks.length cm, .slice D o.engs.length cd] 42).laid (.cells #[.int .i64 0, .slice none 0 0, .int .i64 0] 24); simpa using this)
  have HY := hide (show Bl (((w.alloc (.cells #[.int .i64 c.next, .slice A c.atts.length cap, .int .i64 c.dur] 24)).alloc (.cells #[.slice M o.marks.length cm, .slice D o.engs.length cd] 42)).alloc (.cells #[.int .i64 0, .slice none 0 0, .int .i64 0] 24)) (w.heap.size + 1 + 1) [.int .i64 0, .slice none 0 0, .int .i64 0] by have := Bl.new ((w.alloc (.cells #[.int .i64 c.next, .slice A c.atts.length cap, .int .i64 c.dur] 24)).alloc (.cells #[.slice M o.marks.length cm, .slice D o.engs.length cd] 42)) [.int .i64 0, .slice none 0 0, .int .i64 0] 24; simpa using this)
  have HK := hide (chk_any (((w.alloc (.cells #[.int .i64 c.next, .slice A c.atts.length cap, .int .i64 c.dur] 24)).alloc (.cells #[.slice M o.marks.length cm, .slice D o.engs.length cd] 42)).alloc (.cells #[.int .i64 0, .slice none 0 0, .int .i64 0] 24)) _ c (((h.laid _).laid _).laid _))
  obtain ⟨cm1, raw1, len1, el1⟩ := lst_raw one_Iq ho1
  obtain ⟨cm2, raw2, len2, el2⟩ := lst_raw one_Kq ho2
  have HC1 := hide (fun (w' : World) (hb : Below w.heap.size w w') => show Calls Try.prog 41 #[.slice M o.marks.length cm] w' (RetCp w' 3 1 cm1) by
    have := copied_int M cm cm1 w' (· < w'.heap.size) (by rw [len1]; exact Lq.grow rd_Wq raw1 hb) (by omega)
    rwa [len1] at this)
  have HC2 := hide (fun (w' : World) (hb : Below w.heap.size w w') => show Calls Try.prog 42 #[.slice D o.engs.length cd] w' (RetCp w' 102 8 cm2) by
    have := copied_keyed D cd cm2 w' (· < w'.heap.size) (by rw [len2]; exact Lq.grow rd_Wq raw2 hb) (by omega)
    rwa [len2] at this)
  have HCI1 := hide (And.intro len1 el1)
  have HCI2 := hide (And.intro len2 el2)
  have HMM := hide (And.intro hm he)
  clear raw1 raw2 len1 len2 el1 el2 hm he
  have hcn : c.atts.length ≤ 256 := (chk0 hc).2.2.2.2.1
  have HW := hide (fun (w' : World) (hb : Below w.heap.size w w') => with_any w' Y c A cap (fun b h => Nat.lt_of_lt_of_le (HYY.out b h) hb.size) (Lst.keep rd_Aq (Kp.of_below hb) hlz) hcn (small0 hc))
  have HCH := hide hc
  have HQ := hide (And.intro hq1 hq2)
  have HOO := hide (And.intro ho1 (And.intro ho2 (And.intro ho3 ho4)))
  rw [hc] at HK
  obtain ⟨m, hm⟩ : ∃ m, c.atts.length = m := ⟨_, rfl⟩
  rw [hm] at HB HX HO HY HK HW hcn ⊢
  have HM := hide hm
  clear hc h hl hlz hq1 hq2 ho1 ho2 ho3 ho4 hm
  go_enter Try.func18, Try.ntmps18
  go_wp2_with fail
  refine HK.out.mono ?_
  rintro e w1 ⟨rfl, hb⟩
  replace HX := hide (HX.out.keep hb)
  replace HO := hide (HO.out.keep hb)
  replace HY := hide (HY.out.keep hb)
  replace HB := hide (bthen HB.out hb)
  clear hb
  have HW1 := hide (HW.out w1 HB.out)
  obtain ⟨x, -, zx⟩ := HX.out
  obtain ⟨y, v, zy⟩ := HY.out
  have x0 := x 0 _ rfl
  have x1 := x 1 _ rfl
  have x2 := x 2 _ rfl
  have y0 := y 0 _ rfl
  have y1 := y 1 _ rfl
  have y2 := y 2 _ rfl
  have v0 := v 0
  have v1 := v 1
  have v2 := v 2
  clear x y v zx
  clear HK HW
  go_wp2_with fail
  refine HW1.out.mono ?_
  rintro e w3 ⟨V, xs, s, rfl, hW⟩
  have HWV := hide hW
  have hb := hW.2.2.2.2.2
  have hLw := HB.out.size
  have hw1y := HY.out.lt
  have hw13 := hb.size
  have hVl := hW.lst (Z := (· < w3.heap.size)) (fun b hb => by have := HYY.out b hb; omega) (fun b _ h => h) (by have := HM.out; unfold maxLen; omega) (fun a ha => by have := small0 HCH.out a ha; unfold maxLen; omega)
  obtain ⟨B, q, hV⟩ := hVl.form
  rw [HM.out] at hV
  subst hV
  obtain ⟨g, hBg⟩ : ∃ g, 0 < m → B = some ⟨g, 0, none⟩ := by
    rcases Nat.eq_zero_or_pos m with h0 | h0
    · exact ⟨0, fun h => by omega⟩
    · obtain ⟨g, cV, e, -⟩ := own_some hW.1 (by have := HM.out; omega)
      injection e with e
      exact ⟨g, fun _ => e⟩
  clear x0 x1 x2 y0 y1 y2 v0 v1 v2 zy
  replace HX := hide (HX.out.keep hb)
  replace HO := hide (HO.out.keep hb)
  replace HY := hide (HY.out.keep hb)
  replace HB := hide (bthen HB.out hb)
  clear hb
  have HVL := hide hVl
  have HFI := hide (fun (w' : World) (hb : Below w3.heap.size w3 w') => find_any w' c B g 0 q num (by rw [HM.out]; exact hBg) (by rw [HM.out]; exact Lq.grow rd_Aq hVl hb) (by rw [HM.out]; exact hcn))
  rw [HM.out] at HFI
  have HBG := hide hBg
  clear hW hVl hBg HW1
  obtain ⟨x, -, zx⟩ := HX.out
  obtain ⟨y, v, zy⟩ := HY.out
  have x0 := x 0 _ rfl
  have x1 := x 1 _ rfl
  have x2 := x 2 _ rfl
  have y0 := y 0 _ rfl
  have y1 := y 1 _ rfl
  have y2 := y 2 _ rfl
  have v0 := v 0
  have v1 := v 1
  have v2 := v 2
  clear x y v zx
  have HZ := hide (Bl.new w3 [.int .i64 c.next, .slice B m q, .int .i64 c.dur] 24)
  have HF4 := hide (HFI.out (w3.alloc (.cells #[.int .i64 c.next, .slice B m q, .int .i64 c.dur] 24)) (below_laid _))
  have H34 := hide (below_laid (w := w3) (.cells #[.int .i64 c.next, .slice B m q, .int .i64 c.dur] 24))
  have hlt3 := zy
  clear HFI
  have hm0 : 0 < m := by have := HI.out; have := HM.out; omega
  obtain rfl := HBG.out hm0
  obtain ⟨g', q', go, c2, gt, c3, yy1, yy2, hV, r2, r3, fo, ft, kt, ko1, ko2, gg1, gg2, gg3, gg4, gg5, gg6, gne1, gne2, gne3, hfin⟩ := rep_mem HWV.out HCH.out (fun b h => Nat.lt_of_lt_of_le (HYY.out b h) hLw) HI.out HK9.out
  rw [HM.out] at hV
  injection hV with hV _ hV2
  injection hV with hV
  injection hV with hV
  subst hV hV2
  rw [HR3.out] at r3
  rw [HH.out] at kt
  obtain ⟨n2, hn2⟩ : ∃ n, (attQ c i).ops.length = n := ⟨_, rfl⟩
  have hn28 : n2 = n3 := by have e := (err0 ((chk0 HCH.out).2.2.2.2.2 i HI.out)).2.2.2.2.2.2.2.2; rw [hn2, HR3.out] at e; exact e
  rw [hn2] at r2
  subst hn28
  clear hn2 hm0
  rcases Nat.eq_zero_or_pos i with h0 | h0
  · rw [HEA.out.1, HEA.out.2.1 h0] at HF4
    clear h0
    go_wp2_with fail
    refine HF4.out.mono ?_
    rintro e w5 ⟨rfl, hb45⟩
    have hb := bthen H34.out hb45
    clear x0 x1 x2 y0 y1 y2 v0 v1 v2 zy
    replace HX := hide (HX.out.keep hb)
    replace HO := hide (HO.out.keep hb)
    replace HY := hide (HY.out.keep hb)
    replace HB := hide (bthen HB.out hb)
    clear hb
    replace H34 := hide (bthen H34.out hb45)
    replace HZ := hide (HZ.out.keep hb45)
    have hlt5 := H34.out.size
    clear hb45 HF4
    obtain ⟨x, -, zx⟩ := HX.out
    obtain ⟨y, v, zy⟩ := HY.out
    have x0 := x 0 _ rfl
    have x1 := x 1 _ rfl
    have x2 := x 2 _ rfl
    have y0 := y 0 _ rfl
    have y1 := y 1 _ rfl
    have y2 := y 2 _ rfl
    have v0 := v 0
    have v1 := v 1
    have v2 := v 2
    clear x y v zx
    replace r2 := keep1 H34.out r2
    replace r3 := keep1 H34.out r3
    replace kt := keep1 H34.out kt
    replace ko1 := keep1 H34.out ko1
    replace ko2 := keep1 H34.out ko2
    replace fo := fun j => ((bcell H34.out).2 go j gg5).trans (fo j)
    replace ft := fun j => ((bcell H34.out).2 gt j gg6).trans (ft j)
    have ft1 := ft k
    go_upto_region 15 with (fail)
    obtain ⟨w6, hw6⟩ : ∃ w6, w5.setCell ⟨gt, k, none⟩ (.bool true) = w6 := ⟨_, rfl⟩
    have hz6 : w6.heap.size = w5.heap.size := by rw [← hw6]; simp [World.setCell]
    have hmy : w.heap.size + 1 + 1 < gt := by omega
    have r26 : w6.cell? ⟨g, i * 4 + 2, none⟩ = some (.slice (some ⟨go, 0, none⟩) n2 c2) := by rw [← hw6]; exact (World.cell?_setCell_other _ _ _ _ (by intro e; injection e with e; exact gne2 e.symm)).trans r2
    have ko16 : w6.cell? ⟨go, k * 2, none⟩ = some yy1 := by rw [← hw6]; exact (World.cell?_setCell_other _ _ _ _ (by intro e; injection e with e; exact gne3 e.symm)).trans ko1
    have ko26 : w6.cell? ⟨go, k * 2 + 1, none⟩ = some yy2 := by rw [← hw6]; exact (World.cell?_setCell_other _ _ _ _ (by intro e; injection e with e; exact gne3 e.symm)).trans ko2
    have fo6 : ∀ j, w6.frozen? ⟨go, j, none⟩ = false := fun j => by rw [← hw6]; exact (World.frozen?_of_block (w := w5) (a := ⟨go, j, none⟩) (Below.heap_setCell w5 ⟨gt, k, none⟩ _ go gne3)).trans (fo j)
    have HO6 : Hid (Bl w6 (w.heap.size + 1) [.slice M o.marks.length cm, .slice D o.engs.length cd]) := hide (by rw [← hw6]; exact HO.out.far (p := ⟨gt, k, none⟩) (by show gt ≠ _; omega) _)
    have HX6 : Hid (Bl w6 w.heap.size [.int .i64 c.next, .slice A m cap, .int .i64 c.dur]) := hide (by rw [← hw6]; exact HX.out.far (p := ⟨gt, k, none⟩) (by show gt ≠ _; omega) _)
    have HY6 : Hid (Bl w6 (w.heap.size + 1 + 1) [.int .i64 0, .slice none 0 0, .int .i64 0]) := hide (by rw [← hw6]; exact HY.out.far (p := ⟨gt, k, none⟩) (by show gt ≠ _; omega) _)
    have HZ6 : Hid (Bl w6 w3.heap.size [.int .i64 c.next, .slice (some ⟨g, 0, none⟩) m q, .int .i64 c.dur]) := hide (by rw [← hw6]; exact HZ.out.far (p := ⟨gt, k, none⟩) (by show gt ≠ _; omega) _)
    have HB6 : Hid (Below w.heap.size w w6) := hide (by rw [← hw6]; exact HB.out.setCell (p := ⟨gt, k, none⟩) (by show w.heap.size ≤ gt; omega) _)
    have HFIN := hide (fun (w7 : World) (v1 v2 : Value) (hb : Below w6.heap.size w6 w7) (h1 : Lst w7 (fun b => w6.heap.size ≤ b ∧ b < w7.heap.size) 1 RIq v1 o.marks) (h2 : Lst w7 (fun b => w6.heap.size ≤ b ∧ b < w7.heap.size) 8 RKq v2 o.engs) =>
      hfin w5 w7 v1 v2 o (fun b => (Y b ∨ w.heap.size ≤ b) ∧ b ≠ w.heap.size + 1 + 1 ∧ b < w7.heap.size) H34.out (by rw [hw6]; exact hb) (by rw [← hz6]; exact h1) (by rw [← hz6]; exact h2) HOO.out.2.2.1 HOO.out.2.2.2 (fun b hb' => ⟨.inl hb', by have := HYY.out b hb'; omega, by have := HYY.out b hb'; have := hb.size; have := HB.out.size; omega⟩) (fun b hb' hb'' => ⟨.inr (by omega), by omega, hb''⟩))
    rw [hw6]
    clear hfin hw6 r2 r3 kt ko1 ko2 fo ft x0 x1 x2 y0 y1 y2 v0 v1 v2 zy
    obtain ⟨m1, hm1⟩ : ∃ m, o.marks.length = m := ⟨_, rfl⟩
    obtain ⟨m2, hm2⟩ : ∃ m, o.engs.length = m := ⟨_, rfl⟩
    have HM1 := hide hm1
    have HM2 := hide hm2
    rw [hm1, hm2] at HO6
    rw [hm1] at HC1
    rw [hm2] at HC2
    clear hm1 hm2
    have HF6 := hide fo6
    clear fo6
    simp only [HM1.out, HM2.out]
    refine wp_region_grow 12 [74, 75, 76, 77, 78, 79, 80, 81, 82, 83, 84, 85] [Fix (.pointer (some ⟨g, i * 4, none⟩)), Fix (.pointer (some ⟨g, i * 4, none⟩)), Fix (.pointer (some ⟨g, i * 4 + 2, none⟩)), Fix (.slice (some ⟨go, 0, none⟩) n2 c2), Fix (.int .i64 (k : Int)), Fix (.pointer (some ⟨w.heap.size + 1, 0, none⟩)), Fix (.slice M m1 cm), LstN w6.heap.size 1 RIq m1 o.marks, Fix (.pointer (some ⟨w.heap.size + 1, 1, none⟩)), Fix (.slice D m2 cd), LstN w6.heap.size 8 RKq m2 o.engs, OpN w6.heap.size m1 m2 o] (by kernel_rfl) (by kernel_rfl) (by kernel_rfl) (by kernel_rfl) (by kernel_rfl) ?_ ?_ ?_
    · intro p hp
      simp only [List.mem_cons, List.not_mem_nil, or_false] at hp
      rcases hp with rfl | rfl | rfl | rfl | rfl | rfl | rfl | rfl | rfl | rfl | rfl | rfl
      all_goals first | exact stb_fix _ | exact stb_lst rd_Iq | exact stb_lst rd_Kq | exact stb_opn
    · intro j oo hj hoo x w8 hb hd
      have hjc : j = 0 ∨ j = 1 ∨ j = 2 ∨ j = 3 ∨ j = 4 ∨ j = 5 ∨ j = 6 ∨ j = 7 ∨ j = 8 ∨ j = 9 ∨ j = 10 ∨ j = 11 := by omega
      rcases hjc with rfl | rfl | rfl | rfl | rfl | rfl | rfl | rfl | rfl | rfl | rfl | rfl
      all_goals obtain rfl := Option.some.inj hoo
      all_goals generalize hK : (fun (a' : Act) (w' : World) => _) = K
      all_goals simp only [puts]
      · go_simp
        rw [← hK]
        exact ⟨.pointer (some ⟨g, i * 4, none⟩), (by simp only [puts]; go_simp), Below.refl _ _, rfl⟩
      · have e : x 74 = .pointer (some ⟨g, i * 4, none⟩) := hd 0 (by kernel_rfl)
        go_simp
        rw [← hK]
        exact ⟨.pointer (some ⟨g, i * 4, none⟩), (by simp only [puts]; go_simp), Below.refl _ _, rfl⟩
      · have e : x 75 = .pointer (some ⟨g, i * 4, none⟩) := hd 1 (by kernel_rfl)
        go_simp
        rw [← hK]
        exact ⟨.pointer (some ⟨g, i * 4 + 2, none⟩), (by simp only [puts]; go_simp), Below.refl _ _, rfl⟩
      · have e : x 76 = .pointer (some ⟨g, i * 4 + 2, none⟩) := hd 2 (by kernel_rfl)
        have rr := keep1 hb r26
        go_simp
        rw [← hK]
        exact ⟨.slice (some ⟨go, 0, none⟩) n2 c2, (by simp only [puts]; go_simp), Below.refl _ _, rfl⟩
      · go_simp
        rw [← hK]
        exact ⟨.int .i64 (k : Int), (by simp only [puts]; go_simp), Below.refl _ _, rfl⟩
      · go_simp
        rw [← hK]
        exact ⟨.pointer (some ⟨w.heap.size + 1, 0, none⟩), (by simp only [puts]; go_simp), Below.refl _ _, rfl⟩
      · have e : x 79 = .pointer (some ⟨w.heap.size + 1, 0, none⟩) := hd 5 (by kernel_rfl)
        have rr := keep1 hb (HO6.out.c 0 _ rfl)
        go_simp
        rw [← hK]
        exact ⟨.slice M m1 cm, (by simp only [puts]; go_simp), Below.refl _ _, rfl⟩
      · have e : x 80 = .slice M m1 cm := hd 6 (by kernel_rfl)
        have hw8 := hb.size
        go_simp
        go_at_call 41
        refine (HC1.out _ (bthen HB6.out hb)).mono ?_
        rintro en w9 ⟨V1, rfl, ho9, hbc⟩
        have hL : Lst w9 (fun b => w6.heap.size ≤ b ∧ b < w9.heap.size) 1 RIq V1 o.marks :=
          els_lst (B := fun _ => False) rd_Iq (by decide) HCI1.out.1 (by have := HMM.out; unfold maxLen; omega) ho9 (els_of HCI1.out.1 fun j hj => by
            obtain ⟨ys, h1, h2, h3⟩ := HCI1.out.2 j hj
            exact ⟨ys, h1, h2, h3⟩) (fun b hz => absurd hz id) (fun b hz => ⟨Nat.le_trans hw8 (ho9.lt b hz).1, (ho9.lt b hz).2⟩)
        obtain ⟨B1, q1, hV⟩ := hL.form
        rw [HM1.out] at hV
        rw [← hK]
        exact ⟨V1, (by simp only [puts]; go_simp), hbc, ⟨_, _, hV⟩, hL⟩
      · go_simp
        rw [← hK]
        exact ⟨.pointer (some ⟨w.heap.size + 1, 1, none⟩), (by simp only [puts]; go_simp), Below.refl _ _, rfl⟩
      · have e : x 82 = .pointer (some ⟨w.heap.size + 1, 1, none⟩) := hd 8 (by kernel_rfl)
        have rr := keep1 hb (HO6.out.c 1 _ rfl)
        go_simp
        rw [← hK]
        exact ⟨.slice D m2 cd, (by simp only [puts]; go_simp), Below.refl _ _, rfl⟩
      · have e : x 83 = .slice D m2 cd := hd 9 (by kernel_rfl)
        have hw8 := hb.size
        go_simp
        go_at_call 42
        refine (HC2.out _ (bthen HB6.out hb)).mono ?_
        rintro en w9 ⟨V1, rfl, ho9, hbc⟩
        have hL : Lst w9 (fun b => w6.heap.size ≤ b ∧ b < w9.heap.size) 8 RKq V1 o.engs :=
          els_lst (B := fun _ => False) rd_Kq (by decide) HCI2.out.1 (by have := HMM.out; unfold maxLen; omega) ho9 (els_of HCI2.out.1 fun j hj => by
            obtain ⟨ys, h1, h2, h3⟩ := HCI2.out.2 j hj
            exact ⟨ys, h1, h2, h3⟩) (fun b hz => absurd hz id) (fun b hz => ⟨Nat.le_trans hw8 (ho9.lt b hz).1, (ho9.lt b hz).2⟩)
        obtain ⟨B1, q1, hV⟩ := hL.form
        rw [HM2.out] at hV
        rw [← hK]
        exact ⟨V1, (by simp only [puts]; go_simp), hbc, ⟨_, _, hV⟩, hL⟩
      · obtain ⟨⟨A1, q1, e31⟩, L1⟩ : LstN w6.heap.size 1 RIq m1 o.marks w8 (x 81) := hd 7 (by kernel_rfl)
        obtain ⟨⟨A2, q2, e33⟩, L2⟩ : LstN w6.heap.size 8 RKq m2 o.engs w8 (x 84) := hd 10 (by kernel_rfl)
        rw [e31] at L1
        rw [e33] at L2
        have HL := hide (And.intro L1 L2)
        clear L1 L2
        go_simp
        rw [← hK]
        exact ⟨.agg #[.slice A1 m1 q1, .slice A2 m2 q2], (by simp only [puts]; go_simp), Below.refl _ _, A1, q1, A2, q2, rfl, HL.out.1, HL.out.2⟩
    · intro x w7 hb hP
      have e77 : x 77 = .slice (some ⟨go, 0, none⟩) n2 c2 := hP 3 (by decide)
      have e78 : x 78 = .int .i64 (k : Int) := hP 4 (by decide)
      obtain ⟨A1, q1, A2, q2, e85, L1, L2⟩ : OpN w6.heap.size m1 m2 o w7 (x 85) := hP 11 (by decide)
      have HFL := hide (HFIN.out w7 _ _ hb L1 L2)
      have z7 := hb.size
      have p1 := keep1 hb ko16
      have p2 := keep1 hb ko26
      have p3 := ((bcell hb).2 go (k * 2) (by omega)).trans (HF6.out _)
      have p4 := ((bcell hb).2 go (k * 2 + 1) (by omega)).trans (HF6.out _)
      have HY7 := hide (HY6.out.keep hb)
      have HZ7 := hide (HZ6.out.keep hb)
      have HB7 := hide (bthen HB6.out hb)
      have y0 := HY7.out.c 0 _ rfl
      have y1 := HY7.out.c 1 _ rfl
      have y2 := HY7.out.c 2 _ rfl
      have v0 := HY7.out.f 0
      have v1 := HY7.out.f 1
      have v2 := HY7.out.f 2
      have z0 := HZ7.out.c 0 _ rfl
      have z1 := HZ7.out.c 1 _ rfl
      have z2 := HZ7.out.c 2 _ rfl
      have nz1 : go ≠ w3.heap.size := by omega
      have nz2 : go ≠ w.heap.size + 1 + 1 := by omega
      have nz3 : w3.heap.size ≠ w.heap.size + 1 + 1 := by omega
      clear hP hb L1 L2 HFIN
      simp only [puts, List.drop]
      go_wp2
      refine bodyPost_ret (v := .tuple #[.agg #[.int .i64 c.next, .slice (some ⟨g, 0, none⟩) m q, .int .i64 c.dur], .int .i64 0]) (by rw [results_ct rfl]; go_simp) rfl ?_
      refine ⟨_, rfl, ?_, (((((HB7.out.setCell (p := ⟨go, k * 2, none⟩) (by show w.heap.size ≤ go; omega) _).setCell (p := ⟨go, k * 2 + 1, none⟩) (by show w.heap.size ≤ go; omega) _).setCell (p := ⟨w.heap.size + 1 + 1, 0, none⟩) (by show w.heap.size ≤ w.heap.size + 1 + 1; omega) _).setCell (p := ⟨w.heap.size + 1 + 1, 1, none⟩) (by show w.heap.size ≤ w.heap.size + 1 + 1; omega) _).setCell (p := ⟨w.heap.size + 1 + 1, 2, none⟩) (by show w.heap.size ≤ w.heap.size + 1 + 1; omega) _)⟩
      rw [HC.out]
      exact ⟨_, by simp [HM.out], lst_set3z rd_Aq HFL.out (fun b hb => hb.2.1) (fun b hb => hb.1.elim .inl fun h => .inr ⟨h, by simpa [World.setCell] using hb.2.2⟩) _ _ _, HQ.out.1, HQ.out.2⟩
  · obtain ⟨gb, ob, cb, s3, sb⟩ := hv_mem HVL.out (show i - 1 < c.atts.length by have := HI.out; omega) (HK1.out h0)
    rw [HB4.out h0] at sb
    obtain ⟨nb, hnb⟩ : ∃ n, (attQ c (i - 1)).hv.length = n := ⟨_, rfl⟩
    have t5 : (k : Int) < (nb : Int) := by have := HK1.out h0; omega
    rw [hnb] at s3
    rw [HEA.out.1, HEA.out.2.2 h0] at HF4
    clear hnb
    go_wp2_with fail
    refine HF4.out.mono ?_
    rintro e w5 ⟨rfl, hb45⟩
    have hb := bthen H34.out hb45
    clear x0 x1 x2 y0 y1 y2 v0 v1 v2 zy
    replace HX := hide (HX.out.keep hb)
    replace HO := hide (HO.out.keep hb)
    replace HY := hide (HY.out.keep hb)
    replace HB := hide (bthen HB.out hb)
    clear hb
    replace H34 := hide (bthen H34.out hb45)
    replace HZ := hide (HZ.out.keep hb45)
    have hlt5 := H34.out.size
    clear hb45 HF4
    obtain ⟨x, -, zx⟩ := HX.out
    obtain ⟨y, v, zy⟩ := HY.out
    have x0 := x 0 _ rfl
    have x1 := x 1 _ rfl
    have x2 := x 2 _ rfl
    have y0 := y 0 _ rfl
    have y1 := y 1 _ rfl
    have y2 := y 2 _ rfl
    have v0 := v 0
    have v1 := v 1
    have v2 := v 2
    clear x y v zx
    replace r2 := keep1 H34.out r2
    replace r3 := keep1 H34.out r3
    replace kt := keep1 H34.out kt
    replace ko1 := keep1 H34.out ko1
    replace ko2 := keep1 H34.out ko2
    replace fo := fun j => ((bcell H34.out).2 go j gg5).trans (fo j)
    replace ft := fun j => ((bcell H34.out).2 gt j gg6).trans (ft j)
    have ft1 := ft k
    replace s3 := keep1 H34.out s3
    replace sb := keep1 H34.out sb
    go_upto_region 15 with (fail)
    obtain ⟨w6, hw6⟩ : ∃ w6, w5.setCell ⟨gt, k, none⟩ (.bool true) = w6 := ⟨_, rfl⟩
    have hz6 : w6.heap.size = w5.heap.size := by rw [← hw6]; simp [World.setCell]
    have hmy : w.heap.size + 1 + 1 < gt := by omega
    have r26 : w6.cell? ⟨g, i * 4 + 2, none⟩ = some (.slice (some ⟨go, 0, none⟩) n2 c2) := by rw [← hw6]; exact (World.cell?_setCell_other _ _ _ _ (by intro e; injection e with e; exact gne2 e.symm)).trans r2
    have ko16 : w6.cell? ⟨go, k * 2, none⟩ = some yy1 := by rw [← hw6]; exact (World.cell?_setCell_other _ _ _ _ (by intro e; injection e with e; exact gne3 e.symm)).trans ko1
    have ko26 : w6.cell? ⟨go, k * 2 + 1, none⟩ = some yy2 := by rw [← hw6]; exact (World.cell?_setCell_other _ _ _ _ (by intro e; injection e with e; exact gne3 e.symm)).trans ko2
    have fo6 : ∀ j, w6.frozen? ⟨go, j, none⟩ = false := fun j => by rw [← hw6]; exact (World.frozen?_of_block (w := w5) (a := ⟨go, j, none⟩) (Below.heap_setCell w5 ⟨gt, k, none⟩ _ go gne3)).trans (fo j)
    have HO6 : Hid (Bl w6 (w.heap.size + 1) [.slice M o.marks.length cm, .slice D o.engs.length cd]) := hide (by rw [← hw6]; exact HO.out.far (p := ⟨gt, k, none⟩) (by show gt ≠ _; omega) _)
    have HX6 : Hid (Bl w6 w.heap.size [.int .i64 c.next, .slice A m cap, .int .i64 c.dur]) := hide (by rw [← hw6]; exact HX.out.far (p := ⟨gt, k, none⟩) (by show gt ≠ _; omega) _)
    have HY6 : Hid (Bl w6 (w.heap.size + 1 + 1) [.int .i64 0, .slice none 0 0, .int .i64 0]) := hide (by rw [← hw6]; exact HY.out.far (p := ⟨gt, k, none⟩) (by show gt ≠ _; omega) _)
    have HZ6 : Hid (Bl w6 w3.heap.size [.int .i64 c.next, .slice (some ⟨g, 0, none⟩) m q, .int .i64 c.dur]) := hide (by rw [← hw6]; exact HZ.out.far (p := ⟨gt, k, none⟩) (by show gt ≠ _; omega) _)
    have HB6 : Hid (Below w.heap.size w w6) := hide (by rw [← hw6]; exact HB.out.setCell (p := ⟨gt, k, none⟩) (by show w.heap.size ≤ gt; omega) _)
    have HFIN := hide (fun (w7 : World) (v1 v2 : Value) (hb : Below w6.heap.size w6 w7) (h1 : Lst w7 (fun b => w6.heap.size ≤ b ∧ b < w7.heap.size) 1 RIq v1 o.marks) (h2 : Lst w7 (fun b => w6.heap.size ≤ b ∧ b < w7.heap.size) 8 RKq v2 o.engs) =>
      hfin w5 w7 v1 v2 o (fun b => (Y b ∨ w.heap.size ≤ b) ∧ b ≠ w.heap.size + 1 + 1 ∧ b < w7.heap.size) H34.out (by rw [hw6]; exact hb) (by rw [← hz6]; exact h1) (by rw [← hz6]; exact h2) HOO.out.2.2.1 HOO.out.2.2.2 (fun b hb' => ⟨.inl hb', by have := HYY.out b hb'; omega, by have := HYY.out b hb'; have := hb.size; have := HB.out.size; omega⟩) (fun b hb' hb'' => ⟨.inr (by omega), by omega, hb''⟩))
    rw [hw6]
    clear hfin hw6 r2 r3 kt ko1 ko2 fo ft x0 x1 x2 y0 y1 y2 v0 v1 v2 zy
    obtain ⟨m1, hm1⟩ : ∃ m, o.marks.length = m := ⟨_, rfl⟩
    obtain ⟨m2, hm2⟩ : ∃ m, o.engs.length = m := ⟨_, rfl⟩
    have HM1 := hide hm1
    have HM2 := hide hm2
    rw [hm1, hm2] at HO6
    rw [hm1] at HC1
    rw [hm2] at HC2
    clear hm1 hm2
    have HF6 := hide fo6
    clear fo6
    simp only [HM1.out, HM2.out]
    refine wp_region_grow 12 [74, 75, 76, 77, 78, 79, 80, 81, 82, 83, 84, 85] [Fix (.pointer (some ⟨g, i * 4, none⟩)), Fix (.pointer (some ⟨g, i * 4, none⟩)), Fix (.pointer (some ⟨g, i * 4 + 2, none⟩)), Fix (.slice (some ⟨go, 0, none⟩) n2 c2), Fix (.int .i64 (k : Int)), Fix (.pointer (some ⟨w.heap.size + 1, 0, none⟩)), Fix (.slice M m1 cm), LstN w6.heap.size 1 RIq m1 o.marks, Fix (.pointer (some ⟨w.heap.size + 1, 1, none⟩)), Fix (.slice D m2 cd), LstN w6.heap.size 8 RKq m2 o.engs, OpN w6.heap.size m1 m2 o] (by kernel_rfl) (by kernel_rfl) (by kernel_rfl) (by kernel_rfl) (by kernel_rfl) ?_ ?_ ?_
    · intro p hp
      simp only [List.mem_cons, List.not_mem_nil, or_false] at hp
      rcases hp with rfl | rfl | rfl | rfl | rfl | rfl | rfl | rfl | rfl | rfl | rfl | rfl
      all_goals first | exact stb_fix _ | exact stb_lst rd_Iq | exact stb_lst rd_Kq | exact stb_opn
    · intro j oo hj hoo x w8 hb hd
      have hjc : j = 0 ∨ j = 1 ∨ j = 2 ∨ j = 3 ∨ j = 4 ∨ j = 5 ∨ j = 6 ∨ j = 7 ∨ j = 8 ∨ j = 9 ∨ j = 10 ∨ j = 11 := by omega
      rcases hjc with rfl | rfl | rfl | rfl | rfl | rfl | rfl | rfl | rfl | rfl | rfl | rfl
      all_goals obtain rfl := Option.some.inj hoo
      all_goals generalize hK : (fun (a' : Act) (w' : World) => _) = K
      all_goals simp only [puts]
      · go_simp
        rw [← hK]
        exact ⟨.pointer (some ⟨g, i * 4, none⟩), (by simp only [puts]; go_simp), Below.refl _ _, rfl⟩
      · have e : x 74 = .pointer (some ⟨g, i * 4, none⟩) := hd 0 (by kernel_rfl)
        go_simp
        rw [← hK]
        exact ⟨.pointer (some ⟨g, i * 4, none⟩), (by simp only [puts]; go_simp), Below.refl _ _, rfl⟩
      · have e : x 75 = .pointer (some ⟨g, i * 4, none⟩) := hd 1 (by kernel_rfl)
        go_simp
        rw [← hK]
        exact ⟨.pointer (some ⟨g, i * 4 + 2, none⟩), (by simp only [puts]; go_simp), Below.refl _ _, rfl⟩
      · have e : x 76 = .pointer (some ⟨g, i * 4 + 2, none⟩) := hd 2 (by kernel_rfl)
        have rr := keep1 hb r26
        go_simp
        rw [← hK]
        exact ⟨.slice (some ⟨go, 0, none⟩) n2 c2, (by simp only [puts]; go_simp), Below.refl _ _, rfl⟩
      · go_simp
        rw [← hK]
        exact ⟨.int .i64 (k : Int), (by simp only [puts]; go_simp), Below.refl _ _, rfl⟩
      · go_simp
        rw [← hK]
        exact ⟨.pointer (some ⟨w.heap.size + 1, 0, none⟩), (by simp only [puts]; go_simp), Below.refl _ _, rfl⟩
      · have e : x 79 = .pointer (some ⟨w.heap.size + 1, 0, none⟩) := hd 5 (by kernel_rfl)
        have rr := keep1 hb (HO6.out.c 0 _ rfl)
        go_simp
        rw [← hK]
        exact ⟨.slice M m1 cm, (by simp only [puts]; go_simp), Below.refl _ _, rfl⟩
      · have e : x 80 = .slice M m1 cm := hd 6 (by kernel_rfl)
        have hw8 := hb.size
        go_simp
        go_at_call 41
        refine (HC1.out _ (bthen HB6.out hb)).mono ?_
        rintro en w9 ⟨V1, rfl, ho9, hbc⟩
        have hL : Lst w9 (fun b => w6.heap.size ≤ b ∧ b < w9.heap.size) 1 RIq V1 o.marks :=
          els_lst (B := fun _ => False) rd_Iq (by decide) HCI1.out.1 (by have := HMM.out; unfold maxLen; omega) ho9 (els_of HCI1.out.1 fun j hj => by
            obtain ⟨ys, h1, h2, h3⟩ := HCI1.out.2 j hj
            exact ⟨ys, h1, h2, h3⟩) (fun b hz => absurd hz id) (fun b hz => ⟨Nat.le_trans hw8 (ho9.lt b hz).1, (ho9.lt b hz).2⟩)
        obtain ⟨B1, q1, hV⟩ := hL.form
        rw [HM1.out] at hV
        rw [← hK]
        exact ⟨V1, (by simp only [puts]; go_simp), hbc, ⟨_, _, hV⟩, hL⟩
      · go_simp
        rw [← hK]
        exact ⟨.pointer (some ⟨w.heap.size + 1, 1, none⟩), (by simp only [puts]; go_simp), Below.refl _ _, rfl⟩
      · have e : x 82 = .pointer (some ⟨w.heap.size + 1, 1, none⟩) := hd 8 (by kernel_rfl)
        have rr := keep1 hb (HO6.out.c 1 _ rfl)
        go_simp
        rw [← hK]
        exact ⟨.slice D m2 cd, (by simp only [puts]; go_simp), Below.refl _ _, rfl⟩
      · have e : x 83 = .slice D m2 cd := hd 9 (by kernel_rfl)
        have hw8 := hb.size
        go_simp
        go_at_call 42
        refine (HC2.out _ (bthen HB6.out hb)).mono ?_
        rintro en w9 ⟨V1, rfl, ho9, hbc⟩
        have hL : Lst w9 (fun b => w6.heap.size ≤ b ∧ b < w9.heap.size) 8 RKq V1 o.engs :=
          els_lst (B := fun _ => False) rd_Kq (by decide) HCI2.out.1 (by have := HMM.out; unfold maxLen; omega) ho9 (els_of HCI2.out.1 fun j hj => by
            obtain ⟨ys, h1, h2, h3⟩ := HCI2.out.2 j hj
            exact ⟨ys, h1, h2, h3⟩) (fun b hz => absurd hz id) (fun b hz => ⟨Nat.le_trans hw8 (ho9.lt b hz).1, (ho9.lt b hz).2⟩)
        obtain ⟨B1, q1, hV⟩ := hL.form
        rw [HM2.out] at hV
        rw [← hK]
        exact ⟨V1, (by simp only [puts]; go_simp), hbc, ⟨_, _, hV⟩, hL⟩
      · obtain ⟨⟨A1, q1, e31⟩, L1⟩ : LstN w6.heap.size 1 RIq m1 o.marks w8 (x 81) := hd 7 (by kernel_rfl)
        obtain ⟨⟨A2, q2, e33⟩, L2⟩ : LstN w6.heap.size 8 RKq m2 o.engs w8 (x 84) := hd 10 (by kernel_rfl)
        rw [e31] at L1
        rw [e33] at L2
        have HL := hide (And.intro L1 L2)
        clear L1 L2
        go_simp
        rw [← hK]
        exact ⟨.agg #[.slice A1 m1 q1, .slice A2 m2 q2], (by simp only [puts]; go_simp), Below.refl _ _, A1, q1, A2, q2, rfl, HL.out.1, HL.out.2⟩
    · intro x w7 hb hP
      have e77 : x 77 = .slice (some ⟨go, 0, none⟩) n2 c2 := hP 3 (by decide)
      have e78 : x 78 = .int .i64 (k : Int) := hP 4 (by decide)
      obtain ⟨A1, q1, A2, q2, e85, L1, L2⟩ : OpN w6.heap.size m1 m2 o w7 (x 85) := hP 11 (by decide)
      have HFL := hide (HFIN.out w7 _ _ hb L1 L2)
      have z7 := hb.size
      have p1 := keep1 hb ko16
      have p2 := keep1 hb ko26
      have p3 := ((bcell hb).2 go (k * 2) (by omega)).trans (HF6.out _)
      have p4 := ((bcell hb).2 go (k * 2 + 1) (by omega)).trans (HF6.out _)
      have HY7 := hide (HY6.out.keep hb)
      have HZ7 := hide (HZ6.out.keep hb)
      have HB7 := hide (bthen HB6.out hb)
      have y0 := HY7.out.c 0 _ rfl
      have y1 := HY7.out.c 1 _ rfl
      have y2 := HY7.out.c 2 _ rfl
      have v0 := HY7.out.f 0
      have v1 := HY7.out.f 1
      have v2 := HY7.out.f 2
      have z0 := HZ7.out.c 0 _ rfl
      have z1 := HZ7.out.c 1 _ rfl
      have z2 := HZ7.out.c 2 _ rfl
      have nz1 : go ≠ w3.heap.size := by omega
      have nz2 : go ≠ w.heap.size + 1 + 1 := by omega
      have nz3 : w3.heap.size ≠ w.heap.size + 1 + 1 := by omega
      clear hP hb L1 L2 HFIN
      simp only [puts, List.drop]
      go_wp2
      refine bodyPost_ret (v := .tuple #[.agg #[.int .i64 c.next, .slice (some ⟨g, 0, none⟩) m q, .int .i64 c.dur], .int .i64 0]) (by rw [results_ct rfl]; go_simp) rfl ?_
      refine ⟨_, rfl, ?_, (((((HB7.out.setCell (p := ⟨go, k * 2, none⟩) (by show w.heap.size ≤ go; omega) _).setCell (p := ⟨go, k * 2 + 1, none⟩) (by show w.heap.size ≤ go; omega) _).setCell (p := ⟨w.heap.size + 1 + 1, 0, none⟩) (by show w.heap.size ≤ w.heap.size + 1 + 1; omega) _).setCell (p := ⟨w.heap.size + 1 + 1, 1, none⟩) (by show w.heap.size ≤ w.heap.size + 1 + 1; omega) _).setCell (p := ⟨w.heap.size + 1 + 1, 2, none⟩) (by show w.heap.size ≤ w.heap.size + 1 + 1; omega) _)⟩
      rw [HC.out]
      exact ⟨_, by simp [HM.out], lst_set3z rd_Aq HFL.out (fun b hb => hb.2.1) (fun b hb => hb.1.elim .inl fun h => .inr ⟨h, by simpa [World.setCell] using hb.2.2⟩) _ _ _, HQ.out.1, HQ.out.2⟩
theorem report_z (Y : Nat → Prop) (v : Value) (num wk : Int) (o : Oq) (xs : List Value) (hz' : CoVz w Y v c) (hY : ∀ b, Y b → b < w.heap.size) (ho : ROq w (· < w.heap.size) xs o) (hm : o.marks.length ≤ 1000) (he : o.engs.length ≤ 1000) : Calls Try.prog 18 #[v, .int .i64 num, .int .i64 wk, .agg xs.toArray] w (RetC1z w Y (repC c num wk o) (repE c num wk)) := by
  by_cases hc : chkQ c = 0
  · by_cases hf : findQ num c.atts = c.atts.length
    · exact rep_none w c Y v num wk o xs hz' hY ho hc hf
    · have hi : findQ num c.atts < c.atts.length := by have := findQ_le num c.atts; omega
      by_cases h1 : wk < 0
      · exact rep_neg w c Y v num wk o xs hz' hY ho hc _ rfl hi h1
      · by_cases h2 : ((attQ c (findQ num c.atts)).hv.length : Int) ≤ wk
        · exact rep_far w c Y v num wk o xs hz' hY ho hc _ rfl hi (by omega) h2
        · obtain ⟨k, rfl⟩ : ∃ k : Nat, wk = (k : Int) := ⟨wk.toNat, by omega⟩
          have hk : k < (attQ c (findQ num c.atts)).hv.length := by omega
          cases h3 : (attQ c (findQ num c.atts)).hv.getD k false with
          | true => exact rep_dup w c Y v num k o xs hz' hY ho hc _ rfl hi hk h3
          | false =>
            by_cases h4 : 0 < findQ num c.atts ∧ (attQ c (findQ num c.atts - 1)).hv.getD k true = false
            · exact rep_ord w c Y v num k o xs hz' hY ho hc _ rfl hi hk h3 h4.1 h4.2
            · exact rep_good w c Y v num k o xs hz' hY ho hc _ rfl hi hk hm he h3 (fun h0 => by
                cases h5 : (attQ c (findQ num c.atts - 1)).hv.getD k true with
                | true => rfl
                | false => exact absurd ⟨h0, h5⟩ h4)
  · exact rep_bad w c Y v num wk o xs hz' hY ho hc
theorem report_any (v : Value) (num wk : Int) (o : Oq) (xs : List Value) (h : CoV w v c) (ho : ROq w (· < w.heap.size) xs o) (hm : o.marks.length ≤ 1000) (he : o.engs.length ≤ 1000) : Calls Try.prog 18 #[v, .int .i64 num, .int .i64 wk, .agg xs.toArray] w (RetC1 w (repC c num wk o) (repE c num wk)) :=
  (report_z w c _ v num wk o xs h.z (fun _ h => h) ho hm he).mono fun _ _ h => h.out fun _ h => h
end
end Go.Proofs.Ytihbonndinnohaa
