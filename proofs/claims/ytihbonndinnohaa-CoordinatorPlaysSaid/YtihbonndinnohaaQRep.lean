/- Report of the program. -/
import Derived.Test.YtihbonndinnohaaQRepL
namespace Go.Proofs.Ytihbonndinnohaa
open Go.RowKit
set_option linter.unusedVariables false
set_option linter.unusedSimpArgs false
def OpN (H : Nat) (m1 m2 : Nat) (o : Oq) : World → Value → Prop := fun w v => ∃ (A1 : Option Addr) (q1 : Nat) (A2 : Option Addr) (q2 : Nat), v = .agg #[.slice A1 m1 q1, .slice A2 m2 q2] ∧ Lst w (fun b => H ≤ b ∧ b < w.heap.size) 1 RIq (.slice A1 m1 q1) o.marks ∧ Lst w (fun b => H ≤ b ∧ b < w.heap.size) 8 RKq (.slice A2 m2 q2) o.engs
theorem stb_opn {H m1 m2 : Nat} {o : Oq} : Stb (OpN H m1 m2 o) := fun _ _ _ hb ⟨A1, q1, A2, q2, e, h1, h2⟩ =>
  ⟨A1, q1, A2, q2, e, (h1.keep rd_Iq (Kp.of_below hb)).more rd_Iq fun _ hz => ⟨hz.1, Nat.lt_of_lt_of_le hz.2 hb.size⟩, (h2.keep rd_Kq (Kp.of_below hb)).more rd_Kq fun _ hz => ⟨hz.1, Nat.lt_of_lt_of_le hz.2 hb.size⟩⟩
theorem repE_found {c : Cq} {num wk : Int} {i : Nat} (hc : chkQ c = 0) (hfi : findQ num c.atts = i) (hi : i < c.atts.length) : repE c num wk = if wk < 0 ∨ ((attQ c i).hv.length : Int) ≤ wk then 2 else if (attQ c i).hv.getD wk.toNat false = true then 31 else if 0 < i ∧ (attQ c (i - 1)).hv.getD wk.toNat true = false then 14 else 0 := by
  unfold repE
  rw [if_neg (by simp [hc]), if_neg (by omega), hfi]
theorem findA_at {c : Cq} {num : Int} {i : Nat} (hfi : findQ num c.atts = i) (hi : i < c.atts.length) : (∀ g, findA g 0 c num = .pointer (some ⟨g, i * 4, none⟩)) ∧ (i = 0 → ∀ g, findB g 0 c num = .pointer none) ∧ (0 < i → ∀ g, findB g 0 c num = .pointer (some ⟨g, (i - 1) * 4, none⟩)) := by
  refine ⟨fun g => ?_, fun h0 g => ?_, fun h0 g => ?_⟩
  · unfold findA aptr; rw [if_neg (by omega), hfi, Nat.zero_add]
  · unfold findB; rw [if_neg (by omega), hfi, h0]; rfl
  · unfold findB bptr aptr; rw [if_neg (by omega), hfi, if_neg (by omega), Nat.zero_add]
/-- The flags of an attempt. -/
theorem hv_mem {w : World} {c : Cq} {g n q j k : Nat} (h : Lq w 4 RAq (.slice (some ⟨g, 0, none⟩) n q) c.atts) (hj : j < c.atts.length) (hk : k < (attQ c j).hv.length) :
    ∃ gb ob cb, w.cell? ⟨g, j * 4 + 3, none⟩ = some (.slice (some ⟨gb, ob, none⟩) (attQ c j).hv.length cb) ∧ w.cell? ⟨gb, ob + k, none⟩ = some (.bool ((attQ c j).hv.getD k true)) := by
  obtain ⟨-, A1, A2, A3, c1, c2, c3, ha⟩ := att_at h hj
  obtain ⟨gb, ob, xs, e, -, -, hc, hr⟩ := Lst.at_ ha.l3 hk
  subst e
  have k3 := ha.k3
  rw [Nat.zero_add] at k3
  refine ⟨gb, ob, c3, k3, ?_⟩
  have hr' : xs = [.bool (attQ c j).hv[k]] := hr
  have := hc 0 _ (by rw [hr']; rfl)
  rw [Nat.mul_one, Nat.add_zero] at this
  rw [this]
  simp [List.getD_eq_getElem?_getD, hk]
theorem find_ab {c : Cq} {num : Int} {i : Nat} (h : (∀ g, findA g 0 c num = .pointer (some ⟨g, i * 4, none⟩)) ∧ (i = 0 → ∀ g, findB g 0 c num = .pointer none) ∧ (0 < i → ∀ g, findB g 0 c num = .pointer (some ⟨g, (i - 1) * 4, none⟩))) (g : Nat) : findB g 0 c num = .pointer none ∨ ∃ p, findB g 0 c num = .pointer (some p) := by
  rcases Nat.eq_zero_or_pos i with h0 | h0
  · exact .inl (h.2.1 h0 g)
  · exact .inr ⟨_, h.2.2 h0 g⟩
section
variable (w : World) (c : Cq)
set_option maxRecDepth 100000 in
set_option maxHeartbeats 4000000 in
theorem rep_bad (Y : Nat → Prop) (v : Value) (num wk : Int) (o : Oq) (xs : List Value) (hz' : CoVz w Y v c) (hY : ∀ b, Y b → b < w.heap.size) (ho : ROq w (· < w.heap.size) xs o) (hc : chkQ c ≠ 0) : Calls Try.prog 18 #[v, .int .i64 num, .int .i64 wk, .agg xs.toArray] w (RetC1z w Y (repC c num wk o) (repE c num wk)) := by
  have hE : repE c num wk = chkQ c := by unfold repE; rw [if_pos hc]
  have HC : Hid (repC c num wk o = Cq.z) := hide (by unfold repC; rw [if_neg (by rw [hE]; exact hc)])
  rw [hE]
  obtain ⟨u, rfl, hlz, hq1, hq2⟩ := id hz'
  have h := hz'.cov hY
  have hl : Lq w 4 RAq u c.atts := hlz.more rd_Aq hY
  have HYY := hide hY
  clear hz' hY
  obtain ⟨A, cap, rfl⟩ := hl.form
  obtain ⟨vm, ve, rfl, ho1, ho2, ho3, ho4⟩ := ho
  obtain ⟨M, cm, rfl⟩ := ho1.form
  obtain ⟨D, cd, rfl⟩ := ho2.form
  have HB := hide (show Below w.heap.size w (((w.alloc (.cells #[.int .i64 c.next, .slice A c.atts.length cap, .int .i64 c.dur] 24)).alloc (.cells #[.slice M o.marks.length cm, .slice D o.engs.length cd] 42)).alloc (.cells #[.int .i64 0, .slice none 0 0, .int .i64 0] 24)) from bA_alloc (bA_alloc (below_laid _) _) _)
  have HX := hide (((Bl.new w [.int .i64 c.next, .slice A c.atts.length cap, .int .i64 c.dur] 24).laid (.cells #[.slice M o.marks.length cm, .slice D o.engs.length cd] 42)).laid (.cells #[.int .i64 0, .slice none 0 0, .int .i64 0] 24))
  have HO := hide (show Bl (((w.alloc (.cells #[.int .i64 c.next, .slice A c.atts.length cap, .int .i64 c.dur] 24)).alloc (.cells #[.slice M o.marks.length cm, .slice D o.engs.length cd] 42)).alloc (.cells #[.int .i64 0, .slice none 0 0, .int .i64 0] 24)) (w.heap.size + 1) [.slice M o.marks.length cm, .slice D o.engs.length cd] by have := (Bl.new (w.alloc (.cells #[.int .i64 c.next, .slice A c.atts.length cap, .int .i64 c.dur] 24)) [.slice M o.marks.length cm, .slice D o.engs.length cd] 42).laid (.cells #[.int .i64 0, .slice none 0 0, .int .i64 0] 24); simpa using this)
  have HY := hide (show Bl (((w.alloc (.cells #[.int .i64 c.next, .slice A c.atts.length cap, .int .i64 c.dur] 24)).alloc (.cells #[.slice M o.marks.length cm, .slice D o.engs.length cd] 42)).alloc (.cells #[.int .i64 0, .slice none 0 0, .int .i64 0] 24)) (w.heap.size + 1 + 1) [.int .i64 0, .slice none 0 0, .int .i64 0] by have := Bl.new ((w.alloc (.cells #[.int .i64 c.next, .slice A c.atts.length cap, .int .i64 c.dur] 24)).alloc (.cells #[.slice M o.marks.length cm, .slice D o.engs.length cd] 42)) [.int .i64 0, .slice none 0 0, .int .i64 0] 24; simpa using this)
  have HK := hide (chk_any (((w.alloc (.cells #[.int .i64 c.next, .slice A c.atts.length cap, .int .i64 c.dur] 24)).alloc (.cells #[.slice M o.marks.length cm, .slice D o.engs.length cd] 42)).alloc (.cells #[.int .i64 0, .slice none 0 0, .int .i64 0] 24)) _ c (((h.laid _).laid _).laid _))
  obtain ⟨E, hEE⟩ : ∃ E, chkQ c = E := ⟨_, rfl⟩
  rw [hEE] at HK hc ⊢
  have te : (E != 0) = true := by rw [bne_iff_ne]; exact hc
  clear hEE hE hc h hl hlz hq1 hq2 ho1 ho2 ho3 ho4
  go_enter Try.func18, Try.ntmps18
  go_wp2_with fail
  refine HK.out.mono ?_
  rintro e w1 ⟨rfl, hb⟩
  replace HX := hide (HX.out.keep hb)
  replace HO := hide (HO.out.keep hb)
  replace HY := hide (HY.out.keep hb)
  replace HB := hide (bthen HB.out hb)
  clear hb
  obtain ⟨x, -, zx⟩ := HX.out
  obtain ⟨y, v, zy⟩ := HY.out
  have x0 := x 0 _ rfl
  have x1 := x 1 _ rfl
  have x2 := x 2 _ rfl
  have y0 := y 0 _ rfl
  have y1 := y 1 _ rfl
  have y2 := y 2 _ rfl
  have v0 := v 0
  have v1 := v 1
  have v2 := v 2
  clear x y v zx
  go_wp2
  refine bodyPost_ret (v := .tuple #[.agg #[.int .i64 0, .slice none 0 0, .int .i64 0], .int .i64 E]) (by rw [results_ct rfl]; go_simp) rfl ?_
  exact RetC1z.zero HC.out rfl (((HB.out.setCell (p := ⟨w.heap.size + 1 + 1, 0, none⟩) (by show w.heap.size ≤ w.heap.size + 1 + 1; omega) _).setCell (p := ⟨w.heap.size + 1 + 1, 1, none⟩) (by show w.heap.size ≤ w.heap.size + 1 + 1; omega) _).setCell (p := ⟨w.heap.size + 1 + 1, 2, none⟩) (by show w.heap.size ≤ w.heap.size + 1 + 1; omega) _)
set_option maxRecDepth 100000 in
set_option maxHeartbeats 4000000 in
theorem rep_none (Y : Nat → Prop) (v : Value) (num wk : Int) (o : Oq) (xs : List Value) (hz' : CoVz w Y v c) (hY : ∀ b, Y b → b < w.heap.size) (ho : ROq w (· < w.heap.size) xs o) (hc : chkQ c = 0) (hf : findQ num c.atts = c.atts.length) : Calls Try.prog 18 #[v, .int .i64 num, .int .i64 wk, .agg xs.toArray] w (RetC1z w Y (repC c num wk o) (repE c num wk)) := by
  have hE : repE c num wk = 6 := by unfold repE; rw [if_neg (by simp [hc]), if_pos hf]
  have HC : Hid (repC c num wk o = Cq.z) := hide (by unfold repC; rw [hE]; rfl)
  have ea : ∀ g, findA g 0 c num = .pointer none := fun g => by unfold findA; rw [if_pos hf]
  have eb : ∀ g, findB g 0 c num = .pointer none := fun g => by unfold findB; rw [if_pos hf]
  have HEA := hide ea
  have HEB := hide eb
  rw [hE]
  clear ea eb hE hf
  obtain ⟨u, rfl, hlz, hq1, hq2⟩ := id hz'
  have h := hz'.cov hY
  have hl : Lq w 4 RAq u c.atts := hlz.more rd_Aq hY
  have HYY := hide hY
  clear hz' hY
  obtain ⟨A, cap, rfl⟩ := hl.form
  obtain ⟨vm, ve, rfl, ho1, ho2, ho3, ho4⟩ := ho
  obtain ⟨M, cm, rfl⟩ := ho1.form
  obtain ⟨D, cd, rfl⟩ := ho2.form
  have HB := hide (show Below w.heap.size w (((w.alloc (.cells #[.int .i64 c.next, .slice A c.atts.length cap, .int .i64 c.dur] 24)).alloc (.cells #[.slice M o.marks.length cm, .slice D o.engs.length cd] 42)).alloc (.cells #[.int .i64 0, .slice none 0 0, .int .i64 0] 24)) from bA_alloc (bA_alloc (below_laid _) _) _)
  have HX := hide (((Bl.new w [.int .i64 c.next, .slice A c.atts.length cap, .int .i64 c.dur] 24).laid (.cells #[.slice M o.marks.length cm, .slice D o.engs.length cd] 42)).laid (.cells #[.int .i64 0, .slice none 0 0, .int .i64 0] 24))
  have HO := hide (show Bl (((w.alloc (.cells #[.int .i64 c.next, .slice A c.atts.length cap, .int .i64 c.dur] 24)).alloc (.cells #[.slice M o.marks.length cm, .slice D o.engs.length cd] 42)).alloc (.cells #[.int .i64 0, .slice none 0 0, .int .i64 0] 24)) (w.heap.size + 1) [.slice M o.marks.length cm, .slice D o.engs.length cd] by have := (Bl.new (w.alloc (.cells #[.int .i64 c.next, .slice A c.atts.length cap, .int .i64 c.dur] 24)) [.slice M o.marks.length cm, .slice D o.engs.length cd] 42).laid (.cells #[.int .i64 0, .slice none 0 0, .int .i64 0] 24); simpa using this)
  have HY := hide (show Bl (((w.alloc (.cells #[.int .i64 c.next, .slice A c.atts.length cap, .int .i64 c.dur] 24)).alloc (.cells #[.slice M o.marks.length cm, .slice D o.engs.length cd] 42)).alloc (.cells #[.int .i64 0, .slice none 0 0, .int .i64 0] 24)) (w.heap.size + 1 + 1) [.int .i64 0, .slice none 0 0, .int .i64 0] by have := Bl.new ((w.alloc (.cells #[.int .i64 c.next, .slice A c.atts.length cap, .int .i64 c.dur] 24)).alloc (.cells #[.slice M o.marks.length cm, .slice D o.engs.length cd] 42)) [.int .i64 0, .slice none 0 0, .int .i64 0] 24; simpa using this)
  have HK := hide (chk_any (((w.alloc (.cells #[.int .i64 c.next, .slice A c.atts.length cap, .int .i64 c.dur] 24)).alloc (.cells #[.slice M o.marks.length cm, .slice D o.engs.length cd] 42)).alloc (.cells #[.int .i64 0, .slice none 0 0, .int .i64 0] 24)) _ c (((h.laid _).laid _).laid _))
  have hcn : c.atts.length ≤ 256 := (chk0 hc).2.2.2.2.1
  have HW := hide (fun (w' : World) (hb : Below w.heap.size w w') => with_any w' Y c A cap (fun b h => Nat.lt_of_lt_of_le (HYY.out b h) hb.size) (Lst.keep rd_Aq (Kp.of_below hb) hlz) hcn (small0 hc))
  have HCH := hide hc
  have HQ := hide (And.intro hq1 hq2)
  have HOO := hide (And.intro ho1 (And.intro ho2 (And.intro ho3 ho4)))
  rw [hc] at HK
  obtain ⟨m, hm⟩ : ∃ m, c.atts.length = m := ⟨_, rfl⟩
  rw [hm] at HB HX HO HY HK HW hcn ⊢
  have HM := hide hm
  clear hc h hl hlz hq1 hq2 ho1 ho2 ho3 ho4 hm
  go_enter Try.func18, Try.ntmps18
  go_wp2_with fail
  refine HK.out.mono ?_
  rintro e w1 ⟨rfl, hb⟩
  replace HX := hide (HX.out.keep hb)
  replace HO := hide (HO.out.keep hb)
  replace HY := hide (HY.out.keep hb)
  replace HB := hide (bthen HB.out hb)
  clear hb
  have HW1 := hide (HW.out w1 HB.out)
  obtain ⟨x, -, zx⟩ := HX.out
  obtain ⟨y, v, zy⟩ := HY.out
  have x0 := x 0 _ rfl
  have x1 := x 1 _ rfl
  have x2 := x 2 _ rfl
  have y0 := y 0 _ rfl
  have y1 := y 1 _ rfl
  have y2 := y 2 _ rfl
  have v0 := v 0
  have v1 := v 1
  have v2 := v 2
  clear x y v zx
  clear HK HW
  go_wp2_with fail
  refine HW1.out.mono ?_
  rintro e w3 ⟨V, xs, s, rfl, hW⟩
  have HWV := hide hW
  have hb := hW.2.2.2.2.2
  have hLw := HB.out.size
  have hw1y := HY.out.lt
  have hw13 := hb.size
  have hVl := hW.lst (Z := (· < w3.heap.size)) (fun b hb => by have := HYY.out b hb; omega) (fun b _ h => h) (by have := HM.out; unfold maxLen; omega) (fun a ha => by have := small0 HCH.out a ha; unfold maxLen; omega)
  obtain ⟨B, q, hV⟩ := hVl.form
  rw [HM.out] at hV
  subst hV
  obtain ⟨g, hBg⟩ : ∃ g, 0 < m → B = some ⟨g, 0, none⟩ := by
    rcases Nat.eq_zero_or_pos m with h0 | h0
    · exact ⟨0, fun h => by omega⟩
    · obtain ⟨g, cV, e, -⟩ := own_some hW.1 (by have := HM.out; omega)
      injection e with e
      exact ⟨g, fun _ => e⟩
  clear x0 x1 x2 y0 y1 y2 v0 v1 v2 zy
  replace HX := hide (HX.out.keep hb)
  replace HO := hide (HO.out.keep hb)
  replace HY := hide (HY.out.keep hb)
  replace HB := hide (bthen HB.out hb)
  clear hb
  have HVL := hide hVl
  have HFI := hide (fun (w' : World) (hb : Below w3.heap.size w3 w') => find_any w' c B g 0 q num (by rw [HM.out]; exact hBg) (by rw [HM.out]; exact Lq.grow rd_Aq hVl hb) (by rw [HM.out]; exact hcn))
  rw [HM.out] at HFI
  have HBG := hide hBg
  clear hW hVl hBg HW1
  obtain ⟨x, -, zx⟩ := HX.out
  obtain ⟨y, v, zy⟩ := HY.out
  have x0 := x 0 _ rfl
  have x1 := x 1 _ rfl
  have x2 := x 2 _ rfl
  have y0 := y 0 _ rfl
  have y1 := y 1 _ rfl
  have y2 := y 2 _ rfl
  have v0 := v 0
  have v1 := v 1
  have v2 := v 2
  clear x y v zx
  have HZ := hide (Bl.new w3 [.int .i64 c.next, .slice B m q, .int .i64 c.dur] 24)
  have HF4 := hide (HFI.out (w3.alloc (.cells #[.int .i64 c.next, .slice B m q, .int .i64 c.dur] 24)) (below_laid _))
  have H34 := hide (below_laid (w := w3) (.cells #[.int .i64 c.next, .slice B m q, .int .i64 c.dur] 24))
  have hlt3 := zy
  clear HFI
  rw [HEA.out, HEB.out] at HF4
  go_wp2_with fail
  refine HF4.out.mono ?_
  rintro e w5 ⟨rfl, hb45⟩
  have hb := bthen H34.out hb45
  clear x0 x1 x2 y0 y1 y2 v0 v1 v2 zy
  replace HX := hide (HX.out.keep hb)
  replace HO := hide (HO.out.keep hb)
  replace HY := hide (HY.out.keep hb)
  replace HB := hide (bthen HB.out hb)
  clear hb
  replace H34 := hide (bthen H34.out hb45)
  replace HZ := hide (HZ.out.keep hb45)
  have hlt5 := H34.out.size
  clear hb45 HF4
  obtain ⟨x, -, zx⟩ := HX.out
  obtain ⟨y, v, zy⟩ := HY.out
  have x0 := x 0 _ rfl
  have x1 := x 1 _ rfl
  have x2 := x 2 _ rfl
  have y0 := y 0 _ rfl
  have y1 := y 1 _ rfl
  have y2 := y 2 _ rfl
  have v0 := v 0
  have v1 := v 1
  have v2 := v 2
  clear x y v zx
  go_wp2
  refine bodyPost_ret (v := .tuple #[.agg #[.int .i64 0, .slice none 0 0, .int .i64 0], .int .i64 6]) (by rw [results_ct rfl]; go_simp) rfl ?_
  exact RetC1z.zero HC.out rfl (((HB.out.setCell (p := ⟨w.heap.size + 1 + 1, 0, none⟩) (by show w.heap.size ≤ w.heap.size + 1 + 1; omega) _).setCell (p := ⟨w.heap.size + 1 + 1, 1, none⟩) (by show w.heap.size ≤ w.heap.size + 1 + 1; omega) _).setCell (p := ⟨w.heap.size + 1 + 1, 2, none⟩) (by show w.heap.size ≤ w.heap.size + 1 + 1; omega) _)
set_option maxRecDepth 100000 in
set_option maxHeartbeats 8000000 in
theorem rep_neg (Y : Nat → Prop) (v : Value) (num wk : Int) (o : Oq) (xs : List Value) (hz' : CoVz w Y v c) (hY : ∀ b, Y b → b < w.heap.size) (ho : ROq w (· < w.heap.size) xs o) (hc : chkQ c = 0) (i : Nat) (hfi : findQ num c.atts = i) (hi : i < c.atts.length) (hw : wk < 0) : Calls Try.prog 18 #[v, .int .i64 num, .int .i64 wk, .agg xs.toArray] w (RetC1z w Y (repC c num wk o) (repE c num wk)) := by
  have hE0 := repE_found (wk := wk) hc hfi hi
  have hE : repE c num wk = 2 := by rw [hE0, if_pos (.inl hw)]
  have HC : Hid (repC c num wk o = Cq.z) := hide (by unfold repC; rw [hE]; rfl)
  have HEA := hide (findA_at hfi hi)
  have HI := hide hi
  rw [hE]
  obtain ⟨n3, hn3⟩ : ∃ n, (attQ c i).hv.length = n := ⟨_, rfl⟩
  have HR3 := hide hn3
  rw [hn3] at hE0
  have t1 : decide (wk < 0) = true := decide_eq_true hw
  clear hn3
  clear hE hE0 hfi hi
  obtain ⟨u, rfl, hlz, hq1, hq2⟩ := id hz'
  have h := hz'.cov hY
  have hl : Lq w 4 RAq u c.atts := hlz.more rd_Aq hY
  have HYY := hide hY
  clear hz' hY
  obtain ⟨A, cap, rfl⟩ := hl.form
  obtain ⟨vm, ve, rfl, ho1, ho2, ho3, ho4⟩ := ho
  obtain ⟨M, cm, rfl⟩ := ho1.form
  obtain ⟨D, cd, rfl⟩ := ho2.form
  have HB := hide (show Below w.heap.size w (((w.alloc (.cells #[.int .i64 c.next, .slice A c.atts.length cap, .int .i64 c.dur] 24)).alloc (.cells #[.slice M o.marks.length cm, .slice D o.engs.length cd] 42)).alloc (.cells #[.int .i64 0, .slice none 0 0, .int .i64 0] 24)) from bA_alloc (bA_alloc (below_laid _) _) _)
  have HX := hide (((Bl.new w [.int .i64 c.next, .slice A c.atts.length cap, .int .i64 c.dur] 24).laid (.cells #[.slice M o.marks.length cm, .slice D o.engs.length cd] 42)).laid (.cells #[.int .i64 0, .slice none 0 0, .int .i64 0] 24))
  have HO := hide (show Bl (((w.alloc (.cells #[.int .i64 c.next, .slice A c.atts.length cap, .int .i64 c.dur] 24)).alloc (.cells #[.slice M o.marks.length cm, .slice D o.engs.length cd] 42)).alloc (.cells #[.int .i64 0, .slice none 0 0, .int .i64 0] 24)) (w.heap.size + 1) [.slice M o.marks.length cm, .slice D o.engs.length cd] by have := (Bl.new (w.alloc (.cells #[.int .i64 c.next, .slice A c.atts.length cap, .int .i64 c.dur] 24)) [.slice M o.marks.length cm, .slice D o.engs.length cd] 42).laid (.cells #[.int .i64 0, .slice none 0 0, .int .i64 0] 24); simpa using this)
  have HY := hide (show Bl (((w.alloc (.cells #[.int .i64 c.next, .slice A c.atts.length cap, .int .i64 c.dur] 24)).alloc (.cells #[.slice M o.marks.length cm, .slice D o.engs.length cd] 42)).alloc (.cells #[.int .i64 0, .slice none 0 0, .int .i64 0] 24)) (w.heap.size + 1 + 1) [.int .i64 0, .slice none 0 0, .int .i64 0] by have := Bl.new ((w.alloc (.cells #[.int .i64 c.next, .slice A c.atts.length cap, .int .i64 c.dur] 24)).alloc (.cells #[.slice M o.marks.length cm, .slice D o.engs.length cd] 42)) [.int .i64 0, .slice none 0 0, .int .i64 0] 24; simpa using this)
  have HK := hide (chk_any (((w.alloc (.cells #[.int .i64 c.next, .slice A c.atts.length cap, .int .i64 c.dur] 24)).alloc (.cells #[.slice M o.marks.length cm, .slice D o.engs.length cd] 42)).alloc (.cells #[.int .i64 0, .slice none 0 0, .int .i64 0] 24)) _ c (((h.laid _).laid _).laid _))
  have hcn : c.atts.length ≤ 256 := (chk0 hc).2.2.2.2.1
  have HW := hide (fun (w' : World) (hb : Below w.heap.size w w') => with_any w' Y c A cap (fun b h => Nat.lt_of_lt_of_le (HYY.out b h) hb.size) (Lst.keep rd_Aq (Kp.of_below hb) hlz) hcn (small0 hc))
  have HCH := hide hc
  have HQ := hide (And.intro hq1 hq2)
  have HOO := hide (And.intro ho1 (And.intro ho2 (And.intro ho3 ho4)))
  rw [hc] at HK
  obtain ⟨m, hm⟩ : ∃ m, c.atts.length = m := ⟨_, rfl⟩
  rw [hm] at HB HX HO HY HK HW hcn ⊢
  have HM := hide hm
  clear hc h hl hlz hq1 hq2 ho1 ho2 ho3 ho4 hm
  go_enter Try.func18, Try.ntmps18
  go_wp2_with fail
  refine HK.out.mono ?_
  rintro e w1 ⟨rfl, hb⟩
  replace HX := hide (HX.out.keep hb)
  replace HO := hide (HO.out.keep hb)
  replace HY := hide (HY.out.keep hb)
  replace HB := hide (bthen HB.out hb)
  clear hb
  have HW1 := hide (HW.out w1 HB.out)
  obtain ⟨x, -, zx⟩ := HX.out
  obtain ⟨y, v, zy⟩ := HY.out
  have x0 := x 0 _ rfl
  have x1 := x 1 _ rfl
  have x2 := x 2 _ rfl
  have y0 := y 0 _ rfl
  have y1 := y 1 _ rfl
  have y2 := y 2 _ rfl
  have v0 := v 0
  have v1 := v 1
  have v2 := v 2
  clear x y v zx
  clear HK HW
  go_wp2_with fail
  refine HW1.out.mono ?_
  rintro e w3 ⟨V, xs, s, rfl, hW⟩
  have HWV := hide hW
  have hb := hW.2.2.2.2.2
  have hLw := HB.out.size
  have hw1y := HY.out.lt
  have hw13 := hb.size
  have hVl := hW.lst (Z := (· < w3.heap.size)) (fun b hb => by have := HYY.out b hb; omega) (fun b _ h => h) (by have := HM.out; unfold maxLen; omega) (fun a ha => by have := small0 HCH.out a ha; unfold maxLen; omega)
  obtain ⟨B, q, hV⟩ := hVl.form
  rw [HM.out] at hV
  subst hV
  obtain ⟨g, hBg⟩ : ∃ g, 0 < m → B = some ⟨g, 0, none⟩ := by
    rcases Nat.eq_zero_or_pos m with h0 | h0
    · exact ⟨0, fun h => by omega⟩
    · obtain ⟨g, cV, e, -⟩ := own_some hW.1 (by have := HM.out; omega)
      injection e with e
      exact ⟨g, fun _ => e⟩
  clear x0 x1 x2 y0 y1 y2 v0 v1 v2 zy
  replace HX := hide (HX.out.keep hb)
  replace HO := hide (HO.out.keep hb)
  replace HY := hide (HY.out.keep hb)
  replace HB := hide (bthen HB.out hb)
  clear hb
  have HVL := hide hVl
  have HFI := hide (fun (w' : World) (hb : Below w3.heap.size w3 w') => find_any w' c B g 0 q num (by rw [HM.out]; exact hBg) (by rw [HM.out]; exact Lq.grow rd_Aq hVl hb) (by rw [HM.out]; exact hcn))
  rw [HM.out] at HFI
  have HBG := hide hBg
  clear hW hVl hBg HW1
  obtain ⟨x, -, zx⟩ := HX.out
  obtain ⟨y, v, zy⟩ := HY.out
  have x0 := x 0 _ rfl
  have x1 := x 1 _ rfl
  have x2 := x 2 _ rfl
  have y0 := y 0 _ rfl
  have y1 := y 1 _ rfl
  have y2 := y 2 _ rfl
  have v0 := v 0
  have v1 := v 1
  have v2 := v 2
  clear x y v zx
  have HZ := hide (Bl.new w3 [.int .i64 c.next, .slice B m q, .int .i64 c.dur] 24)
  have HF4 := hide (HFI.out (w3.alloc (.cells #[.int .i64 c.next, .slice B m q, .int .i64 c.dur] 24)) (below_laid _))
  have H34 := hide (below_laid (w := w3) (.cells #[.int .i64 c.next, .slice B m q, .int .i64 c.dur] 24))
  have hlt3 := zy
  clear HFI
  have hm0 : 0 < m := by have := HI.out; have := HM.out; omega
  obtain rfl := HBG.out hm0
  obtain ⟨-, A1, A2, A3, c1, c2, c3, ha⟩ := att_at HVL.out HI.out
  have k3 := ha.k3
  rw [Nat.zero_add, HR3.out] at k3
  have HAB := hide (find_ab (i := i) (c := c) (num := num) HEA.out)
  obtain ⟨pb, hpb⟩ : ∃ pb, findB g 0 c num = pb := ⟨_, rfl⟩
  rw [HEA.out.1, hpb] at HF4
  have hpc : pb = .pointer none ∨ ∃ p, pb = .pointer (some p) := by rw [← hpb]; exact HAB.out g
  clear ha hpb hm0
  rcases hpc with rfl | ⟨pp, rfl⟩
  all_goals
    go_wp2_with fail
    refine HF4.out.mono ?_
    rintro e w5 ⟨rfl, hb45⟩
    have hb := bthen H34.out hb45
    clear x0 x1 x2 y0 y1 y2 v0 v1 v2 zy
    replace HX := hide (HX.out.keep hb)
    replace HO := hide (HO.out.keep hb)
    replace HY := hide (HY.out.keep hb)
    replace HB := hide (bthen HB.out hb)
    clear hb
    replace H34 := hide (bthen H34.out hb45)
    replace HZ := hide (HZ.out.keep hb45)
    have hlt5 := H34.out.size
    clear hb45 HF4
    obtain ⟨x, -, zx⟩ := HX.out
    obtain ⟨y, v, zy⟩ := HY.out
    have x0 := x 0 _ rfl
    have x1 := x 1 _ rfl
    have x2 := x 2 _ rfl
    have y0 := y 0 _ rfl
    have y1 := y 1 _ rfl
    have y2 := y 2 _ rfl
    have v0 := v 0
    have v1 := v 1
    have v2 := v 2
    clear x y v zx
    replace k3 := keep1 H34.out k3
    go_wp2
    refine bodyPost_ret (v := .tuple #[.agg #[.int .i64 0, .slice none 0 0, .int .i64 0], .int .i64 2]) (by rw [results_ct rfl]; go_simp) rfl ?_
    exact RetC1z.zero HC.out rfl (((HB.out.setCell (p := ⟨w.heap.size + 1 + 1, 0, none⟩) (by show w.heap.size ≤ w.heap.size + 1 + 1; omega) _).setCell (p := ⟨w.heap.size + 1 + 1, 1, none⟩) (by show w.heap.size ≤ w.heap.size + 1 + 1; omega) _).setCell (p := ⟨w.heap.size + 1 + 1, 2, none⟩) (by show w.heap.size ≤ w.heap.size + 1 + 1; omega) _)
set_option maxRecDepth 100000 in
set_option maxHeartbeats 8000000 in
theorem rep_far (Y : Nat → Prop) (v : Value) (num wk : Int) (o : Oq) (xs : List Value) (hz' : CoVz w Y v c) (hY : ∀ b, Y b → b < w.heap.size) (ho : ROq w (· < w.heap.size) xs o) (hc : chkQ c = 0) (i : Nat) (hfi : findQ num c.atts = i) (hi : i < c.atts.length) (hw : 0 ≤ wk) (hw2 : ((attQ c i).hv.length : Int) ≤ wk) : Calls Try.prog 18 #[v, .int .i64 num, .int .i64 wk, .agg xs.toArray] w (RetC1z w Y (repC c num wk o) (repE c num wk)) := by
  have hE0 := repE_found (wk := wk) hc hfi hi
  have hE : repE c num wk = 2 := by rw [hE0, if_pos (.inr hw2)]
  have HC : Hid (repC c num wk o = Cq.z) := hide (by unfold repC; rw [hE]; rfl)
  have HEA := hide (findA_at hfi hi)
  have HI := hide hi
  rw [hE]
  obtain ⟨n3, hn3⟩ : ∃ n, (attQ c i).hv.length = n := ⟨_, rfl⟩
  have HR3 := hide hn3
  rw [hn3] at hE0
  rw [hn3] at hw2
  have t1 : decide (wk < 0) = false := decide_eq_false (by omega)
  have t2 : decide ((n3 : Int) ≤ wk) = true := decide_eq_true hw2
  clear hn3
  clear hE hE0 hfi hi
  obtain ⟨u, rfl, hlz, hq1, hq2⟩ := id hz'
  have h := hz'.cov hY
  have hl : Lq w 4 RAq u c.atts := hlz.more rd_Aq hY
  have HYY := hide hY
  clear hz' hY
  obtain ⟨A, cap, rfl⟩ := hl.form
  obtain ⟨vm, ve, rfl, ho1, ho2, ho3, ho4⟩ := ho
  obtain ⟨M, cm, rfl⟩ := ho1.form
  obtain ⟨D, cd, rfl⟩ := ho2.form
  have HB := hide (show Below w.heap.size w (((w.alloc (.cells #[.int .i64 c.next, .slice A c.atts.length cap, .int .i64 c.dur] 24)).alloc (.cells #[.slice M o.marks.length cm, .slice D o.engs.length cd] 42)).alloc (.cells #[.int .i64 0, .slice none 0 0, .int .i64 0] 24)) from bA_alloc (bA_alloc (below_laid _) _) _)
  have HX := hide (((Bl.new w [.int .i64 c.next, .slice A c.atts.length cap, .int .i64 c.dur] 24).laid (.cells #[.slice M o.marks.length cm, .slice D o.engs.length cd] 42)).laid (.cells #[.int .i64 0, .slice none 0 0, .int .i64 0] 24))
  have HO := hide (show Bl (((w.alloc (.cells #[.int .i64 c.next, .slice A c.atts.length cap, .int .i64 c.dur] 24)).alloc (.cells #[.slice M o.marks.length cm, .slice D o.engs.length cd] 42)).alloc (.cells #[.int .i64 0, .slice none 0 0, .int .i64 0] 24)) (w.heap.size + 1) [.slice M o.marks.length cm, .slice D o.engs.length cd] by have := (Bl.new (w.alloc (.cells #[.int .i64 c.next, .slice A c.atts.length cap, .int .i64 c.dur] 24)) [.slice M o.marks.length cm, .slice D o.engs.length cd] 42).laid (.cells #[.int .i64 0, .slice none 0 0, .int .i64 0] 24); simpa using this)
  have HY := hide (show Bl (((w.alloc (.cells #[.int .i64 c.next, .slice A c.atts.length cap, .int .i64 c.dur] 24)).alloc (.cells #[.slice M o.marks.length cm, .slice D o.engs.length cd] 42)).alloc (.cells #[.int .i64 0, .slice none 0 0, .int .i64 0] 24)) (w.heap.size + 1 + 1) [.int .i64 0, .slice none 0 0, .int .i64 0] by have := Bl.new ((w.alloc (.cells #[.int .i64 c.next, .slice A c.atts.length cap, .int .i64 c.dur] 24)).alloc (.cells #[.slice M o.marks.length cm, .slice D o.engs.length cd] 42)) [.int .i64 0, .slice none 0 0, .int .i64 0] 24; simpa using this)
  have HK := hide (chk_any (((w.alloc (.cells #[.int .i64 c.next, .slice A c.atts.length cap, .int .i64 c.dur] 24)).alloc (.cells #[.slice M o.marks.length cm, .slice D o.engs.length cd] 42)).alloc (.cells #[.int .i64 0, .slice none 0 0, .int .i64 0] 24)) _ c (((h.laid _).laid _).laid _))
  have hcn : c.atts.length ≤ 256 := (chk0 hc).2.2.2.2.1
  have HW := hide (fun (w' : World) (hb : Below w.heap.size w w') => with_any w' Y c A cap (fun b h => Nat.lt_of_lt_of_le (HYY.out b h) hb.size) (Lst.keep rd_Aq (Kp.of_below hb) hlz) hcn (small0 hc))
  have HCH := hide hc
  have HQ := hide (And.intro hq1 hq2)
  have HOO := hide (And.intro ho1 (And.intro ho2 (And.intro ho3 ho4)))
  rw [hc] at HK
  obtain ⟨m, hm⟩ : ∃ m, c.atts.length = m := ⟨_, rfl⟩
  rw [hm] at HB HX HO HY HK HW hcn ⊢
  have HM := hide hm
  clear hc h hl hlz hq1 hq2 ho1 ho2 ho3 ho4 hm
  go_enter Try.func18, Try.ntmps18
  go_wp2_with fail
  refine HK.out.mono ?_
  rintro e w1 ⟨rfl, hb⟩
  replace HX := hide (HX.out.keep hb)
  replace HO := hide (HO.out.keep hb)
  replace HY := hide (HY.out.keep hb)
  replace HB := hide (bthen HB.out hb)
  clear hb
  have HW1 := hide (HW.out w1 HB.out)
  obtain ⟨x, -, zx⟩ := HX.out
  obtain ⟨y, v, zy⟩ := HY.out
  have x0 := x 0 _ rfl
  have x1 := x 1 _ rfl
  have x2 := x 2 _ rfl
  have y0 := y 0 _ rfl
  have y1 := y 1 _ rfl
  have y2 := y 2 _ rfl
  have v0 := v 0
  have v1 := v 1
  have v2 := v 2
  clear x y v zx
  clear HK HW
  go_wp2_with fail
  refine HW1.out.mono ?_
  rintro e w3 ⟨V, xs, s, rfl, hW⟩
  have HWV := hide hW
  have hb := hW.2.2.2.2.2
  have hLw := HB.out.size
  have hw1y := HY.out.lt
  have hw13 := hb.size
  have hVl := hW.lst (Z := (· < w3.heap.size)) (fun b hb => by have := HYY.out b hb; omega) (fun b _ h => h) (by have := HM.out; unfold maxLen; omega) (fun a ha => by have := small0 HCH.out a ha; unfold maxLen; omega)
  obtain ⟨B, q, hV⟩ := hVl.form
  rw [HM.out] at hV
  subst hV
  obtain ⟨g, hBg⟩ : ∃ g, 0 < m → B = some ⟨g, 0, none⟩ := by
    rcases Nat.eq_zero_or_pos m with h0 | h0
    · exact ⟨0, fun h => by omega⟩
    · obtain ⟨g, cV, e, -⟩ := own_some hW.1 (by have := HM.out; omega)
      injection e with e
      exact ⟨g, fun _ => e⟩
  clear x0 x1 x2 y0 y1 y2 v0 v1 v2 zy
  replace HX := hide (HX.out.keep hb)
  replace HO := hide (HO.out.keep hb)
  replace HY := hide (HY.out.keep hb)
  replace HB := hide (bthen HB.out hb)
  clear hb
  have HVL := hide hVl
  have HFI := hide (fun (w' : World) (hb : Below w3.heap.size w3 w') => find_any w' c B g 0 q num (by rw [HM.out]; exact hBg) (by rw [HM.out]; exact Lq.grow rd_Aq hVl hb) (by rw [HM.out]; exact hcn))
  rw [HM.out] at HFI
  have HBG := hide hBg
  clear hW hVl hBg HW1
  obtain ⟨x, -, zx⟩ := HX.out
  obtain ⟨y, v, zy⟩ := HY.out
  have x0 := x 0 _ rfl
  have x1 := x 1 _ rfl
  have x2 := x 2 _ rfl
  have y0 := y 0 _ rfl
  have y1 := y 1 _ rfl
  have y2 := y 2 _ rfl
  have v0 := v 0
  have v1 := v 1
  have v2 := v 2
  clear x y v zx
  have HZ := hide (Bl.new w3 [.int .i64 c.next, .slice B m q, .int .i64 c.dur] 24)
  have HF4 := hide (HFI.out (w3.alloc (.cells #[.int .i64 c.next, .slice B m q, .int .i64 c.dur] 24)) (below_laid _))
  have H34 := hide (below_laid (w := w3) (.cells #[.int .i64 c.next, .slice B m q, .int .i64 c.dur] 24))
  have hlt3 := zy
  clear HFI
  have hm0 : 0 < m := by have := HI.out; have := HM.out; omega
  obtain rfl := HBG.out hm0
  obtain ⟨-, A1, A2, A3, c1, c2, c3, ha⟩ := att_at HVL.out HI.out
  have k3 := ha.k3
  rw [Nat.zero_add, HR3.out] at k3
  have HAB := hide (find_ab (i := i) (c := c) (num := num) HEA.out)
  obtain ⟨pb, hpb⟩ : ∃ pb, findB g 0 c num = pb := ⟨_, rfl⟩
  rw [HEA.out.1, hpb] at HF4
  have hpc : pb = .pointer none ∨ ∃ p, pb = .pointer (some p) := by rw [← hpb]; exact HAB.out g
  clear ha hpb hm0
  rcases hpc with rfl | ⟨pp, rfl⟩
  all_goals
    go_wp2_with fail
    refine HF4.out.mono ?_
    rintro e w5 ⟨rfl, hb45⟩
    have hb := bthen H34.out hb45
    clear x0 x1 x2 y0 y1 y2 v0 v1 v2 zy
    replace HX := hide (HX.out.keep hb)
    replace HO := hide (HO.out.keep hb)
    replace HY := hide (HY.out.keep hb)
    replace HB := hide (bthen HB.out hb)
    clear hb
    replace H34 := hide (bthen H34.out hb45)
    replace HZ := hide (HZ.out.keep hb45)
    have hlt5 := H34.out.size
    clear hb45 HF4
    obtain ⟨x, -, zx⟩ := HX.out
    obtain ⟨y, v, zy⟩ := HY.out
    have x0 := x 0 _ rfl
    have x1 := x 1 _ rfl
    have x2 := x 2 _ rfl
    have y0 := y 0 _ rfl
    have y1 := y 1 _ rfl
    have y2 := y 2 _ rfl
    have v0 := v 0
    have v1 := v 1
    have v2 := v 2
    clear x y v zx
    replace k3 := keep1 H34.out k3
    go_wp2
    refine bodyPost_ret (v := .tuple #[.agg #[.int .i64 0, .slice none 0 0, .int .i64 0], .int .i64 2]) (by rw [results_ct rfl]; go_simp) rfl ?_
    exact RetC1z.zero HC.out rfl (((HB.out.setCell (p := ⟨w.heap.size + 1 + 1, 0, none⟩) (by show w.heap.size ≤ w.heap.size + 1 + 1; omega) _).setCell (p := ⟨w.heap.size + 1 + 1, 1, none⟩) (by show w.heap.size ≤ w.heap.size + 1 + 1; omega) _).setCell (p := ⟨w.heap.size + 1 + 1, 2, none⟩) (by show w.heap.size ≤ w.heap.size + 1 + 1; omega) _)
set_option maxRecDepth 100000 in
set_option maxHeartbeats 8000000 in
theorem rep_dup (Y : Nat → Prop) (v : Value) (num : Int) (k : Nat) (o : Oq) (xs : List Value) (hz' : CoVz w Y v c) (hY : ∀ b, Y b → b < w.heap.size) (ho : ROq w (· < w.heap.size) xs o) (hc : chkQ c = 0) (i : Nat) (hfi : findQ num c.atts = i) (hi : i < c.atts.length) (hk : k < (attQ c i).hv.length) (hh : (attQ c i).hv.getD k false = true) : Calls Try.prog 18 #[v, .int .i64 num, .int .i64 (k : Int), .agg xs.toArray] w (RetC1z w Y (repC c num (k : Int) o) (repE c num (k : Int))) := by
  have hE0 := repE_found (wk := (k : Int)) hc hfi hi
  rw [if_neg (by omega), Int.toNat_natCast] at hE0
  have hE : repE c num (k : Int) = 31 := by rw [hE0, if_pos hh]
  have HC : Hid (repC c num (k : Int) o = Cq.z) := hide (by unfold repC; rw [hE]; rfl)
  have HEA := hide (findA_at hfi hi)
  have HI := hide hi
  have HK9 := hide hk
  rw [hE]
  obtain ⟨n3, hn3⟩ : ∃ n, (attQ c i).hv.length = n := ⟨_, rfl⟩
  have HR3 := hide hn3
  rw [hn3] at hk
  have hn8 : n3 ≤ 8 := by have := (err0 ((chk0 hc).2.2.2.2.2 i hi)).2.2.2.2.2.2.1; omega
  have t1 : decide ((k : Int) < 0) = false := decide_eq_false (by omega)
  have t2 : decide ((n3 : Int) ≤ (k : Int)) = false := decide_eq_false (by omega)
  have t3 : (0 : Int) ≤ (k : Int) := by omega
  have t4 : (k : Int) < (n3 : Int) := by omega
  have HH := hide hh
  clear hh
  clear hE hE0 hfi hi hn3
  obtain ⟨u, rfl, hlz, hq1, hq2⟩ := id hz'
  have h := hz'.cov hY
  have hl : Lq w 4 RAq u c.atts := hlz.more rd_Aq hY
  have HYY := hide hY
  clear hz' hY
  obtain ⟨A, cap, rfl⟩ := hl.form
  obtain ⟨vm, ve, rfl, ho1, ho2, ho3, ho4⟩ := ho
  obtain ⟨M, cm, rfl⟩ := ho1.form
  obtain ⟨D, cd, rfl⟩ := ho2.form
  have HB := hide (show Below w.heap.size w (((w.alloc (.cells #[.int .i64 c.next, .slice A c.atts.length cap, .int .i64 c.dur] 24)).alloc (.cells #[.slice M o.marks.length cm, .slice D o.engs.length cd] 42)).alloc (.cells #[.int .i64 0, .slice none 0 0, .int .i64 0] 24)) from bA_alloc (bA_alloc (below_laid _) _) _)
  have HX := hide (((Bl.new w [.int .i64 c.next, .slice A c.atts.length cap, .int .i64 c.dur] 24).laid (.cells #[.slice M o.marks.length cm, .slice D o.engs.length cd] 42)).laid (.cells #[.int .i64 0, .slice none 0 0, .int .i64 0] 24))
  have HO := hide (show Bl (((w.alloc (.cells #[.int .i64 c.next, .slice A c.atts.length cap, .int .i64 c.dur] 24)).alloc (.cells #[.slice M o.marks.length cm, .slice D o.engs.length cd] 42)).alloc (.cells #[.int .i64 0, .slice none 0 0, .int .i64 0] 24)) (w.heap.size + 1) [.slice M o.marks.length cm, .slice D o.engs.length cd] by have := (Bl.new (w.alloc (.cells #[.int .i64 c.next, .slice A c.atts.length cap, .int .i64 c.dur] 24)) [.slice M o.marks.length cm, .slice D o.engs.length cd] 42).laid (.cells #[.int .i64 0, .slice none 0 0, .int .i64 0] 24); simpa using this)
  have HY := hide (show Bl (((w.alloc (.cells #[.int .i64 c.next, .slice A c.atts.length cap, .int .i64 c.dur] 24)).alloc (.cells #[.slice M o.marks.length cm, .slice D o.engs.length cd] 42)).alloc (.cells #[.int .i64 0, .slice none 0 0, .int .i64 0] 24)) (w.heap.size + 1 + 1) [.int .i64 0, .slice none 0 0, .int .i64 0] by have := Bl.new ((w.alloc (.cells #[.int .i64 c.next, .slice A c.atts.length cap, .int .i64 c.dur] 24)).alloc (.cells #[.slice M o.marks.length cm, .slice D o.engs.length cd] 42)) [.int .i64 0, .slice none 0 0, .int .i64 0] 24; simpa using this)
  have HK := hide (chk_any (((w.alloc (.cells #[.int .i64 c.next, .slice A c.atts.length cap, .int .i64 c.dur] 24)).alloc (.cells #[.slice M o.marks.length cm, .slice D o.engs.length cd] 42)).alloc (.cells #[.int .i64 0, .slice none 0 0, .int .i64 0] 24)) _ c (((h.laid _).laid _).laid _))
  have hcn : c.atts.length ≤ 256 := (chk0 hc).2.2.2.2.1
  have HW := hide (fun (w' : World) (hb : Below w.heap.size w w') => with_any w' Y c A cap (fun b h => Nat.lt_of_lt_of_le (HYY.out b h) hb.size) (Lst.keep rd_Aq (Kp.of_below hb) hlz) hcn (small0 hc))
  have HCH := hide hc
  have HQ := hide (And.intro hq1 hq2)
  have HOO := hide (And.intro ho1 (And.intro ho2 (And.intro ho3 ho4)))
  rw [hc] at HK
  obtain ⟨m, hm⟩ : ∃ m, c.atts.length = m := ⟨_, rfl⟩
  rw [hm] at HB HX HO HY HK HW hcn ⊢
  have HM := hide hm
  clear hc h hl hlz hq1 hq2 ho1 ho2 ho3 ho4 hm
  go_enter Try.func18, Try.ntmps18
  go_wp2_with fail
  refine HK.out.mono ?_
  rintro e w1 ⟨rfl, hb⟩
  replace HX := hide (HX.out.keep hb)
  replace HO := hide (HO.out.keep hb)
  replace HY := hide (HY.out.keep hb)
  replace HB := hide (bthen HB.out hb)
  clear hb
  have HW1 := hide (HW.out w1 HB.out)
  obtain ⟨x, -, zx⟩ := HX.out
  obtain ⟨y, v, zy⟩ := HY.out
  have x0 := x 0 _ rfl
  have x1 := x 1 _ rfl
  have x2 := x 2 _ rfl
  have y0 := y 0 _ rfl
  have y1 := y 1 _ rfl
  have y2 := y 2 _ rfl
  have v0 := v 0
  have v1 := v 1
  have v2 := v 2
  clear x y v zx
  clear HK HW
  go_wp2_with fail
  refine HW1.out.mono ?_
  rintro e w3 ⟨V, xs, s, rfl, hW⟩
  have HWV := hide hW
  have hb := hW.2.2.2.2.2
  have hLw := HB.out.size
  have hw1y := HY.out.lt
  have hw13 := hb.size
  have hVl := hW.lst (Z := (· < w3.heap.size)) (fun b hb => by have := HYY.out b hb; omega) (fun b _ h => h) (by have := HM.out; unfold maxLen; omega) (fun a ha => by have := small0 HCH.out a ha; unfold maxLen; omega)
  obtain ⟨B, q, hV⟩ := hVl.form
  rw [HM.out] at hV
  subst hV
  obtain ⟨g, hBg⟩ : ∃ g, 0 < m → B = some ⟨g, 0, none⟩ := by
    rcases Nat.eq_zero_or_pos m with h0 | h0
    · exact ⟨0, fun h => by omega⟩
    · obtain ⟨g, cV, e, -⟩ := own_some hW.1 (by have := HM.out; omega)
      injection e with e
      exact ⟨g, fun _ => e⟩
  clear x0 x1 x2 y0 y1 y2 v0 v1 v2 zy
  replace HX := hide (HX.out.keep hb)
  replace HO := hide (HO.out.keep hb)
  replace HY := hide (HY.out.keep hb)
  replace HB := hide (bthen HB.out hb)
  clear hb
  have HVL := hide hVl
  have HFI := hide (fun (w' : World) (hb : Below w3.heap.size w3 w') => find_any w' c B g 0 q num (by rw [HM.out]; exact hBg) (by rw [HM.out]; exact Lq.grow rd_Aq hVl hb) (by rw [HM.out]; exact hcn))
  rw [HM.out] at HFI
  have HBG := hide hBg
  clear hW hVl hBg HW1
  obtain ⟨x, -, zx⟩ := HX.out
  obtain ⟨y, v, zy⟩ := HY.out
  have x0 := x 0 _ rfl
  have x1 := x 1 _ rfl
  have x2 := x 2 _ rfl
  have y0 := y 0 _ rfl
  have y1 := y 1 _ rfl
  have y2 := y 2 _ rfl
  have v0 := v 0
  have v1 := v 1
  have v2 := v 2
  clear x y v zx
  have HZ := hide (Bl.new w3 [.int .i64 c.next, .slice B m q, .int .i64 c.dur] 24)
  have HF4 := hide (HFI.out (w3.alloc (.cells #[.int .i64 c.next, .slice B m q, .int .i64 c.dur] 24)) (below_laid _))
  have H34 := hide (below_laid (w := w3) (.cells #[.int .i64 c.next, .slice B m q, .int .i64 c.dur] 24))
  have hlt3 := zy
  clear HFI
  have hm0 : 0 < m := by have := HI.out; have := HM.out; omega
  obtain rfl := HBG.out hm0
  obtain ⟨g', q', go, c2, gt, c3, yy1, yy2, hV, r2, r3, fo, ft, kt, ko1, ko2, gg1, gg2, gg3, gg4, gg5, gg6, gne1, gne2, gne3, hfin⟩ := rep_mem HWV.out HCH.out (fun b h => Nat.lt_of_lt_of_le (HYY.out b h) hLw) HI.out HK9.out
  rw [HM.out] at hV
  injection hV with hV _ hV2
  injection hV with hV
  injection hV with hV
  subst hV hV2
  rw [HR3.out] at r3
  rw [HH.out] at kt
  have HAB := hide (find_ab (i := i) (c := c) (num := num) HEA.out)
  obtain ⟨pb, hpb⟩ : ∃ pb, findB g 0 c num = pb := ⟨_, rfl⟩
  rw [HEA.out.1, hpb] at HF4
  have hpc : pb = .pointer none ∨ ∃ p, pb = .pointer (some p) := by rw [← hpb]; exact HAB.out g
  clear hpb hm0 hfin fo ft ko1 ko2 r2
  rcases hpc with rfl | ⟨pp, rfl⟩
  all_goals
    go_wp2_with fail
    refine HF4.out.mono ?_
    rintro e w5 ⟨rfl, hb45⟩
    have hb := bthen H34.out hb45
    clear x0 x1 x2 y0 y1 y2 v0 v1 v2 zy
    replace HX := hide (HX.out.keep hb)
    replace HO := hide (HO.out.keep hb)
    replace HY := hide (HY.out.keep hb)
    replace HB := hide (bthen HB.out hb)
    clear hb
    replace H34 := hide (bthen H34.out hb45)
    replace HZ := hide (HZ.out.keep hb45)
    have hlt5 := H34.out.size
    clear hb45 HF4
    obtain ⟨x, -, zx⟩ := HX.out
    obtain ⟨y, v, zy⟩ := HY.out
    have x0 := x 0 _ rfl
    have x1 := x 1 _ rfl
    have x2 := x 2 _ rfl
    have y0 := y 0 _ rfl
    have y1 := y 1 _ rfl
    have y2 := y 2 _ rfl
    have v0 := v 0
    have v1 := v 1
    have v2 := v 2
    clear x y v zx
    replace r3 := keep1 H34.out r3
    replace kt := keep1 H34.out kt
    go_wp2
    refine bodyPost_ret (v := .tuple #[.agg #[.int .i64 0, .slice none 0 0, .int .i64 0], .int .i64 31]) (by rw [results_ct rfl]; go_simp) rfl ?_
    exact RetC1z.zero HC.out rfl (((HB.out.setCell (p := ⟨w.heap.size + 1 + 1, 0, none⟩) (by show w.heap.size ≤ w.heap.size + 1 + 1; omega) _).setCell (p := ⟨w.heap.size + 1 + 1, 1, none⟩) (by show w.heap.size ≤ w.heap.size + 1 + 1; omega) _).setCell (p := ⟨w.heap.size + 1 + 1, 2, none⟩) (by show w.heap.size ≤ w.heap.size + 1 + 1; omega) _)
set_option maxRecDepth 100000 in
set_option maxHeartbeats 8000000 in
theorem rep_ord (Y : Nat → Prop) (v : Value) (num : Int) (k : Nat) (o : Oq) (xs : List Value) (hz' : CoVz w Y v c) (hY : ∀ b, Y b → b < w.heap.size) (ho : ROq w (· < w.heap.size) xs o) (hc : chkQ c = 0) (i : Nat) (hfi : findQ num c.atts = i) (hi : i < c.atts.length) (hk : k < (attQ c i).hv.length) (hh : (attQ c i).hv.getD k false = false) (h0 : 0 < i) (hh2 : (attQ c (i - 1)).hv.getD k true = false) : Calls Try.prog 18 #[v, .int .i64 num, .int .i64 (k : Int), .agg xs.toArray] w (RetC1z w Y (repC c num (k : Int) o) (repE c num (k : Int))) := by
  have hE0 := repE_found (wk := (k : Int)) hc hfi hi
  rw [if_neg (by omega), Int.toNat_natCast] at hE0
  have hE : repE c num (k : Int) = 14 := by rw [hE0, if_neg (by rw [hh]; decide), if_pos ⟨h0, hh2⟩]
  have HC : Hid (repC c num (k : Int) o = Cq.z) := hide (by unfold repC; rw [hE]; rfl)
  have HEA := hide (findA_at hfi hi)
  have HI := hide hi
  have HK9 := hide hk
  rw [hE]
  obtain ⟨n3, hn3⟩ : ∃ n, (attQ c i).hv.length = n := ⟨_, rfl⟩
  have HR3 := hide hn3
  rw [hn3] at hk
  have hn8 : n3 ≤ 8 := by have := (err0 ((chk0 hc).2.2.2.2.2 i hi)).2.2.2.2.2.2.1; omega
  have t1 : decide ((k : Int) < 0) = false := decide_eq_false (by omega)
  have t2 : decide ((n3 : Int) ≤ (k : Int)) = false := decide_eq_false (by omega)
  have t3 : (0 : Int) ≤ (k : Int) := by omega
  have t4 : (k : Int) < (n3 : Int) := by omega
  have HH := hide hh
  have HH2 := hide hh2
  have HK1 : Hid (k < (attQ c (i - 1)).hv.length) := hide (by have e1 := err0 ((chk0 hc).2.2.2.2.2 i hi); have e2 := err0 ((chk0 hc).2.2.2.2.2 (i - 1) (by omega)); omega)
  clear hh hh2
  clear hE hE0 hfi hi hn3
  obtain ⟨u, rfl, hlz, hq1, hq2⟩ := id hz'
  have h := hz'.cov hY
  have hl : Lq w 4 RAq u c.atts := hlz.more rd_Aq hY
  have HYY := hide hY
  clear hz' hY
  obtain ⟨A, cap, rfl⟩ := hl.form
  obtain ⟨vm, ve, rfl, ho1, ho2, ho3, ho4⟩ := ho
  obtain ⟨M, cm, rfl⟩ := ho1.form
  obtain ⟨D, cd, rfl⟩ := ho2.form
  have HB := hide (show Below w.heap.size w (((w.alloc (.cells #[.int .i64 c.next, .slice A c.atts.length cap, .int .i64 c.dur] 24)).alloc (.cells #[.slice M o.marks.length cm, .slice D o.engs.length cd] 42)).alloc (.cells #[.int .i64 0, .slice none 0 0, .int .i64 0] 24)) from bA_alloc (bA_alloc (below_laid _) _) _)
  have HX := hide (((Bl.new w [.int .i64 c.next, .slice A c.atts.length cap, .int .i64 c.dur] 24).laid (.cells #[.slice M o.marks.length cm, .slice D o.engs.length cd] 42)).laid (.cells #[.int .i64 0, .slice none 0 0, .int .i64 0] 24))
  have HO := hide (show Bl (((w.alloc (.cells #[.int .i64 c.next, .slice A c.atts.length cap, .int .i64 c.dur] 24)).alloc (.cells #[.slice M o.marks.length cm, .slice D o.engs.length cd] 42)).alloc (.cells #[.int .i64 0, .slice none 0 0, .int .i64 0] 24)) (w.heap.size + 1) [.slice M o.marks.length cm, .slice D o.engs.length cd] by have := (Bl.new (w.alloc (.cells #[.int .i64 c.next, .slice A c.atts.length cap, .int .i64 c.dur] 24)) [.slice M o.marks.length cm, .slice D o.engs.length cd] 42).laid (.cells #[.int .i64 0, .slice none 0 0, .int .i64 0] 24); simpa using this)
  have HY := hide (show Bl (((w.alloc (.cells #[.int .i64 c.next, .slice A c.atts.length cap, .int .i64 c.dur] 24)).alloc (.cells #[.slice M o.marks.length cm, .slice D o.engs.length cd] 42)).alloc (.cells #[.int .i64 0, .slice none 0 0, .int .i64 0] 24)) (w.heap.size + 1 + 1) [.int .i64 0, .slice none 0 0, .int .i64 0] by have := Bl.new ((w.alloc (.cells #[.int .i64 c.next, .slice A c.atts.length cap, .int .i64 c.dur] 24)).alloc (.cells #[.slice M o.marks.length cm, .slice D o.engs.length cd] 42)) [.int .i64 0, .slice none 0 0, .int .i64 0] 24; simpa using this)
  have HK := hide (chk_any (((w.alloc (.cells #[.int .i64 c.next, .slice A c.atts.length cap, .int .i64 c.dur] 24)).alloc (.cells #[.slice M o.marks.length cm, .slice D o.engs.length cd] 42)).alloc (.cells #[.int .i64 0, .slice none 0 0, .int .i64 0] 24)) _ c (((h.laid _).laid _).laid _))
  have hcn : c.atts.length ≤ 256 := (chk0 hc).2.2.2.2.1
  have HW := hide (fun (w' : World) (hb : Below w.heap.size w w') => with_any w' Y c A cap (fun b h => Nat.lt_of_lt_of_le (HYY.out b h) hb.size) (Lst.keep rd_Aq (Kp.of_below hb) hlz) hcn (small0 hc))
  have HCH := hide hc
  have HQ := hide (And.intro hq1 hq2)
  have HOO := hide (And.intro ho1 (And.intro ho2 (And.intro ho3 ho4)))
  rw [hc] at HK
  obtain ⟨m, hm⟩ : ∃ m, c.atts.length = m := ⟨_, rfl⟩
  rw [hm] at HB HX HO HY HK HW hcn ⊢
  have HM := hide hm
  clear hc h hl hlz hq1 hq2 ho1 ho2 ho3 ho4 hm
  go_enter Try.func18, Try.ntmps18
  go_wp2_with fail
  refine HK.out.mono ?_
  rintro e w1 ⟨rfl, hb⟩
  replace HX := hide (HX.out.keep hb)
  replace HO := hide (HO.out.keep hb)
  replace HY := hide (HY.out.keep hb)
  replace HB := hide (bthen HB.out hb)
  clear hb
  have HW1 := hide (HW.out w1 HB.out)
  obtain ⟨x, -, zx⟩ := HX.out
  obtain ⟨y, v, zy⟩ := HY.out
  have x0 := x 0 _ rfl
  have x1 := x 1 _ rfl
  have x2 := x 2 _ rfl
  have y0 := y 0 _ rfl
  have y1 := y 1 _ rfl
  have y2 := y 2 _ rfl
  have v0 := v 0
  have v1 := v 1
  have v2 := v 2
  clear x y v zx
  clear HK HW
  go_wp2_with fail
  refine HW1.out.mono ?_
  rintro e w3 ⟨V, xs, s, rfl, hW⟩
  have HWV := hide hW
  have hb := hW.2.2.2.2.2
  have hLw := HB.out.size
  have hw1y := HY.out.lt
  have hw13 := hb.size
  have hVl := hW.lst (Z := (· < w3.heap.size)) (fun b hb => by have := HYY.out b hb; omega) (fun b _ h => h) (by have := HM.out; unfold maxLen; omega) (fun a ha => by have := small0 HCH.out a ha; unfold maxLen; omega)
  obtain ⟨B, q, hV⟩ := hVl.form
  rw [HM.out] at hV
  subst hV
  obtain ⟨g, hBg⟩ : ∃ g, 0 < m → B = some ⟨g, 0, none⟩ := by
    rcases Nat.eq_zero_or_pos m with h0 | h0
    · exact ⟨0, fun h => by omega⟩
    · obtain ⟨g, cV, e, -⟩ := own_some hW.1 (by have := HM.out; omega)
      injection e with e
      exact ⟨g, fun _ => e⟩
  clear x0 x1 x2 y0 y1 y2 v0 v1 v2 zy
  replace HX := hide (HX.out.keep hb)
  replace HO := hide (HO.out.keep hb)
  replace HY := hide (HY.out.keep hb)
  replace HB := hide (bthen HB.out hb)
  clear hb
  have HVL := hide hVl
  have HFI := hide (fun (w' : World) (hb : Below w3.heap.size w3 w') => find_any w' c B g 0 q num (by rw [HM.out]; exact hBg) (by rw [HM.out]; exact Lq.grow rd_Aq hVl hb) (by rw [HM.out]; exact hcn))
  rw [HM.out] at HFI
  have HBG := hide hBg
  clear hW hVl hBg HW1
  obtain ⟨x, -, zx⟩ := HX.out
  obtain ⟨y, v, zy⟩ := HY.out
  have x0 := x 0 _ rfl
  have x1 := x 1 _ rfl
  have x2 := x 2 _ rfl
  have y0 := y 0 _ rfl
  have y1 := y 1 _ rfl
  have y2 := y 2 _ rfl
  have v0 := v 0
  have v1 := v 1
  have v2 := v 2
  clear x y v zx
  have HZ := hide (Bl.new w3 [.int .i64 c.next, .slice B m q, .int .i64 c.dur] 24)
  have HF4 := hide (HFI.out (w3.alloc (.cells #[.int .i64 c.next, .slice B m q, .int .i64 c.dur] 24)) (below_laid _))
  have H34 := hide (below_laid (w := w3) (.cells #[.int .i64 c.next, .slice B m q, .int .i64 c.dur] 24))
  have hlt3 := zy
  clear HFI
  have hm0 : 0 < m := by have := HI.out; have := HM.out; omega
  obtain rfl := HBG.out hm0
  obtain ⟨g', q', go, c2, gt, c3, yy1, yy2, hV, r2, r3, fo, ft, kt, ko1, ko2, gg1, gg2, gg3, gg4, gg5, gg6, gne1, gne2, gne3, hfin⟩ := rep_mem HWV.out HCH.out (fun b h => Nat.lt_of_lt_of_le (HYY.out b h) hLw) HI.out HK9.out
  rw [HM.out] at hV
  injection hV with hV _ hV2
  injection hV with hV
  injection hV with hV
  subst hV hV2
  rw [HR3.out] at r3
  rw [HH.out] at kt
  obtain ⟨gb, ob, cb, s3, sb⟩ := hv_mem HVL.out (show i - 1 < c.atts.length by have := HI.out; omega) HK1.out
  rw [HH2.out] at sb
  obtain ⟨nb, hnb⟩ : ∃ n, (attQ c (i - 1)).hv.length = n := ⟨_, rfl⟩
  have t5 : (k : Int) < (nb : Int) := by have := HK1.out; omega
  rw [hnb] at s3
  rw [HEA.out.1, HEA.out.2.2 h0] at HF4
  clear hnb hm0 hfin fo ft ko1 ko2 r2
  go_wp2_with fail
  refine HF4.out.mono ?_
  rintro e w5 ⟨rfl, hb45⟩
  have hb := bthen H34.out hb45
  clear x0 x1 x2 y0 y1 y2 v0 v1 v2 zy
  replace HX := hide (HX.out.keep hb)
  replace HO := hide (HO.out.keep hb)
  replace HY := hide (HY.out.keep hb)
  replace HB := hide (bthen HB.out hb)
  clear hb
  replace H34 := hide (bthen H34.out hb45)
  replace HZ := hide (HZ.out.keep hb45)
  have hlt5 := H34.out.size
  clear hb45 HF4
  obtain ⟨x, -, zx⟩ := HX.out
  obtain ⟨y, v, zy⟩ := HY.out
  have x0 := x 0 _ rfl
  have x1 := x 1 _ rfl
  have x2 := x 2 _ rfl
  have y0 := y 0 _ rfl
  have y1 := y 1 _ rfl
  have y2 := y 2 _ rfl
  have v0 := v 0
  have v1 := v 1
  have v2 := v 2
  clear x y v zx
  replace r3 := keep1 H34.out r3
  replace kt := keep1 H34.out kt
  replace s3 := keep1 H34.out s3
  replace sb := keep1 H34.out sb
  go_wp2
  refine bodyPost_ret (v := .tuple #[.agg #[.int .i64 0, .slice none 0 0, .int .i64 0], .int .i64 14]) (by rw [results_ct rfl]; go_simp) rfl ?_
  exact RetC1z.zero HC.out rfl (((HB.out.setCell (p := ⟨w.heap.size + 1 + 1, 0, none⟩) (by show w.heap.size ≤ w.heap.size + 1 + 1; omega) _).setCell (p := ⟨w.heap.size + 1 + 1, 1, none⟩) (by show w.heap.size ≤ w.heap.size + 1 + 1; omega) _).setCell (p := ⟨w.heap.size + 1 + 1, 2, none⟩) (by show w.heap.size ≤ w.heap.size + 1 + 1; omega) _)
end
end Go.Proofs.Ytihbonndinnohaa
