/- Finish of the program. -/
import Derived.Test.YtihbonndinnohaaQComp
namespace Go.Proofs.Ytihbonndinnohaa
open Go.RowKit
set_option linter.unusedVariables false
set_option linter.unusedSimpArgs false
/-- A list without its first element. -/
theorem lst_tail {α : Type} {R : World → (Nat → Prop) → List Value → α → Prop} {w : World} {Z : Nat → Prop} {sz g off q : Nat} {l : List α} (h : Lst w Z sz R (.slice (some ⟨g, off, none⟩) l.length q) l) (hl : 1 ≤ l.length) : Lst w Z sz R (.slice (if q = 1 then some ⟨g, off, none⟩ else some ⟨g, off + sz, none⟩) (l.length - 1) (q - 1)) (l.drop 1) := by
  obtain ⟨A, cap, e, h1, h2⟩ := h.1
  injection e with e1 e2 e3
  subst e3
  refine ⟨⟨_, q - 1, by rw [List.length_drop], by rw [List.length_drop]; omega, by rw [List.length_drop]; omega⟩, fun j hj => ?_⟩
  rw [List.length_drop] at hj
  have hq : q ≠ 1 := by omega
  obtain ⟨hz, xs, hx, hc, hr⟩ := h.at1 (j := j + 1) (by omega)
  refine ⟨g, off + sz, q - 1, xs, by rw [if_neg hq, List.length_drop], hz, hx, fun c u hu => ?_, ?_⟩
  · have := hc c u hu
    rw [Nat.succ_mul] at this
    rw [show off + sz + j * sz + c = off + (j * sz + sz) + c by omega]; exact this
  · rw [List.getElem_drop]
    have : 1 + j = j + 1 := Nat.add_comm 1 j
    simp only [this]
    exact hr
theorem WthV.cov {w w' : World} {B : Nat → Prop} {c : Cq} {V : Value} {xs : List Value} {s : Nat → Nat} (h : WthV w B w' c V xs s) (hc : chkQ c = 0) : Lst w' (fun b => B b ∨ (w.heap.size ≤ b ∧ b < w'.heap.size)) 4 RAq V c.atts := by
  obtain ⟨-, -, -, -, hm, -⟩ := chk0 hc
  refine h.lst (fun b hb => .inl hb) (fun b h1 h2 => .inr ⟨h1, h2⟩) (by unfold maxLen; omega) fun a ha => ?_
  have := small0 hc a ha
  unfold maxLen
  omega
/-- A list that does not lie in the box b is a list behind three stores into it, and more memory. -/
theorem lst_box3 {α : Type} {R : World → (Nat → Prop) → List Value → α → Prop} (hR : Rd R) {w : World} {Z : Nat → Prop} {sz b : Nat} {v : Value} {l : List α} (h : Lst w Z sz R v l) (hb : ∀ k, Z k → k ≠ b) (hZ : ∀ k, Z k → k < w.heap.size) (x0 x1 x2 : Value) (ob : Obj) :
    Lq ((((w.setCell ⟨b, 0, none⟩ x0).setCell ⟨b, 1, none⟩ x1).setCell ⟨b, 2, none⟩ x2).alloc ob).drew sz R v l := by
  have hk : Kp Z w (((w.setCell ⟨b, 0, none⟩ x0).setCell ⟨b, 1, none⟩ x1).setCell ⟨b, 2, none⟩ x2) := ((Kp.set ⟨b, 0, none⟩ _ hb).trans (Kp.set ⟨b, 1, none⟩ _ hb)).trans (Kp.set ⟨b, 2, none⟩ _ hb)
  have hk2 : Kp Z w ((((w.setCell ⟨b, 0, none⟩ x0).setCell ⟨b, 1, none⟩ x1).setCell ⟨b, 2, none⟩ x2).alloc ob).drew := hk.trans ⟨(Kp.alloc (Z := Z) ob).1, (Kp.alloc (Z := Z) ob).2⟩
  exact (h.keep hR hk2).more hR fun k hz => Nat.lt_of_lt_of_le (hZ k hz) hk2.1
theorem lst_box3z {α : Type} {R : World → (Nat → Prop) → List Value → α → Prop} (hR : Rd R) {w : World} {Z Y : Nat → Prop} {sz b : Nat} {v : Value} {l : List α} (h : Lst w Z sz R v l) (hb : ∀ k, Z k → k ≠ b) (hY : ∀ k, Z k → Y k) (x0 x1 x2 : Value) (ob : Obj) :
    Lst ((((w.setCell ⟨b, 0, none⟩ x0).setCell ⟨b, 1, none⟩ x1).setCell ⟨b, 2, none⟩ x2).alloc ob).drew Y sz R v l := by
  have hk : Kp Z w (((w.setCell ⟨b, 0, none⟩ x0).setCell ⟨b, 1, none⟩ x1).setCell ⟨b, 2, none⟩ x2) := ((Kp.set ⟨b, 0, none⟩ _ hb).trans (Kp.set ⟨b, 1, none⟩ _ hb)).trans (Kp.set ⟨b, 2, none⟩ _ hb)
  have hk2 : Kp Z w ((((w.setCell ⟨b, 0, none⟩ x0).setCell ⟨b, 1, none⟩ x1).setCell ⟨b, 2, none⟩ x2).alloc ob).drew := hk.trans ⟨(Kp.alloc (Z := Z) ob).1, (Kp.alloc (Z := Z) ob).2⟩
  exact (h.keep hR hk2).more hR hY
section
variable (w : World) (c : Cq)
set_option maxRecDepth 100000 in
set_option maxHeartbeats 8000000 in
theorem finish_z (Y : Nat → Prop) (v : Value) (num : Int) (hz' : CoVz w Y v c) (hY : ∀ b, Y b → b < w.heap.size) (hnum : inQ num) : Calls Try.prog 20 #[v, .int .i64 num] w (RetC1z w Y (finC c num) (finE c num)) := by
  have h := hz'.cov hY
  obtain ⟨u, rfl, hlz, hq1, hq2⟩ := id hz'
  have hl : Lq w 4 RAq u c.atts := hlz.more rd_Aq hY
  have HYY := hide hY
  clear hY hz'
  obtain ⟨A, cap, rfl⟩ := hl.form
  have HK := hide (chk_any _ _ c (CoV.laid (CoV.laid h (.cells #[.int .i64 c.next, .slice A c.atts.length cap, .int .i64 c.dur] 24)) (.cells #[.int .i64 0, .slice none 0 0, .int .i64 0] 24)))
  by_cases hc : chkQ c = 0
  · obtain ⟨b1, b2, b3, b4, b5, b6⟩ := chk0 hc
    have hE0 : finE c num = if findQ num c.atts = c.atts.length then 6 else if 0 < findQ num c.atts then 14 else if compQ (attQ c 0) = false then 21 else 0 := by unfold finE; rw [if_neg (by simp [hc])]
    obtain ⟨g, off, hA⟩ : ∃ g off, 0 < c.atts.length → A = some ⟨g, off, none⟩ := by
      rcases Nat.eq_zero_or_pos c.atts.length with h0 | h0
      · exact ⟨0, 0, fun h => by omega⟩
      · obtain ⟨g, off, xs, e, -⟩ := Lst.at_ hl (j := 0) h0
        exact ⟨g, off, fun _ => e⟩
    have HFI := hide (fun (w' : World) (hb : Below w.heap.size w w') => find_any w' c A g off cap num hA (hl.grow rd_Aq hb) b5)
    rw [hc] at HK
    have hle := findQ_le num c.atts
    by_cases hf : findQ num c.atts = c.atts.length
    · have HE : Hid (finE c num = 6) := hide (by rw [hE0, if_pos hf])
      have HC : Hid (finC c num = Cq.z) := hide (by unfold finC; rw [HE.out]; rfl)
      have ea : findA g off c num = .pointer none := by unfold findA; rw [if_pos hf]
      have eb : findB g off c num = .pointer none := by unfold findB; rw [if_pos hf]
      rw [HE.out]
      rw [ea, eb] at HFI
      clear hc h hl hE0 hf hle ea eb b6
      go_enter Try.func20, Try.ntmps20
      go_wp2_with fail
      refine HK.out.mono ?_
      rintro e w1 ⟨rfl, hb⟩
      obtain ⟨hb1, hz1, hx1⟩ := step_box [.int .i64 0, .slice none 0 0, .int .i64 0] hb
      have u0 := hx1 0 _ rfl
      have u1 := hx1 1 _ rfl
      have u2 := hx1 2 _ rfl
      have v0 := step_frozen [.int .i64 0, .slice none 0 0, .int .i64 0] hb 0
      have v1 := step_frozen [.int .i64 0, .slice none 0 0, .int .i64 0] hb 1
      have v2 := step_frozen [.int .i64 0, .slice none 0 0, .int .i64 0] hb 2
      obtain ⟨hb2, hz2, hx2⟩ := step_box [.int .i64 c.next, .slice A c.atts.length cap, .int .i64 c.dur] hb1
      have y0 := hx2 0 _ rfl
      have y1 := hx2 1 _ rfl
      have y2 := hx2 2 _ rfl
      have HB1 := hide hb2
      simp only [World.size_alloc] at u0 u1 u2 v0 v1 v2 hz1
      clear hx1 hx2 hb hb1 hb2
      go_wp2_with fail
      refine (HFI.out _ HB1.out).mono ?_
      rintro e w2 ⟨rfl, hb3⟩
      replace u0 := keep1 hb3 u0
      replace y0 := keep1 hb3 y0
      replace u1 := keep1 hb3 u1
      replace y1 := keep1 hb3 y1
      replace u2 := keep1 hb3 u2
      replace y2 := keep1 hb3 y2
      replace v0 := ((bcell hb3).2 _ 0 (by omega)).trans v0
      replace v1 := ((bcell hb3).2 _ 1 (by omega)).trans v1
      replace v2 := ((bcell hb3).2 _ 2 (by omega)).trans v2
      replace HB1 := hide (bthen HB1.out hb3)
      clear hb3
      go_wp2
      refine bodyPost_ret (v := .tuple #[.agg #[.int .i64 0, .slice none 0 0, .int .i64 0], .int .i64 (6)]) (by rw [results_ct rfl]; go_simp) rfl ?_
      exact RetC1z.zero HC.out rfl (((HB1.out.setCell (p := ⟨w.heap.size + 1, 0, none⟩) (Nat.le_succ _) _).setCell (p := ⟨w.heap.size + 1, 1, none⟩) (Nat.le_succ _) _).setCell (p := ⟨w.heap.size + 1, 2, none⟩) (Nat.le_succ _) _)
    · have hlt : findQ num c.atts < c.atts.length := by omega
      by_cases hp : 0 < findQ num c.atts
      · have HE : Hid (finE c num = 14) := hide (by rw [hE0, if_neg hf, if_pos hp])
        have HC : Hid (finC c num = Cq.z) := hide (by unfold finC; rw [HE.out]; rfl)
        have ea : ∃ a, findA g off c num = .pointer (some a) := by unfold findA; rw [if_neg hf]; exact ⟨_, rfl⟩
        have eb : ∃ a, findB g off c num = .pointer (some a) := by unfold findB; rw [if_neg hf]; unfold bptr; rw [if_neg (by omega)]; exact ⟨_, rfl⟩
        obtain ⟨a, ea⟩ := ea
        obtain ⟨b, eb⟩ := eb
        rw [HE.out]
        rw [ea, eb] at HFI
        clear hc h hl hE0 hf hle ea eb b6 hlt hp
        go_enter Try.func20, Try.ntmps20
        go_wp2_with fail
        refine HK.out.mono ?_
        rintro e w1 ⟨rfl, hb⟩
        obtain ⟨hb1, hz1, hx1⟩ := step_box [.int .i64 0, .slice none 0 0, .int .i64 0] hb
        have u0 := hx1 0 _ rfl
        have u1 := hx1 1 _ rfl
        have u2 := hx1 2 _ rfl
        have v0 := step_frozen [.int .i64 0, .slice none 0 0, .int .i64 0] hb 0
        have v1 := step_frozen [.int .i64 0, .slice none 0 0, .int .i64 0] hb 1
        have v2 := step_frozen [.int .i64 0, .slice none 0 0, .int .i64 0] hb 2
        obtain ⟨hb2, hz2, hx2⟩ := step_box [.int .i64 c.next, .slice A c.atts.length cap, .int .i64 c.dur] hb1
        have y0 := hx2 0 _ rfl
        have y1 := hx2 1 _ rfl
        have y2 := hx2 2 _ rfl
        have HB1 := hide hb2
        simp only [World.size_alloc] at u0 u1 u2 v0 v1 v2 hz1
        clear hx1 hx2 hb hb1 hb2
        go_wp2_with fail
        refine (HFI.out _ HB1.out).mono ?_
        rintro e w2 ⟨rfl, hb3⟩
        replace u0 := keep1 hb3 u0
        replace y0 := keep1 hb3 y0
        replace u1 := keep1 hb3 u1
        replace y1 := keep1 hb3 y1
        replace u2 := keep1 hb3 u2
        replace y2 := keep1 hb3 y2
        replace v0 := ((bcell hb3).2 _ 0 (by omega)).trans v0
        replace v1 := ((bcell hb3).2 _ 1 (by omega)).trans v1
        replace v2 := ((bcell hb3).2 _ 2 (by omega)).trans v2
        replace HB1 := hide (bthen HB1.out hb3)
        clear hb3
        go_wp2
        refine bodyPost_ret (v := .tuple #[.agg #[.int .i64 0, .slice none 0 0, .int .i64 0], .int .i64 (14)]) (by rw [results_ct rfl]; go_simp) rfl ?_
        exact RetC1z.zero HC.out rfl (((HB1.out.setCell (p := ⟨w.heap.size + 1, 0, none⟩) (Nat.le_succ _) _).setCell (p := ⟨w.heap.size + 1, 1, none⟩) (Nat.le_succ _) _).setCell (p := ⟨w.heap.size + 1, 2, none⟩) (Nat.le_succ _) _)
      · have hz : findQ num c.atts = 0 := by omega
        have h0 : 0 < c.atts.length := by omega
        obtain rfl := hA h0
        have ea : findA g off c num = .pointer (some ⟨g, off, none⟩) := by unfold findA; rw [if_neg hf, hz]; unfold aptr; simp
        have eb : findB g off c num = .pointer none := by unfold findB; rw [if_neg hf, hz]; rfl
        obtain ⟨hg, A1, A2, A3, c1, c2, c3, ha⟩ := att_at hl h0
        rw [Nat.zero_mul, Nat.add_zero] at ha
        have HAT := hide ha
        have h8 := err0 (b6 0 h0)
        have HCO := hide (fun (w' : World) (hb : Below w.heap.size w w') => compl_any w' (attQ c 0).num A1 A2 A3 (attQ c 0).rds.length (attQ c 0).ops.length c1 c2 c3 (attQ c 0).hv (ha.l3.grow rd_Bq hb) (by omega))
        have hE1 : finE c num = if compQ (attQ c 0) = false then 21 else 0 := by rw [hE0, if_neg hf, if_neg hp]
        have k0 := ha.k0
        have k1 := ha.k1
        have k2 := ha.k2
        have k3 := ha.k3
        rw [ea, eb] at HFI
        cases hcm : compQ (attQ c 0)
        · have HE : Hid (finE c num = 21) := hide (by rw [hE1, if_pos hcm])
          have HC : Hid (finC c num = Cq.z) := hide (by unfold finC; rw [HE.out]; rfl)
          rw [show (attQ c 0).hv.all id = false from hcm] at HCO
          rw [HE.out]
          obtain ⟨r1, hr1⟩ : ∃ n, (attQ c 0).rds.length = n := ⟨_, rfl⟩
          obtain ⟨r2, hr2⟩ : ∃ n, (attQ c 0).ops.length = n := ⟨_, rfl⟩
          obtain ⟨r3, hr3⟩ : ∃ n, (attQ c 0).hv.length = n := ⟨_, rfl⟩
          obtain ⟨r0, hr0⟩ : ∃ n, (attQ c 0).num = n := ⟨_, rfl⟩
          rw [hr1] at k1
          rw [hr2] at k2
          rw [hr3] at k3
          rw [hr0] at k0
          rw [hr1, hr2, hr3, hr0] at HCO
          clear hc h hl hE0 hf hle ea eb b6 hlt hp hz ha HAT h8 hE1 hcm hr1 hr2 hr3 hr0
          go_enter Try.func20, Try.ntmps20
          go_wp2_with fail
          refine HK.out.mono ?_
          rintro e w1 ⟨rfl, hb⟩
          obtain ⟨hb1, hz1, hx1⟩ := step_box [.int .i64 0, .slice none 0 0, .int .i64 0] hb
          have u0 := hx1 0 _ rfl
          have u1 := hx1 1 _ rfl
          have u2 := hx1 2 _ rfl
          have v0 := step_frozen [.int .i64 0, .slice none 0 0, .int .i64 0] hb 0
          have v1 := step_frozen [.int .i64 0, .slice none 0 0, .int .i64 0] hb 1
          have v2 := step_frozen [.int .i64 0, .slice none 0 0, .int .i64 0] hb 2
          obtain ⟨hb2, hz2, hx2⟩ := step_box [.int .i64 c.next, .slice (some ⟨g, off, none⟩) c.atts.length cap, .int .i64 c.dur] hb1
          have y0 := hx2 0 _ rfl
          have y1 := hx2 1 _ rfl
          have y2 := hx2 2 _ rfl
          have HB1 := hide hb2
          simp only [World.size_alloc] at u0 u1 u2 v0 v1 v2 hz1
          clear hx1 hx2 hb hb1 hb2
          go_wp2_with fail
          refine (HFI.out _ HB1.out).mono ?_
          rintro e w2 ⟨rfl, hb3⟩
          have hs2 := hb3.size
          replace u0 := keep1 hb3 u0
          replace y0 := keep1 hb3 y0
          replace u1 := keep1 hb3 u1
          replace y1 := keep1 hb3 y1
          replace u2 := keep1 hb3 u2
          replace y2 := keep1 hb3 y2
          replace v0 := ((bcell hb3).2 _ 0 (by omega)).trans v0
          replace v1 := ((bcell hb3).2 _ 1 (by omega)).trans v1
          replace v2 := ((bcell hb3).2 _ 2 (by omega)).trans v2
          replace HB1 := hide (bthen HB1.out hb3)
          have m0 := keep1 HB1.out k0
          have m1 := keep1 HB1.out k1
          have m2 := keep1 HB1.out k2
          have m3 := keep1 HB1.out k3
          have HCP := hide (HCO.out _ HB1.out)
          clear hb3
          go_wp2_with fail
          refine HCP.out.mono ?_
          rintro e w3 ⟨rfl, hb4⟩
          have hs3 := hb4.size
          replace u0 := keep1 hb4 u0
          replace y0 := keep1 hb4 y0
          replace u1 := keep1 hb4 u1
          replace y1 := keep1 hb4 y1
          replace u2 := keep1 hb4 u2
          replace y2 := keep1 hb4 y2
          replace v0 := ((bcell hb4).2 _ 0 (by omega)).trans v0
          replace v1 := ((bcell hb4).2 _ 1 (by omega)).trans v1
          replace v2 := ((bcell hb4).2 _ 2 (by omega)).trans v2
          replace HB1 := hide (bthen HB1.out hb4)
          clear hb4 m0 m1 m2 m3
          go_wp2
          refine bodyPost_ret (v := .tuple #[.agg #[.int .i64 0, .slice none 0 0, .int .i64 0], .int .i64 (21)]) (by rw [results_ct rfl]; go_simp) rfl ?_
          exact RetC1z.zero HC.out rfl (((HB1.out.setCell (p := ⟨w.heap.size + 1, 0, none⟩) (Nat.le_succ _) _).setCell (p := ⟨w.heap.size + 1, 1, none⟩) (Nat.le_succ _) _).setCell (p := ⟨w.heap.size + 1, 2, none⟩) (Nat.le_succ _) _)
        · have HE : Hid (finE c num = 0) := hide (by rw [hE1, if_neg (by simp [hcm])])
          have HC : Hid (finC c num = ⟨c.next, c.atts.drop 1, num⟩) := hide (by unfold finC; rw [if_pos HE.out])
          rw [show (attQ c 0).hv.all id = true from hcm] at HCO
          rw [HE.out]
          have HWI := hide (fun (w' : World) (hb : Below w.heap.size w w') => with_any w' Y c (some ⟨g, off, none⟩) cap (fun b h => Nat.lt_of_lt_of_le (HYY.out b h) hb.size) (Lst.keep rd_Aq (Kp.of_below hb) hlz) b5 (small0 hc))
          have HCOV := hide (fun (w1 w2 : World) (V : Value) (xs : List Value) (s : Nat → Nat) (h : WthV w1 Y w2 c V xs s) => h.cov hc)
          have HQ := hide (And.intro hq1 hnum)
          have HLN := hide h0
          obtain ⟨r1, hr1⟩ : ∃ n, (attQ c 0).rds.length = n := ⟨_, rfl⟩
          obtain ⟨r2, hr2⟩ : ∃ n, (attQ c 0).ops.length = n := ⟨_, rfl⟩
          obtain ⟨r3, hr3⟩ : ∃ n, (attQ c 0).hv.length = n := ⟨_, rfl⟩
          obtain ⟨r0, hr0⟩ : ∃ n, (attQ c 0).num = n := ⟨_, rfl⟩
          rw [hr1] at k1
          rw [hr2] at k2
          rw [hr3] at k3
          rw [hr0] at k0
          rw [hr1, hr2, hr3, hr0] at HCO
          clear hc h hl hE0 hf hle ea eb b6 hlt hp hz ha HAT h8 hE1 hcm hr1 hr2 hr3 hr0
          go_enter Try.func20, Try.ntmps20
          go_wp2_with fail
          refine HK.out.mono ?_
          rintro e w1 ⟨rfl, hb⟩
          obtain ⟨hb1, hz1, hx1⟩ := step_box [.int .i64 0, .slice none 0 0, .int .i64 0] hb
          have u0 := hx1 0 _ rfl
          have u1 := hx1 1 _ rfl
          have u2 := hx1 2 _ rfl
          have v0 := step_frozen [.int .i64 0, .slice none 0 0, .int .i64 0] hb 0
          have v1 := step_frozen [.int .i64 0, .slice none 0 0, .int .i64 0] hb 1
          have v2 := step_frozen [.int .i64 0, .slice none 0 0, .int .i64 0] hb 2
          obtain ⟨hb2, hz2, hx2⟩ := step_box [.int .i64 c.next, .slice (some ⟨g, off, none⟩) c.atts.length cap, .int .i64 c.dur] hb1
          have y0 := hx2 0 _ rfl
          have y1 := hx2 1 _ rfl
          have y2 := hx2 2 _ rfl
          have HB1 := hide hb2
          simp only [World.size_alloc] at u0 u1 u2 v0 v1 v2 hz1
          clear hx1 hx2 hb hb1 hb2
          go_wp2_with fail
          refine (HFI.out _ HB1.out).mono ?_
          rintro e w2 ⟨rfl, hb3⟩
          have hs2 := hb3.size
          replace u0 := keep1 hb3 u0
          replace y0 := keep1 hb3 y0
          replace u1 := keep1 hb3 u1
          replace y1 := keep1 hb3 y1
          replace u2 := keep1 hb3 u2
          replace y2 := keep1 hb3 y2
          replace v0 := ((bcell hb3).2 _ 0 (by omega)).trans v0
          replace v1 := ((bcell hb3).2 _ 1 (by omega)).trans v1
          replace v2 := ((bcell hb3).2 _ 2 (by omega)).trans v2
          replace HB1 := hide (bthen HB1.out hb3)
          have m0 := keep1 HB1.out k0
          have m1 := keep1 HB1.out k1
          have m2 := keep1 HB1.out k2
          have m3 := keep1 HB1.out k3
          have HCP := hide (HCO.out _ HB1.out)
          clear hb3
          go_wp2_with fail
          refine HCP.out.mono ?_
          rintro e w3 ⟨rfl, hb4⟩
          have hs3 := hb4.size
          replace u0 := keep1 hb4 u0
          replace y0 := keep1 hb4 y0
          replace u1 := keep1 hb4 u1
          replace y1 := keep1 hb4 y1
          replace u2 := keep1 hb4 u2
          replace y2 := keep1 hb4 y2
          replace v0 := ((bcell hb4).2 _ 0 (by omega)).trans v0
          replace v1 := ((bcell hb4).2 _ 1 (by omega)).trans v1
          replace v2 := ((bcell hb4).2 _ 2 (by omega)).trans v2
          replace HB1 := hide (bthen HB1.out hb4)
          clear hb4 m0 m1 m2 m3
          go_wp2_with fail
          refine (HWI.out _ HB1.out).mono ?_
          rintro e w4 ⟨V, xs, s, rfl, hW⟩
          have hb5 := hW.2.2.2.2.2
          have hs4' := hb5.size
          have hVl := HCOV.out _ _ _ _ _ hW
          have HSZ := hide (HB1.out.size)
          obtain ⟨B, q, rfl⟩ := hVl.form
          replace u0 := keep1 hb5 u0
          replace y0 := keep1 hb5 y0
          replace u1 := keep1 hb5 u1
          replace y1 := keep1 hb5 y1
          replace u2 := keep1 hb5 u2
          replace y2 := keep1 hb5 y2
          replace v0 := ((bcell hb5).2 _ 0 (by omega)).trans v0
          replace v1 := ((bcell hb5).2 _ 1 (by omega)).trans v1
          replace v2 := ((bcell hb5).2 _ 2 (by omega)).trans v2
          replace HB1 := hide (bthen HB1.out hb5)
          have HVL := hide hVl
          have HL1 : Hid (∃ g', B = some ⟨g', 0, none⟩) := hide (by
            rcases hW.1.2 with ⟨e, h00⟩ | ⟨g', cap', cur, e, -⟩
            · have := HLN.out; omega
            · injection e with e; exact ⟨g', e⟩)
          obtain ⟨g', rfl⟩ := HL1.out
          have hqn : c.atts.length ≤ q := by obtain ⟨_, _, e, h1, -⟩ := hVl.1; injection e with _ _ e; omega
          have hs4 := hb5.size
          have hws : w.heap.size + 1 < w4.heap.size := by have := World.block_lt_of_cell? w4 _ u0; simpa using this
          clear hW hb5 hVl
          obtain ⟨n, hn⟩ : ∃ n, c.atts.length = n := ⟨_, rfl⟩
          rw [hn] at HVL hqn h0 b5 ⊢
          have HN := hide hn
          clear hn
          have p0 : (1 : Int) ≤ (n : Int) := by omega
          have p1 : (n : Int) ≤ (q : Int) := by omega
          by_cases hq : q = 1
          · have HT := hide (lst_tail (by have := HVL.out; rw [← HN.out] at this; exact this) HLN.out)
            rw [if_pos hq, HN.out] at HT
            subst hq
            obtain rfl : n = 1 := by omega
            go_wp2
            go_region
            all_goals
              go_wp2
              refine bodyPost_ret (v := .tuple #[.agg #[.int .i64 c.next, .slice (some ⟨g', 0, none⟩) 0 0, .int .i64 num], .int .i64 0]) (by rw [results_ct rfl]; go_simp) rfl ?_
              refine ⟨_, rfl, ?_, ((((HB1.out.setCell (p := ⟨w.heap.size + 1, 0, none⟩) (Nat.le_succ _) _).setCell (p := ⟨w.heap.size + 1, 1, none⟩) (Nat.le_succ _) _).setCell (p := ⟨w.heap.size + 1, 2, none⟩) (Nat.le_succ _) _).alloc (by simp [World.setCell]; omega) _).drew⟩
              rw [HC.out]
              exact ⟨_, rfl, lst_box3z rd_Aq HT.out (fun k hk => by rcases hk with hk | hk; (have := HYY.out k hk; omega); omega) (fun k hk => hk.elim .inl fun hk => .inr ⟨by have := HSZ.out; omega, by show k < ((((w4.setCell _ _).setCell _ _).setCell _ _).alloc _).heap.size; rw [World.size_alloc]; simp only [World.setCell, Array.size_modify]; omega⟩) _ _ _ _, HQ.out.1, HQ.out.2⟩
          · have HT := hide (lst_tail (by have := HVL.out; rw [← HN.out] at this; exact this) HLN.out)
            rw [if_neg hq, HN.out] at HT
            have q1 : 1 < q := by omega
            go_wp2
            go_region
            all_goals
              go_wp2
              refine bodyPost_ret (v := .tuple #[.agg #[.int .i64 c.next, .slice (some ⟨g', 4, none⟩) (n - 1) (q - 1), .int .i64 num], .int .i64 0]) (by rw [results_ct rfl]; go_simp) rfl ?_
              refine ⟨_, rfl, ?_, ((((HB1.out.setCell (p := ⟨w.heap.size + 1, 0, none⟩) (Nat.le_succ _) _).setCell (p := ⟨w.heap.size + 1, 1, none⟩) (Nat.le_succ _) _).setCell (p := ⟨w.heap.size + 1, 2, none⟩) (Nat.le_succ _) _).alloc (by simp [World.setCell]; omega) _).drew⟩
              rw [HC.out]
              exact ⟨_, rfl, lst_box3z rd_Aq HT.out (fun k hk => by rcases hk with hk | hk; (have := HYY.out k hk; omega); omega) (fun k hk => hk.elim .inl fun hk => .inr ⟨by have := HSZ.out; omega, by show k < ((((w4.setCell _ _).setCell _ _).setCell _ _).alloc _).heap.size; rw [World.size_alloc]; simp only [World.setCell, Array.size_modify]; omega⟩) _ _ _ _, HQ.out.1, HQ.out.2⟩
  · have hE0 : finE c num = chkQ c := by unfold finE; rw [if_pos hc]
    have HC : Hid (finC c num = Cq.z) := hide (by unfold finC; rw [if_neg (by rw [hE0]; exact hc)])
    rw [hE0]
    have te : (chkQ c != 0) = true := by rw [bne_iff_ne]; exact hc
    obtain ⟨E, hE⟩ : ∃ E, chkQ c = E := ⟨_, rfl⟩
    rw [hE] at HK te ⊢
    clear hc hE h hl hE0
    go_enter Try.func20, Try.ntmps20
    go_wp2_with fail
    refine HK.out.mono ?_
    rintro e w1 ⟨rfl, hb⟩
    obtain ⟨hb1, hz1, hx1⟩ := step_box [.int .i64 0, .slice none 0 0, .int .i64 0] hb
    have u0 := hx1 0 _ rfl
    have u1 := hx1 1 _ rfl
    have u2 := hx1 2 _ rfl
    have v0 := step_frozen [.int .i64 0, .slice none 0 0, .int .i64 0] hb 0
    have v1 := step_frozen [.int .i64 0, .slice none 0 0, .int .i64 0] hb 1
    have v2 := step_frozen [.int .i64 0, .slice none 0 0, .int .i64 0] hb 2
    obtain ⟨hb2, hz2, hx2⟩ := step_box [.int .i64 c.next, .slice A c.atts.length cap, .int .i64 c.dur] hb1
    have y0 := hx2 0 _ rfl
    have y1 := hx2 1 _ rfl
    have y2 := hx2 2 _ rfl
    have HB1 := hide hb2
    simp only [World.size_alloc] at u0 u1 u2 v0 v1 v2 hz1
    clear hx1 hx2 hb hb1 hb2
    go_wp2
    refine bodyPost_ret (v := .tuple #[.agg #[.int .i64 0, .slice none 0 0, .int .i64 0], .int .i64 (E)]) (by rw [results_ct rfl]; go_simp) rfl ?_
    exact RetC1z.zero HC.out rfl (((HB1.out.setCell (p := ⟨w.heap.size + 1, 0, none⟩) (Nat.le_succ _) _).setCell (p := ⟨w.heap.size + 1, 1, none⟩) (Nat.le_succ _) _).setCell (p := ⟨w.heap.size + 1, 2, none⟩) (Nat.le_succ _) _)
theorem finish_any (v : Value) (num : Int) (h : CoV w v c) (hnum : inQ num) : Calls Try.prog 20 #[v, .int .i64 num] w (RetC1 w (finC c num) (finE c num)) :=
  (finish_z w c _ v num h.z (fun _ h => h) hnum).mono fun _ _ h => h.out fun _ h => h
end
end Go.Proofs.Ytihbonndinnohaa
