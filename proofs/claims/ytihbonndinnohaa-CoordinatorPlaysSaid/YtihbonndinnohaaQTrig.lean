/- Trigger of the program. -/
import Derived.Test.YtihbonndinnohaaQOrd
namespace Go.Proofs.Ytihbonndinnohaa
open Go.RowKit
set_option linter.unusedVariables false
set_option linter.unusedSimpArgs false
def RetC2 (w : World) (c : Cq) (N E : Int) (e : Ending) (w' : World) : Prop := ∃ V, e = .returned (.tuple #[V, .int .i64 N, .int .i64 E]) ∧ CoV w' V c ∧ Below w.heap.size w w'
theorem RetC2.zero {w w' : World} {c : Cq} {N E E' : Int} (hc : c = Cq.z) (hN : N = 0) (hE : E = E') (hb : Below w.heap.size w w') : RetC2 w c N E (.returned (.tuple #[.agg #[.int .i64 0, .slice none 0 0, .int .i64 0], .int .i64 0, .int .i64 E'])) w' := ⟨_, by rw [hE, hN], by rw [hc]; exact CoV.zero, hb⟩
theorem fit0 {c : Cq} {nr : Nat} {n : Int} (h : fitQ c nr n = 0) : (1 ≤ nr ∧ nr ≤ 8) ∧ (1 ≤ n ∧ n ≤ 8) ∧ (0 < c.atts.length → (attQ c 0).rds.length = nr ∧ ((attQ c 0).hv.length : Int) = n) ∧ c.atts.length ≠ 256 ∧ c.next ≠ 1099511627776 := by
  unfold fitQ at h
  split at h
  · omega
  · rename_i h1
    split at h
    · omega
    · rename_i h2
      split at h
      · omega
      · rename_i h3
        split at h
        · omega
        · rename_i h4
          exact ⟨by omega, by omega, fun h0 => ⟨by omega, by omega⟩, h3, h4⟩
/-- What an operation of a drawn region yields. -/
def Fix (u : Value) : World → Value → Prop := fun _ v => v = u
def LstN {α : Type} (H : Nat) (sz : Nat) (R : World → (Nat → Prop) → List Value → α → Prop) (n : Nat) (l : List α) : World → Value → Prop := fun w v => (∃ A q, v = .slice A n q) ∧ Lst w (fun b => H ≤ b ∧ b < w.heap.size) sz R v l
def AggN (H : Nat) (a : Aq) : World → Value → Prop := fun w v => ∃ (x : Int) (A1 : Option Addr) (n1 c1 : Nat) (A2 : Option Addr) (n2 c2 : Nat) (A3 : Option Addr) (n3 c3 : Nat), v = .agg #[.int .i64 x, .slice A1 n1 c1, .slice A2 n2 c2, .slice A3 n3 c3] ∧ RAq w (fun b => H ≤ b ∧ b < w.heap.size) [.int .i64 x, .slice A1 n1 c1, .slice A2 n2 c2, .slice A3 n3 c3] a
def OneN (H : Nat) (a : Aq) : World → Value → Prop := fun w v => ∃ g ys, v = .slice (some ⟨g, 0, none⟩) 1 1 ∧ H ≤ g ∧ ys.length = 4 ∧ (∀ j u, ys[j]? = some u → w.cell? ⟨g, j, none⟩ = some u) ∧ (∀ y ∈ ys, y.oneCell' = true) ∧ RAq w (fun b => H ≤ b ∧ b < w.heap.size) ys a
def Stb (p : World → Value → Prop) : Prop := ∀ w w' v, Below w.heap.size w w' → p w v → p w' v
theorem stb_fix (u : Value) : Stb (Fix u) := fun _ _ _ _ h => h
theorem stb_lst {α : Type} {H sz n : Nat} {R : World → (Nat → Prop) → List Value → α → Prop} {l : List α} (hR : Rd R) : Stb (LstN H sz R n l) := fun _ _ _ hb ⟨h1, h2⟩ =>
  ⟨h1, (h2.keep hR (Kp.of_below hb)).more hR fun _ hz => ⟨hz.1, Nat.lt_of_lt_of_le hz.2 hb.size⟩⟩
theorem stb_agg {H : Nat} {a : Aq} : Stb (AggN H a) := fun _ _ _ hb ⟨x, A1, n1, c1, A2, n2, c2, A3, n3, c3, e, h⟩ =>
  ⟨x, A1, n1, c1, A2, n2, c2, A3, n3, c3, e, rd_Aq.more (fun _ hz => ⟨hz.1, Nat.lt_of_lt_of_le hz.2 hb.size⟩) (rd_Aq.keep (Kp.of_below hb) h)⟩
theorem stb_one {H : Nat} {a : Aq} : Stb (OneN H a) := fun _ _ _ hb ⟨g, ys, e, h1, h2, h3, h4, h5⟩ =>
  ⟨g, ys, e, h1, h2, fun j u hu => keep1 hb (h3 j u hu), h4, rd_Aq.more (fun _ hz => ⟨hz.1, Nat.lt_of_lt_of_le hz.2 hb.size⟩) (rd_Aq.keep (Kp.of_below hb) h5)⟩
/-- What region 7 leaves. -/
def TrO (w wx : World) (Y : Nat → Prop) (b0 b1 bo : Nat) (xs : List Value) (nx du : Int) (m : Nat) (l : List Aq) : Prop :=
  Bl wx b0 xs ∧ Bl wx b1 [.int .i64 0, .slice none 0 0, .int .i64 0] ∧ (∃ B q, Bl wx bo [.int .i64 nx, .slice B m q, .int .i64 du] ∧ Lst wx (fun b => ((Y b ∨ w.heap.size ≤ b) ∧ b ≠ b1 ∧ b ≠ bo) ∧ b < wx.heap.size) 4 RAq (.slice B m q) l) ∧ Below w.heap.size w wx
theorem lst_set3z {α : Type} {R : World → (Nat → Prop) → List Value → α → Prop} (hR : Rd R) {w : World} {Z Y : Nat → Prop} {sz b : Nat} {v : Value} {l : List α} (h : Lst w Z sz R v l) (hb : ∀ k, Z k → k ≠ b) (hY : ∀ k, Z k → Y k) (x0 x1 x2 : Value) :
    Lst (((w.setCell ⟨b, 0, none⟩ x0).setCell ⟨b, 1, none⟩ x1).setCell ⟨b, 2, none⟩ x2) Y sz R v l := by
  have hk : Kp Z w (((w.setCell ⟨b, 0, none⟩ x0).setCell ⟨b, 1, none⟩ x1).setCell ⟨b, 2, none⟩ x2) := ((Kp.set ⟨b, 0, none⟩ _ hb).trans (Kp.set ⟨b, 1, none⟩ _ hb)).trans (Kp.set ⟨b, 2, none⟩ _ hb)
  exact (h.keep hR hk).more hR hY
def RetC2z (w : World) (Y : Nat → Prop) (c : Cq) (N E : Int) (e : Ending) (w' : World) : Prop := ∃ V, e = .returned (.tuple #[V, .int .i64 N, .int .i64 E]) ∧ CoVz w' (Zn Y w w') V c ∧ Below w.heap.size w w'
theorem RetC2z.zero {w w' : World} {Y : Nat → Prop} {c : Cq} {N E E' : Int} (hc : c = Cq.z) (hN : N = 0) (hE : E = E') (hb : Below w.heap.size w w') : RetC2z w Y c N E (.returned (.tuple #[.agg #[.int .i64 0, .slice none 0 0, .int .i64 0], .int .i64 0, .int .i64 E'])) w' :=
  ⟨_, by rw [hE, hN], by rw [hc]; exact ⟨_, rfl, Lst.nil, by unfold Cq.z inQ; exact ⟨by decide, by decide⟩, by unfold Cq.z inQ; exact ⟨by decide, by decide⟩⟩, hb⟩
theorem RetC2z.out {w w' : World} {Y : Nat → Prop} {c : Cq} {N E : Int} {e : Ending} (h : RetC2z w Y c N E e w') (hY : ∀ b, Y b → b < w.heap.size) : RetC2 w c N E e w' := by
  obtain ⟨V, e, hc, hb⟩ := h
  exact ⟨V, e, hc.cov fun b hz => hz.elim (fun h => Nat.lt_of_lt_of_le (hY b h) hb.size) (fun h => h.2), hb⟩
section
variable (w : World) (c : Cq)
set_option maxRecDepth 100000 in
set_option maxHeartbeats 4000000 in
theorem trig_bad (Y : Nat → Prop) (v rv : Value) (rds : List Rq) (n : Int) (h : CoV w v c) (hr : Lq w 6 RRq rv rds) (hbad : trigE c rds.length n ≠ 0) : Calls Try.prog 11 #[v, rv, .int .i64 n] w (RetC2z w Y (trigC c rds n) (trigN c rds.length n) (trigE c rds.length n)) := by
  have HC : Hid (trigC c rds n = Cq.z) := hide (by unfold trigC; rw [if_neg hbad])
  have HN : Hid (trigN c rds.length n = 0) := hide (by unfold trigN; rw [if_neg hbad])
  obtain ⟨A', cap', rfl⟩ := hr.form
  have hrl := hr.len
  unfold maxLen at hrl
  obtain ⟨u, rfl, hl, hq1, hq2⟩ := id h
  obtain ⟨A, cap, rfl⟩ := hl.form
  have HB := hide (show Below w.heap.size w ((w.alloc (.cells #[.int .i64 c.next, .slice A c.atts.length cap, .int .i64 c.dur] 24)).alloc (.cells #[.int .i64 0, .slice none 0 0, .int .i64 0] 24)) from bA_alloc (below_laid _) _)
  have HX := hide ((Bl.new w [.int .i64 c.next, .slice A c.atts.length cap, .int .i64 c.dur] 24).laid (.cells #[.int .i64 0, .slice none 0 0, .int .i64 0] 24))
  have HY := hide (show Bl ((w.alloc (.cells #[.int .i64 c.next, .slice A c.atts.length cap, .int .i64 c.dur] 24)).alloc (.cells #[.int .i64 0, .slice none 0 0, .int .i64 0] 24)) (w.heap.size + 1) [.int .i64 0, .slice none 0 0, .int .i64 0] by have := Bl.new (w.alloc (.cells #[.int .i64 c.next, .slice A c.atts.length cap, .int .i64 c.dur] 24)) [.int .i64 0, .slice none 0 0, .int .i64 0] 24; simpa using this)
  have HK := hide (chk_any ((w.alloc (.cells #[.int .i64 c.next, .slice A c.atts.length cap, .int .i64 c.dur] 24)).alloc (.cells #[.int .i64 0, .slice none 0 0, .int .i64 0] 24)) _ c ((h.laid _).laid _))
  by_cases hc : chkQ c = 0
  · have hE : trigE c rds.length n = fitQ c rds.length n := by unfold trigE; rw [if_neg (by simp [hc])]
    have HF := hide (fun (w' : World) (hb : Below w.heap.size w w') => fits_any w' c _ rds.length n (h.grow hb))
    rw [hc] at HK
    rw [hE] at hbad ⊢
    obtain ⟨E, hEE⟩ : ∃ E, fitQ c rds.length n = E := ⟨_, rfl⟩
    rw [hEE] at HF hbad ⊢
    have te : (E != 0) = true := by rw [bne_iff_ne]; exact hbad
    obtain ⟨nr, hnr⟩ : ∃ n, rds.length = n := ⟨_, rfl⟩
    rw [hnr] at HF HN hrl ⊢
    clear hbad hEE hE hc h hl hr hq1 hq2 hnr
    go_enter Try.func11, Try.ntmps11
    go_wp2_with fail
    refine HK.out.mono ?_
    rintro e w1 ⟨rfl, hb⟩
    replace HX := hide (HX.out.keep hb)
    replace HY := hide (HY.out.keep hb)
    replace HB := hide (bthen HB.out hb)
    clear hb
    have HF1 := hide (HF.out w1 HB.out)
    obtain ⟨x, -, zx⟩ := HX.out
    obtain ⟨y, v, zy⟩ := HY.out
    have x0 := x 0 _ rfl
    have x1 := x 1 _ rfl
    have x2 := x 2 _ rfl
    have y0 := y 0 _ rfl
    have y1 := y 1 _ rfl
    have y2 := y 2 _ rfl
    have v0 := v 0
    have v1 := v 1
    have v2 := v 2
    clear x y v zx
    go_wp2_with fail
    refine HF1.out.mono ?_
    rintro e w2 ⟨rfl, hb⟩
    clear x0 x1 x2 y0 y1 y2 v0 v1 v2 zy
    replace HX := hide (HX.out.keep hb)
    replace HY := hide (HY.out.keep hb)
    replace HB := hide (bthen HB.out hb)
    clear hb
    obtain ⟨x, -, zx⟩ := HX.out
    obtain ⟨y, v, zy⟩ := HY.out
    have x0 := x 0 _ rfl
    have x1 := x 1 _ rfl
    have x2 := x 2 _ rfl
    have y0 := y 0 _ rfl
    have y1 := y 1 _ rfl
    have y2 := y 2 _ rfl
    have v0 := v 0
    have v1 := v 1
    have v2 := v 2
    clear x y v zx
    go_wp2
    refine bodyPost_ret (v := .tuple #[.agg #[.int .i64 0, .slice none 0 0, .int .i64 0], .int .i64 0, .int .i64 E]) (by rw [results_ctt rfl]; go_simp) rfl ?_
    exact RetC2z.zero HC.out HN.out rfl (((HB.out.setCell (p := ⟨w.heap.size + 1, 0, none⟩) (Nat.le_succ _) _).setCell (p := ⟨w.heap.size + 1, 1, none⟩) (Nat.le_succ _) _).setCell (p := ⟨w.heap.size + 1, 2, none⟩) (Nat.le_succ _) _)
  · have hE : trigE c rds.length n = chkQ c := by unfold trigE; rw [if_pos hc]
    rw [hE] at hbad ⊢
    obtain ⟨E, hEE⟩ : ∃ E, chkQ c = E := ⟨_, rfl⟩
    rw [hEE] at HK hbad ⊢
    have te : (E != 0) = true := by rw [bne_iff_ne]; exact hbad
    have te' : (E == 0) = false := by rw [beq_eq_false_iff_ne]; exact hbad
    clear hbad hEE hE hc h hl hr hq1 hq2
    go_enter Try.func11, Try.ntmps11
    go_wp2_with fail
    refine HK.out.mono ?_
    rintro e w1 ⟨rfl, hb⟩
    replace HX := hide (HX.out.keep hb)
    replace HY := hide (HY.out.keep hb)
    replace HB := hide (bthen HB.out hb)
    clear hb
    obtain ⟨x, -, zx⟩ := HX.out
    obtain ⟨y, v, zy⟩ := HY.out
    have x0 := x 0 _ rfl
    have x1 := x 1 _ rfl
    have x2 := x 2 _ rfl
    have y0 := y 0 _ rfl
    have y1 := y 1 _ rfl
    have y2 := y 2 _ rfl
    have v0 := v 0
    have v1 := v 1
    have v2 := v 2
    clear x y v zx
    go_wp2
    refine bodyPost_ret (v := .tuple #[.agg #[.int .i64 0, .slice none 0 0, .int .i64 0], .int .i64 0, .int .i64 E]) (by rw [results_ctt rfl]; go_simp) rfl ?_
    exact RetC2z.zero HC.out HN.out rfl (((HB.out.setCell (p := ⟨w.heap.size + 1, 0, none⟩) (Nat.le_succ _) _).setCell (p := ⟨w.heap.size + 1, 1, none⟩) (Nat.le_succ _) _).setCell (p := ⟨w.heap.size + 1, 2, none⟩) (Nat.le_succ _) _)
set_option maxRecDepth 100000 in
set_option maxHeartbeats 8000000 in
theorem trig_good (Y : Nat → Prop) (v rv : Value) (rds : List Rq) (n : Int) (hz' : CoVz w Y v c) (hY : ∀ b, Y b → b < w.heap.size) (hr : Lq w 6 RRq rv rds) (hgood : trigE c rds.length n = 0) : Calls Try.prog 11 #[v, rv, .int .i64 n] w (RetC2z w Y (trigC c rds n) (trigN c rds.length n) (trigE c rds.length n)) := by
  have h := hz'.cov hY
  have HYY := hide hY
  have HC : Hid (trigC c rds n = ⟨c.next + 1, c.atts ++ [newA c rds n.toNat], c.dur⟩) := hide (by unfold trigC; rw [if_pos hgood])
  have HN : Hid (trigN c rds.length n = c.next) := hide (by unfold trigN; rw [if_pos hgood])
  rw [hgood]
  have hc : chkQ c = 0 := by
    unfold trigE at hgood
    by_cases hc : chkQ c = 0
    · exact hc
    · rw [if_pos hc] at hgood; exact hgood
  have hfit : fitQ c rds.length n = 0 := by unfold trigE at hgood; rwa [if_neg (by simp [hc])] at hgood
  obtain ⟨p1, p2, p3, p4, p5⟩ := fit0 hfit
  obtain ⟨b1, b2, b3, b4, b5, b6⟩ := chk0 hc
  obtain ⟨k, rfl⟩ : ∃ k : Nat, n = (k : Int) := ⟨n.toNat, by omega⟩
  rw [Int.toNat_natCast] at HC
  obtain ⟨A', cap', rfl⟩ := hr.form
  obtain ⟨u, rfl, hl, hq1, hq2⟩ := id h
  obtain ⟨A, cap, rfl⟩ := hl.form
  have HB := hide (show Below w.heap.size w ((w.alloc (.cells #[.int .i64 c.next, .slice A c.atts.length cap, .int .i64 c.dur] 24)).alloc (.cells #[.int .i64 0, .slice none 0 0, .int .i64 0] 24)) from bA_alloc (below_laid _) _)
  have HX := hide ((Bl.new w [.int .i64 c.next, .slice A c.atts.length cap, .int .i64 c.dur] 24).laid (.cells #[.int .i64 0, .slice none 0 0, .int .i64 0] 24))
  have HY := hide (show Bl ((w.alloc (.cells #[.int .i64 c.next, .slice A c.atts.length cap, .int .i64 c.dur] 24)).alloc (.cells #[.int .i64 0, .slice none 0 0, .int .i64 0] 24)) (w.heap.size + 1) [.int .i64 0, .slice none 0 0, .int .i64 0] by have := Bl.new (w.alloc (.cells #[.int .i64 c.next, .slice A c.atts.length cap, .int .i64 c.dur] 24)) [.int .i64 0, .slice none 0 0, .int .i64 0] 24; simpa using this)
  have hlz : Lst w Y 4 RAq (.slice A c.atts.length cap) c.atts := by obtain ⟨u, e, hlz, -⟩ := hz'; cases e; exact hlz
  have HK := hide (chk_any ((w.alloc (.cells #[.int .i64 c.next, .slice A c.atts.length cap, .int .i64 c.dur] 24)).alloc (.cells #[.int .i64 0, .slice none 0 0, .int .i64 0] 24)) _ c ((h.laid _).laid _))
  rw [hc] at HK
  have HF := hide (fun (w' : World) (hb : Below w.heap.size w w') => fits_any w' c _ rds.length k (h.grow hb))
  rw [hfit] at HF
  have HW := hide (fun (w' : World) (hb : Below w.heap.size w w') => with_any w' Y c A cap (fun b h => Nat.lt_of_lt_of_le (HYY.out b h) hb.size) (Lst.keep rd_Aq (Kp.of_below hb) hlz) b5 (small0 hc))
  obtain ⟨cells, hraw, hlen, hel⟩ := lst_raw one_Rq hr
  have HCP := hide (fun (w' : World) (hb : Below w.heap.size w w') => show Calls Try.prog 34 #[.slice A' rds.length cap'] w' (RetCp w' 68 6 cells) by
    have := copied_reader A' cap' cells w' (· < w'.heap.size) (by rw [hlen]; exact Lq.grow rd_Wq hraw hb) (by omega)
    rwa [hlen] at this)
  have HCH := hide hc
  have HCR := hide (And.intro hlen hel)
  have HQ := hide (And.intro hq1 hq2)
  clear hgood hfit hc h hz' hY hl hlz hr hraw hlen hel b6 hq1 hq2
  obtain ⟨nr, hnr⟩ : ∃ n, rds.length = n := ⟨_, rfl⟩
  rw [hnr] at HF HN HCP p1 ⊢
  have HNR := hide hnr
  clear hnr
  obtain ⟨m, hm⟩ : ∃ m, c.atts.length = m := ⟨_, rfl⟩
  rw [hm] at HB HX HY HK HF HW b5 p3 p4 ⊢
  have HM := hide hm
  clear hm
  go_enter Try.func11, Try.ntmps11
  go_wp2_with fail
  refine HK.out.mono ?_
  rintro e w1 ⟨rfl, hb⟩
  replace HX := hide (HX.out.keep hb)
  replace HY := hide (HY.out.keep hb)
  replace HB := hide (bthen HB.out hb)
  clear hb
  have HF1 := hide (HF.out w1 HB.out)
  obtain ⟨x, -, zx⟩ := HX.out
  obtain ⟨y, v, zy⟩ := HY.out
  have x0 := x 0 _ rfl
  have x1 := x 1 _ rfl
  have x2 := x 2 _ rfl
  have y0 := y 0 _ rfl
  have y1 := y 1 _ rfl
  have y2 := y 2 _ rfl
  have v0 := v 0
  have v1 := v 1
  have v2 := v 2
  clear x y v zx
  go_wp2_with fail
  refine HF1.out.mono ?_
  rintro e w2 ⟨rfl, hb⟩
  clear x0 x1 x2 y0 y1 y2 v0 v1 v2 zy
  replace HX := hide (HX.out.keep hb)
  replace HY := hide (HY.out.keep hb)
  replace HB := hide (bthen HB.out hb)
  clear hb
  have HW1 := hide (HW.out w2 HB.out)
  obtain ⟨x, -, zx⟩ := HX.out
  obtain ⟨y, v, zy⟩ := HY.out
  have x0 := x 0 _ rfl
  have x1 := x 1 _ rfl
  have x2 := x 2 _ rfl
  have y0 := y 0 _ rfl
  have y1 := y 1 _ rfl
  have y2 := y 2 _ rfl
  have v0 := v 0
  have v1 := v 1
  have v2 := v 2
  clear x y v zx
  clear HK HF HF1 HW
  go_wp2_with fail
  refine HW1.out.mono ?_
  rintro e w3 ⟨V, xs, s, rfl, hW⟩
  have hb := hW.2.2.2.2.2
  have hw2 := HB.out.size
  have hw2y := HY.out.lt
  have hw23 := hb.size
  have HG := hide (hW.gq (Y := fun b => (Y b ∨ w.heap.size ≤ b) ∧ b ≠ w.heap.size + 1) HCH.out (fun b h => Nat.lt_of_lt_of_le (HYY.out b h) hw2) (fun b hb => ⟨.inl hb, by have := HYY.out b hb; omega⟩) (fun b hb => ⟨.inr (by omega), by omega⟩))
  obtain ⟨B, q, hV⟩ := HG.out.form
  rw [HM.out] at hV
  subst hV
  clear x0 x1 x2 y0 y1 y2 v0 v1 v2 zy
  replace HX := hide (HX.out.keep hb)
  replace HY := hide (HY.out.keep hb)
  replace HB := hide (bthen HB.out hb)
  clear hb
  clear hW hw2
  obtain ⟨x, -, zx⟩ := HX.out
  obtain ⟨y, v, zy⟩ := HY.out
  have x0 := x 0 _ rfl
  have x1 := x 1 _ rfl
  have x2 := x 2 _ rfl
  have y0 := y 0 _ rfl
  have y1 := y 1 _ rfl
  have y2 := y 2 _ rfl
  have v0 := v 0
  have v1 := v 1
  have v2 := v 2
  clear x y v zx
  go_upto_region 7 with (fail)
  have HZ := hide (Bl.new w3 [.int .i64 c.next, .slice B m q, .int .i64 c.dur] 24)
  have hlt3 := HY.out.lt
  replace HX := hide (HX.out.laid (.cells #[.int .i64 c.next, .slice B m q, .int .i64 c.dur] 24))
  replace HY := hide (HY.out.laid (.cells #[.int .i64 c.next, .slice B m q, .int .i64 c.dur] 24))
  replace HB := hide (bA_alloc HB.out (.cells #[.int .i64 c.next, .slice B m q, .int .i64 c.dur] 24))
  replace HG := hide ((HG.out.less (Y' := fun b => (Y b ∨ w.heap.size ≤ b) ∧ b ≠ w.heap.size + 1 ∧ b ≠ w3.heap.size) rd_Aq (fun b h1 h2 => ⟨h1.1, h1.2, by omega⟩)).keep rd_Aq (below_laid (.cells #[.int .i64 c.next, .slice B m q, .int .i64 c.dur] 24)))
  obtain ⟨bo, hbo⟩ : ∃ bo, w3.heap.size = bo := ⟨_, rfl⟩
  obtain ⟨w4, hw4⟩ : ∃ w4, w3.alloc (.cells #[.int .i64 c.next, .slice B m q, .int .i64 c.dur] 24) = w4 := ⟨_, rfl⟩
  rw [hw4] at HX HY HB HG HZ ⊢
  rw [hbo] at HG HZ hlt3 hw23 ⊢
  clear x0 x1 x2 y0 y1 y2 v0 v1 v2 zy
  clear hw4 hbo
  obtain ⟨i0, hi0, hz0, hz1, hz2⟩ := info_parts iq_attempt
  obtain ⟨i1, hi1, hz10, hz11, hz12⟩ := info_parts iq_operator
  obtain ⟨i2, hi2, hz20, hz21, hz22⟩ := info_parts iq_bool
  go_cut [] from 26 to 40 (fun wx => Hid (TrO w wx Y w.heap.size (w.heap.size + 1) bo [.int .i64 c.next, .slice A m cap, .int .i64 c.dur] c.next c.dur (m + 1) (c.atts ++ [newA c rds k])))
  case first =>
    refine wp_region_grow 12 [26, 27, 28, 29, 30, 31, 32, 33, 34, 35, 36, 37] [Fix (.pointer (some ⟨bo, 1, none⟩)), Fix (.slice B m q), Fix (.pointer (some ⟨w.heap.size, 0, none⟩)), Fix (.int .i64 c.next), Fix (.slice A' nr cap'), LstN w4.heap.size 6 RRq nr rds, Fix (.int .i64 k), LstN w4.heap.size 2 ROq k (List.replicate k Oq.z), Fix (.int .i64 k), LstN w4.heap.size 1 RBq k (List.replicate k false), AggN w4.heap.size (newA c rds k), OneN w4.heap.size (newA c rds k)] (by kernel_rfl) (by kernel_rfl) (by kernel_rfl) (by kernel_rfl) (by kernel_rfl) ?_ ?_ ?_
    · intro p hp
      simp only [List.mem_cons, List.not_mem_nil, or_false] at hp
      rcases hp with rfl | rfl | rfl | rfl | rfl | rfl | rfl | rfl | rfl | rfl | rfl | rfl
      all_goals first | exact stb_fix _ | exact stb_lst rd_Rq | exact stb_lst rd_Oq | exact stb_lst rd_Bq | exact stb_agg | exact stb_one
    · intro j o hj ho x w5 hb hd
      have hjc : j = 0 ∨ j = 1 ∨ j = 2 ∨ j = 3 ∨ j = 4 ∨ j = 5 ∨ j = 6 ∨ j = 7 ∨ j = 8 ∨ j = 9 ∨ j = 10 ∨ j = 11 := by omega
      rcases hjc with rfl | rfl | rfl | rfl | rfl | rfl | rfl | rfl | rfl | rfl | rfl | rfl
      all_goals obtain rfl := Option.some.inj ho
      all_goals generalize hK : (fun (a' : Act) (w' : World) => _) = K
      all_goals simp only [puts]
      · go_simp
        rw [← hK]
        exact ⟨.pointer (some ⟨bo, 1, none⟩), (by simp only [puts]; go_simp), Below.refl _ _, rfl⟩
      · have e : x 26 = .pointer (some ⟨bo, 1, none⟩) := hd 0 (by kernel_rfl)
        have z1 := keep1 hb (HZ.out.c 1 _ rfl)
        go_simp
        rw [← hK]
        exact ⟨.slice B m q, (by simp only [puts]; go_simp), Below.refl _ _, rfl⟩
      · go_simp
        rw [← hK]
        exact ⟨.pointer (some ⟨w.heap.size, 0, none⟩), (by simp only [puts]; go_simp), Below.refl _ _, rfl⟩
      · have e : x 28 = .pointer (some ⟨w.heap.size, 0, none⟩) := hd 2 (by kernel_rfl)
        have x0 := keep1 hb (HX.out.c 0 _ rfl)
        go_simp
        rw [← hK]
        exact ⟨.int .i64 c.next, (by simp only [puts]; go_simp), Below.refl _ _, rfl⟩
      · go_simp
        rw [← hK]
        exact ⟨.slice A' nr cap', (by simp only [puts]; go_simp), Below.refl _ _, rfl⟩
      · have e : x 30 = .slice A' nr cap' := hd 4 (by kernel_rfl)
        have hw5 := hb.size
        go_simp
        go_at_call 34
        refine (HCP.out _ (bthen HB.out hb)).mono ?_
        rintro en w6 ⟨V1, rfl, ho, hbc⟩
        have hL : Lst w6 (fun b => w4.heap.size ≤ b ∧ b < w6.heap.size) 6 RRq V1 rds :=
          els_lst (B := fun _ => False) rd_Rq (by decide) HCR.out.1 (by have := HNR.out; unfold maxLen; omega) ho (els_of HCR.out.1 fun j hj => by
            obtain ⟨ys, h1, h2, h3⟩ := HCR.out.2 j hj
            exact ⟨ys, h1, h2, h3⟩) (fun b hz => absurd hz id) (fun b hz => ⟨Nat.le_trans hw5 (ho.lt b hz).1, (ho.lt b hz).2⟩)
        obtain ⟨B1, q1, hV⟩ := hL.form
        rw [HNR.out] at hV
        rw [← hK]
        exact ⟨V1, (by simp only [puts]; go_simp), hbc, ⟨_, _, hV⟩, hL⟩
      · go_simp
        rw [← hK]
        exact ⟨.int .i64 k, (by simp only [puts]; go_simp), Below.refl _ _, rfl⟩
      · have e : x 32 = .int .i64 k := hd 6 (by kernel_rfl)
        have hw5 := hb.size
        have hmk := run_make (P := Try.prog) w5 48 42 i1 _ Try.underlying48 hi1 hz10 .i64 .i64 (k : Int) (k : Int) (by omega) (Int.le_refl _) (by rw [hz12]; omega) (by omega)
        rw [Int.toNat_natCast, hz11] at hmk
        go_simp
        rw [← hK]
        exact ⟨.slice (some ⟨w5.heap.size, 0, none⟩) k k, (by simp only [puts]; go_simp), below_laid _, ⟨_, _, rfl⟩, made_lst (sz := 2) rfl rfl (by decide) (by unfold maxLen; omega) (Below.refl _ _) ⟨hw5, by simp⟩ ⟨_, _, rfl, Lst.nil, Lst.nil, Nat.zero_le _, Nat.zero_le _⟩⟩
      · go_simp
        rw [← hK]
        exact ⟨.int .i64 k, (by simp only [puts]; go_simp), Below.refl _ _, rfl⟩
      · have e : x 34 = .int .i64 k := hd 8 (by kernel_rfl)
        have hw5 := hb.size
        have hmk := run_make (P := Try.prog) w5 49 4 i2 _ Try.underlying49 hi2 hz20 .i64 .i64 (k : Int) (k : Int) (by omega) (Int.le_refl _) (by rw [hz22]; omega) (by omega)
        rw [Int.toNat_natCast, hz21] at hmk
        go_simp
        rw [← hK]
        exact ⟨.slice (some ⟨w5.heap.size, 0, none⟩) k k, (by simp only [puts]; go_simp), below_laid _, ⟨_, _, rfl⟩, made_lst (sz := 1) rfl rfl (by decide) (by unfold maxLen; omega) (by rw [Nat.mul_one]; exact Below.refl _ _) ⟨hw5, by simp⟩ rfl⟩
      · have e29 : x 29 = .int .i64 c.next := hd 3 (by kernel_rfl)
        obtain ⟨⟨A1, q1, e31⟩, L1⟩ : LstN w4.heap.size 6 RRq nr rds w5 (x 31) := hd 5 (by kernel_rfl)
        obtain ⟨⟨A2, q2, e33⟩, L2⟩ : LstN w4.heap.size 2 ROq k (List.replicate k Oq.z) w5 (x 33) := hd 7 (by kernel_rfl)
        obtain ⟨⟨A3, q3, e35⟩, L3⟩ : LstN w4.heap.size 1 RBq k (List.replicate k false) w5 (x 35) := hd 9 (by kernel_rfl)
        rw [e31] at L1
        rw [e33] at L2
        rw [e35] at L3
        have HL := hide (And.intro L1 (And.intro L2 L3))
        clear L1 L2 L3
        go_simp
        rw [← hK]
        exact ⟨.agg #[.int .i64 c.next, .slice A1 nr q1, .slice A2 k q2, .slice A3 k q3], (by simp only [puts]; go_simp), Below.refl _ _, c.next, A1, nr, q1, A2, k, q2, A3, k, q3, rfl, _, _, _, rfl, HL.out.1, HL.out.2.1, HL.out.2.2, HQ.out.1⟩
      · obtain ⟨x0, A1, n1, q1, A2, n2, q2, A3, n3, q3, e, hR⟩ : AggN w4.heap.size (newA c rds k) w5 (x 36) := hd 10 (by kernel_rfl)
        have HR := hide hR
        have hw5 := hb.size
        clear hR
        go_simp
        rw [← hK]
        refine ⟨.slice (some ⟨w5.heap.size, 0, none⟩) 1 1, (by simp only [puts]; go_simp), below_laid _, w5.heap.size, [.int .i64 x0, .slice A1 n1 q1, .slice A2 n2 q2, .slice A3 n3 q3], rfl, hw5, rfl, cells_lit w5 [.int .i64 x0, .slice A1 n1 q1, .slice A2 n2 q2, .slice A3 n3 q3] _, ?_, rd_Aq.more (fun b hz => ⟨hz.1, Nat.lt_of_lt_of_le hz.2 (below_laid _).size⟩) (rd_Aq.keep (Kp.of_below (below_laid _)) HR.out)⟩
        intro y hy
        simp at hy
        rcases hy with rfl | rfl | rfl | rfl <;> rfl
    · intro x w5 hb hP
      have e27 : x 27 = .slice B m q := hP 1 (by decide)
      obtain ⟨g, ys, e37, hg4, hyl, hyc, hy1, hyR⟩ : OneN w4.heap.size (newA c rds k) w5 (x 37) := hP 11 (by decide)
      have hGi := HG.out.inY
      have hGl := HG.out.low
      have hsz := hb.size
      have hzo := HZ.out.lt
      have hy2 := HY.out.lt
      have hNY : RAq w5 (fun b => ((Y b ∨ w.heap.size ≤ b) ∧ b ≠ w.heap.size + 1 ∧ b ≠ bo) ∧ b < w5.heap.size ∧ (Value.slice B m q).ownBlock ≠ some b) ys (newA c rds k) := rd_Aq.more (fun b hz => ⟨⟨.inr (by omega), by omega, by omega⟩, hz.2, fun e => by have := (hGl b e).2; omega⟩) hyR
      have HGY := hide (And.intro (HG.out.keep rd_Aq hb) hNY)
      have HYS := hide (And.intro hyl (And.intro hyc hy1))
      have HX5 := hide (HX.out.keep hb)
      have HY5 := hide (HY.out.keep hb)
      have HZ5 := hide (HZ.out.keep hb)
      have HB5 := hide (bthen HB.out hb)
      have HOB := hide (And.intro hGi hGl)
      have z1 := HZ5.out.c 1 _ rfl
      have zf := HZ5.out.f 1
      clear hP hb hNY hyl hyc hy1 hyR hGi hGl
      have hb2 : w2.heap.size ≤ w5.heap.size := by omega
      simp only [puts, Act.put, List.setIfInBounds_toArray, List.set_cons_succ, List.set_cons_zero, List.drop]
      refine wpList_append_gq rd_Aq ?a1 (.tmp 27) (.tmp 37) 22 ?a2 _ _ 51 i0 _ 4 80 Try.underlying22 hi0 hz0 hz1 hz2 ?a3 (by decide) (.slice B m q) c.atts ?a4 HGY.out.1 g ?a6 ys HYS.out.1 HYS.out.2.1 HYS.out.2.2 (newA c rds k) HGY.out.2 ?b5 ?b6 (by decide) hb2 ?b9
      case a1 => rfl
      case a2 => rfl
      case a3 => rfl
      case a4 => exact e27
      case a6 => exact e37
      case b5 => exact fun b hb => ⟨.inr (by omega), by omega, by omega⟩
      case b6 => have := HM.out; omega
      case b9 =>
        intro v9 w9 hg9 hgr9 hb9
        obtain ⟨B9, q9, hv9⟩ := hg9.form
        rw [List.length_append, List.length_singleton, HM.out] at hv9
        subst hv9
        have hX9 := HX5.out.grown hgr9 (fun e => by have := (HOB.out.2 _ e).1; omega)
        have hY9 := HY5.out.grown hgr9 (fun e => (HOB.out.1 _ e).2.1 rfl)
        have hZ9 := HZ5.out.grown hgr9 (fun e => (HOB.out.1 _ e).2.2 rfl)
        have HB9 := hide (HB5.out.trans (hb9.mono (by omega)))
        have z19 := hZ9.c 1 _ rfl
        have zf9 := hZ9.f 1
        have HF9 := hide (And.intro hg9 (And.intro hX9 (And.intro hY9 hZ9)))
        clear hg9 hgr9 hb9 hX9 hY9 hZ9 z1 zf e27 e37
        go_wp2
        go_meet
        obtain ⟨hg9, hX9, hY9, hZ9⟩ := HF9.out
        refine hide ⟨hX9.far (p := ⟨bo, 1, none⟩) (by show bo ≠ w.heap.size; omega) _, hY9.far (p := ⟨bo, 1, none⟩) (by show bo ≠ w.heap.size + 1; omega) _, ⟨B9, q9, hZ9.put (k := 1) (by simp) _, ?_⟩, HB9.out.setCell (p := ⟨bo, 1, none⟩) (by show w.heap.size ≤ bo; omega) _⟩
        exact (hg9.set rd_Aq (fun h => h.2.2 rfl) 1 _).lst rd_Aq (by decide) (by rw [List.length_append, HM.out]; simp; unfold maxLen; omega)
  case rest =>
    obtain ⟨hx, hy, ⟨B9, q9, hz, hL⟩, hbl⟩ := hcut.out
    have HX9 := hide hx
    have HY9 := hide hy
    have HL9 := hide hL
    have HB9 := hide hbl
    have hyl := hy.lt
    have hzl := hz.lt
    have x0 := hx.c 0 _ rfl
    have y0 := hy.c 0 _ rfl
    have y1 := hy.c 1 _ rfl
    have y2 := hy.c 2 _ rfl
    have v0 := hy.f 0
    have v1 := hy.f 1
    have v2 := hy.f 2
    have z0 := hz.c 0 _ rfl
    have z1 := hz.c 1 _ rfl
    have z2 := hz.c 2 _ rfl
    have f0 := hz.f 0
    have ne1 : bo ≠ w.heap.size := by omega
    have ne2 : bo ≠ w.heap.size + 1 := by omega
    clear hx hy hz hL hbl hcut
    go_wp2
    go_region
    all_goals
      go_wp2
      refine bodyPost_ret (v := .tuple #[.agg #[.int .i64 (c.next + 1), .slice B9 (m + 1) q9, .int .i64 c.dur], .int .i64 c.next, .int .i64 0]) (by rw [results_ctt rfl]; go_simp) rfl ?_
      refine ⟨_, by rw [HN.out], ?_, (((((HB9.out.setCell (p := ⟨bo, 0, none⟩) (by show w.heap.size ≤ bo; omega) _).setCell (p := ⟨w.heap.size + 1, 0, none⟩) (Nat.le_succ _) _).setCell (p := ⟨w.heap.size + 1, 1, none⟩) (Nat.le_succ _) _).setCell (p := ⟨w.heap.size + 1, 2, none⟩) (Nat.le_succ _) _)).drew⟩
      rw [HC.out]
      have hk0 := HL9.out.keep rd_Aq (Kp.set ⟨bo, 0, none⟩ (.int .i64 (c.next + 1)) fun b hb => hb.1.2.2)
      have hq := HQ.out
      unfold inQ at hq
      exact ⟨_, rfl, Lst.keep rd_Aq ⟨Nat.le_refl _, fun _ _ _ => rfl⟩ (lst_set3z rd_Aq hk0 (fun b hb => hb.1.2.1) (fun b hb => hb.1.1.elim .inl fun h => .inr ⟨h, by simpa [World.setCell, World.drew] using hb.2⟩) _ _ _), by unfold inQ; exact ⟨by simp only; omega, by simp only; omega⟩, by unfold inQ; exact hq.2⟩
theorem trig_z (Y : Nat → Prop) (v rv : Value) (rds : List Rq) (n : Int) (h : CoVz w Y v c) (hY : ∀ b, Y b → b < w.heap.size) (hr : Lq w 6 RRq rv rds) : Calls Try.prog 11 #[v, rv, .int .i64 n] w (RetC2z w Y (trigC c rds n) (trigN c rds.length n) (trigE c rds.length n)) := by
  by_cases hg : trigE c rds.length n = 0
  · exact trig_good w c Y v rv rds n h hY hr hg
  · exact trig_bad w c Y v rv rds n (h.cov hY) hr hg
theorem trig_any (v rv : Value) (rds : List Rq) (n : Int) (h : CoV w v c) (hr : Lq w 6 RRq rv rds) : Calls Try.prog 11 #[v, rv, .int .i64 n] w (RetC2 w (trigC c rds n) (trigN c rds.length n) (trigE c rds.length n)) :=
  (trig_z w c _ v rv rds n h.z (fun _ h => h) hr).mono fun _ _ h => h.out fun _ h => h
end
end Go.Proofs.Ytihbonndinnohaa
