/- The decoder's method value. -/
import Derived.Test.YtofdcgojgcnopaaGreatDText
namespace Go.Proofs.YtofdcgojgcnopaaGreat
open Go.RowKit
set_option linter.unusedVariables false
set_option linter.unusedSimpArgs false
theorem Rw.far {w : World} {F : Nat} {s : Bs} {e : Int} (h : Rw w F s e) {b : Nat} (hb : b ≠ F) (c : Nat) (u : Value) : Rw (w.setCell ⟨b, c, none⟩ u) F s e := by
  refine ⟨?_, ?_, ?_, ?_⟩
  · rw [World.cell?_setCell_other _ _ _ _ (by intro e'; injection e' with e' _ _; exact hb (by omega))]; exact h.c0
  · rw [World.cell?_setCell_other _ _ _ _ (by intro e'; injection e' with e' _ _; exact hb (by omega))]; exact h.c1
  · rw [World.frozen?_setCell]; exact h.f0
  · rw [World.frozen?_setCell]; exact h.f1
theorem Rt.own {w0 w : World} {F : Nat} (h : Rt F w0 w) {b : Nat} (hb : w0.heap.size ≤ b) (hF : F < w0.heap.size) (c : Nat) (u : Value) : Rt F w0 (w.setCell ⟨b, c, none⟩ u) := by
  have hk : Kp (fun d => d < w0.heap.size) w (w.setCell ⟨b, c, none⟩ u) := Kp.set ⟨b, c, none⟩ u (fun d hd => by show d ≠ b; omega)
  exact ⟨h.low.setCell (p := ⟨b, c, none⟩) (by show F ≤ b; omega) _, Nat.le_trans h.kp.1 hk.1, fun d hd hl => (hk.2 d hl (Nat.lt_of_lt_of_le hl h.kp.1)).trans (h.kp.2 d hd hl)⟩
/-- A box that no reader has. -/
def Bo (F : Nat) (w : World) (b : Nat) (xs : List Value) : Prop := b ≠ F ∧ (∀ c u, xs[c]? = some u → w.cell? ⟨b, c, none⟩ = some u) ∧ ∀ c, c < xs.length → w.frozen? ⟨b, c, none⟩ = false
theorem Bo.lt {F : Nat} {w : World} {b : Nat} {x : Value} {xs : List Value} (h : Bo F w b (x :: xs)) : b < w.heap.size := World.block_lt_of_cell? w ⟨b, 0, none⟩ (h.2.1 0 x rfl)
theorem Bo.keep {F : Nat} {w w' : World} {b : Nat} {x : Value} {xs : List Value} (h : Bo F w b (x :: xs)) (ht : Rt F w w') : Bo F w' b (x :: xs) := by
  have hb := ht.kp.2 b h.1 h.lt
  exact ⟨h.1, fun c u hu => (World.cell?_of_block (w := w) (a := ⟨b, c, none⟩) hb).trans (h.2.1 c u hu), fun c hc => (World.frozen?_of_block (w := w) (a := ⟨b, c, none⟩) hb).trans (h.2.2 c hc)⟩
theorem Bo.new {F : Nat} {w : World} (hF : F < w.heap.size) (xs : List Value) (t : TypeId) : Bo F (w.alloc (.cells xs.toArray t)) w.heap.size xs :=
  ⟨by omega, cells_lit w xs t, fun c _ => by
    unfold World.frozen?
    rw [show (⟨w.heap.size, c, none⟩ : Addr).block = w.heap.size from rfl, heap_alloc_new]
    simp⟩
theorem Bo.set {F : Nat} {w : World} {b : Nat} {xs : List Value} (h : Bo F w b xs) {c : Nat} (hc : c < xs.length) (u : Value) : Bo F (w.setCell ⟨b, c, none⟩ u) b (xs.set c u) := by
  refine ⟨h.1, fun d v hv => ?_, fun d hd => ?_⟩
  · by_cases hdc : d = c
    · subst hdc
      rw [List.getElem?_set_self hc] at hv
      cases hv
      refine World.cell?_setCell_same' _ _ _ ?_
      rw [h.2.1 d xs[d] (List.getElem?_eq_getElem hc)]; rfl
    · rw [List.getElem?_set_ne (by omega)] at hv
      rw [World.cell?_setCell_other _ _ _ _ (by intro e'; injection e' with _ e' _; exact hdc e'.symm)]
      exact h.2.1 d v hv
  · rw [World.frozen?_setCell]
    exact h.2.2 d (by simpa using hd)
theorem Bo.far {F : Nat} {w : World} {b b' : Nat} {xs : List Value} (h : Bo F w b xs) (hb : b ≠ b') (c : Nat) (u : Value) : Bo F (w.setCell ⟨b', c, none⟩ u) b xs := by
  refine ⟨h.1, fun d v hv => ?_, fun d hd => ?_⟩
  · rw [World.cell?_setCell_other _ _ _ _ (by intro e'; injection e' with e' _ _; exact hb e'.symm)]
    exact h.2.1 d v hv
  · rw [World.frozen?_setCell]
    exact h.2.2 d hd
theorem De.errl {α : Type} {p : Ps α} {s s' : Bs} {e c : Int} (x : α) (hl : s'.length ≤ s.length) (h : p s = .error c) (hc : c ≠ 0) : De p s e x s' (if e = 0 then c else e) := ⟨hl, (De.errs x h hc).2.1, fun he => by
  rcases (De.errs x h hc).2.2 he with h' | ⟨h', -⟩
  · exact .inl h'
  · rw [h] at h'; cases h'⟩
theorem De.chk (v : V3) (s : Bs) : De (pOk v) s 0 v s (checkC v.q v.n v.s.size) := by
  by_cases h : checkC v.q v.n v.s.size = 0
  · rw [h]; exact De.ok (Nat.le_refl _) (by unfold pOk; rw [if_neg (by rw [h]; simp)]; rfl)
  · exact De.err (Nat.le_refl _) (by unfold pOk; rw [if_pos h]; rfl) h
/-- A value. -/
def RV3 (_ : World) (v : Value) (x : V3) : Prop := v = .agg #[.int .i64 x.q, .int .i64 x.n, .string x.s] ∧ gV x ∧ x.s.size ≤ 64
theorem Rds.fin {F r : Nat} {w W : World} {s s' : Bs} {e e' : Int} {x : V3} (hx : gV x) (hz : x.s.size ≤ 64) (hd : De pV s e x s' e') (hw : Rw W F s' e') (ht : Rt F w W) (hF : F < w.heap.size) (hr : w.heap.size ≤ r) :
    Rds F pV RV3 s e w (.returned (.agg #[.int .i64 x.q, .int .i64 x.n, .string x.s])) (((W.setCell ⟨r, 0, none⟩ (.int .i64 x.q)).setCell ⟨r, 1, none⟩ (.int .i64 x.n)).setCell ⟨r, 2, none⟩ (.string x.s)) :=
  ⟨_, x, s', e', rfl, ⟨rfl, hx, hz⟩, hd, ((hw.far (by omega) 0 _).far (by omega) 1 _).far (by omega) 2 _, ((ht.own hr hF 0 _).own hr hF 1 _).own hr hF 2 _⟩
def qV (k : Int) : Ps V3 := if k < 0 ∨ 2 < k then pErr 1 else if k = 2 then pBind pText fun t => pOk ⟨k, 0, t⟩ else pBind pnum fun n => pOk ⟨k, n, ⟨#[]⟩⟩
theorem pV_q : pV = pBind pnum qV := rfl
theorem qV_bad {k : Int} {s1 : Bs} (h : k < 0 ∨ 2 < k) : qV k s1 = .error 1 := by unfold qV; rw [if_pos h]; rfl
theorem qV_two : qV 2 = pBind pText fun t => pOk ⟨2, 0, t⟩ := rfl
theorem qV_num {k : Int} (h : ¬ (k < 0 ∨ 2 < k)) (h2 : k ≠ 2) : qV k = pBind pnum fun n => pOk ⟨k, n, ⟨#[]⟩⟩ := by unfold qV; rw [if_neg h, if_neg h2]
theorem De.dead {α β : Type} {p : Ps α} {q : α → Ps β} {s s' s'' : Bs} {e e' : Int} {x : α} (y : β) (h : De p s e x s' e') (he : e' ≠ 0) (hl : s''.length ≤ s'.length) : De (pBind p q) s e y s'' e' := by
  refine ⟨Nat.le_trans hl h.1, h.2.1, fun h0 => ?_⟩
  rcases h.2.2 h0 with ⟨c, hp, hc, rfl⟩ | ⟨-, h1⟩
  · exact .inl ⟨_, by unfold pBind; rw [hp], hc, rfl⟩
  · exact absurd h1 he
section
variable (F : Nat) (s : Bs) (e : Int) (w : World)
set_option maxRecDepth 100000 in
set_option maxHeartbeats 8000000 in
theorem dvalue_any (hs : s.length ≤ 100000000) (h : Rw w F s e) : Calls Tryz.prog 91 #[.pointer (some ⟨F, 0, none⟩)] w (Rds F pV RV3 s e w) := by
  have HI := hide (fun ob => dint_any F s e (w.alloc ob) hs (h.laid ob))
  have HH := hide h
  have hF := h.lt
  clear h
  go_enter Tryz.func91, Tryz.ntmps91
  go_wp2_with fail
  refine (HI.out _).mono ?_
  rintro en w1 ⟨_, k, s1, e1, rfl, ⟨rfl, hk⟩, hd, hw, ht⟩
  have HD := hide hd
  have HW := hide hw
  have hl := hd.1
  have HT := hide ((Rt.laid HH.out _).trans ht)
  have HR := hide ((Bo.new hF [.int .i64 0, .int .i64 0, .string ⟨#[]⟩] 49).keep ht)
  have hlt := hw.lt
  have hrl := HR.out.lt
  have hc1 := hw.c1
  have HK := hide hk
  unfold inI at hk
  clear hd hw ht
  by_cases hbad : k < 0 ∨ 2 < k
  · have HF := hide (fun ob => dfail_any F s1 e1 (w1.alloc ob) 1 (HW.out.laid ob))
    have HDE := hide (fun (n : Int) (s2 : Bs) (h : s2.length ≤ s1.length) => HD.out.bind (q := qV) (De.errl (e := e1) (⟨k, n, ⟨#[]⟩⟩ : V3) h (qV_bad hbad) (by decide : (1 : Int) ≠ 0)))
    obtain ⟨e2, he2⟩ : ∃ e2, (if e1 = 0 then 1 else e1) = e2 := ⟨_, rfl⟩
    have hne : e2 ≠ 0 := by rw [← he2]; split <;> omega
    rw [he2] at HF HDE
    have t1 : (e2 == 0) = false := beq_eq_false_iff_ne.2 hne
    clear he2
    rcases hbad with hb1 | hb1
    all_goals
      go_wp2_with fail
      refine (HF.out _).mono ?_
      rintro en w2 ⟨rfl, hw, ht⟩
      have HB := hide ((Bo.new hlt [.int .i64 k, .int .i64 0, .string ⟨#[]⟩] 49).keep ht)
      have HRR := hide ((HR.out.keep (Rt.laid HW.out _)).keep ht)
      have HT2 := hide ((HT.out.trans (Rt.laid HW.out _)).trans ht)
      have HI2 := hide (dint_any F s1 e2 w2 (Nat.le_trans hl hs) hw)
      have c1 := hw.c1
      have b0 := HB.out.2.1 0 _ rfl
      clear hw ht
      go_wp2_with fail
      refine HI2.out.mono ?_
      rintro en w3 ⟨_, n2, s2, e3, rfl, ⟨rfl, hn2⟩, hd, hw, ht⟩
      obtain rfl : e3 = e2 := hd.2.1 hne
      have hl2 := hd.1
      obtain ⟨⟨-, bb, bf⟩, ⟨hrF, rr, rf⟩⟩ := And.intro (HB.out.keep ht) (HRR.out.keep ht)
      have b0 := bb 0 _ rfl
      have b1 := bb 1 _ rfl
      have b2 := bb 2 _ rfl
      have f1 := bf 1 (by simp)
      have r0 := rr 0 _ rfl
      have r1 := rr 1 _ rfl
      have r2 := rr 2 _ rfl
      have g0 := rf 0 (by simp)
      have g1 := rf 1 (by simp)
      have g2 := rf 2 (by simp)
      have c1 := hw.c1
      have HW3 := hide hw
      have HT3 := hide (HT2.out.trans ht)
      clear hw ht hd bb bf rr rf
      go_wp2
      refine bodyPost_ret (v := .agg #[.int .i64 k, .int .i64 n2, .string ⟨#[]⟩]) (by rw [results_c rfl]; go_simp) rfl ?_
      exact Rds.fin (x := ⟨k, n2, ⟨#[]⟩⟩) ⟨HK.out, hn2⟩ (Nat.zero_le _) (HDE.out n2 s2 hl2) (HW3.out.far HB.out.1 1 _) (HT3.out.own HT.out.kp.1 hF 1 _) hF (Nat.le_refl _)
  · have hk1 : 0 ≤ k := by omega
    have hk2 : k ≤ 2 := by omega
    by_cases he : e1 = 0
    · subst he
      by_cases hk3 : k = 2
      · subst hk3
        have HI2 := hide (fun ob => dtext_any F s1 0 (w1.alloc ob) (Nat.le_trans hl hs) (HW.out.laid ob))
        go_wp2_with fail
        refine (HI2.out _).mono ?_
        rintro en w2 ⟨_, tx, s2, e2, rfl, ⟨rfl, hn2⟩, hd, hw, ht⟩
        have HN2 := hide hn2
        have HD2 := hide hd
        have HW2 := hide hw
        have HT2 := hide ((HT.out.trans (Rt.laid HW.out _)).trans ht)
        have HB := hide ((Bo.new hlt [.int .i64 2, .int .i64 0, .string ⟨#[]⟩] 49).keep ht)
        have HRR := hide ((HR.out.keep (Rt.laid HW.out _)).keep ht)
        obtain ⟨⟨-, bb, bf⟩, ⟨hrF, rr, rf⟩⟩ := And.intro HB.out HRR.out
        have b0 := bb 0 _ rfl
        have b1 := bb 1 _ rfl
        have b2 := bb 2 _ rfl
        have f1 := bf 2 (by simp)
        have r0 := rr 0 _ rfl
        have r1 := rr 1 _ rfl
        have r2 := rr 2 _ rfl
        have g0 := rf 0 (by simp)
        have g1 := rf 1 (by simp)
        have g2 := rf 2 (by simp)
        have c1 := hw.c1
        have hrb : w.heap.size < w1.heap.size := hrl
        have hbw2 : w1.heap.size < w2.heap.size := HB.out.lt
        clear hd hw ht bb bf rr rf
        by_cases he2 : e2 = 0
        · subst he2
          have HC := hide (fun w => check_any 2 0 tx w (by exact Nat.le_trans HN2.out (by decide)))
          go_wp2_with fail
          refine (HC.out _).mono ?_
          rintro en w3 ⟨rfl, hb⟩
          have HW3 := hide ((HW2.out.far HB.out.1 2 (.string tx)).keep hb)
          have HT3 := hide ((HT2.out.own HT.out.kp.1 hF 2 (.string tx)).trans (Rt.of_below hb (Nat.le_of_lt (HW2.out.far HB.out.1 2 (.string tx)).lt)))
          have HB3 := hide ((HB.out.set (c := 2) (by simp) (.string tx)).keep (Rt.of_below hb (Nat.le_of_lt (HW2.out.far HB.out.1 2 (.string tx)).lt)))
          have HR3 := hide ((HRR.out.far (by omega : w.heap.size ≠ w1.heap.size) 2 (.string tx)).keep (Rt.of_below hb (Nat.le_of_lt (HW2.out.far HB.out.1 2 (.string tx)).lt)))
          have HDE := hide (HD.out.bind (q := qV) (show De (qV 2) s1 0 _ _ _ by rw [qV_two]; exact HD2.out.bind (De.chk ⟨2, 0, tx⟩ s2)))
          obtain ⟨ec, hec⟩ : ∃ ec, checkC 2 0 tx.size = ec := ⟨_, rfl⟩
          have HFL := hide (dfail_any F s2 0 w3 ec HW3.out)
          simp only [hec] at HDE ⊢
          rw [if_pos rfl] at HFL
          clear hb hec b0 b1 b2 f1 r0 r1 r2 g0 g1 g2 c1
          go_wp2_with fail
          refine HFL.out.mono ?_
          rintro en w4 ⟨rfl, hw, ht⟩
          obtain ⟨⟨-, bb, bf⟩, ⟨hrF, rr, rf⟩⟩ := And.intro (HB3.out.keep ht) (HR3.out.keep ht)
          have b0 := bb 0 _ rfl
          have b1 := bb 1 _ rfl
          have b2 := bb 2 _ rfl
          have f1 := bf 2 (by simp)
          have r0 := rr 0 _ rfl
          have r1 := rr 1 _ rfl
          have r2 := rr 2 _ rfl
          have g0 := rf 0 (by simp)
          have g1 := rf 1 (by simp)
          have g2 := rf 2 (by simp)
          have HW4 := hide hw
          have HT4 := hide (HT3.out.trans ht)
          clear hw ht bb bf rr rf
          go_wp2
          refine bodyPost_ret (v := .agg #[.int .i64 2, .int .i64 0, .string tx]) (by rw [results_c rfl]; go_simp) rfl ?_
          exact Rds.fin (x := ⟨2, 0, tx⟩) ⟨HK.out, by show inI 0; unfold inI; omega⟩ HN2.out HDE.out HW4.out HT4.out hF (Nat.le_refl _)
        · have t2 : (e2 == 0) = false := beq_eq_false_iff_ne.2 he2
          have HDE := hide (HD.out.bind (q := qV) (show De (qV 2) s1 0 ⟨2, 0, tx⟩ s2 e2 by rw [qV_two]; exact HD2.out.fail he2))
          go_wp2
          refine bodyPost_ret (v := .agg #[.int .i64 2, .int .i64 0, .string tx]) (by rw [results_c rfl]; go_simp) rfl ?_
          exact Rds.fin (x := ⟨2, 0, tx⟩) ⟨HK.out, by show inI 0; unfold inI; omega⟩ HN2.out HDE.out (HW2.out.far HB.out.1 2 _) (HT2.out.own HT.out.kp.1 hF 2 _) hF (Nat.le_refl _)
      · have tk : (k == 2) = false := beq_eq_false_iff_ne.2 hk3
        have HI2 := hide (fun ob => dint_any F s1 0 (w1.alloc ob) (Nat.le_trans hl hs) (HW.out.laid ob))
        have HGD := hide (qV_num hbad hk3)
        go_wp2_with fail
        refine (HI2.out _).mono ?_
        rintro en w2 ⟨_, n2, s2, e2, rfl, ⟨rfl, hn2⟩, hd, hw, ht⟩
        have HN2 := hide hn2
        have HD2 := hide hd
        have HW2 := hide hw
        have HT2 := hide ((HT.out.trans (Rt.laid HW.out _)).trans ht)
        have HB := hide ((Bo.new hlt [.int .i64 k, .int .i64 0, .string ⟨#[]⟩] 49).keep ht)
        have HRR := hide ((HR.out.keep (Rt.laid HW.out _)).keep ht)
        obtain ⟨⟨-, bb, bf⟩, ⟨hrF, rr, rf⟩⟩ := And.intro HB.out HRR.out
        have b0 := bb 0 _ rfl
        have b1 := bb 1 _ rfl
        have b2 := bb 2 _ rfl
        have f1 := bf 1 (by simp)
        have r0 := rr 0 _ rfl
        have r1 := rr 1 _ rfl
        have r2 := rr 2 _ rfl
        have g0 := rf 0 (by simp)
        have g1 := rf 1 (by simp)
        have g2 := rf 2 (by simp)
        have c1 := hw.c1
        have hrb : w.heap.size < w1.heap.size := hrl
        have hbw2 : w1.heap.size < w2.heap.size := HB.out.lt
        clear hd hw ht bb bf rr rf
        by_cases he2 : e2 = 0
        · subst he2
          have HC := hide (fun w => check_any k n2 (⟨#[]⟩ : ByteArray) w (by exact Nat.zero_le _))
          go_wp2_with fail
          refine (HC.out _).mono ?_
          rintro en w3 ⟨rfl, hb⟩
          have HW3 := hide ((HW2.out.far HB.out.1 1 (.int .i64 n2)).keep hb)
          have HT3 := hide ((HT2.out.own HT.out.kp.1 hF 1 (.int .i64 n2)).trans (Rt.of_below hb (Nat.le_of_lt (HW2.out.far HB.out.1 1 (.int .i64 n2)).lt)))
          have HB3 := hide ((HB.out.set (c := 1) (by simp) (.int .i64 n2)).keep (Rt.of_below hb (Nat.le_of_lt (HW2.out.far HB.out.1 1 (.int .i64 n2)).lt)))
          have HR3 := hide ((HRR.out.far (by omega : w.heap.size ≠ w1.heap.size) 1 (.int .i64 n2)).keep (Rt.of_below hb (Nat.le_of_lt (HW2.out.far HB.out.1 1 (.int .i64 n2)).lt)))
          have HDE := hide (HD.out.bind (q := qV) (show De (qV k) s1 0 _ _ _ by rw [HGD.out]; exact HD2.out.bind (De.chk ⟨k, n2, (⟨#[]⟩ : ByteArray)⟩ s2)))
          obtain ⟨ec, hec⟩ : ∃ ec, checkC k n2 (⟨#[]⟩ : ByteArray).size = ec := ⟨_, rfl⟩
          have HFL := hide (dfail_any F s2 0 w3 ec HW3.out)
          simp only [hec] at HDE ⊢
          rw [if_pos rfl] at HFL
          clear hb hec b0 b1 b2 f1 r0 r1 r2 g0 g1 g2 c1
          go_wp2_with fail
          refine HFL.out.mono ?_
          rintro en w4 ⟨rfl, hw, ht⟩
          obtain ⟨⟨-, bb, bf⟩, ⟨hrF, rr, rf⟩⟩ := And.intro (HB3.out.keep ht) (HR3.out.keep ht)
          have b0 := bb 0 _ rfl
          have b1 := bb 1 _ rfl
          have b2 := bb 2 _ rfl
          have f1 := bf 1 (by simp)
          have r0 := rr 0 _ rfl
          have r1 := rr 1 _ rfl
          have r2 := rr 2 _ rfl
          have g0 := rf 0 (by simp)
          have g1 := rf 1 (by simp)
          have g2 := rf 2 (by simp)
          have HW4 := hide hw
          have HT4 := hide (HT3.out.trans ht)
          clear hw ht bb bf rr rf
          go_wp2
          refine bodyPost_ret (v := .agg #[.int .i64 k, .int .i64 n2, .string (⟨#[]⟩ : ByteArray)]) (by rw [results_c rfl]; go_simp) rfl ?_
          exact Rds.fin (x := ⟨k, n2, (⟨#[]⟩ : ByteArray)⟩) ⟨HK.out, HN2.out⟩ (Nat.zero_le _) HDE.out HW4.out HT4.out hF (Nat.le_refl _)
        · have t2 : (e2 == 0) = false := beq_eq_false_iff_ne.2 he2
          have HDE := hide (HD.out.bind (q := qV) (show De (qV k) s1 0 ⟨k, n2, (⟨#[]⟩ : ByteArray)⟩ s2 e2 by rw [HGD.out]; exact HD2.out.fail he2))
          go_wp2
          refine bodyPost_ret (v := .agg #[.int .i64 k, .int .i64 n2, .string (⟨#[]⟩ : ByteArray)]) (by rw [results_c rfl]; go_simp) rfl ?_
          exact Rds.fin (x := ⟨k, n2, (⟨#[]⟩ : ByteArray)⟩) ⟨HK.out, HN2.out⟩ (Nat.zero_le _) HDE.out (HW2.out.far HB.out.1 1 _) (HT2.out.own HT.out.kp.1 hF 1 _) hF (Nat.le_refl _)
    · have t1 : (e1 == 0) = false := beq_eq_false_iff_ne.2 he
      have HI2 := hide (fun ob => dint_any F s1 e1 (w1.alloc ob) (Nat.le_trans hl hs) (HW.out.laid ob))
      go_wp2_with fail
      refine (HI2.out _).mono ?_
      rintro en w2 ⟨_, n2, s2, e2, rfl, ⟨rfl, hn2⟩, hd, hw, ht⟩
      have HN2 := hide hn2
      have HD2 := hide hd
      have HW2 := hide hw
      have HT2 := hide ((HT.out.trans (Rt.laid HW.out _)).trans ht)
      have HB := hide ((Bo.new hlt [.int .i64 k, .int .i64 0, .string ⟨#[]⟩] 49).keep ht)
      have HRR := hide ((HR.out.keep (Rt.laid HW.out _)).keep ht)
      obtain ⟨⟨-, bb, bf⟩, ⟨hrF, rr, rf⟩⟩ := And.intro HB.out HRR.out
      have b0 := bb 0 _ rfl
      have b1 := bb 1 _ rfl
      have b2 := bb 2 _ rfl
      have f1 := bf 1 (by simp)
      have r0 := rr 0 _ rfl
      have r1 := rr 1 _ rfl
      have r2 := rr 2 _ rfl
      have g0 := rf 0 (by simp)
      have g1 := rf 1 (by simp)
      have g2 := rf 2 (by simp)
      have c1 := hw.c1
      have hrb : w.heap.size < w1.heap.size := hrl
      have hbw2 : w1.heap.size < w2.heap.size := HB.out.lt
      clear hd hw ht bb bf rr rf
      obtain rfl : e2 = e1 := HD2.out.2.1 he
      have HDE := hide (HD.out.dead (q := qV) (⟨k, n2, (⟨#[]⟩ : ByteArray)⟩ : V3) he HD2.out.1)
      go_wp2
      refine bodyPost_ret (v := .agg #[.int .i64 k, .int .i64 n2, .string (⟨#[]⟩ : ByteArray)]) (by rw [results_c rfl]; go_simp) rfl ?_
      exact Rds.fin (x := ⟨k, n2, (⟨#[]⟩ : ByteArray)⟩) ⟨HK.out, HN2.out⟩ (Nat.zero_le _) HDE.out (HW2.out.far HB.out.1 1 _) (HT2.out.own HT.out.kp.1 hF 1 _) hF (Nat.le_refl _)
end
end Go.Proofs.YtofdcgojgcnopaaGreat
