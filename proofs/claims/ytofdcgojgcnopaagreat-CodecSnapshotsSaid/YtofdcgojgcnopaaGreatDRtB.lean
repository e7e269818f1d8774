/- A reference to an event; bindings by it. The reference's takeRef. The reference's takeConfig. The reference's takeEngine. -/
import Derived.Test.YtofdcgojgcnopaaGreatDRel2
import Derived.Test.YtofdcgojgcnopaaGreatDRtA
import Derived.Test.YtofdcgojgcnopaaGreatDVal
namespace Go.Proofs.YtofdcgojgcnopaaGreat
open Go.RowKit
set_option linter.unusedVariables false
set_option linter.unusedSimpArgs false
structure Rf3 where
  (t s q : Int)
def gRf (x : Rf3) : Prop := inI x.t ∧ inI x.s ∧ inI x.q
def pRf : Ps Rf3 := pBind pnum fun a => pBind pnum fun b => pBind pnum fun c => pRet ⟨a, b, c⟩
def RRf (_ : World) (_ : Nat → Prop) (xs : List Value) (x : Rf3) : Prop := xs = [.int .i64 x.t, .int .i64 x.s, .int .i64 x.q] ∧ gRf x
theorem pBnd_eq : pBnd = pBind pnum fun a => pBind pRf fun r => pRet (⟨a, r.t, r.s, r.q⟩ : Bnd) := by
  funext s
  unfold pBnd pRf pBind pRet
  cases pnum s with
  | error c => rfl
  | ok x =>
    obtain ⟨a, s1⟩ := x
    simp only
    cases pnum s1 with
    | error c => rfl
    | ok x =>
      obtain ⟨b, s2⟩ := x
      simp only
      cases pnum s2 with
      | error c => rfl
      | ok x =>
        obtain ⟨c, s3⟩ := x
        simp only
        cases pnum s3 with
        | error c => rfl
        | ok x => rfl
/-- Behind a loop that appends to a field of the box b. -/
theorem lst_keep2 {α : Type} {R : World → (Nat → Prop) → List Value → α → Prop} (hR : Rd R) {sz F b lo hi : Nat} {w w' : World} {v : Value} {l : List α} (h : Lst w (fun x => lo ≤ x ∧ x < hi) sz R v l) (ht : Rt2 F b w w') (hF : F < lo) (hb : b < lo ∨ hi ≤ b) : Lst w' (fun x => lo ≤ x ∧ x < hi) sz R v l :=
  h.keep hR (ht.kp.less fun x hx => ⟨by omega, by omega⟩)
end Go.Proofs.YtofdcgojgcnopaaGreat

namespace Go.Proofs.YtofdcgojgcnopaaGreat
open Go.RowKit
set_option linter.unusedVariables false
set_option linter.unusedSimpArgs false
section
variable (F : Nat) (s : Bs) (e : Int) (w : World)
set_option maxRecDepth 100000 in
set_option maxHeartbeats 16000000 in
theorem rtRef_any (hs : s.length ≤ 100000000) (h : Rw w F s e) : Calls Tryz.prog 93 #[.pointer (some ⟨F, 0, none⟩)] w (Rds F pRf (RA RRf w.heap.size) s e w) := by
  have hF := h.lt
  have HT := hide (Rt.laid h (.cells #[.int .i64 0, .int .i64 0, .int .i64 0] 154))
  have HR := hide (Bo.new hF [.int .i64 0, .int .i64 0, .int .i64 0] 154)
  have HW := hide (h.laid (.cells #[.int .i64 0, .int .i64 0, .int .i64 0] 154))
  clear h
  go_enter Tryz.func93, Tryz.ntmps93
  have HCL := hide (rtake_any F s e (w.alloc (.cells #[.int .i64 0, .int .i64 0, .int .i64 0] 154)) (by omega) HW.out)
  go_wp2_with fail
  refine HCL.out.mono ?_
  rintro en w1 ⟨_, x1, s1, e1, rfl, ⟨rfl, hg⟩, hd, hw, ht⟩
  have HD1 := hide hd
  have hl1 : s1.length ≤ s.length := hd.1
  have HG1 := hide hg
  have hz1 : w.heap.size + 1 ≤ w1.heap.size := by have := ht.kp.1; simpa using this
  replace HT := hide (HT.out.trans ht)
  replace HR := hide (HR.out.keep ht)
  replace HW := hide hw
  clear hd hw ht HCL hg
  have HCL := hide (rtake_any F s1 e1 w1 (by omega) HW.out)
  go_wp2_with fail
  refine HCL.out.mono ?_
  rintro en w2 ⟨_, x2, s2, e2, rfl, ⟨rfl, hg⟩, hd, hw, ht⟩
  have HD2 := hide hd
  have hl2 : s2.length ≤ s1.length := hd.1
  have HG2 := hide hg
  have hz2 : w1.heap.size ≤ w2.heap.size := by have := ht.kp.1; simpa using this
  replace HT := hide (HT.out.trans ht)
  replace HR := hide (HR.out.keep ht)
  replace HW := hide hw
  clear hd hw ht HCL hg
  have HCL := hide (rtake_any F s2 e2 w2 (by omega) HW.out)
  go_wp2_with fail
  refine HCL.out.mono ?_
  rintro en w3 ⟨_, x3, s3, e3, rfl, ⟨rfl, hg⟩, hd, hw, ht⟩
  have HD3 := hide hd
  have hl3 : s3.length ≤ s2.length := hd.1
  have HG3 := hide hg
  have hz3 : w2.heap.size ≤ w3.heap.size := by have := ht.kp.1; simpa using this
  replace HT := hide (HT.out.trans ht)
  replace HR := hide (HR.out.keep ht)
  replace HW := hide hw
  clear hd hw ht HCL hg
  obtain ⟨-, bb, bf⟩ := HR.out
  have r0 := bb 0 _ rfl
  have g0 := bf 0 (by simp)
  have r1 := bb 1 _ rfl
  have g1 := bf 1 (by simp)
  have r2 := bb 2 _ rfl
  have g2 := bf 2 (by simp)
  clear bb bf
  have hrk : w.heap.size < w3.heap.size := by omega
  go_wp2
  refine bodyPost_ret (v := .agg #[.int .i64 x1, .int .i64 x2, .int .i64 x3]) (by rw [results_c rfl]; go_simp) rfl ?_
  exact ⟨_, ⟨x1, x2, x3⟩, s3, e3, rfl, ⟨_, rfl, rfl, HG1.out, HG2.out, HG3.out⟩, by unfold pRf; exact (HD1.out.bind (HD2.out.bind (HD3.out.bind (De.ret _)))), (((HW.out.far (b := w.heap.size) (by omega) 0 _).far (b := w.heap.size) (by omega) 1 _).far (b := w.heap.size) (by omega) 2 _), (((HT.out.own (b := w.heap.size) (Nat.le_refl _) hF 0 _).own (b := w.heap.size) (Nat.le_refl _) hF 1 _).own (b := w.heap.size) (Nat.le_refl _) hF 2 _)⟩
end
end Go.Proofs.YtofdcgojgcnopaaGreat

namespace Go.Proofs.YtofdcgojgcnopaaGreat
open Go.RowKit
set_option linter.unusedVariables false
set_option linter.unusedSimpArgs false
section
variable (F : Nat) (s : Bs) (e : Int) (w : World)
set_option maxRecDepth 100000 in
set_option maxHeartbeats 16000000 in
theorem rtCf_any (hs : s.length ≤ 100000000) (h : Rw w F s e) : Calls Tryz.prog 85 #[.pointer (some ⟨F, 0, none⟩)] w (Rds F pCfg (RA RCf w.heap.size) s e w) := by
  have hF := h.lt
  obtain ⟨i0Bn, hi0Bn, hz0Bn, hz1Bn, hz2Bn⟩ := info_parts info_binding
  obtain ⟨i0Sr, hi0Sr, hz0Sr, hz1Sr, hz2Sr⟩ := info_parts info_start
  have HT := hide (Rt.laid h (.cells #[.int .i64 0, .slice none 0 0, .slice none 0 0] 83))
  have HR := hide (Bo.new hF [.int .i64 0, .slice none 0 0, .slice none 0 0] 83)
  have HW := hide (h.laid (.cells #[.int .i64 0, .slice none 0 0, .slice none 0 0] 83))
  clear h
  go_enter Tryz.func85, Tryz.ntmps85
  have HCL := hide (rtake_any F s e (w.alloc (.cells #[.int .i64 0, .slice none 0 0, .slice none 0 0] 83)) (by omega) HW.out)
  go_wp2_with fail
  refine HCL.out.mono ?_
  rintro en w1 ⟨_, x1, s1, e1, rfl, ⟨rfl, hg⟩, hd, hw, ht⟩
  have HD1 := hide hd
  have hl1 : s1.length ≤ s.length := hd.1
  have HG1 := hide hg
  have hz1 : w.heap.size + 1 ≤ w1.heap.size := by have := ht.kp.1; simpa using this
  replace HT := hide (HT.out.trans ht)
  replace HR := hide (HR.out.keep ht)
  replace HW := hide hw
  clear hd hw ht HCL hg
  have hwl := HW.out.lt
  have HB := hide (Bo.new hwl [.int .i64 x1, .slice none 0 0, .slice none 0 0] 83)
  replace HT := hide (HT.out.trans (Rt.laid HW.out (.cells #[.int .i64 x1, .slice none 0 0, .slice none 0 0] 83)))
  replace HR := hide (HR.out.laid (.cells #[.int .i64 x1, .slice none 0 0, .slice none 0 0] 83))
  replace HW := hide (HW.out.laid (.cells #[.int .i64 x1, .slice none 0 0, .slice none 0 0] 83))
  have HCL := hide (rcount_any F s1 e1 (w1.alloc (.cells #[.int .i64 x1, .slice none 0 0, .slice none 0 0] 83)) (by omega) HW.out)
  go_wp2_with fail
  refine HCL.out.mono ?_
  rintro en w2 ⟨_, m2, s2, e2, rfl, ⟨rfl, hm0, hm1⟩, hd, hw, ht⟩
  have HD2 := hide hd
  have hl2 : s2.length ≤ s1.length := hd.1
  have hz2 : w1.heap.size + 1 ≤ w2.heap.size := by have := ht.kp.1; simpa using this
  replace HT := hide (HT.out.trans ht)
  replace HR := hide (HR.out.keep ht)
  replace HB := hide (HB.out.keep ht)
  replace HW := hide hw
  clear hd hw ht HCL
  have hwb : w1.heap.size < w2.heap.size := HB.out.lt
  go_wp2
  go_loopw [5] (fun i wr => ∃ j : Nat, i = .int .i64 j ∧ Hid (∃ u l s' e', Rw wr F s' e' ∧ Rt2 F w1.heap.size w2 wr ∧ Bo F wr w1.heap.size [.int .i64 x1, u, .slice none 0 0] ∧ Grw wr w2.heap.size 156 4 RBn u l ∧ De (pMany pBnd j) s2 e2 l s' e' ∧ l.length = j ∧ (j : Int) ≤ m2 ∧ s'.length ≤ s2.length)) (fun i _ => (m2 - intOf i).toNat)
  case atStart => exact ⟨0, rfl, hide ⟨_, [], s2, e2, HW.out, Rt2.refl, HB.out, Grw.nil, De.nil (Nat.le_refl _) (fun _ => rfl), rfl, by omega, Nat.le_refl _⟩⟩
  case round =>
    have HWo := HW
    have HTo := HT
    have HBo := HB
    clear HW HT HB
    obtain ⟨j, rfl, HR⟩ := hrel
    obtain ⟨u, l, s', e', hw, ht, hb, hg, hd, hj, hjn, hsl⟩ := HR.out
    obtain ⟨A, cp, rfl⟩ := hg.form
    have HW := hide hw
    have HT2 := hide ht
    have HB := hide hb
    have HG := hide hg
    have HDE := hide hd
    have HJ := hide hj
    have c1 := hw.c1
    have hwF : F < wr.heap.size := hw.lt
    have hcw : w2.heap.size ≤ wr.heap.size := ht.kp.1
    have hbl : w1.heap.size < w2.heap.size := HBo.out.lt
    have hFc : F < w2.heap.size := HWo.out.lt
    clear hw ht hg hd hj hb HR
    by_cases hlt : (j : Int) < m2
    · by_cases he : e' = 0
      · subst he
        have hlow := HG.out.low
        have HLOW := hide hlow
        have hlen : l.length < 1099511627776 := by have := HJ.out; omega
        have bq := HB.out.2.1 1 _ rfl
        have fq := HB.out.2.2 1 (by simp)
        have tok1 : True := trivial
        have tok2 : True := trivial
        clear hlow
        go_wp2_with fail
        go_region_law (first | (refine step_append_grw rd_Bn rl_Bn rfl _ _ 80 rfl w2.heap.size 156 i0Bn _ 32 Tryz.underlying80 hi0Bn hz0Bn [.int .i64 y1, .int .i64 y2.t, .int .i64 y2.s, .int .i64 y2.q] hz1Bn hz2Bn rfl (by simp) (.slice A l.length cp) _ (by rfl) (HG.out.keep rd_Bn (ht1.trans ht2) hFc) _ (by rfl) (by simp [Value.oneCell']) (⟨y1, y2.t, y2.s, y2.q⟩ : Bnd) (show RBn wa2 (wr.heap.size ≤ ·) [.int .i64 y1, .int .i64 y2.t, .int .i64 y2.s, .int .i64 y2.q] (⟨y1, y2.t, y2.s, y2.q⟩ : Bnd) from ⟨rfl, hg1, hg2⟩) hcw HLOW.out hlen (by decide) (Nat.le_trans hcw (ht1.trans ht2).kp.1) ?_; intro v2 w9 hg9 hb9 hs9; obtain ⟨A9, c9, hv9⟩ := hg9.form; simp only [List.length_append, List.length_cons, List.length_nil, Nat.zero_add] at hv9; subst hv9; have bx9 := bx2.low hb9 (by omega); have bq9 := bx9.2.1 1 _ rfl; have fq9 := bx9.2.2 1 (by simp)) | (go_simp; go_at_call 54; have _t := tok1; refine (rtake_any F s' 0 _ (by omega) HW.out.drew).mono ?_; rintro en wa1 ⟨_, y1, sa1, ea1, rfl, ⟨rfl, hg1⟩, hd1, hw1, ht1'⟩; have ht1 := ht1'.undrew; clear tok1; have bx1 := HB.out.keep ht1; have bq1 := bx1.2.1 1 _ rfl; have hbz1 := bx1.lt; have hsl1 := hd1.1) | (go_simp; go_at_call 93; have _t := tok2; refine (rtRef_any F sa1 ea1 _ (by omega) hw1).mono ?_; rintro en wa2 ⟨_, y2, sa2, ea2, rfl, ⟨_, rfl, rfl, hg2⟩, hd2, hw2, ht2'⟩; have ht2 := ht2'; clear tok2; have bx2 := bx1.keep ht2; have bq2 := bx2.2.1 1 _ rfl; have hbz2 := bx2.lt; have hsl2 := hd2.1))
        all_goals
          have HR2 : Hid (∃ u k s' e', Rw (w9.setCell ⟨w1.heap.size, 1, none⟩ (.slice A9 (l.length + 1) c9)) F s' e' ∧ Rt2 F w1.heap.size w2 (w9.setCell ⟨w1.heap.size, 1, none⟩ (.slice A9 (l.length + 1) c9)) ∧ Bo F (w9.setCell ⟨w1.heap.size, 1, none⟩ (.slice A9 (l.length + 1) c9)) w1.heap.size [.int .i64 x1, u, .slice none 0 0] ∧ Grw (w9.setCell ⟨w1.heap.size, 1, none⟩ (.slice A9 (l.length + 1) c9)) w2.heap.size 156 4 RBn u k ∧ De (pMany pBnd (j + 1)) s2 e2 k s' e' ∧ k.length = j + 1 ∧ ((j + 1 : Nat) : Int) ≤ m2 ∧ s'.length ≤ s2.length) :=
            hide ⟨_, l ++ [(⟨y1, y2.t, y2.s, y2.q⟩ : Bnd)], _, _, (hw2.low hb9 hFc).far (b := w1.heap.size) (by omega) 1 _, ((HT2.out.trans (Rt2.of (ht1.trans ht2))).below hb9 (Nat.le_of_lt hFc)).set (by omega) 1 _, bx9.set (c := 1) (by simp) _, hg9.set rd_Bn hbl 1 _, HDE.out.snoc (show De pBnd _ _ _ _ _ by rw [pBnd_eq]; exact (hd1.bind (hd2.bind (De.ret _)))), by rw [List.length_append, HJ.out]; rfl, by omega, by omega⟩
          clear bq fq hg9 hb9 hs9 bx9 bq9 fq9 HLOW
          go_wp2
          go_roundw
          case rel => exact ⟨j + 1, by go_num, HR2⟩
          case measure => simp [intOf]; omega
      · have te : (e' == 0) = false := beq_eq_false_iff_ne.2 he
        have HDL3 : Hid (De (pL pBnd) s1 e1 l s' e') := hide (HD2.out.counted HDE.out hjn (.inr he))
        have hl3 : s'.length ≤ s1.length := HDL3.out.1
        have HL3 : Hid (Lst wr (fun x => w2.heap.size ≤ x ∧ x < wr.heap.size) _ _ _ _) := hide (lst_win rd_Bn rl_Bn (sz := 4) (by decide) (Nat.le_refl _) (HG.out.lst rd_Bn (by decide) (by have := HJ.out; unfold maxLen; omega)))
        have HQ3 : Hid (l.length ≤ 4096) := hide (by have := HJ.out; omega)
        have HT := hide (HTo.out.then2 (by omega) HT2.out)
        replace HR := hide (HR.out.keep2 (by omega) HT2.out)
        have hz3 : w2.heap.size ≤ wr.heap.size := HT2.out.kp.1
        clear HWo HTo HBo HT2 HG HDE HJ hjn hsl hwF hcw hbl hFc hm0 hm1 hwb
        obtain ⟨w3, rfl⟩ : ∃ z : World, z = wr := ⟨_, rfl⟩
        obtain ⟨s3, rfl⟩ : ∃ z : Bs, z = s' := ⟨_, rfl⟩
        obtain ⟨e3, rfl⟩ : ∃ z : Int, z = e' := ⟨_, rfl⟩
        obtain ⟨x3, rfl⟩ : ∃ z, z = l := ⟨_, rfl⟩
        obtain ⟨A3, rfl⟩ : ∃ z, z = A := ⟨_, rfl⟩
        obtain ⟨c3, rfl⟩ : ∃ z, z = cp := ⟨_, rfl⟩
        have HCL := hide (rcount_any F s3 e3 w3 (by omega) HW.out)
        go_wp2_with fail
        refine HCL.out.mono ?_
        rintro en w4 ⟨_, m4, s4, e4, rfl, ⟨rfl, hm0, hm1⟩, hd, hw, ht⟩
        have HD4 := hide hd
        have hl4 : s4.length ≤ s3.length := hd.1
        have hz4 : w3.heap.size ≤ w4.heap.size := by have := ht.kp.1; simpa using this
        replace HT := hide (HT.out.trans ht)
        replace HR := hide (HR.out.keep ht)
        replace HB := hide (HB.out.keep ht)
        replace HL3 := hide (HL3.out.keep rd_Bn (ht.kp.less fun x hx => (by omega : x ≠ F)))
        replace HW := hide hw
        clear hd hw ht HCL
        have hwb : w1.heap.size < w4.heap.size := HB.out.lt
        go_wp2
        go_loopw [7] (fun i wr => ∃ j : Nat, i = .int .i64 j ∧ Hid (∃ u l s' e', Rw wr F s' e' ∧ Rt2 F w1.heap.size w4 wr ∧ Bo F wr w1.heap.size [.int .i64 x1, .slice A3 x3.length c3, u] ∧ Grw wr w4.heap.size 158 2 RSr u l ∧ De (pMany pSrt j) s4 e4 l s' e' ∧ l.length = j ∧ (j : Int) ≤ m4 ∧ s'.length ≤ s4.length)) (fun i _ => (m4 - intOf i).toNat)
        case atStart => exact ⟨0, rfl, hide ⟨_, [], s4, e4, HW.out, Rt2.refl, HB.out, Grw.nil, De.nil (Nat.le_refl _) (fun _ => rfl), rfl, by omega, Nat.le_refl _⟩⟩
        case round =>
          have HWo := HW
          have HTo := HT
          have HBo := HB
          clear HW HT HB
          obtain ⟨j, rfl, HR⟩ := hrel
          obtain ⟨u, l, s', e', hw, ht, hb, hg, hd, hj, hjn, hsl⟩ := HR.out
          obtain ⟨A, cp, rfl⟩ := hg.form
          have HW := hide hw
          have HT2 := hide ht
          have HB := hide hb
          have HG := hide hg
          have HDE := hide hd
          have HJ := hide hj
          have c1 := hw.c1
          have hwF : F < wr.heap.size := hw.lt
          have hcw : w4.heap.size ≤ wr.heap.size := ht.kp.1
          have hbl : w1.heap.size < w4.heap.size := HBo.out.lt
          have hFc : F < w4.heap.size := HWo.out.lt
          clear hw ht hg hd hj hb HR
          by_cases hlt : (j : Int) < m4
          · by_cases he : e' = 0
            · subst he
              have hlow := HG.out.low
              have HLOW := hide hlow
              have hlen : l.length < 1099511627776 := by have := HJ.out; omega
              have bq := HB.out.2.1 2 _ rfl
              have fq := HB.out.2.2 2 (by simp)
              have tok1 : True := trivial
              have tok2 : True := trivial
              clear hlow
              go_wp2_with fail
              go_region_law (first | (refine step_append_grw rd_Sr rl_Sr rfl _ _ 81 rfl w4.heap.size 158 i0Sr _ 16 Tryz.underlying81 hi0Sr hz0Sr [.int .i64 y1, .int .i64 y2] hz1Sr hz2Sr rfl (by simp) (.slice A l.length cp) _ (by rfl) (HG.out.keep rd_Sr (ht1.trans ht2) hFc) _ (by rfl) (by simp [Value.oneCell']) (⟨y1, y2⟩ : Srt) (show RSr wa2 (wr.heap.size ≤ ·) [.int .i64 y1, .int .i64 y2] (⟨y1, y2⟩ : Srt) from ⟨rfl, hg1, hg2⟩) hcw HLOW.out hlen (by decide) (Nat.le_trans hcw (ht1.trans ht2).kp.1) ?_; intro v2 w9 hg9 hb9 hs9; obtain ⟨A9, c9, hv9⟩ := hg9.form; simp only [List.length_append, List.length_cons, List.length_nil, Nat.zero_add] at hv9; subst hv9; have bx9 := bx2.low hb9 (by omega); have bq9 := bx9.2.1 2 _ rfl; have fq9 := bx9.2.2 2 (by simp)) | (go_simp; go_at_call 54; have _t := tok1; refine (rtake_any F s' 0 _ (by omega) HW.out.drew).mono ?_; rintro en wa1 ⟨_, y1, sa1, ea1, rfl, ⟨rfl, hg1⟩, hd1, hw1, ht1'⟩; have ht1 := ht1'.undrew; clear tok1; have bx1 := HB.out.keep ht1; have bq1 := bx1.2.1 2 _ rfl; have hbz1 := bx1.lt; have hsl1 := hd1.1) | (go_simp; go_at_call 54; have _t := tok2; refine (rtake_any F sa1 ea1 _ (by omega) hw1).mono ?_; rintro en wa2 ⟨_, y2, sa2, ea2, rfl, ⟨rfl, hg2⟩, hd2, hw2, ht2'⟩; have ht2 := ht2'; clear tok2; have bx2 := bx1.keep ht2; have bq2 := bx2.2.1 2 _ rfl; have hbz2 := bx2.lt; have hsl2 := hd2.1))
              all_goals
                have HR2 : Hid (∃ u k s' e', Rw (w9.setCell ⟨w1.heap.size, 2, none⟩ (.slice A9 (l.length + 1) c9)) F s' e' ∧ Rt2 F w1.heap.size w4 (w9.setCell ⟨w1.heap.size, 2, none⟩ (.slice A9 (l.length + 1) c9)) ∧ Bo F (w9.setCell ⟨w1.heap.size, 2, none⟩ (.slice A9 (l.length + 1) c9)) w1.heap.size [.int .i64 x1, .slice A3 x3.length c3, u] ∧ Grw (w9.setCell ⟨w1.heap.size, 2, none⟩ (.slice A9 (l.length + 1) c9)) w4.heap.size 158 2 RSr u k ∧ De (pMany pSrt (j + 1)) s4 e4 k s' e' ∧ k.length = j + 1 ∧ ((j + 1 : Nat) : Int) ≤ m4 ∧ s'.length ≤ s4.length) :=
                  hide ⟨_, l ++ [(⟨y1, y2⟩ : Srt)], _, _, (hw2.low hb9 hFc).far (b := w1.heap.size) (by omega) 2 _, ((HT2.out.trans (Rt2.of (ht1.trans ht2))).below hb9 (Nat.le_of_lt hFc)).set (by omega) 2 _, bx9.set (c := 2) (by simp) _, hg9.set rd_Sr hbl 2 _, HDE.out.snoc (show De pSrt _ _ _ _ _ by unfold pSrt; exact (hd1.bind (hd2.bind (De.ret _)))), by rw [List.length_append, HJ.out]; rfl, by omega, by omega⟩
                clear bq fq hg9 hb9 hs9 bx9 bq9 fq9 HLOW
                go_wp2
                go_roundw
                case rel => exact ⟨j + 1, by go_num, HR2⟩
                case measure => simp [intOf]; omega
            · have te : (e' == 0) = false := beq_eq_false_iff_ne.2 he
              have HDL5 : Hid (De (pL pSrt) s3 e3 l s' e') := hide (HD4.out.counted HDE.out hjn (.inr he))
              have hl5 : s'.length ≤ s3.length := HDL5.out.1
              have HL5 : Hid (Lst wr (fun x => w4.heap.size ≤ x ∧ x < wr.heap.size) _ _ _ _) := hide (lst_win rd_Sr rl_Sr (sz := 2) (by decide) (Nat.le_refl _) (HG.out.lst rd_Sr (by decide) (by have := HJ.out; unfold maxLen; omega)))
              have HQ5 : Hid (l.length ≤ 4096) := hide (by have := HJ.out; omega)
              have HT := hide (HTo.out.then2 (by omega) HT2.out)
              replace HR := hide (HR.out.keep2 (by omega) HT2.out)
              have hz5 : w4.heap.size ≤ wr.heap.size := HT2.out.kp.1
              replace HL3 := hide (lst_keep2 rd_Bn HL3.out HT2.out (by omega) (by omega))
              clear HWo HTo HBo HT2 HG HDE HJ hjn hsl hwF hcw hbl hFc hm0 hm1 hwb
              obtain ⟨w5, rfl⟩ : ∃ z : World, z = wr := ⟨_, rfl⟩
              obtain ⟨s5, rfl⟩ : ∃ z : Bs, z = s' := ⟨_, rfl⟩
              obtain ⟨e5, rfl⟩ : ∃ z : Int, z = e' := ⟨_, rfl⟩
              obtain ⟨x5, rfl⟩ : ∃ z, z = l := ⟨_, rfl⟩
              obtain ⟨A5, rfl⟩ : ∃ z, z = A := ⟨_, rfl⟩
              obtain ⟨c5, rfl⟩ : ∃ z, z = cp := ⟨_, rfl⟩
              obtain ⟨-, bb, bf⟩ := HB.out
              have b0 := bb 0 _ rfl
              have b1 := bb 1 _ rfl
              have b2 := bb 2 _ rfl
              obtain ⟨-, rr, rf⟩ := HR.out
              have r0 := rr 0 _ rfl
              have g0 := rf 0 (by simp)
              have r1 := rr 1 _ rfl
              have g1 := rf 1 (by simp)
              have r2 := rr 2 _ rfl
              have g2 := rf 2 (by simp)
              clear bb bf rr rf
              have hrk : w.heap.size < w5.heap.size := by omega
              have hbk : w1.heap.size < w5.heap.size := by omega
              go_wp2
              refine bodyPost_ret (v := .agg #[.int .i64 x1, .slice A3 x3.length c3, .slice A5 x5.length c5]) (by rw [results_c rfl]; go_simp) rfl ?_
              exact ⟨_, ⟨x1, x3, x5⟩, s5, e5, rfl, ⟨_, rfl, ⟨_, _, rfl, (lst_out rd_Bn HL3.out (by exact (((Kp.set ⟨w.heap.size, 0, none⟩ _ (fun (x : Nat) (hx : w2.heap.size ≤ x ∧ x < w3.heap.size) => (by omega : x ≠ w.heap.size))).trans (Kp.set ⟨w.heap.size, 1, none⟩ _ (fun (x : Nat) (hx : w2.heap.size ≤ x ∧ x < w3.heap.size) => (by omega : x ≠ w.heap.size)))).trans (Kp.set ⟨w.heap.size, 2, none⟩ _ (fun (x : Nat) (hx : w2.heap.size ≤ x ∧ x < w3.heap.size) => (by omega : x ≠ w.heap.size))))) (by omega)), (lst_out rd_Sr HL5.out (by exact (((Kp.set ⟨w.heap.size, 0, none⟩ _ (fun (x : Nat) (hx : w4.heap.size ≤ x ∧ x < w5.heap.size) => (by omega : x ≠ w.heap.size))).trans (Kp.set ⟨w.heap.size, 1, none⟩ _ (fun (x : Nat) (hx : w4.heap.size ≤ x ∧ x < w5.heap.size) => (by omega : x ≠ w.heap.size)))).trans (Kp.set ⟨w.heap.size, 2, none⟩ _ (fun (x : Nat) (hx : w4.heap.size ≤ x ∧ x < w5.heap.size) => (by omega : x ≠ w.heap.size))))) (by omega)), HG1.out⟩⟩, by unfold pCfg; exact (HD1.out.bind (HDL3.out.bind (HDL5.out.bind (De.ret _)))), (((HW.out.far (b := w.heap.size) (by omega) 0 _).far (b := w.heap.size) (by omega) 1 _).far (b := w.heap.size) (by omega) 2 _), (((HT.out.own (b := w.heap.size) (Nat.le_refl _) hF 0 _).own (b := w.heap.size) (Nat.le_refl _) hF 1 _).own (b := w.heap.size) (Nat.le_refl _) hF 2 _)⟩
          · skip
            have HDL5 : Hid (De (pL pSrt) s3 e3 l s' e') := hide (HD4.out.counted HDE.out hjn (.inl (by omega)))
            have hl5 : s'.length ≤ s3.length := HDL5.out.1
            have HL5 : Hid (Lst wr (fun x => w4.heap.size ≤ x ∧ x < wr.heap.size) _ _ _ _) := hide (lst_win rd_Sr rl_Sr (sz := 2) (by decide) (Nat.le_refl _) (HG.out.lst rd_Sr (by decide) (by have := HJ.out; unfold maxLen; omega)))
            have HQ5 : Hid (l.length ≤ 4096) := hide (by have := HJ.out; omega)
            have HT := hide (HTo.out.then2 (by omega) HT2.out)
            replace HR := hide (HR.out.keep2 (by omega) HT2.out)
            have hz5 : w4.heap.size ≤ wr.heap.size := HT2.out.kp.1
            replace HL3 := hide (lst_keep2 rd_Bn HL3.out HT2.out (by omega) (by omega))
            clear HWo HTo HBo HT2 HG HDE HJ hjn hsl hwF hcw hbl hFc hm0 hm1 hwb
            obtain ⟨w5, rfl⟩ : ∃ z : World, z = wr := ⟨_, rfl⟩
            obtain ⟨s5, rfl⟩ : ∃ z : Bs, z = s' := ⟨_, rfl⟩
            obtain ⟨e5, rfl⟩ : ∃ z : Int, z = e' := ⟨_, rfl⟩
            obtain ⟨x5, rfl⟩ : ∃ z, z = l := ⟨_, rfl⟩
            obtain ⟨A5, rfl⟩ : ∃ z, z = A := ⟨_, rfl⟩
            obtain ⟨c5, rfl⟩ : ∃ z, z = cp := ⟨_, rfl⟩
            obtain ⟨-, bb, bf⟩ := HB.out
            have b0 := bb 0 _ rfl
            have b1 := bb 1 _ rfl
            have b2 := bb 2 _ rfl
            obtain ⟨-, rr, rf⟩ := HR.out
            have r0 := rr 0 _ rfl
            have g0 := rf 0 (by simp)
            have r1 := rr 1 _ rfl
            have g1 := rf 1 (by simp)
            have r2 := rr 2 _ rfl
            have g2 := rf 2 (by simp)
            clear bb bf rr rf
            have hrk : w.heap.size < w5.heap.size := by omega
            have hbk : w1.heap.size < w5.heap.size := by omega
            go_wp2
            refine bodyPost_ret (v := .agg #[.int .i64 x1, .slice A3 x3.length c3, .slice A5 x5.length c5]) (by rw [results_c rfl]; go_simp) rfl ?_
            exact ⟨_, ⟨x1, x3, x5⟩, s5, e5, rfl, ⟨_, rfl, ⟨_, _, rfl, (lst_out rd_Bn HL3.out (by exact (((Kp.set ⟨w.heap.size, 0, none⟩ _ (fun (x : Nat) (hx : w2.heap.size ≤ x ∧ x < w3.heap.size) => (by omega : x ≠ w.heap.size))).trans (Kp.set ⟨w.heap.size, 1, none⟩ _ (fun (x : Nat) (hx : w2.heap.size ≤ x ∧ x < w3.heap.size) => (by omega : x ≠ w.heap.size)))).trans (Kp.set ⟨w.heap.size, 2, none⟩ _ (fun (x : Nat) (hx : w2.heap.size ≤ x ∧ x < w3.heap.size) => (by omega : x ≠ w.heap.size))))) (by omega)), (lst_out rd_Sr HL5.out (by exact (((Kp.set ⟨w.heap.size, 0, none⟩ _ (fun (x : Nat) (hx : w4.heap.size ≤ x ∧ x < w5.heap.size) => (by omega : x ≠ w.heap.size))).trans (Kp.set ⟨w.heap.size, 1, none⟩ _ (fun (x : Nat) (hx : w4.heap.size ≤ x ∧ x < w5.heap.size) => (by omega : x ≠ w.heap.size)))).trans (Kp.set ⟨w.heap.size, 2, none⟩ _ (fun (x : Nat) (hx : w4.heap.size ≤ x ∧ x < w5.heap.size) => (by omega : x ≠ w.heap.size))))) (by omega)), HG1.out⟩⟩, by unfold pCfg; exact (HD1.out.bind (HDL3.out.bind (HDL5.out.bind (De.ret _)))), (((HW.out.far (b := w.heap.size) (by omega) 0 _).far (b := w.heap.size) (by omega) 1 _).far (b := w.heap.size) (by omega) 2 _), (((HT.out.own (b := w.heap.size) (Nat.le_refl _) hF 0 _).own (b := w.heap.size) (Nat.le_refl _) hF 1 _).own (b := w.heap.size) (Nat.le_refl _) hF 2 _)⟩
    · skip
      have HDL3 : Hid (De (pL pBnd) s1 e1 l s' e') := hide (HD2.out.counted HDE.out hjn (.inl (by omega)))
      have hl3 : s'.length ≤ s1.length := HDL3.out.1
      have HL3 : Hid (Lst wr (fun x => w2.heap.size ≤ x ∧ x < wr.heap.size) _ _ _ _) := hide (lst_win rd_Bn rl_Bn (sz := 4) (by decide) (Nat.le_refl _) (HG.out.lst rd_Bn (by decide) (by have := HJ.out; unfold maxLen; omega)))
      have HQ3 : Hid (l.length ≤ 4096) := hide (by have := HJ.out; omega)
      have HT := hide (HTo.out.then2 (by omega) HT2.out)
      replace HR := hide (HR.out.keep2 (by omega) HT2.out)
      have hz3 : w2.heap.size ≤ wr.heap.size := HT2.out.kp.1
      clear HWo HTo HBo HT2 HG HDE HJ hjn hsl hwF hcw hbl hFc hm0 hm1 hwb
      obtain ⟨w3, rfl⟩ : ∃ z : World, z = wr := ⟨_, rfl⟩
      obtain ⟨s3, rfl⟩ : ∃ z : Bs, z = s' := ⟨_, rfl⟩
      obtain ⟨e3, rfl⟩ : ∃ z : Int, z = e' := ⟨_, rfl⟩
      obtain ⟨x3, rfl⟩ : ∃ z, z = l := ⟨_, rfl⟩
      obtain ⟨A3, rfl⟩ : ∃ z, z = A := ⟨_, rfl⟩
      obtain ⟨c3, rfl⟩ : ∃ z, z = cp := ⟨_, rfl⟩
      have HCL := hide (rcount_any F s3 e3 w3 (by omega) HW.out)
      go_wp2_with fail
      refine HCL.out.mono ?_
      rintro en w4 ⟨_, m4, s4, e4, rfl, ⟨rfl, hm0, hm1⟩, hd, hw, ht⟩
      have HD4 := hide hd
      have hl4 : s4.length ≤ s3.length := hd.1
      have hz4 : w3.heap.size ≤ w4.heap.size := by have := ht.kp.1; simpa using this
      replace HT := hide (HT.out.trans ht)
      replace HR := hide (HR.out.keep ht)
      replace HB := hide (HB.out.keep ht)
      replace HL3 := hide (HL3.out.keep rd_Bn (ht.kp.less fun x hx => (by omega : x ≠ F)))
      replace HW := hide hw
      clear hd hw ht HCL
      have hwb : w1.heap.size < w4.heap.size := HB.out.lt
      go_wp2
      go_loopw [7] (fun i wr => ∃ j : Nat, i = .int .i64 j ∧ Hid (∃ u l s' e', Rw wr F s' e' ∧ Rt2 F w1.heap.size w4 wr ∧ Bo F wr w1.heap.size [.int .i64 x1, .slice A3 x3.length c3, u] ∧ Grw wr w4.heap.size 158 2 RSr u l ∧ De (pMany pSrt j) s4 e4 l s' e' ∧ l.length = j ∧ (j : Int) ≤ m4 ∧ s'.length ≤ s4.length)) (fun i _ => (m4 - intOf i).toNat)
      case atStart => exact ⟨0, rfl, hide ⟨_, [], s4, e4, HW.out, Rt2.refl, HB.out, Grw.nil, De.nil (Nat.le_refl _) (fun _ => rfl), rfl, by omega, Nat.le_refl _⟩⟩
      case round =>
        have HWo := HW
        have HTo := HT
        have HBo := HB
        clear HW HT HB
        obtain ⟨j, rfl, HR⟩ := hrel
        obtain ⟨u, l, s', e', hw, ht, hb, hg, hd, hj, hjn, hsl⟩ := HR.out
        obtain ⟨A, cp, rfl⟩ := hg.form
        have HW := hide hw
        have HT2 := hide ht
        have HB := hide hb
        have HG := hide hg
        have HDE := hide hd
        have HJ := hide hj
        have c1 := hw.c1
        have hwF : F < wr.heap.size := hw.lt
        have hcw : w4.heap.size ≤ wr.heap.size := ht.kp.1
        have hbl : w1.heap.size < w4.heap.size := HBo.out.lt
        have hFc : F < w4.heap.size := HWo.out.lt
        clear hw ht hg hd hj hb HR
        by_cases hlt : (j : Int) < m4
        · by_cases he : e' = 0
          · subst he
            have hlow := HG.out.low
            have HLOW := hide hlow
            have hlen : l.length < 1099511627776 := by have := HJ.out; omega
            have bq := HB.out.2.1 2 _ rfl
            have fq := HB.out.2.2 2 (by simp)
            have tok1 : True := trivial
            have tok2 : True := trivial
            clear hlow
            go_wp2_with fail
            go_region_law (first | (refine step_append_grw rd_Sr rl_Sr rfl _ _ 81 rfl w4.heap.size 158 i0Sr _ 16 Tryz.underlying81 hi0Sr hz0Sr [.int .i64 y1, .int .i64 y2] hz1Sr hz2Sr rfl (by simp) (.slice A l.length cp) _ (by rfl) (HG.out.keep rd_Sr (ht1.trans ht2) hFc) _ (by rfl) (by simp [Value.oneCell']) (⟨y1, y2⟩ : Srt) (show RSr wa2 (wr.heap.size ≤ ·) [.int .i64 y1, .int .i64 y2] (⟨y1, y2⟩ : Srt) from ⟨rfl, hg1, hg2⟩) hcw HLOW.out hlen (by decide) (Nat.le_trans hcw (ht1.trans ht2).kp.1) ?_; intro v2 w9 hg9 hb9 hs9; obtain ⟨A9, c9, hv9⟩ := hg9.form; simp only [List.length_append, List.length_cons, List.length_nil, Nat.zero_add] at hv9; subst hv9; have bx9 := bx2.low hb9 (by omega); have bq9 := bx9.2.1 2 _ rfl; have fq9 := bx9.2.2 2 (by simp)) | (go_simp; go_at_call 54; have _t := tok1; refine (rtake_any F s' 0 _ (by omega) HW.out.drew).mono ?_; rintro en wa1 ⟨_, y1, sa1, ea1, rfl, ⟨rfl, hg1⟩, hd1, hw1, ht1'⟩; have ht1 := ht1'.undrew; clear tok1; have bx1 := HB.out.keep ht1; have bq1 := bx1.2.1 2 _ rfl; have hbz1 := bx1.lt; have hsl1 := hd1.1) | (go_simp; go_at_call 54; have _t := tok2; refine (rtake_any F sa1 ea1 _ (by omega) hw1).mono ?_; rintro en wa2 ⟨_, y2, sa2, ea2, rfl, ⟨rfl, hg2⟩, hd2, hw2, ht2'⟩; have ht2 := ht2'; clear tok2; have bx2 := bx1.keep ht2; have bq2 := bx2.2.1 2 _ rfl; have hbz2 := bx2.lt; have hsl2 := hd2.1))
            all_goals
              have HR2 : Hid (∃ u k s' e', Rw (w9.setCell ⟨w1.heap.size, 2, none⟩ (.slice A9 (l.length + 1) c9)) F s' e' ∧ Rt2 F w1.heap.size w4 (w9.setCell ⟨w1.heap.size, 2, none⟩ (.slice A9 (l.length + 1) c9)) ∧ Bo F (w9.setCell ⟨w1.heap.size, 2, none⟩ (.slice A9 (l.length + 1) c9)) w1.heap.size [.int .i64 x1, .slice A3 x3.length c3, u] ∧ Grw (w9.setCell ⟨w1.heap.size, 2, none⟩ (.slice A9 (l.length + 1) c9)) w4.heap.size 158 2 RSr u k ∧ De (pMany pSrt (j + 1)) s4 e4 k s' e' ∧ k.length = j + 1 ∧ ((j + 1 : Nat) : Int) ≤ m4 ∧ s'.length ≤ s4.length) :=
                hide ⟨_, l ++ [(⟨y1, y2⟩ : Srt)], _, _, (hw2.low hb9 hFc).far (b := w1.heap.size) (by omega) 2 _, ((HT2.out.trans (Rt2.of (ht1.trans ht2))).below hb9 (Nat.le_of_lt hFc)).set (by omega) 2 _, bx9.set (c := 2) (by simp) _, hg9.set rd_Sr hbl 2 _, HDE.out.snoc (show De pSrt _ _ _ _ _ by unfold pSrt; exact (hd1.bind (hd2.bind (De.ret _)))), by rw [List.length_append, HJ.out]; rfl, by omega, by omega⟩
              clear bq fq hg9 hb9 hs9 bx9 bq9 fq9 HLOW
              go_wp2
              go_roundw
              case rel => exact ⟨j + 1, by go_num, HR2⟩
              case measure => simp [intOf]; omega
          · have te : (e' == 0) = false := beq_eq_false_iff_ne.2 he
            have HDL5 : Hid (De (pL pSrt) s3 e3 l s' e') := hide (HD4.out.counted HDE.out hjn (.inr he))
            have hl5 : s'.length ≤ s3.length := HDL5.out.1
            have HL5 : Hid (Lst wr (fun x => w4.heap.size ≤ x ∧ x < wr.heap.size) _ _ _ _) := hide (lst_win rd_Sr rl_Sr (sz := 2) (by decide) (Nat.le_refl _) (HG.out.lst rd_Sr (by decide) (by have := HJ.out; unfold maxLen; omega)))
            have HQ5 : Hid (l.length ≤ 4096) := hide (by have := HJ.out; omega)
            have HT := hide (HTo.out.then2 (by omega) HT2.out)
            replace HR := hide (HR.out.keep2 (by omega) HT2.out)
            have hz5 : w4.heap.size ≤ wr.heap.size := HT2.out.kp.1
            replace HL3 := hide (lst_keep2 rd_Bn HL3.out HT2.out (by omega) (by omega))
            clear HWo HTo HBo HT2 HG HDE HJ hjn hsl hwF hcw hbl hFc hm0 hm1 hwb
            obtain ⟨w5, rfl⟩ : ∃ z : World, z = wr := ⟨_, rfl⟩
            obtain ⟨s5, rfl⟩ : ∃ z : Bs, z = s' := ⟨_, rfl⟩
            obtain ⟨e5, rfl⟩ : ∃ z : Int, z = e' := ⟨_, rfl⟩
            obtain ⟨x5, rfl⟩ : ∃ z, z = l := ⟨_, rfl⟩
            obtain ⟨A5, rfl⟩ : ∃ z, z = A := ⟨_, rfl⟩
            obtain ⟨c5, rfl⟩ : ∃ z, z = cp := ⟨_, rfl⟩
            obtain ⟨-, bb, bf⟩ := HB.out
            have b0 := bb 0 _ rfl
            have b1 := bb 1 _ rfl
            have b2 := bb 2 _ rfl
            obtain ⟨-, rr, rf⟩ := HR.out
            have r0 := rr 0 _ rfl
            have g0 := rf 0 (by simp)
            have r1 := rr 1 _ rfl
            have g1 := rf 1 (by simp)
            have r2 := rr 2 _ rfl
            have g2 := rf 2 (by simp)
            clear bb bf rr rf
            have hrk : w.heap.size < w5.heap.size := by omega
            have hbk : w1.heap.size < w5.heap.size := by omega
            go_wp2
            refine bodyPost_ret (v := .agg #[.int .i64 x1, .slice A3 x3.length c3, .slice A5 x5.length c5]) (by rw [results_c rfl]; go_simp) rfl ?_
            exact ⟨_, ⟨x1, x3, x5⟩, s5, e5, rfl, ⟨_, rfl, ⟨_, _, rfl, (lst_out rd_Bn HL3.out (by exact (((Kp.set ⟨w.heap.size, 0, none⟩ _ (fun (x : Nat) (hx : w2.heap.size ≤ x ∧ x < w3.heap.size) => (by omega : x ≠ w.heap.size))).trans (Kp.set ⟨w.heap.size, 1, none⟩ _ (fun (x : Nat) (hx : w2.heap.size ≤ x ∧ x < w3.heap.size) => (by omega : x ≠ w.heap.size)))).trans (Kp.set ⟨w.heap.size, 2, none⟩ _ (fun (x : Nat) (hx : w2.heap.size ≤ x ∧ x < w3.heap.size) => (by omega : x ≠ w.heap.size))))) (by omega)), (lst_out rd_Sr HL5.out (by exact (((Kp.set ⟨w.heap.size, 0, none⟩ _ (fun (x : Nat) (hx : w4.heap.size ≤ x ∧ x < w5.heap.size) => (by omega : x ≠ w.heap.size))).trans (Kp.set ⟨w.heap.size, 1, none⟩ _ (fun (x : Nat) (hx : w4.heap.size ≤ x ∧ x < w5.heap.size) => (by omega : x ≠ w.heap.size)))).trans (Kp.set ⟨w.heap.size, 2, none⟩ _ (fun (x : Nat) (hx : w4.heap.size ≤ x ∧ x < w5.heap.size) => (by omega : x ≠ w.heap.size))))) (by omega)), HG1.out⟩⟩, by unfold pCfg; exact (HD1.out.bind (HDL3.out.bind (HDL5.out.bind (De.ret _)))), (((HW.out.far (b := w.heap.size) (by omega) 0 _).far (b := w.heap.size) (by omega) 1 _).far (b := w.heap.size) (by omega) 2 _), (((HT.out.own (b := w.heap.size) (Nat.le_refl _) hF 0 _).own (b := w.heap.size) (Nat.le_refl _) hF 1 _).own (b := w.heap.size) (Nat.le_refl _) hF 2 _)⟩
        · skip
          have HDL5 : Hid (De (pL pSrt) s3 e3 l s' e') := hide (HD4.out.counted HDE.out hjn (.inl (by omega)))
          have hl5 : s'.length ≤ s3.length := HDL5.out.1
          have HL5 : Hid (Lst wr (fun x => w4.heap.size ≤ x ∧ x < wr.heap.size) _ _ _ _) := hide (lst_win rd_Sr rl_Sr (sz := 2) (by decide) (Nat.le_refl _) (HG.out.lst rd_Sr (by decide) (by have := HJ.out; unfold maxLen; omega)))
          have HQ5 : Hid (l.length ≤ 4096) := hide (by have := HJ.out; omega)
          have HT := hide (HTo.out.then2 (by omega) HT2.out)
          replace HR := hide (HR.out.keep2 (by omega) HT2.out)
          have hz5 : w4.heap.size ≤ wr.heap.size := HT2.out.kp.1
          replace HL3 := hide (lst_keep2 rd_Bn HL3.out HT2.out (by omega) (by omega))
          clear HWo HTo HBo HT2 HG HDE HJ hjn hsl hwF hcw hbl hFc hm0 hm1 hwb
          obtain ⟨w5, rfl⟩ : ∃ z : World, z = wr := ⟨_, rfl⟩
          obtain ⟨s5, rfl⟩ : ∃ z : Bs, z = s' := ⟨_, rfl⟩
          obtain ⟨e5, rfl⟩ : ∃ z : Int, z = e' := ⟨_, rfl⟩
          obtain ⟨x5, rfl⟩ : ∃ z, z = l := ⟨_, rfl⟩
          obtain ⟨A5, rfl⟩ : ∃ z, z = A := ⟨_, rfl⟩
          obtain ⟨c5, rfl⟩ : ∃ z, z = cp := ⟨_, rfl⟩
          obtain ⟨-, bb, bf⟩ := HB.out
          have b0 := bb 0 _ rfl
          have b1 := bb 1 _ rfl
          have b2 := bb 2 _ rfl
          obtain ⟨-, rr, rf⟩ := HR.out
          have r0 := rr 0 _ rfl
          have g0 := rf 0 (by simp)
          have r1 := rr 1 _ rfl
          have g1 := rf 1 (by simp)
          have r2 := rr 2 _ rfl
          have g2 := rf 2 (by simp)
          clear bb bf rr rf
          have hrk : w.heap.size < w5.heap.size := by omega
          have hbk : w1.heap.size < w5.heap.size := by omega
          go_wp2
          refine bodyPost_ret (v := .agg #[.int .i64 x1, .slice A3 x3.length c3, .slice A5 x5.length c5]) (by rw [results_c rfl]; go_simp) rfl ?_
          exact ⟨_, ⟨x1, x3, x5⟩, s5, e5, rfl, ⟨_, rfl, ⟨_, _, rfl, (lst_out rd_Bn HL3.out (by exact (((Kp.set ⟨w.heap.size, 0, none⟩ _ (fun (x : Nat) (hx : w2.heap.size ≤ x ∧ x < w3.heap.size) => (by omega : x ≠ w.heap.size))).trans (Kp.set ⟨w.heap.size, 1, none⟩ _ (fun (x : Nat) (hx : w2.heap.size ≤ x ∧ x < w3.heap.size) => (by omega : x ≠ w.heap.size)))).trans (Kp.set ⟨w.heap.size, 2, none⟩ _ (fun (x : Nat) (hx : w2.heap.size ≤ x ∧ x < w3.heap.size) => (by omega : x ≠ w.heap.size))))) (by omega)), (lst_out rd_Sr HL5.out (by exact (((Kp.set ⟨w.heap.size, 0, none⟩ _ (fun (x : Nat) (hx : w4.heap.size ≤ x ∧ x < w5.heap.size) => (by omega : x ≠ w.heap.size))).trans (Kp.set ⟨w.heap.size, 1, none⟩ _ (fun (x : Nat) (hx : w4.heap.size ≤ x ∧ x < w5.heap.size) => (by omega : x ≠ w.heap.size)))).trans (Kp.set ⟨w.heap.size, 2, none⟩ _ (fun (x : Nat) (hx : w4.heap.size ≤ x ∧ x < w5.heap.size) => (by omega : x ≠ w.heap.size))))) (by omega)), HG1.out⟩⟩, by unfold pCfg; exact (HD1.out.bind (HDL3.out.bind (HDL5.out.bind (De.ret _)))), (((HW.out.far (b := w.heap.size) (by omega) 0 _).far (b := w.heap.size) (by omega) 1 _).far (b := w.heap.size) (by omega) 2 _), (((HT.out.own (b := w.heap.size) (Nat.le_refl _) hF 0 _).own (b := w.heap.size) (Nat.le_refl _) hF 1 _).own (b := w.heap.size) (Nat.le_refl _) hF 2 _)⟩
end
end Go.Proofs.YtofdcgojgcnopaaGreat

namespace Go.Proofs.YtofdcgojgcnopaaGreat
open Go.RowKit
set_option linter.unusedVariables false
set_option linter.unusedSimpArgs false
section
variable (F : Nat) (s : Bs) (e : Int) (w : World)
set_option maxRecDepth 100000 in
set_option maxHeartbeats 16000000 in
theorem rtEn_any (hs : s.length ≤ 100000000) (h : Rw w F s e) : Calls Tryz.prog 59 #[.pointer (some ⟨F, 0, none⟩)] w (Rds F pEng (RA REn w.heap.size) s e w) := by
  have hF := h.lt
  obtain ⟨i0Cf, hi0Cf, hz0Cf, hz1Cf, hz2Cf⟩ := info_parts info_config
  have HT := hide (Rt.laid h (.cells #[.int .i64 0, .slice none 0 0, .slice none 0 0, .slice none 0 0] 53))
  have HR := hide (Bo.new hF [.int .i64 0, .slice none 0 0, .slice none 0 0, .slice none 0 0] 53)
  have HW := hide (h.laid (.cells #[.int .i64 0, .slice none 0 0, .slice none 0 0, .slice none 0 0] 53))
  clear h
  go_enter Tryz.func59, Tryz.ntmps59
  have HCL := hide (rtake_any F s e (w.alloc (.cells #[.int .i64 0, .slice none 0 0, .slice none 0 0, .slice none 0 0] 53)) (by omega) HW.out)
  go_wp2_with fail
  refine HCL.out.mono ?_
  rintro en w1 ⟨_, x1, s1, e1, rfl, ⟨rfl, hg⟩, hd, hw, ht⟩
  have HD1 := hide hd
  have hl1 : s1.length ≤ s.length := hd.1
  have HG1 := hide hg
  have hz1 : w.heap.size + 1 ≤ w1.heap.size := by have := ht.kp.1; simpa using this
  replace HT := hide (HT.out.trans ht)
  replace HR := hide (HR.out.keep ht)
  replace HW := hide hw
  clear hd hw ht HCL hg
  have HCL := hide (rtE_any F s1 e1 w1 (by omega) HW.out)
  go_wp2_with fail
  refine HCL.out.mono ?_
  rintro en w2 ⟨_, x2, s2, e2, rfl, ⟨hlst, hlq⟩, hd, hw, ht⟩
  have HD2 := hide hd
  have hl2 : s2.length ≤ s1.length := hd.1
  obtain ⟨A2, c2, rfl⟩ := hlst.form
  have HQ2 := hide hlq
  have hz2 : w1.heap.size ≤ w2.heap.size := by have := ht.kp.1; simpa using this
  replace HT := hide (HT.out.trans ht)
  replace HR := hide (HR.out.keep ht)
  have HL2 : Hid (Lst w2 (fun x => w1.heap.size ≤ x ∧ x < w2.heap.size) _ _ _ _) := hide (lst_win rd_Ev0 rl_Ev0 (sz := 5) (by decide) (by first | exact Nat.le_refl _ | simp) hlst)
  replace HW := hide hw
  clear hd hw ht HCL hlst hlq
  have hwl := HW.out.lt
  have HB := hide (Bo.new hwl [.int .i64 x1, .slice A2 x2.length c2, .slice none 0 0, .slice none 0 0] 53)
  replace HT := hide (HT.out.trans (Rt.laid HW.out (.cells #[.int .i64 x1, .slice A2 x2.length c2, .slice none 0 0, .slice none 0 0] 53)))
  replace HR := hide (HR.out.laid (.cells #[.int .i64 x1, .slice A2 x2.length c2, .slice none 0 0, .slice none 0 0] 53))
  replace HL2 := hide (HL2.out.keep rd_Ev0 (Kp.alloc (.cells #[.int .i64 x1, .slice A2 x2.length c2, .slice none 0 0, .slice none 0 0] 53)))
  replace HW := hide (HW.out.laid (.cells #[.int .i64 x1, .slice A2 x2.length c2, .slice none 0 0, .slice none 0 0] 53))
  have HCL := hide (rcount_any F s2 e2 (w2.alloc (.cells #[.int .i64 x1, .slice A2 x2.length c2, .slice none 0 0, .slice none 0 0] 53)) (by omega) HW.out)
  go_wp2_with fail
  refine HCL.out.mono ?_
  rintro en w3 ⟨_, m3, s3, e3, rfl, ⟨rfl, hm0, hm1⟩, hd, hw, ht⟩
  have HD3 := hide hd
  have hl3 : s3.length ≤ s2.length := hd.1
  have hz3 : w2.heap.size + 1 ≤ w3.heap.size := by have := ht.kp.1; simpa using this
  replace HT := hide (HT.out.trans ht)
  replace HR := hide (HR.out.keep ht)
  replace HB := hide (HB.out.keep ht)
  replace HL2 := hide (HL2.out.keep rd_Ev0 (ht.kp.less fun x hx => (by omega : x ≠ F)))
  replace HW := hide hw
  clear hd hw ht HCL
  have hwb : w2.heap.size < w3.heap.size := HB.out.lt
  go_wp2
  go_loopw [5] (fun i wr => ∃ j : Nat, i = .int .i64 j ∧ Hid (∃ u l s' e', Rw wr F s' e' ∧ Rt2 F w2.heap.size w3 wr ∧ Bo F wr w2.heap.size [.int .i64 x1, .slice A2 x2.length c2, u, .slice none 0 0] ∧ Grw wr w3.heap.size 83 3 RCf u l ∧ De (pMany pCfg j) s3 e3 l s' e' ∧ l.length = j ∧ (j : Int) ≤ m3 ∧ s'.length ≤ s3.length)) (fun i _ => (m3 - intOf i).toNat)
  case atStart => exact ⟨0, rfl, hide ⟨_, [], s3, e3, HW.out, Rt2.refl, HB.out, Grw.nil, De.nil (Nat.le_refl _) (fun _ => rfl), rfl, by omega, Nat.le_refl _⟩⟩
  case round =>
    have HWo := HW
    have HTo := HT
    have HBo := HB
    clear HW HT HB
    obtain ⟨j, rfl, HR⟩ := hrel
    obtain ⟨u, l, s', e', hw, ht, hb, hg, hd, hj, hjn, hsl⟩ := HR.out
    obtain ⟨A, cp, rfl⟩ := hg.form
    have HW := hide hw
    have HT2 := hide ht
    have HB := hide hb
    have HG := hide hg
    have HDE := hide hd
    have HJ := hide hj
    have c1 := hw.c1
    have hwF : F < wr.heap.size := hw.lt
    have hcw : w3.heap.size ≤ wr.heap.size := ht.kp.1
    have hbl : w2.heap.size < w3.heap.size := HBo.out.lt
    have hFc : F < w3.heap.size := HWo.out.lt
    clear hw ht hg hd hj hb HR
    by_cases hlt : (j : Int) < m3
    · by_cases he : e' = 0
      · subst he
        have hlow := HG.out.low
        have HLOW := hide hlow
        have hlen : l.length < 1099511627776 := by have := HJ.out; omega
        have bq := HB.out.2.1 2 _ rfl
        have fq := HB.out.2.2 2 (by simp)
        have tok1 : True := trivial
        clear hlow
        go_wp2_with fail
        go_region_law (first | (refine step_append_grw rd_Cf rl_Cf rfl _ _ 51 rfl w3.heap.size 83 i0Cf _ 56 Tryz.underlying51 hi0Cf hz0Cf [.int .i64 y1.st, .slice Aa1 y1.bs.length ca1, .slice Ab1 y1.ss.length cb1] hz1Cf hz2Cf rfl (by simp) (.slice A l.length cp) _ (by rfl) (HG.out.keep rd_Cf ht1 hFc) _ (by rfl) (by simp [Value.oneCell']) y1 (show RCf wa1 (wr.heap.size ≤ ·) [.int .i64 y1.st, .slice Aa1 y1.bs.length ca1, .slice Ab1 y1.ss.length cb1] y1 from ⟨_, _, rfl, hla1, hlb1, hg1⟩) hcw HLOW.out hlen (by decide) (Nat.le_trans hcw ht1.kp.1) ?_; intro v2 w9 hg9 hb9 hs9; obtain ⟨A9, c9, hv9⟩ := hg9.form; simp only [List.length_append, List.length_cons, List.length_nil, Nat.zero_add] at hv9; subst hv9; have bx9 := bx1.low hb9 (by omega); have bq9 := bx9.2.1 2 _ rfl; have fq9 := bx9.2.2 2 (by simp)) | (go_simp; go_at_call 85; have _t := tok1; refine (rtCf_any F s' 0 _ (by omega) HW.out.drew).mono ?_; rintro en wa1 ⟨_, y1, sa1, ea1, rfl, ⟨_, rfl, va1, vb1, rfl, hla1, hlb1, hg1⟩, hd1, hw1, ht1'⟩; have ht1 := ht1'.undrew; obtain ⟨Aa1, ca1, rfl⟩ := hla1.form; obtain ⟨Ab1, cb1, rfl⟩ := hlb1.form; clear tok1; have bx1 := HB.out.keep ht1; have bq1 := bx1.2.1 2 _ rfl; have hbz1 := bx1.lt; have hsl1 := hd1.1))
        all_goals
          have HR2 : Hid (∃ u k s' e', Rw (w9.setCell ⟨w2.heap.size, 2, none⟩ (.slice A9 (l.length + 1) c9)) F s' e' ∧ Rt2 F w2.heap.size w3 (w9.setCell ⟨w2.heap.size, 2, none⟩ (.slice A9 (l.length + 1) c9)) ∧ Bo F (w9.setCell ⟨w2.heap.size, 2, none⟩ (.slice A9 (l.length + 1) c9)) w2.heap.size [.int .i64 x1, .slice A2 x2.length c2, u, .slice none 0 0] ∧ Grw (w9.setCell ⟨w2.heap.size, 2, none⟩ (.slice A9 (l.length + 1) c9)) w3.heap.size 83 3 RCf u k ∧ De (pMany pCfg (j + 1)) s3 e3 k s' e' ∧ k.length = j + 1 ∧ ((j + 1 : Nat) : Int) ≤ m3 ∧ s'.length ≤ s3.length) :=
            hide ⟨_, l ++ [y1], _, _, (hw1.low hb9 hFc).far (b := w2.heap.size) (by omega) 2 _, ((HT2.out.trans (Rt2.of ht1)).below hb9 (Nat.le_of_lt hFc)).set (by omega) 2 _, bx9.set (c := 2) (by simp) _, hg9.set rd_Cf hbl 2 _, HDE.out.snoc (show De pCfg _ _ _ _ _ by skip; exact hd1), by rw [List.length_append, HJ.out]; rfl, by omega, by omega⟩
          clear bq fq hg9 hb9 hs9 bx9 bq9 fq9 HLOW
          go_wp2
          go_roundw
          case rel => exact ⟨j + 1, by go_num, HR2⟩
          case measure => simp [intOf]; omega
      · have te : (e' == 0) = false := beq_eq_false_iff_ne.2 he
        have HDL4 : Hid (De (pL pCfg) s2 e2 l s' e') := hide (HD3.out.counted HDE.out hjn (.inr he))
        have hl4 : s'.length ≤ s2.length := HDL4.out.1
        have HL4 : Hid (Lst wr (fun x => w3.heap.size ≤ x ∧ x < wr.heap.size) _ _ _ _) := hide (lst_win rd_Cf rl_Cf (sz := 3) (by decide) (Nat.le_refl _) (HG.out.lst rd_Cf (by decide) (by have := HJ.out; unfold maxLen; omega)))
        have HQ4 : Hid (l.length ≤ 4096) := hide (by have := HJ.out; omega)
        have HT := hide (HTo.out.then2 (by omega) HT2.out)
        replace HR := hide (HR.out.keep2 (by omega) HT2.out)
        have hz4 : w3.heap.size ≤ wr.heap.size := HT2.out.kp.1
        replace HL2 := hide (lst_keep2 rd_Ev0 HL2.out HT2.out (by omega) (by omega))
        clear HWo HTo HBo HT2 HG HDE HJ hjn hsl hwF hcw hbl hFc hm0 hm1 hwb
        obtain ⟨w4, rfl⟩ : ∃ z : World, z = wr := ⟨_, rfl⟩
        obtain ⟨s4, rfl⟩ : ∃ z : Bs, z = s' := ⟨_, rfl⟩
        obtain ⟨e4, rfl⟩ : ∃ z : Int, z = e' := ⟨_, rfl⟩
        obtain ⟨x4, rfl⟩ : ∃ z, z = l := ⟨_, rfl⟩
        obtain ⟨A4, rfl⟩ : ∃ z, z = A := ⟨_, rfl⟩
        obtain ⟨c4, rfl⟩ : ∃ z, z = cp := ⟨_, rfl⟩
        have HCL := hide (rtE_any F s4 e4 w4 (by omega) HW.out)
        go_wp2_with fail
        refine HCL.out.mono ?_
        rintro en w5 ⟨_, x5, s5, e5, rfl, ⟨hlst, hlq⟩, hd, hw, ht⟩
        have HD5 := hide hd
        have hl5 : s5.length ≤ s4.length := hd.1
        obtain ⟨A5, c5, rfl⟩ := hlst.form
        have HQ5 := hide hlq
        have hz5 : w4.heap.size ≤ w5.heap.size := by have := ht.kp.1; simpa using this
        replace HT := hide (HT.out.trans ht)
        replace HR := hide (HR.out.keep ht)
        replace HB := hide (HB.out.keep ht)
        replace HL2 := hide (HL2.out.keep rd_Ev0 (ht.kp.less fun x hx => (by omega : x ≠ F)))
        replace HL4 := hide (HL4.out.keep rd_Cf (ht.kp.less fun x hx => (by omega : x ≠ F)))
        have HL5 : Hid (Lst w5 (fun x => w4.heap.size ≤ x ∧ x < w5.heap.size) _ _ _ _) := hide (lst_win rd_Ev0 rl_Ev0 (sz := 5) (by decide) (by first | exact Nat.le_refl _ | simp) hlst)
        replace HW := hide hw
        clear hd hw ht HCL hlst hlq
        obtain ⟨-, bb, bf⟩ := HB.out
        have b3 := bb 3 _ rfl
        have f3 := bf 3 (by simp)
        clear bb bf
        replace HW := hide (HW.out.far (b := w2.heap.size) (by omega) 3 (.slice A5 x5.length c5))
        replace HT := hide (HT.out.own (b := w2.heap.size) (by omega) hF 3 (.slice A5 x5.length c5))
        replace HR := hide (HR.out.far (b' := w2.heap.size) (by omega) 3 (.slice A5 x5.length c5))
        replace HB := hide (HB.out.set (c := 3) (by simp) (.slice A5 x5.length c5))
        replace HL2 := hide (HL2.out.keep rd_Ev0 (Kp.set ⟨w2.heap.size, 3, none⟩ (.slice A5 x5.length c5) (fun x hx => (by omega : x ≠ w2.heap.size))))
        replace HL4 := hide (HL4.out.keep rd_Cf (Kp.set ⟨w2.heap.size, 3, none⟩ (.slice A5 x5.length c5) (fun x hx => (by omega : x ≠ w2.heap.size))))
        replace HL5 := hide (HL5.out.keep rd_Ev0 (Kp.set ⟨w2.heap.size, 3, none⟩ (.slice A5 x5.length c5) (fun x hx => (by omega : x ≠ w2.heap.size))))
        obtain ⟨-, bb, bf⟩ := HB.out
        have b0 := bb 0 _ rfl
        have b1 := bb 1 _ rfl
        have b2 := bb 2 _ rfl
        have b3 := bb 3 _ rfl
        obtain ⟨-, rr, rf⟩ := HR.out
        have r0 := rr 0 _ rfl
        have g0 := rf 0 (by simp)
        have r1 := rr 1 _ rfl
        have g1 := rf 1 (by simp)
        have r2 := rr 2 _ rfl
        have g2 := rf 2 (by simp)
        have r3 := rr 3 _ rfl
        have g3 := rf 3 (by simp)
        clear bb bf rr rf
        have hrk : w.heap.size < w5.heap.size := by omega
        have hbk : w2.heap.size < w5.heap.size := by omega
        go_wp2
        refine bodyPost_ret (v := .agg #[.int .i64 x1, .slice A2 x2.length c2, .slice A4 x4.length c4, .slice A5 x5.length c5]) (by rw [results_c rfl]; go_simp) rfl ?_
        exact ⟨_, ⟨x1, x2, x4, x5⟩, s5, e5, rfl, ⟨_, rfl, ⟨_, _, _, rfl, (lst_out rd_Ev0 HL2.out (by exact ((((Kp.set ⟨w.heap.size, 0, none⟩ _ (fun (x : Nat) (hx : w1.heap.size ≤ x ∧ x < w2.heap.size) => (by omega : x ≠ w.heap.size))).trans (Kp.set ⟨w.heap.size, 1, none⟩ _ (fun (x : Nat) (hx : w1.heap.size ≤ x ∧ x < w2.heap.size) => (by omega : x ≠ w.heap.size)))).trans (Kp.set ⟨w.heap.size, 2, none⟩ _ (fun (x : Nat) (hx : w1.heap.size ≤ x ∧ x < w2.heap.size) => (by omega : x ≠ w.heap.size)))).trans (Kp.set ⟨w.heap.size, 3, none⟩ _ (fun (x : Nat) (hx : w1.heap.size ≤ x ∧ x < w2.heap.size) => (by omega : x ≠ w.heap.size))))) (by omega)), (lst_out rd_Cf HL4.out (by exact ((((Kp.set ⟨w.heap.size, 0, none⟩ _ (fun (x : Nat) (hx : w3.heap.size ≤ x ∧ x < w4.heap.size) => (by omega : x ≠ w.heap.size))).trans (Kp.set ⟨w.heap.size, 1, none⟩ _ (fun (x : Nat) (hx : w3.heap.size ≤ x ∧ x < w4.heap.size) => (by omega : x ≠ w.heap.size)))).trans (Kp.set ⟨w.heap.size, 2, none⟩ _ (fun (x : Nat) (hx : w3.heap.size ≤ x ∧ x < w4.heap.size) => (by omega : x ≠ w.heap.size)))).trans (Kp.set ⟨w.heap.size, 3, none⟩ _ (fun (x : Nat) (hx : w3.heap.size ≤ x ∧ x < w4.heap.size) => (by omega : x ≠ w.heap.size))))) (by omega)), (lst_out rd_Ev0 HL5.out (by exact ((((Kp.set ⟨w.heap.size, 0, none⟩ _ (fun (x : Nat) (hx : w4.heap.size ≤ x ∧ x < w5.heap.size) => (by omega : x ≠ w.heap.size))).trans (Kp.set ⟨w.heap.size, 1, none⟩ _ (fun (x : Nat) (hx : w4.heap.size ≤ x ∧ x < w5.heap.size) => (by omega : x ≠ w.heap.size)))).trans (Kp.set ⟨w.heap.size, 2, none⟩ _ (fun (x : Nat) (hx : w4.heap.size ≤ x ∧ x < w5.heap.size) => (by omega : x ≠ w.heap.size)))).trans (Kp.set ⟨w.heap.size, 3, none⟩ _ (fun (x : Nat) (hx : w4.heap.size ≤ x ∧ x < w5.heap.size) => (by omega : x ≠ w.heap.size))))) (by omega)), HG1.out⟩⟩, by unfold pEng; exact (HD1.out.bind (HD2.out.bind (HDL4.out.bind (HD5.out.bind (De.ret _))))), ((((HW.out.far (b := w.heap.size) (by omega) 0 _).far (b := w.heap.size) (by omega) 1 _).far (b := w.heap.size) (by omega) 2 _).far (b := w.heap.size) (by omega) 3 _), ((((HT.out.own (b := w.heap.size) (Nat.le_refl _) hF 0 _).own (b := w.heap.size) (Nat.le_refl _) hF 1 _).own (b := w.heap.size) (Nat.le_refl _) hF 2 _).own (b := w.heap.size) (Nat.le_refl _) hF 3 _)⟩
    · skip
      have HDL4 : Hid (De (pL pCfg) s2 e2 l s' e') := hide (HD3.out.counted HDE.out hjn (.inl (by omega)))
      have hl4 : s'.length ≤ s2.length := HDL4.out.1
      have HL4 : Hid (Lst wr (fun x => w3.heap.size ≤ x ∧ x < wr.heap.size) _ _ _ _) := hide (lst_win rd_Cf rl_Cf (sz := 3) (by decide) (Nat.le_refl _) (HG.out.lst rd_Cf (by decide) (by have := HJ.out; unfold maxLen; omega)))
      have HQ4 : Hid (l.length ≤ 4096) := hide (by have := HJ.out; omega)
      have HT := hide (HTo.out.then2 (by omega) HT2.out)
      replace HR := hide (HR.out.keep2 (by omega) HT2.out)
      have hz4 : w3.heap.size ≤ wr.heap.size := HT2.out.kp.1
      replace HL2 := hide (lst_keep2 rd_Ev0 HL2.out HT2.out (by omega) (by omega))
      clear HWo HTo HBo HT2 HG HDE HJ hjn hsl hwF hcw hbl hFc hm0 hm1 hwb
      obtain ⟨w4, rfl⟩ : ∃ z : World, z = wr := ⟨_, rfl⟩
      obtain ⟨s4, rfl⟩ : ∃ z : Bs, z = s' := ⟨_, rfl⟩
      obtain ⟨e4, rfl⟩ : ∃ z : Int, z = e' := ⟨_, rfl⟩
      obtain ⟨x4, rfl⟩ : ∃ z, z = l := ⟨_, rfl⟩
      obtain ⟨A4, rfl⟩ : ∃ z, z = A := ⟨_, rfl⟩
      obtain ⟨c4, rfl⟩ : ∃ z, z = cp := ⟨_, rfl⟩
      have HCL := hide (rtE_any F s4 e4 w4 (by omega) HW.out)
      go_wp2_with fail
      refine HCL.out.mono ?_
      rintro en w5 ⟨_, x5, s5, e5, rfl, ⟨hlst, hlq⟩, hd, hw, ht⟩
      have HD5 := hide hd
      have hl5 : s5.length ≤ s4.length := hd.1
      obtain ⟨A5, c5, rfl⟩ := hlst.form
      have HQ5 := hide hlq
      have hz5 : w4.heap.size ≤ w5.heap.size := by have := ht.kp.1; simpa using this
      replace HT := hide (HT.out.trans ht)
      replace HR := hide (HR.out.keep ht)
      replace HB := hide (HB.out.keep ht)
      replace HL2 := hide (HL2.out.keep rd_Ev0 (ht.kp.less fun x hx => (by omega : x ≠ F)))
      replace HL4 := hide (HL4.out.keep rd_Cf (ht.kp.less fun x hx => (by omega : x ≠ F)))
      have HL5 : Hid (Lst w5 (fun x => w4.heap.size ≤ x ∧ x < w5.heap.size) _ _ _ _) := hide (lst_win rd_Ev0 rl_Ev0 (sz := 5) (by decide) (by first | exact Nat.le_refl _ | simp) hlst)
      replace HW := hide hw
      clear hd hw ht HCL hlst hlq
      obtain ⟨-, bb, bf⟩ := HB.out
      have b3 := bb 3 _ rfl
      have f3 := bf 3 (by simp)
      clear bb bf
      replace HW := hide (HW.out.far (b := w2.heap.size) (by omega) 3 (.slice A5 x5.length c5))
      replace HT := hide (HT.out.own (b := w2.heap.size) (by omega) hF 3 (.slice A5 x5.length c5))
      replace HR := hide (HR.out.far (b' := w2.heap.size) (by omega) 3 (.slice A5 x5.length c5))
      replace HB := hide (HB.out.set (c := 3) (by simp) (.slice A5 x5.length c5))
      replace HL2 := hide (HL2.out.keep rd_Ev0 (Kp.set ⟨w2.heap.size, 3, none⟩ (.slice A5 x5.length c5) (fun x hx => (by omega : x ≠ w2.heap.size))))
      replace HL4 := hide (HL4.out.keep rd_Cf (Kp.set ⟨w2.heap.size, 3, none⟩ (.slice A5 x5.length c5) (fun x hx => (by omega : x ≠ w2.heap.size))))
      replace HL5 := hide (HL5.out.keep rd_Ev0 (Kp.set ⟨w2.heap.size, 3, none⟩ (.slice A5 x5.length c5) (fun x hx => (by omega : x ≠ w2.heap.size))))
      obtain ⟨-, bb, bf⟩ := HB.out
      have b0 := bb 0 _ rfl
      have b1 := bb 1 _ rfl
      have b2 := bb 2 _ rfl
      have b3 := bb 3 _ rfl
      obtain ⟨-, rr, rf⟩ := HR.out
      have r0 := rr 0 _ rfl
      have g0 := rf 0 (by simp)
      have r1 := rr 1 _ rfl
      have g1 := rf 1 (by simp)
      have r2 := rr 2 _ rfl
      have g2 := rf 2 (by simp)
      have r3 := rr 3 _ rfl
      have g3 := rf 3 (by simp)
      clear bb bf rr rf
      have hrk : w.heap.size < w5.heap.size := by omega
      have hbk : w2.heap.size < w5.heap.size := by omega
      go_wp2
      refine bodyPost_ret (v := .agg #[.int .i64 x1, .slice A2 x2.length c2, .slice A4 x4.length c4, .slice A5 x5.length c5]) (by rw [results_c rfl]; go_simp) rfl ?_
      exact ⟨_, ⟨x1, x2, x4, x5⟩, s5, e5, rfl, ⟨_, rfl, ⟨_, _, _, rfl, (lst_out rd_Ev0 HL2.out (by exact ((((Kp.set ⟨w.heap.size, 0, none⟩ _ (fun (x : Nat) (hx : w1.heap.size ≤ x ∧ x < w2.heap.size) => (by omega : x ≠ w.heap.size))).trans (Kp.set ⟨w.heap.size, 1, none⟩ _ (fun (x : Nat) (hx : w1.heap.size ≤ x ∧ x < w2.heap.size) => (by omega : x ≠ w.heap.size)))).trans (Kp.set ⟨w.heap.size, 2, none⟩ _ (fun (x : Nat) (hx : w1.heap.size ≤ x ∧ x < w2.heap.size) => (by omega : x ≠ w.heap.size)))).trans (Kp.set ⟨w.heap.size, 3, none⟩ _ (fun (x : Nat) (hx : w1.heap.size ≤ x ∧ x < w2.heap.size) => (by omega : x ≠ w.heap.size))))) (by omega)), (lst_out rd_Cf HL4.out (by exact ((((Kp.set ⟨w.heap.size, 0, none⟩ _ (fun (x : Nat) (hx : w3.heap.size ≤ x ∧ x < w4.heap.size) => (by omega : x ≠ w.heap.size))).trans (Kp.set ⟨w.heap.size, 1, none⟩ _ (fun (x : Nat) (hx : w3.heap.size ≤ x ∧ x < w4.heap.size) => (by omega : x ≠ w.heap.size)))).trans (Kp.set ⟨w.heap.size, 2, none⟩ _ (fun (x : Nat) (hx : w3.heap.size ≤ x ∧ x < w4.heap.size) => (by omega : x ≠ w.heap.size)))).trans (Kp.set ⟨w.heap.size, 3, none⟩ _ (fun (x : Nat) (hx : w3.heap.size ≤ x ∧ x < w4.heap.size) => (by omega : x ≠ w.heap.size))))) (by omega)), (lst_out rd_Ev0 HL5.out (by exact ((((Kp.set ⟨w.heap.size, 0, none⟩ _ (fun (x : Nat) (hx : w4.heap.size ≤ x ∧ x < w5.heap.size) => (by omega : x ≠ w.heap.size))).trans (Kp.set ⟨w.heap.size, 1, none⟩ _ (fun (x : Nat) (hx : w4.heap.size ≤ x ∧ x < w5.heap.size) => (by omega : x ≠ w.heap.size)))).trans (Kp.set ⟨w.heap.size, 2, none⟩ _ (fun (x : Nat) (hx : w4.heap.size ≤ x ∧ x < w5.heap.size) => (by omega : x ≠ w.heap.size)))).trans (Kp.set ⟨w.heap.size, 3, none⟩ _ (fun (x : Nat) (hx : w4.heap.size ≤ x ∧ x < w5.heap.size) => (by omega : x ≠ w.heap.size))))) (by omega)), HG1.out⟩⟩, by unfold pEng; exact (HD1.out.bind (HD2.out.bind (HDL4.out.bind (HD5.out.bind (De.ret _))))), ((((HW.out.far (b := w.heap.size) (by omega) 0 _).far (b := w.heap.size) (by omega) 1 _).far (b := w.heap.size) (by omega) 2 _).far (b := w.heap.size) (by omega) 3 _), ((((HT.out.own (b := w.heap.size) (Nat.le_refl _) hF 0 _).own (b := w.heap.size) (Nat.le_refl _) hF 1 _).own (b := w.heap.size) (Nat.le_refl _) hF 2 _).own (b := w.heap.size) (Nat.le_refl _) hF 3 _)⟩
end
end Go.Proofs.YtofdcgojgcnopaaGreat
