/- The decoder's lists: get, of values. The decoder's event. The decoder's lists: get, of events. The function that reads the events of DecodeEvents. The decoder's binding. The decoder's lists: get, of bindings. The decoder's start. The decoder's lists: get, of starts. The decoder's config. The decoder's lists: get, of configurations. The decoder's engine. -/
import Derived.Test.YtofdcgojgcnopaaGreatDRel
import Derived.Test.YtofdcgojgcnopaaGreatDVal
import Derived.Test.YtofdcgojgcnopaaGreatDRel2
namespace Go.Proofs.YtofdcgojgcnopaaGreat
open Go.RowKit
set_option linter.unusedVariables false
set_option linter.unusedSimpArgs false
section
variable (F : Nat) (s : Bs) (e : Int) (w : World)
set_option maxRecDepth 100000 in
set_option maxHeartbeats 8000000 in
theorem getV_any (hs : s.length ≤ 100000000) (h : Rw w F s e) : Calls Tryz.prog 106 #[.pointer (some ⟨F, 0, none⟩), .func (.func 91) #[.pointer (some ⟨F, 0, none⟩)] #[]] w (Rds F (pL pV) (RLs 3 RV0 w.heap.size) s e w) := by
  have HI := hide (dint_any F s e w hs h)
  have hF := h.lt
  obtain ⟨i0, hi0, hz0, hz1, hz2⟩ := info_parts info_value
  clear h
  go_enter Tryz.func106, Tryz.ntmps106
  go_wp2_with fail
  refine HI.out.mono ?_
  rintro en w2 ⟨_, n, s1, e1, rfl, ⟨rfl, hn⟩, hd, hw, ht⟩
  have HD := hide hd
  have HW2 := hide hw
  have HT2 := hide ht
  have hl := hd.1
  unfold inI at hn
  clear hd hw ht
  by_cases hbad : n < 0 ∨ 4096 < n
  · have HF := hide (dfail_any F s1 e1 w2 5 HW2.out)
    have hfin : ∀ (j : Nat) l (s' : Bs) (e' : Int), De (pMany pV j) s1 (if e1 = 0 then 5 else e1) l s' e' → (j : Int) ≤ max n 0 → (n ≤ j ∨ e' ≠ 0) → De (pL pV) s e l s' e' := fun j l s' e' hm _ _ => HD.out.listBad hbad hm
    obtain ⟨e2, he2⟩ : ∃ e2, (if e1 = 0 then 5 else e1) = e2 := ⟨_, rfl⟩
    have hne : e2 ≠ 0 := by rw [← he2]; split <;> omega
    have hbd : e2 = 0 → n ≤ 4096 := fun h => absurd h hne
    rw [he2] at HF hfin
    clear he2 hne HI
    rcases hbad with hb1 | hb1
    · skip
      go_wp2_with fail
      refine HF.out.mono ?_
      rintro en w3 ⟨rfl, hw, ht⟩
      replace HT2 := hide (HT2.out.trans ht)
      replace HW2 := hide hw
      clear hw ht HF
      go_wp2
      have HBD := hide hbd
      have HFIN := hide hfin
      clear hbd hfin
      go_loopw [6, 7] (fun v i wr => ∃ j : Nat, i = .int .i64 j ∧ Hid (∃ l s' e', Rw wr F s' e' ∧ Rt F w wr ∧ Grw wr w.heap.size 49 3 RV0 v l ∧ De (pMany pV j) s1 e2 l s' e' ∧ l.length = j ∧ (j : Int) ≤ max n 0 ∧ s'.length ≤ s.length ∧ j ≤ 4096)) (fun _ i _ => (n - intOf i).toNat)
      case atStart => exact ⟨0, rfl, hide ⟨[], s1, e2, HW2.out, HT2.out, Grw.nil, De.nil (Nat.le_refl _) (fun _ => rfl), rfl, by omega, hl, by omega⟩⟩
      case round =>
        obtain ⟨j, rfl, HR⟩ := hrel
        obtain ⟨l, s', e', hw, ht, hg, hd, hj, hjn, hsl, hj4⟩ := HR.out
        have HW := hide hw
        have HT := hide ht
        have HG := hide hg
        have HDE := hide hd
        have HJ := hide hj
        have c1 := hw.c1
        clear hw ht hg hd hj
        by_cases hlt : (j : Int) < n
        · exfalso; omega
        · skip
          go_wp2
          go_ret
          exact ⟨_, l, s', e', rfl, ⟨HG.out.lst rd_V0 (by decide) (by have := HJ.out; unfold maxLen; omega), by have := HJ.out; omega⟩, HFIN.out j l s' e' HDE.out (by omega) (by omega), HW.out, HT.out⟩
    · skip
      go_wp2_with fail
      refine HF.out.mono ?_
      rintro en w3 ⟨rfl, hw, ht⟩
      replace HT2 := hide (HT2.out.trans ht)
      replace HW2 := hide hw
      clear hw ht HF
      go_wp2
      have HBD := hide hbd
      have HFIN := hide hfin
      clear hbd hfin
      go_loopw [6, 7] (fun v i wr => ∃ j : Nat, i = .int .i64 j ∧ Hid (∃ l s' e', Rw wr F s' e' ∧ Rt F w wr ∧ Grw wr w.heap.size 49 3 RV0 v l ∧ De (pMany pV j) s1 e2 l s' e' ∧ l.length = j ∧ (j : Int) ≤ max n 0 ∧ s'.length ≤ s.length ∧ j ≤ 4096)) (fun _ i _ => (n - intOf i).toNat)
      case atStart => exact ⟨0, rfl, hide ⟨[], s1, e2, HW2.out, HT2.out, Grw.nil, De.nil (Nat.le_refl _) (fun _ => rfl), rfl, by omega, hl, by omega⟩⟩
      case round =>
        obtain ⟨j, rfl, HR⟩ := hrel
        obtain ⟨l, s', e', hw, ht, hg, hd, hj, hjn, hsl, hj4⟩ := HR.out
        have HW := hide hw
        have HT := hide ht
        have HG := hide hg
        have HDE := hide hd
        have HJ := hide hj
        have c1 := hw.c1
        clear hw ht hg hd hj
        by_cases hlt : (j : Int) < n
        · by_cases he : e' = 0
          · subst he
            have hn4 : n ≤ 4096 := HBD.out (Classical.byContradiction fun hne => hne (HDE.out.2.1 hne).symm)
            exfalso; omega
          · have te : (e' == 0) = false := beq_eq_false_iff_ne.2 he
            go_wp2
            go_ret
            exact ⟨_, l, s', e', rfl, ⟨HG.out.lst rd_V0 (by decide) (by have := HJ.out; unfold maxLen; omega), by have := HJ.out; omega⟩, HFIN.out j l s' e' HDE.out (by omega) (.inr he), HW.out, HT.out⟩
        · skip
          go_wp2
          go_ret
          exact ⟨_, l, s', e', rfl, ⟨HG.out.lst rd_V0 (by decide) (by have := HJ.out; unfold maxLen; omega), by have := HJ.out; omega⟩, HFIN.out j l s' e' HDE.out (by omega) (by omega), HW.out, HT.out⟩
  · have hfin : ∀ (j : Nat) l (s' : Bs) (e' : Int), De (pMany pV j) s1 e1 l s' e' → (j : Int) ≤ max n 0 → (n ≤ j ∨ e' ≠ 0) → De (pL pV) s e l s' e' := fun j l s' e' hm hj hx => HD.out.list hbad hm (by omega) (by omega)
    have hbd : e1 = 0 → n ≤ 4096 := fun _ => by omega
    obtain ⟨e2, rfl⟩ : ∃ e2, e2 = e1 := ⟨_, rfl⟩
    have hb1 : 0 ≤ n := by omega
    have hb2 : n ≤ 4096 := by omega
    clear HI
    go_wp2
    have HBD := hide hbd
    have HFIN := hide hfin
    clear hbd hfin
    go_loopw [6, 7] (fun v i wr => ∃ j : Nat, i = .int .i64 j ∧ Hid (∃ l s' e', Rw wr F s' e' ∧ Rt F w wr ∧ Grw wr w.heap.size 49 3 RV0 v l ∧ De (pMany pV j) s1 e2 l s' e' ∧ l.length = j ∧ (j : Int) ≤ max n 0 ∧ s'.length ≤ s.length ∧ j ≤ 4096)) (fun _ i _ => (n - intOf i).toNat)
    case atStart => exact ⟨0, rfl, hide ⟨[], s1, e2, HW2.out, HT2.out, Grw.nil, De.nil (Nat.le_refl _) (fun _ => rfl), rfl, by omega, hl, by omega⟩⟩
    case round =>
      obtain ⟨j, rfl, HR⟩ := hrel
      obtain ⟨l, s', e', hw, ht, hg, hd, hj, hjn, hsl, hj4⟩ := HR.out
      have HW := hide hw
      have HT := hide ht
      have HG := hide hg
      have HDE := hide hd
      have HJ := hide hj
      have c1 := hw.c1
      clear hw ht hg hd hj
      by_cases hlt : (j : Int) < n
      · by_cases he : e' = 0
        · subst he
          have hn4 : n ≤ 4096 := HBD.out (Classical.byContradiction fun hne => hne (HDE.out.2.1 hne).symm)
          have HONE := hide (dvalue_any F s' 0 wr (Nat.le_trans hsl hs) HW.out)
          have hwF : F < wr.heap.size := HW.out.lt
          have hww : w.heap.size ≤ wr.heap.size := HT.out.kp.1
          go_wp2_with fail
          refine HONE.out.mono ?_
          rintro en w3 ⟨_, x, s3, e3, rfl, ⟨rfl, hg, hxz⟩, hd, hw, ht⟩
          have HX : Hid (RV0 w3 (wr.heap.size ≤ ·) [.int .i64 x.q, .int .i64 x.n, .string x.s] x) := hide ⟨rfl, hg, Nat.le_trans hxz (by decide)⟩
          clear hg hxz
          have HD3 := hide hd
          have HW3 := hide hw
          have HT3 := hide ht
          have HG3 := hide (HG.out.keep rd_V0 ht hF)
          have hlow := HG.out.low
          have HLOW := hide hlow
          have hlen : l.length < 1099511627776 := by have := HJ.out; omega
          have hlen2 := ht.kp.1
          clear hd hw ht hlow c1
          go_wp2_with (go_loud (at_builtin; refine wpList_append_grw rd_V0 rl_V0 rfl _ _ 86 rfl w.heap.size 49 i0 _ 32 Tryz.underlying86 hi0 hz0 [.int .i64 x.q, .int .i64 x.n, .string x.s] hz1 hz2 rfl (by simp) u6 _ rfl HG3.out _ rfl (by simp [Value.oneCell']) x HX.out (by exact hww) HLOW.out hlen (by decide) ?c3 ?_; (case c3 => exact Nat.le_trans hww hlen2); intro v2 w4 hg4 hb4 hs4))
          have HR2 : Hid (∃ l s' e', Rw w4 F s' e' ∧ Rt F w w4 ∧ Grw w4 w.heap.size 49 3 RV0 v2 l ∧ De (pMany pV (j + 1)) s1 e2 l s' e' ∧ l.length = j + 1 ∧ ((j + 1 : Nat) : Int) ≤ max n 0 ∧ s'.length ≤ s.length ∧ j + 1 ≤ 4096) :=
            hide ⟨l ++ [x], s3, e3, HW3.out.low hb4 hF, (HT.out.trans HT3.out).below hb4 (Nat.le_of_lt hF), hg4, HDE.out.snoc HD3.out, by rw [List.length_append, HJ.out]; rfl, by omega, Nat.le_trans HD3.out.1 hsl, by omega⟩
          clear hg4 hb4 HG3 HX HD3 HW3 HT3 HLOW hs4 hlen2
          go_wp2
          go_roundw
          case rel => exact ⟨j + 1, by go_num, HR2⟩
          case measure => simp [intOf]; omega
        · have te : (e' == 0) = false := beq_eq_false_iff_ne.2 he
          go_wp2
          go_ret
          exact ⟨_, l, s', e', rfl, ⟨HG.out.lst rd_V0 (by decide) (by have := HJ.out; unfold maxLen; omega), by have := HJ.out; omega⟩, HFIN.out j l s' e' HDE.out (by omega) (.inr he), HW.out, HT.out⟩
      · skip
        go_wp2
        go_ret
        exact ⟨_, l, s', e', rfl, ⟨HG.out.lst rd_V0 (by decide) (by have := HJ.out; unfold maxLen; omega), by have := HJ.out; omega⟩, HFIN.out j l s' e' HDE.out (by omega) (by omega), HW.out, HT.out⟩
end
end Go.Proofs.YtofdcgojgcnopaaGreat

namespace Go.Proofs.YtofdcgojgcnopaaGreat
open Go.RowKit
set_option linter.unusedVariables false
set_option linter.unusedSimpArgs false
section
variable (F : Nat) (s : Bs) (e : Int) (w : World)
set_option maxRecDepth 100000 in
set_option maxHeartbeats 8000000 in
theorem dev_any (hs : s.length ≤ 100000000) (h : Rw w F s e) : Calls Tryz.prog 101 #[.pointer (some ⟨F, 0, none⟩)] w (Rds F pEv (RA REv0 w.heap.size) s e w) := by
  have hF := h.lt
  have HT := hide (Rt.laid h (.cells #[.int .i64 0, .int .i64 0, .int .i64 0, .int .i64 0, .slice none 0 0] 88))
  have HR := hide (Bo.new hF [.int .i64 0, .int .i64 0, .int .i64 0, .int .i64 0, .slice none 0 0] 88)
  have HW := hide (h.laid (.cells #[.int .i64 0, .int .i64 0, .int .i64 0, .int .i64 0, .slice none 0 0] 88))
  clear h
  go_enter Tryz.func101, Tryz.ntmps101
  have HCL := hide (dint_any F s e (w.alloc (.cells #[.int .i64 0, .int .i64 0, .int .i64 0, .int .i64 0, .slice none 0 0] 88)) (by omega) HW.out)
  go_wp2_with fail
  refine HCL.out.mono ?_
  rintro en w1 ⟨_, x1, s1, e1, rfl, ⟨rfl, hg⟩, hd, hw, ht⟩
  have HD1 := hide hd
  have hl1 : s1.length ≤ s.length := hd.1
  have HG1 := hide hg
  have hz1 : w.heap.size + 1 ≤ w1.heap.size := by have := ht.kp.1; simpa using this
  replace HT := hide (HT.out.trans ht)
  replace HR := hide (HR.out.keep ht)
  have HW := hide hw
  clear hd hw ht HCL hg
  have HCL := hide (dint_any F s1 e1 w1 (by omega) HW.out)
  go_wp2_with fail
  refine HCL.out.mono ?_
  rintro en w2 ⟨_, x2, s2, e2, rfl, ⟨rfl, hg⟩, hd, hw, ht⟩
  have HD2 := hide hd
  have hl2 : s2.length ≤ s1.length := hd.1
  have HG2 := hide hg
  have hz2 : w1.heap.size ≤ w2.heap.size := by have := ht.kp.1; simpa using this
  replace HT := hide (HT.out.trans ht)
  replace HR := hide (HR.out.keep ht)
  have HW := hide hw
  clear hd hw ht HCL hg
  have HCL := hide (dint_any F s2 e2 w2 (by omega) HW.out)
  go_wp2_with fail
  refine HCL.out.mono ?_
  rintro en w3 ⟨_, x3, s3, e3, rfl, ⟨rfl, hg⟩, hd, hw, ht⟩
  have HD3 := hide hd
  have hl3 : s3.length ≤ s2.length := hd.1
  have HG3 := hide hg
  have hz3 : w2.heap.size ≤ w3.heap.size := by have := ht.kp.1; simpa using this
  replace HT := hide (HT.out.trans ht)
  replace HR := hide (HR.out.keep ht)
  have HW := hide hw
  clear hd hw ht HCL hg
  have HCL := hide (dint_any F s3 e3 w3 (by omega) HW.out)
  go_wp2_with fail
  refine HCL.out.mono ?_
  rintro en w4 ⟨_, x4, s4, e4, rfl, ⟨rfl, hg⟩, hd, hw, ht⟩
  have HD4 := hide hd
  have hl4 : s4.length ≤ s3.length := hd.1
  have HG4 := hide hg
  have hz4 : w3.heap.size ≤ w4.heap.size := by have := ht.kp.1; simpa using this
  replace HT := hide (HT.out.trans ht)
  replace HR := hide (HR.out.keep ht)
  have HW := hide hw
  clear hd hw ht HCL hg
  have hwl := HW.out.lt
  have HB := hide (Bo.new hwl [.int .i64 x1, .int .i64 x2, .int .i64 x3, .int .i64 x4, .slice none 0 0] 88)
  replace HT := hide (HT.out.trans (Rt.laid HW.out (.cells #[.int .i64 x1, .int .i64 x2, .int .i64 x3, .int .i64 x4, .slice none 0 0] 88)))
  replace HR := hide (HR.out.laid (.cells #[.int .i64 x1, .int .i64 x2, .int .i64 x3, .int .i64 x4, .slice none 0 0] 88))
  replace HW := hide (HW.out.laid (.cells #[.int .i64 x1, .int .i64 x2, .int .i64 x3, .int .i64 x4, .slice none 0 0] 88))
  have HCL := hide (getV_any F s4 e4 (w4.alloc (.cells #[.int .i64 x1, .int .i64 x2, .int .i64 x3, .int .i64 x4, .slice none 0 0] 88)) (by omega) HW.out)
  go_wp2_with fail
  refine HCL.out.mono ?_
  rintro en w5 ⟨_, x5, s5, e5, rfl, ⟨hlst, hlq⟩, hd, hw, ht⟩
  have HD5 := hide hd
  have hl5 : s5.length ≤ s4.length := hd.1
  obtain ⟨A5, c5, rfl⟩ := hlst.form
  have HQ5 := hide hlq
  have hz5 : w4.heap.size + 1 ≤ w5.heap.size := by have := ht.kp.1; simpa using this
  replace HT := hide (HT.out.trans ht)
  replace HR := hide (HR.out.keep ht)
  replace HB := hide (HB.out.keep ht)
  have HL5 : Hid (Lst w5 (fun x => w4.heap.size + 1 ≤ x ∧ x < w5.heap.size) _ _ _ _) := hide (lst_win rd_V0 rl_V0 (sz := 3) (by decide) (by first | exact Nat.le_refl _ | simp) hlst)
  have HW := hide hw
  clear hd hw ht HCL hlst hlq
  obtain ⟨-, bb, bf⟩ := HB.out
  have b0 := bb 0 _ rfl
  have f0 := bf 0 (by simp)
  have b1 := bb 1 _ rfl
  have f1 := bf 1 (by simp)
  have b2 := bb 2 _ rfl
  have f2 := bf 2 (by simp)
  have b3 := bb 3 _ rfl
  have f3 := bf 3 (by simp)
  have b4 := bb 4 _ rfl
  have f4 := bf 4 (by simp)
  clear bb bf
  obtain ⟨-, bb, bf⟩ := HR.out
  have r0 := bb 0 _ rfl
  have g0 := bf 0 (by simp)
  have r1 := bb 1 _ rfl
  have g1 := bf 1 (by simp)
  have r2 := bb 2 _ rfl
  have g2 := bf 2 (by simp)
  have r3 := bb 3 _ rfl
  have g3 := bf 3 (by simp)
  have r4 := bb 4 _ rfl
  have g4 := bf 4 (by simp)
  clear bb bf
  have hrk : w.heap.size < w5.heap.size := by omega
  have hbk : w4.heap.size < w5.heap.size := by omega
  replace HW := hide (HW.out.far (b := w4.heap.size) (by omega) 4 (.slice A5 x5.length c5))
  replace HT := hide (HT.out.own (b := w4.heap.size) (by omega) hF 4 (.slice A5 x5.length c5))
  replace HR := hide (HR.out.far (b' := w4.heap.size) (by omega) 4 (.slice A5 x5.length c5))
  replace HB := hide (HB.out.set (c := 4) (by simp) (.slice A5 x5.length c5))
  replace HL5 := hide (HL5.out.keep rd_V0 (Kp.set ⟨w4.heap.size, 4, none⟩ (.slice A5 x5.length c5) (fun x hx => (by omega : x ≠ w4.heap.size))))
  go_wp2
  refine bodyPost_ret (v := .agg #[.int .i64 x1, .int .i64 x2, .int .i64 x3, .int .i64 x4, .slice A5 x5.length c5]) (by rw [results_c rfl]; go_simp) rfl ?_
  exact ⟨_, ⟨x1, x2, x3, x4, x5⟩, s5, e5, rfl, ⟨_, rfl, ⟨_, rfl, (lst_out rd_V0 HL5.out (by exact (((((Kp.set ⟨w.heap.size, 0, none⟩ _ (fun (x : Nat) (hx : w4.heap.size + 1 ≤ x ∧ x < w5.heap.size) => (by omega : x ≠ w.heap.size))).trans (Kp.set ⟨w.heap.size, 1, none⟩ _ (fun (x : Nat) (hx : w4.heap.size + 1 ≤ x ∧ x < w5.heap.size) => (by omega : x ≠ w.heap.size)))).trans (Kp.set ⟨w.heap.size, 2, none⟩ _ (fun (x : Nat) (hx : w4.heap.size + 1 ≤ x ∧ x < w5.heap.size) => (by omega : x ≠ w.heap.size)))).trans (Kp.set ⟨w.heap.size, 3, none⟩ _ (fun (x : Nat) (hx : w4.heap.size + 1 ≤ x ∧ x < w5.heap.size) => (by omega : x ≠ w.heap.size)))).trans (Kp.set ⟨w.heap.size, 4, none⟩ _ (fun (x : Nat) (hx : w4.heap.size + 1 ≤ x ∧ x < w5.heap.size) => (by omega : x ≠ w.heap.size))))) (by omega)), HG1.out, HG2.out, HG3.out, HG4.out⟩⟩, by unfold pEv; exact (HD1.out.bind (HD2.out.bind (HD3.out.bind (HD4.out.bind (HD5.out.bind (De.ret _)))))), (((((HW.out.far (b := w.heap.size) (by omega) 0 _).far (b := w.heap.size) (by omega) 1 _).far (b := w.heap.size) (by omega) 2 _).far (b := w.heap.size) (by omega) 3 _).far (b := w.heap.size) (by omega) 4 _), (((((HT.out.own (b := w.heap.size) (Nat.le_refl _) hF 0 _).own (b := w.heap.size) (Nat.le_refl _) hF 1 _).own (b := w.heap.size) (Nat.le_refl _) hF 2 _).own (b := w.heap.size) (Nat.le_refl _) hF 3 _).own (b := w.heap.size) (Nat.le_refl _) hF 4 _)⟩
end
end Go.Proofs.YtofdcgojgcnopaaGreat

namespace Go.Proofs.YtofdcgojgcnopaaGreat
open Go.RowKit
set_option linter.unusedVariables false
set_option linter.unusedSimpArgs false
section
variable (F : Nat) (s : Bs) (e : Int) (w : World)
set_option maxRecDepth 100000 in
set_option maxHeartbeats 8000000 in
theorem getE_any (hs : s.length ≤ 100000000) (h : Rw w F s e) : Calls Tryz.prog 100 #[.pointer (some ⟨F, 0, none⟩), .func (.func 101) #[.pointer (some ⟨F, 0, none⟩)] #[]] w (Rds F (pL pEv) (RLs 5 REv0 w.heap.size) s e w) := by
  have HI := hide (dint_any F s e w hs h)
  have hF := h.lt
  obtain ⟨i0, hi0, hz0, hz1, hz2⟩ := info_parts info_event
  clear h
  go_enter Tryz.func100, Tryz.ntmps100
  go_wp2_with fail
  refine HI.out.mono ?_
  rintro en w2 ⟨_, n, s1, e1, rfl, ⟨rfl, hn⟩, hd, hw, ht⟩
  have HD := hide hd
  have HW2 := hide hw
  have HT2 := hide ht
  have hl := hd.1
  unfold inI at hn
  clear hd hw ht
  by_cases hbad : n < 0 ∨ 4096 < n
  · have HF := hide (dfail_any F s1 e1 w2 5 HW2.out)
    have hfin : ∀ (j : Nat) l (s' : Bs) (e' : Int), De (pMany pEv j) s1 (if e1 = 0 then 5 else e1) l s' e' → (j : Int) ≤ max n 0 → (n ≤ j ∨ e' ≠ 0) → De (pL pEv) s e l s' e' := fun j l s' e' hm _ _ => HD.out.listBad hbad hm
    obtain ⟨e2, he2⟩ : ∃ e2, (if e1 = 0 then 5 else e1) = e2 := ⟨_, rfl⟩
    have hne : e2 ≠ 0 := by rw [← he2]; split <;> omega
    have hbd : e2 = 0 → n ≤ 4096 := fun h => absurd h hne
    rw [he2] at HF hfin
    clear he2 hne HI
    rcases hbad with hb1 | hb1
    · skip
      go_wp2_with fail
      refine HF.out.mono ?_
      rintro en w3 ⟨rfl, hw, ht⟩
      replace HT2 := hide (HT2.out.trans ht)
      replace HW2 := hide hw
      clear hw ht HF
      go_wp2
      have HBD := hide hbd
      have HFIN := hide hfin
      clear hbd hfin
      go_loopw [6, 7] (fun v i wr => ∃ j : Nat, i = .int .i64 j ∧ Hid (∃ l s' e', Rw wr F s' e' ∧ Rt F w wr ∧ Grw wr w.heap.size 88 5 REv0 v l ∧ De (pMany pEv j) s1 e2 l s' e' ∧ l.length = j ∧ (j : Int) ≤ max n 0 ∧ s'.length ≤ s.length ∧ j ≤ 4096)) (fun _ i _ => (n - intOf i).toNat)
      case atStart => exact ⟨0, rfl, hide ⟨[], s1, e2, HW2.out, HT2.out, Grw.nil, De.nil (Nat.le_refl _) (fun _ => rfl), rfl, by omega, hl, by omega⟩⟩
      case round =>
        obtain ⟨j, rfl, HR⟩ := hrel
        obtain ⟨l, s', e', hw, ht, hg, hd, hj, hjn, hsl, hj4⟩ := HR.out
        have HW := hide hw
        have HT := hide ht
        have HG := hide hg
        have HDE := hide hd
        have HJ := hide hj
        have c1 := hw.c1
        clear hw ht hg hd hj
        by_cases hlt : (j : Int) < n
        · exfalso; omega
        · skip
          go_wp2
          go_ret
          exact ⟨_, l, s', e', rfl, ⟨HG.out.lst rd_Ev0 (by decide) (by have := HJ.out; unfold maxLen; omega), by have := HJ.out; omega⟩, HFIN.out j l s' e' HDE.out (by omega) (by omega), HW.out, HT.out⟩
    · skip
      go_wp2_with fail
      refine HF.out.mono ?_
      rintro en w3 ⟨rfl, hw, ht⟩
      replace HT2 := hide (HT2.out.trans ht)
      replace HW2 := hide hw
      clear hw ht HF
      go_wp2
      have HBD := hide hbd
      have HFIN := hide hfin
      clear hbd hfin
      go_loopw [6, 7] (fun v i wr => ∃ j : Nat, i = .int .i64 j ∧ Hid (∃ l s' e', Rw wr F s' e' ∧ Rt F w wr ∧ Grw wr w.heap.size 88 5 REv0 v l ∧ De (pMany pEv j) s1 e2 l s' e' ∧ l.length = j ∧ (j : Int) ≤ max n 0 ∧ s'.length ≤ s.length ∧ j ≤ 4096)) (fun _ i _ => (n - intOf i).toNat)
      case atStart => exact ⟨0, rfl, hide ⟨[], s1, e2, HW2.out, HT2.out, Grw.nil, De.nil (Nat.le_refl _) (fun _ => rfl), rfl, by omega, hl, by omega⟩⟩
      case round =>
        obtain ⟨j, rfl, HR⟩ := hrel
        obtain ⟨l, s', e', hw, ht, hg, hd, hj, hjn, hsl, hj4⟩ := HR.out
        have HW := hide hw
        have HT := hide ht
        have HG := hide hg
        have HDE := hide hd
        have HJ := hide hj
        have c1 := hw.c1
        clear hw ht hg hd hj
        by_cases hlt : (j : Int) < n
        · by_cases he : e' = 0
          · subst he
            have hn4 : n ≤ 4096 := HBD.out (Classical.byContradiction fun hne => hne (HDE.out.2.1 hne).symm)
            exfalso; omega
          · have te : (e' == 0) = false := beq_eq_false_iff_ne.2 he
            go_wp2
            go_ret
            exact ⟨_, l, s', e', rfl, ⟨HG.out.lst rd_Ev0 (by decide) (by have := HJ.out; unfold maxLen; omega), by have := HJ.out; omega⟩, HFIN.out j l s' e' HDE.out (by omega) (.inr he), HW.out, HT.out⟩
        · skip
          go_wp2
          go_ret
          exact ⟨_, l, s', e', rfl, ⟨HG.out.lst rd_Ev0 (by decide) (by have := HJ.out; unfold maxLen; omega), by have := HJ.out; omega⟩, HFIN.out j l s' e' HDE.out (by omega) (by omega), HW.out, HT.out⟩
  · have hfin : ∀ (j : Nat) l (s' : Bs) (e' : Int), De (pMany pEv j) s1 e1 l s' e' → (j : Int) ≤ max n 0 → (n ≤ j ∨ e' ≠ 0) → De (pL pEv) s e l s' e' := fun j l s' e' hm hj hx => HD.out.list hbad hm (by omega) (by omega)
    have hbd : e1 = 0 → n ≤ 4096 := fun _ => by omega
    obtain ⟨e2, rfl⟩ : ∃ e2, e2 = e1 := ⟨_, rfl⟩
    have hb1 : 0 ≤ n := by omega
    have hb2 : n ≤ 4096 := by omega
    clear HI
    go_wp2
    have HBD := hide hbd
    have HFIN := hide hfin
    clear hbd hfin
    go_loopw [6, 7] (fun v i wr => ∃ j : Nat, i = .int .i64 j ∧ Hid (∃ l s' e', Rw wr F s' e' ∧ Rt F w wr ∧ Grw wr w.heap.size 88 5 REv0 v l ∧ De (pMany pEv j) s1 e2 l s' e' ∧ l.length = j ∧ (j : Int) ≤ max n 0 ∧ s'.length ≤ s.length ∧ j ≤ 4096)) (fun _ i _ => (n - intOf i).toNat)
    case atStart => exact ⟨0, rfl, hide ⟨[], s1, e2, HW2.out, HT2.out, Grw.nil, De.nil (Nat.le_refl _) (fun _ => rfl), rfl, by omega, hl, by omega⟩⟩
    case round =>
      obtain ⟨j, rfl, HR⟩ := hrel
      obtain ⟨l, s', e', hw, ht, hg, hd, hj, hjn, hsl, hj4⟩ := HR.out
      have HW := hide hw
      have HT := hide ht
      have HG := hide hg
      have HDE := hide hd
      have HJ := hide hj
      have c1 := hw.c1
      clear hw ht hg hd hj
      by_cases hlt : (j : Int) < n
      · by_cases he : e' = 0
        · subst he
          have hn4 : n ≤ 4096 := HBD.out (Classical.byContradiction fun hne => hne (HDE.out.2.1 hne).symm)
          have HONE := hide (dev_any F s' 0 wr (Nat.le_trans hsl hs) HW.out)
          have hwF : F < wr.heap.size := HW.out.lt
          have hww : w.heap.size ≤ wr.heap.size := HT.out.kp.1
          go_wp2_with fail
          refine HONE.out.mono ?_
          rintro en w3 ⟨_, x, s3, e3, rfl, ⟨_, rfl, u, rfl, hlst, ha, hb, hc, hdd⟩, hd, hw, ht⟩
          obtain ⟨A9, c9, rfl⟩ := hlst.form
          have HX : Hid (REv0 w3 (wr.heap.size ≤ ·) [.int .i64 x.a, .int .i64 x.b, .int .i64 x.c, .int .i64 x.d, .slice A9 x.vs.length c9] x) := hide ⟨_, rfl, hlst, ha, hb, hc, hdd⟩
          clear hlst ha hb hc hdd
          have HD3 := hide hd
          have HW3 := hide hw
          have HT3 := hide ht
          have HG3 := hide (HG.out.keep rd_Ev0 ht hF)
          have hlow := HG.out.low
          have HLOW := hide hlow
          have hlen : l.length < 1099511627776 := by have := HJ.out; omega
          have hlen2 := ht.kp.1
          clear hd hw ht hlow c1
          go_wp2_with (go_loud (at_builtin; refine wpList_append_grw rd_Ev0 rl_Ev0 rfl _ _ 50 rfl w.heap.size 88 i0 _ 56 Tryz.underlying50 hi0 hz0 [.int .i64 x.a, .int .i64 x.b, .int .i64 x.c, .int .i64 x.d, .slice A9 x.vs.length c9] hz1 hz2 rfl (by simp) u6 _ rfl HG3.out _ rfl (by simp [Value.oneCell']) x HX.out (by exact hww) HLOW.out hlen (by decide) ?c3 ?_; (case c3 => exact Nat.le_trans hww hlen2); intro v2 w4 hg4 hb4 hs4))
          have HR2 : Hid (∃ l s' e', Rw w4 F s' e' ∧ Rt F w w4 ∧ Grw w4 w.heap.size 88 5 REv0 v2 l ∧ De (pMany pEv (j + 1)) s1 e2 l s' e' ∧ l.length = j + 1 ∧ ((j + 1 : Nat) : Int) ≤ max n 0 ∧ s'.length ≤ s.length ∧ j + 1 ≤ 4096) :=
            hide ⟨l ++ [x], s3, e3, HW3.out.low hb4 hF, (HT.out.trans HT3.out).below hb4 (Nat.le_of_lt hF), hg4, HDE.out.snoc HD3.out, by rw [List.length_append, HJ.out]; rfl, by omega, Nat.le_trans HD3.out.1 hsl, by omega⟩
          clear hg4 hb4 HG3 HX HD3 HW3 HT3 HLOW hs4 hlen2
          go_wp2
          go_roundw
          case rel => exact ⟨j + 1, by go_num, HR2⟩
          case measure => simp [intOf]; omega
        · have te : (e' == 0) = false := beq_eq_false_iff_ne.2 he
          go_wp2
          go_ret
          exact ⟨_, l, s', e', rfl, ⟨HG.out.lst rd_Ev0 (by decide) (by have := HJ.out; unfold maxLen; omega), by have := HJ.out; omega⟩, HFIN.out j l s' e' HDE.out (by omega) (.inr he), HW.out, HT.out⟩
      · skip
        go_wp2
        go_ret
        exact ⟨_, l, s', e', rfl, ⟨HG.out.lst rd_Ev0 (by decide) (by have := HJ.out; unfold maxLen; omega), by have := HJ.out; omega⟩, HFIN.out j l s' e' HDE.out (by omega) (by omega), HW.out, HT.out⟩
end
end Go.Proofs.YtofdcgojgcnopaaGreat

namespace Go.Proofs.YtofdcgojgcnopaaGreat
open Go.RowKit
set_option linter.unusedVariables false
set_option linter.unusedSimpArgs false
section
variable (F : Nat) (s : Bs) (e : Int) (w : World)
end
end Go.Proofs.YtofdcgojgcnopaaGreat

namespace Go.Proofs.YtofdcgojgcnopaaGreat
open Go.RowKit
set_option linter.unusedVariables false
set_option linter.unusedSimpArgs false
section
variable (F : Nat) (s : Bs) (e : Int) (w : World)
set_option maxRecDepth 100000 in
set_option maxHeartbeats 8000000 in
theorem dbn_any (hs : s.length ≤ 100000000) (h : Rw w F s e) : Calls Tryz.prog 108 #[.pointer (some ⟨F, 0, none⟩)] w (Rds F pBnd (RA RBn w.heap.size) s e w) := by
  have hF := h.lt
  have HT := hide (Rt.laid h (.cells #[.int .i64 0, .int .i64 0, .int .i64 0, .int .i64 0] 156))
  have HR := hide (Bo.new hF [.int .i64 0, .int .i64 0, .int .i64 0, .int .i64 0] 156)
  have HW := hide (h.laid (.cells #[.int .i64 0, .int .i64 0, .int .i64 0, .int .i64 0] 156))
  clear h
  go_enter Tryz.func108, Tryz.ntmps108
  have HCL := hide (dint_any F s e (w.alloc (.cells #[.int .i64 0, .int .i64 0, .int .i64 0, .int .i64 0] 156)) (by omega) HW.out)
  go_wp2_with fail
  refine HCL.out.mono ?_
  rintro en w1 ⟨_, x1, s1, e1, rfl, ⟨rfl, hg⟩, hd, hw, ht⟩
  have HD1 := hide hd
  have hl1 : s1.length ≤ s.length := hd.1
  have HG1 := hide hg
  have hz1 : w.heap.size + 1 ≤ w1.heap.size := by have := ht.kp.1; simpa using this
  replace HT := hide (HT.out.trans ht)
  replace HR := hide (HR.out.keep ht)
  have HW := hide hw
  clear hd hw ht HCL hg
  have hwl := HW.out.lt
  have HB := hide (Bo.new hwl [.int .i64 x1, .int .i64 0, .int .i64 0, .int .i64 0] 156)
  replace HT := hide (HT.out.trans (Rt.laid HW.out (.cells #[.int .i64 x1, .int .i64 0, .int .i64 0, .int .i64 0] 156)))
  replace HR := hide (HR.out.laid (.cells #[.int .i64 x1, .int .i64 0, .int .i64 0, .int .i64 0] 156))
  replace HW := hide (HW.out.laid (.cells #[.int .i64 x1, .int .i64 0, .int .i64 0, .int .i64 0] 156))
  have HCL := hide (dint_any F s1 e1 (w1.alloc (.cells #[.int .i64 x1, .int .i64 0, .int .i64 0, .int .i64 0] 156)) (by omega) HW.out)
  go_wp2_with fail
  refine HCL.out.mono ?_
  rintro en w2 ⟨_, x2, s2, e2, rfl, ⟨rfl, hg⟩, hd, hw, ht⟩
  have HD2 := hide hd
  have hl2 : s2.length ≤ s1.length := hd.1
  have HG2 := hide hg
  have hz2 : w1.heap.size + 1 ≤ w2.heap.size := by have := ht.kp.1; simpa using this
  replace HT := hide (HT.out.trans ht)
  replace HR := hide (HR.out.keep ht)
  replace HB := hide (HB.out.keep ht)
  have HW := hide hw
  clear hd hw ht HCL hg
  have HCL := hide (dint_any F s2 e2 w2 (by omega) HW.out)
  go_wp2_with fail
  refine HCL.out.mono ?_
  rintro en w3 ⟨_, x3, s3, e3, rfl, ⟨rfl, hg⟩, hd, hw, ht⟩
  have HD3 := hide hd
  have hl3 : s3.length ≤ s2.length := hd.1
  have HG3 := hide hg
  have hz3 : w2.heap.size ≤ w3.heap.size := by have := ht.kp.1; simpa using this
  replace HT := hide (HT.out.trans ht)
  replace HR := hide (HR.out.keep ht)
  replace HB := hide (HB.out.keep ht)
  have HW := hide hw
  clear hd hw ht HCL hg
  have HCL := hide (dint_any F s3 e3 w3 (by omega) HW.out)
  go_wp2_with fail
  refine HCL.out.mono ?_
  rintro en w4 ⟨_, x4, s4, e4, rfl, ⟨rfl, hg⟩, hd, hw, ht⟩
  have HD4 := hide hd
  have hl4 : s4.length ≤ s3.length := hd.1
  have HG4 := hide hg
  have hz4 : w3.heap.size ≤ w4.heap.size := by have := ht.kp.1; simpa using this
  replace HT := hide (HT.out.trans ht)
  replace HR := hide (HR.out.keep ht)
  replace HB := hide (HB.out.keep ht)
  have HW := hide hw
  clear hd hw ht HCL hg
  obtain ⟨-, bb, bf⟩ := HB.out
  have b0 := bb 0 _ rfl
  have f0 := bf 0 (by simp)
  have b1 := bb 1 _ rfl
  have f1 := bf 1 (by simp)
  have b2 := bb 2 _ rfl
  have f2 := bf 2 (by simp)
  have b3 := bb 3 _ rfl
  have f3 := bf 3 (by simp)
  clear bb bf
  obtain ⟨-, bb, bf⟩ := HR.out
  have r0 := bb 0 _ rfl
  have g0 := bf 0 (by simp)
  have r1 := bb 1 _ rfl
  have g1 := bf 1 (by simp)
  have r2 := bb 2 _ rfl
  have g2 := bf 2 (by simp)
  have r3 := bb 3 _ rfl
  have g3 := bf 3 (by simp)
  clear bb bf
  have hrk : w.heap.size < w4.heap.size := by omega
  have hbk : w1.heap.size < w4.heap.size := by omega
  replace HW := hide (HW.out.far (b := w1.heap.size) (by omega) 1 (.int .i64 x2))
  replace HT := hide (HT.out.own (b := w1.heap.size) (by omega) hF 1 (.int .i64 x2))
  replace HR := hide (HR.out.far (b' := w1.heap.size) (by omega) 1 (.int .i64 x2))
  replace HB := hide (HB.out.set (c := 1) (by simp) (.int .i64 x2))
  replace HW := hide (HW.out.far (b := w1.heap.size) (by omega) 2 (.int .i64 x3))
  replace HT := hide (HT.out.own (b := w1.heap.size) (by omega) hF 2 (.int .i64 x3))
  replace HR := hide (HR.out.far (b' := w1.heap.size) (by omega) 2 (.int .i64 x3))
  replace HB := hide (HB.out.set (c := 2) (by simp) (.int .i64 x3))
  replace HW := hide (HW.out.far (b := w1.heap.size) (by omega) 3 (.int .i64 x4))
  replace HT := hide (HT.out.own (b := w1.heap.size) (by omega) hF 3 (.int .i64 x4))
  replace HR := hide (HR.out.far (b' := w1.heap.size) (by omega) 3 (.int .i64 x4))
  replace HB := hide (HB.out.set (c := 3) (by simp) (.int .i64 x4))
  go_wp2
  refine bodyPost_ret (v := .agg #[.int .i64 x1, .int .i64 x2, .int .i64 x3, .int .i64 x4]) (by rw [results_c rfl]; go_simp) rfl ?_
  exact ⟨_, ⟨x1, x2, x3, x4⟩, s4, e4, rfl, ⟨_, rfl, rfl, HG1.out, HG2.out, HG3.out, HG4.out⟩, by unfold pBnd; exact (HD1.out.bind (HD2.out.bind (HD3.out.bind (HD4.out.bind (De.ret _))))), ((((HW.out.far (b := w.heap.size) (by omega) 0 _).far (b := w.heap.size) (by omega) 1 _).far (b := w.heap.size) (by omega) 2 _).far (b := w.heap.size) (by omega) 3 _), ((((HT.out.own (b := w.heap.size) (Nat.le_refl _) hF 0 _).own (b := w.heap.size) (Nat.le_refl _) hF 1 _).own (b := w.heap.size) (Nat.le_refl _) hF 2 _).own (b := w.heap.size) (Nat.le_refl _) hF 3 _)⟩
end
end Go.Proofs.YtofdcgojgcnopaaGreat

namespace Go.Proofs.YtofdcgojgcnopaaGreat
open Go.RowKit
set_option linter.unusedVariables false
set_option linter.unusedSimpArgs false
section
variable (F : Nat) (s : Bs) (e : Int) (w : World)
set_option maxRecDepth 100000 in
set_option maxHeartbeats 8000000 in
theorem getBn_any (hs : s.length ≤ 100000000) (h : Rw w F s e) : Calls Tryz.prog 107 #[.pointer (some ⟨F, 0, none⟩), .func (.func 108) #[.pointer (some ⟨F, 0, none⟩)] #[]] w (Rds F (pL pBnd) (RLs 4 RBn w.heap.size) s e w) := by
  have HI := hide (dint_any F s e w hs h)
  have hF := h.lt
  obtain ⟨i0, hi0, hz0, hz1, hz2⟩ := info_parts info_binding
  clear h
  go_enter Tryz.func107, Tryz.ntmps107
  go_wp2_with fail
  refine HI.out.mono ?_
  rintro en w2 ⟨_, n, s1, e1, rfl, ⟨rfl, hn⟩, hd, hw, ht⟩
  have HD := hide hd
  have HW2 := hide hw
  have HT2 := hide ht
  have hl := hd.1
  unfold inI at hn
  clear hd hw ht
  by_cases hbad : n < 0 ∨ 4096 < n
  · have HF := hide (dfail_any F s1 e1 w2 5 HW2.out)
    have hfin : ∀ (j : Nat) l (s' : Bs) (e' : Int), De (pMany pBnd j) s1 (if e1 = 0 then 5 else e1) l s' e' → (j : Int) ≤ max n 0 → (n ≤ j ∨ e' ≠ 0) → De (pL pBnd) s e l s' e' := fun j l s' e' hm _ _ => HD.out.listBad hbad hm
    obtain ⟨e2, he2⟩ : ∃ e2, (if e1 = 0 then 5 else e1) = e2 := ⟨_, rfl⟩
    have hne : e2 ≠ 0 := by rw [← he2]; split <;> omega
    have hbd : e2 = 0 → n ≤ 4096 := fun h => absurd h hne
    rw [he2] at HF hfin
    clear he2 hne HI
    rcases hbad with hb1 | hb1
    · skip
      go_wp2_with fail
      refine HF.out.mono ?_
      rintro en w3 ⟨rfl, hw, ht⟩
      replace HT2 := hide (HT2.out.trans ht)
      replace HW2 := hide hw
      clear hw ht HF
      go_wp2
      have HBD := hide hbd
      have HFIN := hide hfin
      clear hbd hfin
      go_loopw [6, 7] (fun v i wr => ∃ j : Nat, i = .int .i64 j ∧ Hid (∃ l s' e', Rw wr F s' e' ∧ Rt F w wr ∧ Grw wr w.heap.size 156 4 RBn v l ∧ De (pMany pBnd j) s1 e2 l s' e' ∧ l.length = j ∧ (j : Int) ≤ max n 0 ∧ s'.length ≤ s.length ∧ j ≤ 4096)) (fun _ i _ => (n - intOf i).toNat)
      case atStart => exact ⟨0, rfl, hide ⟨[], s1, e2, HW2.out, HT2.out, Grw.nil, De.nil (Nat.le_refl _) (fun _ => rfl), rfl, by omega, hl, by omega⟩⟩
      case round =>
        obtain ⟨j, rfl, HR⟩ := hrel
        obtain ⟨l, s', e', hw, ht, hg, hd, hj, hjn, hsl, hj4⟩ := HR.out
        have HW := hide hw
        have HT := hide ht
        have HG := hide hg
        have HDE := hide hd
        have HJ := hide hj
        have c1 := hw.c1
        clear hw ht hg hd hj
        by_cases hlt : (j : Int) < n
        · exfalso; omega
        · skip
          go_wp2
          go_ret
          exact ⟨_, l, s', e', rfl, ⟨HG.out.lst rd_Bn (by decide) (by have := HJ.out; unfold maxLen; omega), by have := HJ.out; omega⟩, HFIN.out j l s' e' HDE.out (by omega) (by omega), HW.out, HT.out⟩
    · skip
      go_wp2_with fail
      refine HF.out.mono ?_
      rintro en w3 ⟨rfl, hw, ht⟩
      replace HT2 := hide (HT2.out.trans ht)
      replace HW2 := hide hw
      clear hw ht HF
      go_wp2
      have HBD := hide hbd
      have HFIN := hide hfin
      clear hbd hfin
      go_loopw [6, 7] (fun v i wr => ∃ j : Nat, i = .int .i64 j ∧ Hid (∃ l s' e', Rw wr F s' e' ∧ Rt F w wr ∧ Grw wr w.heap.size 156 4 RBn v l ∧ De (pMany pBnd j) s1 e2 l s' e' ∧ l.length = j ∧ (j : Int) ≤ max n 0 ∧ s'.length ≤ s.length ∧ j ≤ 4096)) (fun _ i _ => (n - intOf i).toNat)
      case atStart => exact ⟨0, rfl, hide ⟨[], s1, e2, HW2.out, HT2.out, Grw.nil, De.nil (Nat.le_refl _) (fun _ => rfl), rfl, by omega, hl, by omega⟩⟩
      case round =>
        obtain ⟨j, rfl, HR⟩ := hrel
        obtain ⟨l, s', e', hw, ht, hg, hd, hj, hjn, hsl, hj4⟩ := HR.out
        have HW := hide hw
        have HT := hide ht
        have HG := hide hg
        have HDE := hide hd
        have HJ := hide hj
        have c1 := hw.c1
        clear hw ht hg hd hj
        by_cases hlt : (j : Int) < n
        · by_cases he : e' = 0
          · subst he
            have hn4 : n ≤ 4096 := HBD.out (Classical.byContradiction fun hne => hne (HDE.out.2.1 hne).symm)
            exfalso; omega
          · have te : (e' == 0) = false := beq_eq_false_iff_ne.2 he
            go_wp2
            go_ret
            exact ⟨_, l, s', e', rfl, ⟨HG.out.lst rd_Bn (by decide) (by have := HJ.out; unfold maxLen; omega), by have := HJ.out; omega⟩, HFIN.out j l s' e' HDE.out (by omega) (.inr he), HW.out, HT.out⟩
        · skip
          go_wp2
          go_ret
          exact ⟨_, l, s', e', rfl, ⟨HG.out.lst rd_Bn (by decide) (by have := HJ.out; unfold maxLen; omega), by have := HJ.out; omega⟩, HFIN.out j l s' e' HDE.out (by omega) (by omega), HW.out, HT.out⟩
  · have hfin : ∀ (j : Nat) l (s' : Bs) (e' : Int), De (pMany pBnd j) s1 e1 l s' e' → (j : Int) ≤ max n 0 → (n ≤ j ∨ e' ≠ 0) → De (pL pBnd) s e l s' e' := fun j l s' e' hm hj hx => HD.out.list hbad hm (by omega) (by omega)
    have hbd : e1 = 0 → n ≤ 4096 := fun _ => by omega
    obtain ⟨e2, rfl⟩ : ∃ e2, e2 = e1 := ⟨_, rfl⟩
    have hb1 : 0 ≤ n := by omega
    have hb2 : n ≤ 4096 := by omega
    clear HI
    go_wp2
    have HBD := hide hbd
    have HFIN := hide hfin
    clear hbd hfin
    go_loopw [6, 7] (fun v i wr => ∃ j : Nat, i = .int .i64 j ∧ Hid (∃ l s' e', Rw wr F s' e' ∧ Rt F w wr ∧ Grw wr w.heap.size 156 4 RBn v l ∧ De (pMany pBnd j) s1 e2 l s' e' ∧ l.length = j ∧ (j : Int) ≤ max n 0 ∧ s'.length ≤ s.length ∧ j ≤ 4096)) (fun _ i _ => (n - intOf i).toNat)
    case atStart => exact ⟨0, rfl, hide ⟨[], s1, e2, HW2.out, HT2.out, Grw.nil, De.nil (Nat.le_refl _) (fun _ => rfl), rfl, by omega, hl, by omega⟩⟩
    case round =>
      obtain ⟨j, rfl, HR⟩ := hrel
      obtain ⟨l, s', e', hw, ht, hg, hd, hj, hjn, hsl, hj4⟩ := HR.out
      have HW := hide hw
      have HT := hide ht
      have HG := hide hg
      have HDE := hide hd
      have HJ := hide hj
      have c1 := hw.c1
      clear hw ht hg hd hj
      by_cases hlt : (j : Int) < n
      · by_cases he : e' = 0
        · subst he
          have hn4 : n ≤ 4096 := HBD.out (Classical.byContradiction fun hne => hne (HDE.out.2.1 hne).symm)
          have HONE := hide (dbn_any F s' 0 wr (Nat.le_trans hsl hs) HW.out)
          have hwF : F < wr.heap.size := HW.out.lt
          have hww : w.heap.size ≤ wr.heap.size := HT.out.kp.1
          go_wp2_with fail
          refine HONE.out.mono ?_
          rintro en w3 ⟨_, x, s3, e3, rfl, ⟨_, rfl, rfl, hg⟩, hd, hw, ht⟩
          have HX : Hid (RBn w3 (wr.heap.size ≤ ·) [.int .i64 x.v, .int .i64 x.t, .int .i64 x.s, .int .i64 x.q] x) := hide ⟨rfl, hg⟩
          clear hg
          have HD3 := hide hd
          have HW3 := hide hw
          have HT3 := hide ht
          have HG3 := hide (HG.out.keep rd_Bn ht hF)
          have hlow := HG.out.low
          have HLOW := hide hlow
          have hlen : l.length < 1099511627776 := by have := HJ.out; omega
          have hlen2 := ht.kp.1
          clear hd hw ht hlow c1
          go_wp2_with (go_loud (at_builtin; refine wpList_append_grw rd_Bn rl_Bn rfl _ _ 80 rfl w.heap.size 156 i0 _ 32 Tryz.underlying80 hi0 hz0 [.int .i64 x.v, .int .i64 x.t, .int .i64 x.s, .int .i64 x.q] hz1 hz2 rfl (by simp) u6 _ rfl HG3.out _ rfl (by simp [Value.oneCell']) x HX.out (by exact hww) HLOW.out hlen (by decide) ?c3 ?_; (case c3 => exact Nat.le_trans hww hlen2); intro v2 w4 hg4 hb4 hs4))
          have HR2 : Hid (∃ l s' e', Rw w4 F s' e' ∧ Rt F w w4 ∧ Grw w4 w.heap.size 156 4 RBn v2 l ∧ De (pMany pBnd (j + 1)) s1 e2 l s' e' ∧ l.length = j + 1 ∧ ((j + 1 : Nat) : Int) ≤ max n 0 ∧ s'.length ≤ s.length ∧ j + 1 ≤ 4096) :=
            hide ⟨l ++ [x], s3, e3, HW3.out.low hb4 hF, (HT.out.trans HT3.out).below hb4 (Nat.le_of_lt hF), hg4, HDE.out.snoc HD3.out, by rw [List.length_append, HJ.out]; rfl, by omega, Nat.le_trans HD3.out.1 hsl, by omega⟩
          clear hg4 hb4 HG3 HX HD3 HW3 HT3 HLOW hs4 hlen2
          go_wp2
          go_roundw
          case rel => exact ⟨j + 1, by go_num, HR2⟩
          case measure => simp [intOf]; omega
        · have te : (e' == 0) = false := beq_eq_false_iff_ne.2 he
          go_wp2
          go_ret
          exact ⟨_, l, s', e', rfl, ⟨HG.out.lst rd_Bn (by decide) (by have := HJ.out; unfold maxLen; omega), by have := HJ.out; omega⟩, HFIN.out j l s' e' HDE.out (by omega) (.inr he), HW.out, HT.out⟩
      · skip
        go_wp2
        go_ret
        exact ⟨_, l, s', e', rfl, ⟨HG.out.lst rd_Bn (by decide) (by have := HJ.out; unfold maxLen; omega), by have := HJ.out; omega⟩, HFIN.out j l s' e' HDE.out (by omega) (by omega), HW.out, HT.out⟩
end
end Go.Proofs.YtofdcgojgcnopaaGreat

namespace Go.Proofs.YtofdcgojgcnopaaGreat
open Go.RowKit
set_option linter.unusedVariables false
set_option linter.unusedSimpArgs false
section
variable (F : Nat) (s : Bs) (e : Int) (w : World)
set_option maxRecDepth 100000 in
set_option maxHeartbeats 8000000 in
theorem dsr_any (hs : s.length ≤ 100000000) (h : Rw w F s e) : Calls Tryz.prog 110 #[.pointer (some ⟨F, 0, none⟩)] w (Rds F pSrt (RA RSr w.heap.size) s e w) := by
  have hF := h.lt
  have HT := hide (Rt.laid h (.cells #[.int .i64 0, .int .i64 0] 158))
  have HR := hide (Bo.new hF [.int .i64 0, .int .i64 0] 158)
  have HW := hide (h.laid (.cells #[.int .i64 0, .int .i64 0] 158))
  clear h
  go_enter Tryz.func110, Tryz.ntmps110
  have HCL := hide (dint_any F s e (w.alloc (.cells #[.int .i64 0, .int .i64 0] 158)) (by omega) HW.out)
  go_wp2_with fail
  refine HCL.out.mono ?_
  rintro en w1 ⟨_, x1, s1, e1, rfl, ⟨rfl, hg⟩, hd, hw, ht⟩
  have HD1 := hide hd
  have hl1 : s1.length ≤ s.length := hd.1
  have HG1 := hide hg
  have hz1 : w.heap.size + 1 ≤ w1.heap.size := by have := ht.kp.1; simpa using this
  replace HT := hide (HT.out.trans ht)
  replace HR := hide (HR.out.keep ht)
  have HW := hide hw
  clear hd hw ht HCL hg
  have HCL := hide (dint_any F s1 e1 w1 (by omega) HW.out)
  go_wp2_with fail
  refine HCL.out.mono ?_
  rintro en w2 ⟨_, x2, s2, e2, rfl, ⟨rfl, hg⟩, hd, hw, ht⟩
  have HD2 := hide hd
  have hl2 : s2.length ≤ s1.length := hd.1
  have HG2 := hide hg
  have hz2 : w1.heap.size ≤ w2.heap.size := by have := ht.kp.1; simpa using this
  replace HT := hide (HT.out.trans ht)
  replace HR := hide (HR.out.keep ht)
  have HW := hide hw
  clear hd hw ht HCL hg
  obtain ⟨-, bb, bf⟩ := HR.out
  have r0 := bb 0 _ rfl
  have g0 := bf 0 (by simp)
  have r1 := bb 1 _ rfl
  have g1 := bf 1 (by simp)
  clear bb bf
  have hrk : w.heap.size < w2.heap.size := by omega
  go_wp2
  refine bodyPost_ret (v := .agg #[.int .i64 x1, .int .i64 x2]) (by rw [results_c rfl]; go_simp) rfl ?_
  exact ⟨_, ⟨x1, x2⟩, s2, e2, rfl, ⟨_, rfl, rfl, HG1.out, HG2.out⟩, by unfold pSrt; exact (HD1.out.bind (HD2.out.bind (De.ret _))), ((HW.out.far (b := w.heap.size) (by omega) 0 _).far (b := w.heap.size) (by omega) 1 _), ((HT.out.own (b := w.heap.size) (Nat.le_refl _) hF 0 _).own (b := w.heap.size) (Nat.le_refl _) hF 1 _)⟩
end
end Go.Proofs.YtofdcgojgcnopaaGreat

namespace Go.Proofs.YtofdcgojgcnopaaGreat
open Go.RowKit
set_option linter.unusedVariables false
set_option linter.unusedSimpArgs false
section
variable (F : Nat) (s : Bs) (e : Int) (w : World)
set_option maxRecDepth 100000 in
set_option maxHeartbeats 8000000 in
theorem getSr_any (hs : s.length ≤ 100000000) (h : Rw w F s e) : Calls Tryz.prog 109 #[.pointer (some ⟨F, 0, none⟩), .func (.func 110) #[.pointer (some ⟨F, 0, none⟩)] #[]] w (Rds F (pL pSrt) (RLs 2 RSr w.heap.size) s e w) := by
  have HI := hide (dint_any F s e w hs h)
  have hF := h.lt
  obtain ⟨i0, hi0, hz0, hz1, hz2⟩ := info_parts info_start
  clear h
  go_enter Tryz.func109, Tryz.ntmps109
  go_wp2_with fail
  refine HI.out.mono ?_
  rintro en w2 ⟨_, n, s1, e1, rfl, ⟨rfl, hn⟩, hd, hw, ht⟩
  have HD := hide hd
  have HW2 := hide hw
  have HT2 := hide ht
  have hl := hd.1
  unfold inI at hn
  clear hd hw ht
  by_cases hbad : n < 0 ∨ 4096 < n
  · have HF := hide (dfail_any F s1 e1 w2 5 HW2.out)
    have hfin : ∀ (j : Nat) l (s' : Bs) (e' : Int), De (pMany pSrt j) s1 (if e1 = 0 then 5 else e1) l s' e' → (j : Int) ≤ max n 0 → (n ≤ j ∨ e' ≠ 0) → De (pL pSrt) s e l s' e' := fun j l s' e' hm _ _ => HD.out.listBad hbad hm
    obtain ⟨e2, he2⟩ : ∃ e2, (if e1 = 0 then 5 else e1) = e2 := ⟨_, rfl⟩
    have hne : e2 ≠ 0 := by rw [← he2]; split <;> omega
    have hbd : e2 = 0 → n ≤ 4096 := fun h => absurd h hne
    rw [he2] at HF hfin
    clear he2 hne HI
    rcases hbad with hb1 | hb1
    · skip
      go_wp2_with fail
      refine HF.out.mono ?_
      rintro en w3 ⟨rfl, hw, ht⟩
      replace HT2 := hide (HT2.out.trans ht)
      replace HW2 := hide hw
      clear hw ht HF
      go_wp2
      have HBD := hide hbd
      have HFIN := hide hfin
      clear hbd hfin
      go_loopw [6, 7] (fun v i wr => ∃ j : Nat, i = .int .i64 j ∧ Hid (∃ l s' e', Rw wr F s' e' ∧ Rt F w wr ∧ Grw wr w.heap.size 158 2 RSr v l ∧ De (pMany pSrt j) s1 e2 l s' e' ∧ l.length = j ∧ (j : Int) ≤ max n 0 ∧ s'.length ≤ s.length ∧ j ≤ 4096)) (fun _ i _ => (n - intOf i).toNat)
      case atStart => exact ⟨0, rfl, hide ⟨[], s1, e2, HW2.out, HT2.out, Grw.nil, De.nil (Nat.le_refl _) (fun _ => rfl), rfl, by omega, hl, by omega⟩⟩
      case round =>
        obtain ⟨j, rfl, HR⟩ := hrel
        obtain ⟨l, s', e', hw, ht, hg, hd, hj, hjn, hsl, hj4⟩ := HR.out
        have HW := hide hw
        have HT := hide ht
        have HG := hide hg
        have HDE := hide hd
        have HJ := hide hj
        have c1 := hw.c1
        clear hw ht hg hd hj
        by_cases hlt : (j : Int) < n
        · exfalso; omega
        · skip
          go_wp2
          go_ret
          exact ⟨_, l, s', e', rfl, ⟨HG.out.lst rd_Sr (by decide) (by have := HJ.out; unfold maxLen; omega), by have := HJ.out; omega⟩, HFIN.out j l s' e' HDE.out (by omega) (by omega), HW.out, HT.out⟩
    · skip
      go_wp2_with fail
      refine HF.out.mono ?_
      rintro en w3 ⟨rfl, hw, ht⟩
      replace HT2 := hide (HT2.out.trans ht)
      replace HW2 := hide hw
      clear hw ht HF
      go_wp2
      have HBD := hide hbd
      have HFIN := hide hfin
      clear hbd hfin
      go_loopw [6, 7] (fun v i wr => ∃ j : Nat, i = .int .i64 j ∧ Hid (∃ l s' e', Rw wr F s' e' ∧ Rt F w wr ∧ Grw wr w.heap.size 158 2 RSr v l ∧ De (pMany pSrt j) s1 e2 l s' e' ∧ l.length = j ∧ (j : Int) ≤ max n 0 ∧ s'.length ≤ s.length ∧ j ≤ 4096)) (fun _ i _ => (n - intOf i).toNat)
      case atStart => exact ⟨0, rfl, hide ⟨[], s1, e2, HW2.out, HT2.out, Grw.nil, De.nil (Nat.le_refl _) (fun _ => rfl), rfl, by omega, hl, by omega⟩⟩
      case round =>
        obtain ⟨j, rfl, HR⟩ := hrel
        obtain ⟨l, s', e', hw, ht, hg, hd, hj, hjn, hsl, hj4⟩ := HR.out
        have HW := hide hw
        have HT := hide ht
        have HG := hide hg
        have HDE := hide hd
        have HJ := hide hj
        have c1 := hw.c1
        clear hw ht hg hd hj
        by_cases hlt : (j : Int) < n
        · by_cases he : e' = 0
          · subst he
            have hn4 : n ≤ 4096 := HBD.out (Classical.byContradiction fun hne => hne (HDE.out.2.1 hne).symm)
            exfalso; omega
          · have te : (e' == 0) = false := beq_eq_false_iff_ne.2 he
            go_wp2
            go_ret
            exact ⟨_, l, s', e', rfl, ⟨HG.out.lst rd_Sr (by decide) (by have := HJ.out; unfold maxLen; omega), by have := HJ.out; omega⟩, HFIN.out j l s' e' HDE.out (by omega) (.inr he), HW.out, HT.out⟩
        · skip
          go_wp2
          go_ret
          exact ⟨_, l, s', e', rfl, ⟨HG.out.lst rd_Sr (by decide) (by have := HJ.out; unfold maxLen; omega), by have := HJ.out; omega⟩, HFIN.out j l s' e' HDE.out (by omega) (by omega), HW.out, HT.out⟩
  · have hfin : ∀ (j : Nat) l (s' : Bs) (e' : Int), De (pMany pSrt j) s1 e1 l s' e' → (j : Int) ≤ max n 0 → (n ≤ j ∨ e' ≠ 0) → De (pL pSrt) s e l s' e' := fun j l s' e' hm hj hx => HD.out.list hbad hm (by omega) (by omega)
    have hbd : e1 = 0 → n ≤ 4096 := fun _ => by omega
    obtain ⟨e2, rfl⟩ : ∃ e2, e2 = e1 := ⟨_, rfl⟩
    have hb1 : 0 ≤ n := by omega
    have hb2 : n ≤ 4096 := by omega
    clear HI
    go_wp2
    have HBD := hide hbd
    have HFIN := hide hfin
    clear hbd hfin
    go_loopw [6, 7] (fun v i wr => ∃ j : Nat, i = .int .i64 j ∧ Hid (∃ l s' e', Rw wr F s' e' ∧ Rt F w wr ∧ Grw wr w.heap.size 158 2 RSr v l ∧ De (pMany pSrt j) s1 e2 l s' e' ∧ l.length = j ∧ (j : Int) ≤ max n 0 ∧ s'.length ≤ s.length ∧ j ≤ 4096)) (fun _ i _ => (n - intOf i).toNat)
    case atStart => exact ⟨0, rfl, hide ⟨[], s1, e2, HW2.out, HT2.out, Grw.nil, De.nil (Nat.le_refl _) (fun _ => rfl), rfl, by omega, hl, by omega⟩⟩
    case round =>
      obtain ⟨j, rfl, HR⟩ := hrel
      obtain ⟨l, s', e', hw, ht, hg, hd, hj, hjn, hsl, hj4⟩ := HR.out
      have HW := hide hw
      have HT := hide ht
      have HG := hide hg
      have HDE := hide hd
      have HJ := hide hj
      have c1 := hw.c1
      clear hw ht hg hd hj
      by_cases hlt : (j : Int) < n
      · by_cases he : e' = 0
        · subst he
          have hn4 : n ≤ 4096 := HBD.out (Classical.byContradiction fun hne => hne (HDE.out.2.1 hne).symm)
          have HONE := hide (dsr_any F s' 0 wr (Nat.le_trans hsl hs) HW.out)
          have hwF : F < wr.heap.size := HW.out.lt
          have hww : w.heap.size ≤ wr.heap.size := HT.out.kp.1
          go_wp2_with fail
          refine HONE.out.mono ?_
          rintro en w3 ⟨_, x, s3, e3, rfl, ⟨_, rfl, rfl, hg⟩, hd, hw, ht⟩
          have HX : Hid (RSr w3 (wr.heap.size ≤ ·) [.int .i64 x.s, .int .i64 x.t] x) := hide ⟨rfl, hg⟩
          clear hg
          have HD3 := hide hd
          have HW3 := hide hw
          have HT3 := hide ht
          have HG3 := hide (HG.out.keep rd_Sr ht hF)
          have hlow := HG.out.low
          have HLOW := hide hlow
          have hlen : l.length < 1099511627776 := by have := HJ.out; omega
          have hlen2 := ht.kp.1
          clear hd hw ht hlow c1
          go_wp2_with (go_loud (at_builtin; refine wpList_append_grw rd_Sr rl_Sr rfl _ _ 81 rfl w.heap.size 158 i0 _ 16 Tryz.underlying81 hi0 hz0 [.int .i64 x.s, .int .i64 x.t] hz1 hz2 rfl (by simp) u6 _ rfl HG3.out _ rfl (by simp [Value.oneCell']) x HX.out (by exact hww) HLOW.out hlen (by decide) ?c3 ?_; (case c3 => exact Nat.le_trans hww hlen2); intro v2 w4 hg4 hb4 hs4))
          have HR2 : Hid (∃ l s' e', Rw w4 F s' e' ∧ Rt F w w4 ∧ Grw w4 w.heap.size 158 2 RSr v2 l ∧ De (pMany pSrt (j + 1)) s1 e2 l s' e' ∧ l.length = j + 1 ∧ ((j + 1 : Nat) : Int) ≤ max n 0 ∧ s'.length ≤ s.length ∧ j + 1 ≤ 4096) :=
            hide ⟨l ++ [x], s3, e3, HW3.out.low hb4 hF, (HT.out.trans HT3.out).below hb4 (Nat.le_of_lt hF), hg4, HDE.out.snoc HD3.out, by rw [List.length_append, HJ.out]; rfl, by omega, Nat.le_trans HD3.out.1 hsl, by omega⟩
          clear hg4 hb4 HG3 HX HD3 HW3 HT3 HLOW hs4 hlen2
          go_wp2
          go_roundw
          case rel => exact ⟨j + 1, by go_num, HR2⟩
          case measure => simp [intOf]; omega
        · have te : (e' == 0) = false := beq_eq_false_iff_ne.2 he
          go_wp2
          go_ret
          exact ⟨_, l, s', e', rfl, ⟨HG.out.lst rd_Sr (by decide) (by have := HJ.out; unfold maxLen; omega), by have := HJ.out; omega⟩, HFIN.out j l s' e' HDE.out (by omega) (.inr he), HW.out, HT.out⟩
      · skip
        go_wp2
        go_ret
        exact ⟨_, l, s', e', rfl, ⟨HG.out.lst rd_Sr (by decide) (by have := HJ.out; unfold maxLen; omega), by have := HJ.out; omega⟩, HFIN.out j l s' e' HDE.out (by omega) (by omega), HW.out, HT.out⟩
end
end Go.Proofs.YtofdcgojgcnopaaGreat

namespace Go.Proofs.YtofdcgojgcnopaaGreat
open Go.RowKit
set_option linter.unusedVariables false
set_option linter.unusedSimpArgs false
section
variable (F : Nat) (s : Bs) (e : Int) (w : World)
set_option maxRecDepth 100000 in
set_option maxHeartbeats 8000000 in
theorem dcf_any (hs : s.length ≤ 100000000) (h : Rw w F s e) : Calls Tryz.prog 103 #[.pointer (some ⟨F, 0, none⟩)] w (Rds F pCfg (RA RCf w.heap.size) s e w) := by
  have hF := h.lt
  have HT := hide (Rt.laid h (.cells #[.int .i64 0, .slice none 0 0, .slice none 0 0] 83))
  have HR := hide (Bo.new hF [.int .i64 0, .slice none 0 0, .slice none 0 0] 83)
  have HW := hide (h.laid (.cells #[.int .i64 0, .slice none 0 0, .slice none 0 0] 83))
  clear h
  go_enter Tryz.func103, Tryz.ntmps103
  have HCL := hide (dint_any F s e (w.alloc (.cells #[.int .i64 0, .slice none 0 0, .slice none 0 0] 83)) (by omega) HW.out)
  go_wp2_with fail
  refine HCL.out.mono ?_
  rintro en w1 ⟨_, x1, s1, e1, rfl, ⟨rfl, hg⟩, hd, hw, ht⟩
  have HD1 := hide hd
  have hl1 : s1.length ≤ s.length := hd.1
  have HG1 := hide hg
  have hz1 : w.heap.size + 1 ≤ w1.heap.size := by have := ht.kp.1; simpa using this
  replace HT := hide (HT.out.trans ht)
  replace HR := hide (HR.out.keep ht)
  have HW := hide hw
  clear hd hw ht HCL hg
  have hwl := HW.out.lt
  have HB := hide (Bo.new hwl [.int .i64 x1, .slice none 0 0, .slice none 0 0] 83)
  replace HT := hide (HT.out.trans (Rt.laid HW.out (.cells #[.int .i64 x1, .slice none 0 0, .slice none 0 0] 83)))
  replace HR := hide (HR.out.laid (.cells #[.int .i64 x1, .slice none 0 0, .slice none 0 0] 83))
  replace HW := hide (HW.out.laid (.cells #[.int .i64 x1, .slice none 0 0, .slice none 0 0] 83))
  have HCL := hide (getBn_any F s1 e1 (w1.alloc (.cells #[.int .i64 x1, .slice none 0 0, .slice none 0 0] 83)) (by omega) HW.out)
  go_wp2_with fail
  refine HCL.out.mono ?_
  rintro en w2 ⟨_, x2, s2, e2, rfl, ⟨hlst, hlq⟩, hd, hw, ht⟩
  have HD2 := hide hd
  have hl2 : s2.length ≤ s1.length := hd.1
  obtain ⟨A2, c2, rfl⟩ := hlst.form
  have HQ2 := hide hlq
  have hz2 : w1.heap.size + 1 ≤ w2.heap.size := by have := ht.kp.1; simpa using this
  replace HT := hide (HT.out.trans ht)
  replace HR := hide (HR.out.keep ht)
  replace HB := hide (HB.out.keep ht)
  have HL2 : Hid (Lst w2 (fun x => w1.heap.size + 1 ≤ x ∧ x < w2.heap.size) _ _ _ _) := hide (lst_win rd_Bn rl_Bn (sz := 4) (by decide) (by first | exact Nat.le_refl _ | simp) hlst)
  have HW := hide hw
  clear hd hw ht HCL hlst hlq
  obtain ⟨-, bb, bf⟩ := HB.out
  have b1 := bb 1 _ rfl
  have f1 := bf 1 (by simp)
  clear bb bf
  replace HW := hide (HW.out.far (b := w1.heap.size) (by omega) 1 (.slice A2 x2.length c2))
  replace HT := hide (HT.out.own (b := w1.heap.size) (by omega) hF 1 (.slice A2 x2.length c2))
  replace HR := hide (HR.out.far (b' := w1.heap.size) (by omega) 1 (.slice A2 x2.length c2))
  replace HB := hide (HB.out.set (c := 1) (by simp) (.slice A2 x2.length c2))
  replace HL2 := hide (HL2.out.keep rd_Bn (Kp.set ⟨w1.heap.size, 1, none⟩ (.slice A2 x2.length c2) (fun x hx => (by omega : x ≠ w1.heap.size))))
  have HCL := hide (getSr_any F s2 e2 (w2.setCell ⟨w1.heap.size, 1, none⟩ (.slice A2 x2.length c2)) (by omega) HW.out)
  go_wp2_with fail
  refine HCL.out.mono ?_
  rintro en w3 ⟨_, x3, s3, e3, rfl, ⟨hlst, hlq⟩, hd, hw, ht⟩
  have HD3 := hide hd
  have hl3 : s3.length ≤ s2.length := hd.1
  obtain ⟨A3, c3, rfl⟩ := hlst.form
  have HQ3 := hide hlq
  have hz3 : w2.heap.size ≤ w3.heap.size := by have := ht.kp.1; simpa using this
  replace HT := hide (HT.out.trans ht)
  replace HR := hide (HR.out.keep ht)
  replace HB := hide (HB.out.keep ht)
  replace HL2 := hide (HL2.out.keep rd_Bn (ht.kp.less fun x hx => (by omega : x ≠ F)))
  have HL3 : Hid (Lst w3 (fun x => w2.heap.size ≤ x ∧ x < w3.heap.size) _ _ _ _) := hide (lst_win rd_Sr rl_Sr (sz := 2) (by decide) (by first | exact Nat.le_refl _ | simp) hlst)
  have HW := hide hw
  clear hd hw ht HCL hlst hlq
  clear b1 f1
  obtain ⟨-, bb, bf⟩ := HB.out
  have b0 := bb 0 _ rfl
  have f0 := bf 0 (by simp)
  have b1 := bb 1 _ rfl
  have f1 := bf 1 (by simp)
  have b2 := bb 2 _ rfl
  have f2 := bf 2 (by simp)
  clear bb bf
  obtain ⟨-, bb, bf⟩ := HR.out
  have r0 := bb 0 _ rfl
  have g0 := bf 0 (by simp)
  have r1 := bb 1 _ rfl
  have g1 := bf 1 (by simp)
  have r2 := bb 2 _ rfl
  have g2 := bf 2 (by simp)
  clear bb bf
  have hrk : w.heap.size < w3.heap.size := by omega
  have hbk : w1.heap.size < w3.heap.size := by omega
  replace HW := hide (HW.out.far (b := w1.heap.size) (by omega) 2 (.slice A3 x3.length c3))
  replace HT := hide (HT.out.own (b := w1.heap.size) (by omega) hF 2 (.slice A3 x3.length c3))
  replace HR := hide (HR.out.far (b' := w1.heap.size) (by omega) 2 (.slice A3 x3.length c3))
  replace HB := hide (HB.out.set (c := 2) (by simp) (.slice A3 x3.length c3))
  replace HL2 := hide (HL2.out.keep rd_Bn (Kp.set ⟨w1.heap.size, 2, none⟩ (.slice A3 x3.length c3) (fun x hx => (by omega : x ≠ w1.heap.size))))
  replace HL3 := hide (HL3.out.keep rd_Sr (Kp.set ⟨w1.heap.size, 2, none⟩ (.slice A3 x3.length c3) (fun x hx => (by omega : x ≠ w1.heap.size))))
  go_wp2
  refine bodyPost_ret (v := .agg #[.int .i64 x1, .slice A2 x2.length c2, .slice A3 x3.length c3]) (by rw [results_c rfl]; go_simp) rfl ?_
  exact ⟨_, ⟨x1, x2, x3⟩, s3, e3, rfl, ⟨_, rfl, ⟨_, _, rfl, (lst_out rd_Bn HL2.out (by exact (((Kp.set ⟨w.heap.size, 0, none⟩ _ (fun (x : Nat) (hx : w1.heap.size + 1 ≤ x ∧ x < w2.heap.size) => (by omega : x ≠ w.heap.size))).trans (Kp.set ⟨w.heap.size, 1, none⟩ _ (fun (x : Nat) (hx : w1.heap.size + 1 ≤ x ∧ x < w2.heap.size) => (by omega : x ≠ w.heap.size)))).trans (Kp.set ⟨w.heap.size, 2, none⟩ _ (fun (x : Nat) (hx : w1.heap.size + 1 ≤ x ∧ x < w2.heap.size) => (by omega : x ≠ w.heap.size))))) (by omega)), (lst_out rd_Sr HL3.out (by exact (((Kp.set ⟨w.heap.size, 0, none⟩ _ (fun (x : Nat) (hx : w2.heap.size ≤ x ∧ x < w3.heap.size) => (by omega : x ≠ w.heap.size))).trans (Kp.set ⟨w.heap.size, 1, none⟩ _ (fun (x : Nat) (hx : w2.heap.size ≤ x ∧ x < w3.heap.size) => (by omega : x ≠ w.heap.size)))).trans (Kp.set ⟨w.heap.size, 2, none⟩ _ (fun (x : Nat) (hx : w2.heap.size ≤ x ∧ x < w3.heap.size) => (by omega : x ≠ w.heap.size))))) (by omega)), HG1.out⟩⟩, by unfold pCfg; exact (HD1.out.bind (HD2.out.bind (HD3.out.bind (De.ret _)))), (((HW.out.far (b := w.heap.size) (by omega) 0 _).far (b := w.heap.size) (by omega) 1 _).far (b := w.heap.size) (by omega) 2 _), (((HT.out.own (b := w.heap.size) (Nat.le_refl _) hF 0 _).own (b := w.heap.size) (Nat.le_refl _) hF 1 _).own (b := w.heap.size) (Nat.le_refl _) hF 2 _)⟩
end
end Go.Proofs.YtofdcgojgcnopaaGreat

namespace Go.Proofs.YtofdcgojgcnopaaGreat
open Go.RowKit
set_option linter.unusedVariables false
set_option linter.unusedSimpArgs false
section
variable (F : Nat) (s : Bs) (e : Int) (w : World)
set_option maxRecDepth 100000 in
set_option maxHeartbeats 8000000 in
theorem getCf_any (hs : s.length ≤ 100000000) (h : Rw w F s e) : Calls Tryz.prog 102 #[.pointer (some ⟨F, 0, none⟩), .func (.func 103) #[.pointer (some ⟨F, 0, none⟩)] #[]] w (Rds F (pL pCfg) (RLs 3 RCf w.heap.size) s e w) := by
  have HI := hide (dint_any F s e w hs h)
  have hF := h.lt
  obtain ⟨i0, hi0, hz0, hz1, hz2⟩ := info_parts info_config
  clear h
  go_enter Tryz.func102, Tryz.ntmps102
  go_wp2_with fail
  refine HI.out.mono ?_
  rintro en w2 ⟨_, n, s1, e1, rfl, ⟨rfl, hn⟩, hd, hw, ht⟩
  have HD := hide hd
  have HW2 := hide hw
  have HT2 := hide ht
  have hl := hd.1
  unfold inI at hn
  clear hd hw ht
  by_cases hbad : n < 0 ∨ 4096 < n
  · have HF := hide (dfail_any F s1 e1 w2 5 HW2.out)
    have hfin : ∀ (j : Nat) l (s' : Bs) (e' : Int), De (pMany pCfg j) s1 (if e1 = 0 then 5 else e1) l s' e' → (j : Int) ≤ max n 0 → (n ≤ j ∨ e' ≠ 0) → De (pL pCfg) s e l s' e' := fun j l s' e' hm _ _ => HD.out.listBad hbad hm
    obtain ⟨e2, he2⟩ : ∃ e2, (if e1 = 0 then 5 else e1) = e2 := ⟨_, rfl⟩
    have hne : e2 ≠ 0 := by rw [← he2]; split <;> omega
    have hbd : e2 = 0 → n ≤ 4096 := fun h => absurd h hne
    rw [he2] at HF hfin
    clear he2 hne HI
    rcases hbad with hb1 | hb1
    · skip
      go_wp2_with fail
      refine HF.out.mono ?_
      rintro en w3 ⟨rfl, hw, ht⟩
      replace HT2 := hide (HT2.out.trans ht)
      replace HW2 := hide hw
      clear hw ht HF
      go_wp2
      have HBD := hide hbd
      have HFIN := hide hfin
      clear hbd hfin
      go_loopw [6, 7] (fun v i wr => ∃ j : Nat, i = .int .i64 j ∧ Hid (∃ l s' e', Rw wr F s' e' ∧ Rt F w wr ∧ Grw wr w.heap.size 83 3 RCf v l ∧ De (pMany pCfg j) s1 e2 l s' e' ∧ l.length = j ∧ (j : Int) ≤ max n 0 ∧ s'.length ≤ s.length ∧ j ≤ 4096)) (fun _ i _ => (n - intOf i).toNat)
      case atStart => exact ⟨0, rfl, hide ⟨[], s1, e2, HW2.out, HT2.out, Grw.nil, De.nil (Nat.le_refl _) (fun _ => rfl), rfl, by omega, hl, by omega⟩⟩
      case round =>
        obtain ⟨j, rfl, HR⟩ := hrel
        obtain ⟨l, s', e', hw, ht, hg, hd, hj, hjn, hsl, hj4⟩ := HR.out
        have HW := hide hw
        have HT := hide ht
        have HG := hide hg
        have HDE := hide hd
        have HJ := hide hj
        have c1 := hw.c1
        clear hw ht hg hd hj
        by_cases hlt : (j : Int) < n
        · exfalso; omega
        · skip
          go_wp2
          go_ret
          exact ⟨_, l, s', e', rfl, ⟨HG.out.lst rd_Cf (by decide) (by have := HJ.out; unfold maxLen; omega), by have := HJ.out; omega⟩, HFIN.out j l s' e' HDE.out (by omega) (by omega), HW.out, HT.out⟩
    · skip
      go_wp2_with fail
      refine HF.out.mono ?_
      rintro en w3 ⟨rfl, hw, ht⟩
      replace HT2 := hide (HT2.out.trans ht)
      replace HW2 := hide hw
      clear hw ht HF
      go_wp2
      have HBD := hide hbd
      have HFIN := hide hfin
      clear hbd hfin
      go_loopw [6, 7] (fun v i wr => ∃ j : Nat, i = .int .i64 j ∧ Hid (∃ l s' e', Rw wr F s' e' ∧ Rt F w wr ∧ Grw wr w.heap.size 83 3 RCf v l ∧ De (pMany pCfg j) s1 e2 l s' e' ∧ l.length = j ∧ (j : Int) ≤ max n 0 ∧ s'.length ≤ s.length ∧ j ≤ 4096)) (fun _ i _ => (n - intOf i).toNat)
      case atStart => exact ⟨0, rfl, hide ⟨[], s1, e2, HW2.out, HT2.out, Grw.nil, De.nil (Nat.le_refl _) (fun _ => rfl), rfl, by omega, hl, by omega⟩⟩
      case round =>
        obtain ⟨j, rfl, HR⟩ := hrel
        obtain ⟨l, s', e', hw, ht, hg, hd, hj, hjn, hsl, hj4⟩ := HR.out
        have HW := hide hw
        have HT := hide ht
        have HG := hide hg
        have HDE := hide hd
        have HJ := hide hj
        have c1 := hw.c1
        clear hw ht hg hd hj
        by_cases hlt : (j : Int) < n
        · by_cases he : e' = 0
          · subst he
            have hn4 : n ≤ 4096 := HBD.out (Classical.byContradiction fun hne => hne (HDE.out.2.1 hne).symm)
            exfalso; omega
          · have te : (e' == 0) = false := beq_eq_false_iff_ne.2 he
            go_wp2
            go_ret
            exact ⟨_, l, s', e', rfl, ⟨HG.out.lst rd_Cf (by decide) (by have := HJ.out; unfold maxLen; omega), by have := HJ.out; omega⟩, HFIN.out j l s' e' HDE.out (by omega) (.inr he), HW.out, HT.out⟩
        · skip
          go_wp2
          go_ret
          exact ⟨_, l, s', e', rfl, ⟨HG.out.lst rd_Cf (by decide) (by have := HJ.out; unfold maxLen; omega), by have := HJ.out; omega⟩, HFIN.out j l s' e' HDE.out (by omega) (by omega), HW.out, HT.out⟩
  · have hfin : ∀ (j : Nat) l (s' : Bs) (e' : Int), De (pMany pCfg j) s1 e1 l s' e' → (j : Int) ≤ max n 0 → (n ≤ j ∨ e' ≠ 0) → De (pL pCfg) s e l s' e' := fun j l s' e' hm hj hx => HD.out.list hbad hm (by omega) (by omega)
    have hbd : e1 = 0 → n ≤ 4096 := fun _ => by omega
    obtain ⟨e2, rfl⟩ : ∃ e2, e2 = e1 := ⟨_, rfl⟩
    have hb1 : 0 ≤ n := by omega
    have hb2 : n ≤ 4096 := by omega
    clear HI
    go_wp2
    have HBD := hide hbd
    have HFIN := hide hfin
    clear hbd hfin
    go_loopw [6, 7] (fun v i wr => ∃ j : Nat, i = .int .i64 j ∧ Hid (∃ l s' e', Rw wr F s' e' ∧ Rt F w wr ∧ Grw wr w.heap.size 83 3 RCf v l ∧ De (pMany pCfg j) s1 e2 l s' e' ∧ l.length = j ∧ (j : Int) ≤ max n 0 ∧ s'.length ≤ s.length ∧ j ≤ 4096)) (fun _ i _ => (n - intOf i).toNat)
    case atStart => exact ⟨0, rfl, hide ⟨[], s1, e2, HW2.out, HT2.out, Grw.nil, De.nil (Nat.le_refl _) (fun _ => rfl), rfl, by omega, hl, by omega⟩⟩
    case round =>
      obtain ⟨j, rfl, HR⟩ := hrel
      obtain ⟨l, s', e', hw, ht, hg, hd, hj, hjn, hsl, hj4⟩ := HR.out
      have HW := hide hw
      have HT := hide ht
      have HG := hide hg
      have HDE := hide hd
      have HJ := hide hj
      have c1 := hw.c1
      clear hw ht hg hd hj
      by_cases hlt : (j : Int) < n
      · by_cases he : e' = 0
        · subst he
          have hn4 : n ≤ 4096 := HBD.out (Classical.byContradiction fun hne => hne (HDE.out.2.1 hne).symm)
          have HONE := hide (dcf_any F s' 0 wr (Nat.le_trans hsl hs) HW.out)
          have hwF : F < wr.heap.size := HW.out.lt
          have hww : w.heap.size ≤ wr.heap.size := HT.out.kp.1
          go_wp2_with fail
          refine HONE.out.mono ?_
          rintro en w3 ⟨_, x, s3, e3, rfl, ⟨_, rfl, u, v, rfl, hla, hlb, hg⟩, hd, hw, ht⟩
          obtain ⟨A9, c9, rfl⟩ := hla.form
          obtain ⟨A8, c8, rfl⟩ := hlb.form
          have HX : Hid (RCf w3 (wr.heap.size ≤ ·) [.int .i64 x.st, .slice A9 x.bs.length c9, .slice A8 x.ss.length c8] x) := hide ⟨_, _, rfl, hla, hlb, hg⟩
          clear hla hlb hg
          have HD3 := hide hd
          have HW3 := hide hw
          have HT3 := hide ht
          have HG3 := hide (HG.out.keep rd_Cf ht hF)
          have hlow := HG.out.low
          have HLOW := hide hlow
          have hlen : l.length < 1099511627776 := by have := HJ.out; omega
          have hlen2 := ht.kp.1
          clear hd hw ht hlow c1
          go_wp2_with (go_loud (at_builtin; refine wpList_append_grw rd_Cf rl_Cf rfl _ _ 51 rfl w.heap.size 83 i0 _ 56 Tryz.underlying51 hi0 hz0 [.int .i64 x.st, .slice A9 x.bs.length c9, .slice A8 x.ss.length c8] hz1 hz2 rfl (by simp) u6 _ rfl HG3.out _ rfl (by simp [Value.oneCell']) x HX.out (by exact hww) HLOW.out hlen (by decide) ?c3 ?_; (case c3 => exact Nat.le_trans hww hlen2); intro v2 w4 hg4 hb4 hs4))
          have HR2 : Hid (∃ l s' e', Rw w4 F s' e' ∧ Rt F w w4 ∧ Grw w4 w.heap.size 83 3 RCf v2 l ∧ De (pMany pCfg (j + 1)) s1 e2 l s' e' ∧ l.length = j + 1 ∧ ((j + 1 : Nat) : Int) ≤ max n 0 ∧ s'.length ≤ s.length ∧ j + 1 ≤ 4096) :=
            hide ⟨l ++ [x], s3, e3, HW3.out.low hb4 hF, (HT.out.trans HT3.out).below hb4 (Nat.le_of_lt hF), hg4, HDE.out.snoc HD3.out, by rw [List.length_append, HJ.out]; rfl, by omega, Nat.le_trans HD3.out.1 hsl, by omega⟩
          clear hg4 hb4 HG3 HX HD3 HW3 HT3 HLOW hs4 hlen2
          go_wp2
          go_roundw
          case rel => exact ⟨j + 1, by go_num, HR2⟩
          case measure => simp [intOf]; omega
        · have te : (e' == 0) = false := beq_eq_false_iff_ne.2 he
          go_wp2
          go_ret
          exact ⟨_, l, s', e', rfl, ⟨HG.out.lst rd_Cf (by decide) (by have := HJ.out; unfold maxLen; omega), by have := HJ.out; omega⟩, HFIN.out j l s' e' HDE.out (by omega) (.inr he), HW.out, HT.out⟩
      · skip
        go_wp2
        go_ret
        exact ⟨_, l, s', e', rfl, ⟨HG.out.lst rd_Cf (by decide) (by have := HJ.out; unfold maxLen; omega), by have := HJ.out; omega⟩, HFIN.out j l s' e' HDE.out (by omega) (by omega), HW.out, HT.out⟩
end
end Go.Proofs.YtofdcgojgcnopaaGreat

namespace Go.Proofs.YtofdcgojgcnopaaGreat
open Go.RowKit
set_option linter.unusedVariables false
set_option linter.unusedSimpArgs false
section
variable (F : Nat) (s : Bs) (e : Int) (w : World)
set_option maxRecDepth 100000 in
set_option maxHeartbeats 8000000 in
theorem dEn_any (hs : s.length ≤ 100000000) (h : Rw w F s e) : Calls Tryz.prog 92 #[.pointer (some ⟨F, 0, none⟩)] w (Rds F pEng (RA REn w.heap.size) s e w) := by
  have hF := h.lt
  have HT := hide (Rt.laid h (.cells #[.int .i64 0, .slice none 0 0, .slice none 0 0, .slice none 0 0] 53))
  have HR := hide (Bo.new hF [.int .i64 0, .slice none 0 0, .slice none 0 0, .slice none 0 0] 53)
  have HW := hide (h.laid (.cells #[.int .i64 0, .slice none 0 0, .slice none 0 0, .slice none 0 0] 53))
  clear h
  go_enter Tryz.func92, Tryz.ntmps92
  have HCL := hide (dint_any F s e (w.alloc (.cells #[.int .i64 0, .slice none 0 0, .slice none 0 0, .slice none 0 0] 53)) (by omega) HW.out)
  go_wp2_with fail
  refine HCL.out.mono ?_
  rintro en w1 ⟨_, x1, s1, e1, rfl, ⟨rfl, hg⟩, hd, hw, ht⟩
  have HD1 := hide hd
  have hl1 : s1.length ≤ s.length := hd.1
  have HG1 := hide hg
  have hz1 : w.heap.size + 1 ≤ w1.heap.size := by have := ht.kp.1; simpa using this
  replace HT := hide (HT.out.trans ht)
  replace HR := hide (HR.out.keep ht)
  have HW := hide hw
  clear hd hw ht HCL hg
  have hwl := HW.out.lt
  have HB := hide (Bo.new hwl [.int .i64 x1, .slice none 0 0, .slice none 0 0, .slice none 0 0] 53)
  replace HT := hide (HT.out.trans (Rt.laid HW.out (.cells #[.int .i64 x1, .slice none 0 0, .slice none 0 0, .slice none 0 0] 53)))
  replace HR := hide (HR.out.laid (.cells #[.int .i64 x1, .slice none 0 0, .slice none 0 0, .slice none 0 0] 53))
  replace HW := hide (HW.out.laid (.cells #[.int .i64 x1, .slice none 0 0, .slice none 0 0, .slice none 0 0] 53))
  have HCL := hide (getE_any F s1 e1 (w1.alloc (.cells #[.int .i64 x1, .slice none 0 0, .slice none 0 0, .slice none 0 0] 53)) (by omega) HW.out)
  go_wp2_with fail
  refine HCL.out.mono ?_
  rintro en w2 ⟨_, x2, s2, e2, rfl, ⟨hlst, hlq⟩, hd, hw, ht⟩
  have HD2 := hide hd
  have hl2 : s2.length ≤ s1.length := hd.1
  obtain ⟨A2, c2, rfl⟩ := hlst.form
  have HQ2 := hide hlq
  have hz2 : w1.heap.size + 1 ≤ w2.heap.size := by have := ht.kp.1; simpa using this
  replace HT := hide (HT.out.trans ht)
  replace HR := hide (HR.out.keep ht)
  replace HB := hide (HB.out.keep ht)
  have HL2 : Hid (Lst w2 (fun x => w1.heap.size + 1 ≤ x ∧ x < w2.heap.size) _ _ _ _) := hide (lst_win rd_Ev0 rl_Ev0 (sz := 5) (by decide) (by first | exact Nat.le_refl _ | simp) hlst)
  have HW := hide hw
  clear hd hw ht HCL hlst hlq
  obtain ⟨-, bb, bf⟩ := HB.out
  have b1 := bb 1 _ rfl
  have f1 := bf 1 (by simp)
  clear bb bf
  replace HW := hide (HW.out.far (b := w1.heap.size) (by omega) 1 (.slice A2 x2.length c2))
  replace HT := hide (HT.out.own (b := w1.heap.size) (by omega) hF 1 (.slice A2 x2.length c2))
  replace HR := hide (HR.out.far (b' := w1.heap.size) (by omega) 1 (.slice A2 x2.length c2))
  replace HB := hide (HB.out.set (c := 1) (by simp) (.slice A2 x2.length c2))
  replace HL2 := hide (HL2.out.keep rd_Ev0 (Kp.set ⟨w1.heap.size, 1, none⟩ (.slice A2 x2.length c2) (fun x hx => (by omega : x ≠ w1.heap.size))))
  have HCL := hide (getCf_any F s2 e2 (w2.setCell ⟨w1.heap.size, 1, none⟩ (.slice A2 x2.length c2)) (by omega) HW.out)
  go_wp2_with fail
  refine HCL.out.mono ?_
  rintro en w3 ⟨_, x3, s3, e3, rfl, ⟨hlst, hlq⟩, hd, hw, ht⟩
  have HD3 := hide hd
  have hl3 : s3.length ≤ s2.length := hd.1
  obtain ⟨A3, c3, rfl⟩ := hlst.form
  have HQ3 := hide hlq
  have hz3 : w2.heap.size ≤ w3.heap.size := by have := ht.kp.1; simpa using this
  replace HT := hide (HT.out.trans ht)
  replace HR := hide (HR.out.keep ht)
  replace HB := hide (HB.out.keep ht)
  replace HL2 := hide (HL2.out.keep rd_Ev0 (ht.kp.less fun x hx => (by omega : x ≠ F)))
  have HL3 : Hid (Lst w3 (fun x => w2.heap.size ≤ x ∧ x < w3.heap.size) _ _ _ _) := hide (lst_win rd_Cf rl_Cf (sz := 3) (by decide) (by first | exact Nat.le_refl _ | simp) hlst)
  have HW := hide hw
  clear hd hw ht HCL hlst hlq
  clear b1 f1
  obtain ⟨-, bb, bf⟩ := HB.out
  have b2 := bb 2 _ rfl
  have f2 := bf 2 (by simp)
  clear bb bf
  replace HW := hide (HW.out.far (b := w1.heap.size) (by omega) 2 (.slice A3 x3.length c3))
  replace HT := hide (HT.out.own (b := w1.heap.size) (by omega) hF 2 (.slice A3 x3.length c3))
  replace HR := hide (HR.out.far (b' := w1.heap.size) (by omega) 2 (.slice A3 x3.length c3))
  replace HB := hide (HB.out.set (c := 2) (by simp) (.slice A3 x3.length c3))
  replace HL2 := hide (HL2.out.keep rd_Ev0 (Kp.set ⟨w1.heap.size, 2, none⟩ (.slice A3 x3.length c3) (fun x hx => (by omega : x ≠ w1.heap.size))))
  replace HL3 := hide (HL3.out.keep rd_Cf (Kp.set ⟨w1.heap.size, 2, none⟩ (.slice A3 x3.length c3) (fun x hx => (by omega : x ≠ w1.heap.size))))
  have HCL := hide (getE_any F s3 e3 (w3.setCell ⟨w1.heap.size, 2, none⟩ (.slice A3 x3.length c3)) (by omega) HW.out)
  go_wp2_with fail
  refine HCL.out.mono ?_
  rintro en w4 ⟨_, x4, s4, e4, rfl, ⟨hlst, hlq⟩, hd, hw, ht⟩
  have HD4 := hide hd
  have hl4 : s4.length ≤ s3.length := hd.1
  obtain ⟨A4, c4, rfl⟩ := hlst.form
  have HQ4 := hide hlq
  have hz4 : w3.heap.size ≤ w4.heap.size := by have := ht.kp.1; simpa using this
  replace HT := hide (HT.out.trans ht)
  replace HR := hide (HR.out.keep ht)
  replace HB := hide (HB.out.keep ht)
  replace HL2 := hide (HL2.out.keep rd_Ev0 (ht.kp.less fun x hx => (by omega : x ≠ F)))
  replace HL3 := hide (HL3.out.keep rd_Cf (ht.kp.less fun x hx => (by omega : x ≠ F)))
  have HL4 : Hid (Lst w4 (fun x => w3.heap.size ≤ x ∧ x < w4.heap.size) _ _ _ _) := hide (lst_win rd_Ev0 rl_Ev0 (sz := 5) (by decide) (by first | exact Nat.le_refl _ | simp) hlst)
  have HW := hide hw
  clear hd hw ht HCL hlst hlq
  clear b2 f2
  obtain ⟨-, bb, bf⟩ := HB.out
  have b0 := bb 0 _ rfl
  have f0 := bf 0 (by simp)
  have b1 := bb 1 _ rfl
  have f1 := bf 1 (by simp)
  have b2 := bb 2 _ rfl
  have f2 := bf 2 (by simp)
  have b3 := bb 3 _ rfl
  have f3 := bf 3 (by simp)
  clear bb bf
  obtain ⟨-, bb, bf⟩ := HR.out
  have r0 := bb 0 _ rfl
  have g0 := bf 0 (by simp)
  have r1 := bb 1 _ rfl
  have g1 := bf 1 (by simp)
  have r2 := bb 2 _ rfl
  have g2 := bf 2 (by simp)
  have r3 := bb 3 _ rfl
  have g3 := bf 3 (by simp)
  clear bb bf
  have hrk : w.heap.size < w4.heap.size := by omega
  have hbk : w1.heap.size < w4.heap.size := by omega
  replace HW := hide (HW.out.far (b := w1.heap.size) (by omega) 3 (.slice A4 x4.length c4))
  replace HT := hide (HT.out.own (b := w1.heap.size) (by omega) hF 3 (.slice A4 x4.length c4))
  replace HR := hide (HR.out.far (b' := w1.heap.size) (by omega) 3 (.slice A4 x4.length c4))
  replace HB := hide (HB.out.set (c := 3) (by simp) (.slice A4 x4.length c4))
  replace HL2 := hide (HL2.out.keep rd_Ev0 (Kp.set ⟨w1.heap.size, 3, none⟩ (.slice A4 x4.length c4) (fun x hx => (by omega : x ≠ w1.heap.size))))
  replace HL3 := hide (HL3.out.keep rd_Cf (Kp.set ⟨w1.heap.size, 3, none⟩ (.slice A4 x4.length c4) (fun x hx => (by omega : x ≠ w1.heap.size))))
  replace HL4 := hide (HL4.out.keep rd_Ev0 (Kp.set ⟨w1.heap.size, 3, none⟩ (.slice A4 x4.length c4) (fun x hx => (by omega : x ≠ w1.heap.size))))
  go_wp2
  refine bodyPost_ret (v := .agg #[.int .i64 x1, .slice A2 x2.length c2, .slice A3 x3.length c3, .slice A4 x4.length c4]) (by rw [results_c rfl]; go_simp) rfl ?_
  exact ⟨_, ⟨x1, x2, x3, x4⟩, s4, e4, rfl, ⟨_, rfl, ⟨_, _, _, rfl, (lst_out rd_Ev0 HL2.out (by exact ((((Kp.set ⟨w.heap.size, 0, none⟩ _ (fun (x : Nat) (hx : w1.heap.size + 1 ≤ x ∧ x < w2.heap.size) => (by omega : x ≠ w.heap.size))).trans (Kp.set ⟨w.heap.size, 1, none⟩ _ (fun (x : Nat) (hx : w1.heap.size + 1 ≤ x ∧ x < w2.heap.size) => (by omega : x ≠ w.heap.size)))).trans (Kp.set ⟨w.heap.size, 2, none⟩ _ (fun (x : Nat) (hx : w1.heap.size + 1 ≤ x ∧ x < w2.heap.size) => (by omega : x ≠ w.heap.size)))).trans (Kp.set ⟨w.heap.size, 3, none⟩ _ (fun (x : Nat) (hx : w1.heap.size + 1 ≤ x ∧ x < w2.heap.size) => (by omega : x ≠ w.heap.size))))) (by omega)), (lst_out rd_Cf HL3.out (by exact ((((Kp.set ⟨w.heap.size, 0, none⟩ _ (fun (x : Nat) (hx : w2.heap.size ≤ x ∧ x < w3.heap.size) => (by omega : x ≠ w.heap.size))).trans (Kp.set ⟨w.heap.size, 1, none⟩ _ (fun (x : Nat) (hx : w2.heap.size ≤ x ∧ x < w3.heap.size) => (by omega : x ≠ w.heap.size)))).trans (Kp.set ⟨w.heap.size, 2, none⟩ _ (fun (x : Nat) (hx : w2.heap.size ≤ x ∧ x < w3.heap.size) => (by omega : x ≠ w.heap.size)))).trans (Kp.set ⟨w.heap.size, 3, none⟩ _ (fun (x : Nat) (hx : w2.heap.size ≤ x ∧ x < w3.heap.size) => (by omega : x ≠ w.heap.size))))) (by omega)), (lst_out rd_Ev0 HL4.out (by exact ((((Kp.set ⟨w.heap.size, 0, none⟩ _ (fun (x : Nat) (hx : w3.heap.size ≤ x ∧ x < w4.heap.size) => (by omega : x ≠ w.heap.size))).trans (Kp.set ⟨w.heap.size, 1, none⟩ _ (fun (x : Nat) (hx : w3.heap.size ≤ x ∧ x < w4.heap.size) => (by omega : x ≠ w.heap.size)))).trans (Kp.set ⟨w.heap.size, 2, none⟩ _ (fun (x : Nat) (hx : w3.heap.size ≤ x ∧ x < w4.heap.size) => (by omega : x ≠ w.heap.size)))).trans (Kp.set ⟨w.heap.size, 3, none⟩ _ (fun (x : Nat) (hx : w3.heap.size ≤ x ∧ x < w4.heap.size) => (by omega : x ≠ w.heap.size))))) (by omega)), HG1.out⟩⟩, by unfold pEng; exact (HD1.out.bind (HD2.out.bind (HD3.out.bind (HD4.out.bind (De.ret _))))), ((((HW.out.far (b := w.heap.size) (by omega) 0 _).far (b := w.heap.size) (by omega) 1 _).far (b := w.heap.size) (by omega) 2 _).far (b := w.heap.size) (by omega) 3 _), ((((HT.out.own (b := w.heap.size) (Nat.le_refl _) hF 0 _).own (b := w.heap.size) (Nat.le_refl _) hF 1 _).own (b := w.heap.size) (Nat.le_refl _) hF 2 _).own (b := w.heap.size) (Nat.le_refl _) hF 3 _)⟩
end
end Go.Proofs.YtofdcgojgcnopaaGreat
