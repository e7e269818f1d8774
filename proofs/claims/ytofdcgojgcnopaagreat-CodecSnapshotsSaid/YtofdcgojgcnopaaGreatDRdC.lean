/- The decoder's lists: get, of integers. The decoder's point. The decoder's lists: get, of points. The decoder's reader. The decoder's lists: get, of readers. The decoder's engine of a key. The decoder's lists: get, of engines of keys. The decoder's operator. The decoder's lists: get, of operators. The decoder's snapshot. -/
import Derived.Test.YtofdcgojgcnopaaGreatDRel
import Derived.Test.YtofdcgojgcnopaaGreatDVal
import Derived.Test.YtofdcgojgcnopaaGreatDRel2
import Derived.Test.YtofdcgojgcnopaaGreatDRdA
namespace Go.Proofs.YtofdcgojgcnopaaGreat
open Go.RowKit
set_option linter.unusedVariables false
set_option linter.unusedSimpArgs false
section
variable (F : Nat) (s : Bs) (e : Int) (w : World)
set_option maxRecDepth 100000 in
set_option maxHeartbeats 8000000 in
theorem getI_any (hs : s.length ≤ 100000000) (h : Rw w F s e) : Calls Tryz.prog 78 #[.pointer (some ⟨F, 0, none⟩), .func (.func 49) #[.pointer (some ⟨F, 0, none⟩)] #[]] w (Rds F (pL pnum) (RLs 1 RIn w.heap.size) s e w) := by
  have HI := hide (dint_any F s e w hs h)
  have hF := h.lt
  obtain ⟨i0, hi0, hz0, hz1, hz2⟩ := info_parts info_int
  clear h
  go_enter Tryz.func78, Tryz.ntmps78
  go_wp2_with fail
  refine HI.out.mono ?_
  rintro en w2 ⟨_, n, s1, e1, rfl, ⟨rfl, hn⟩, hd, hw, ht⟩
  have HD := hide hd
  have HW2 := hide hw
  have HT2 := hide ht
  have hl := hd.1
  unfold inI at hn
  clear hd hw ht
  by_cases hbad : n < 0 ∨ 4096 < n
  · have HF := hide (dfail_any F s1 e1 w2 5 HW2.out)
    have hfin : ∀ (j : Nat) l (s' : Bs) (e' : Int), De (pMany pnum j) s1 (if e1 = 0 then 5 else e1) l s' e' → (j : Int) ≤ max n 0 → (n ≤ j ∨ e' ≠ 0) → De (pL pnum) s e l s' e' := fun j l s' e' hm _ _ => HD.out.listBad hbad hm
    obtain ⟨e2, he2⟩ : ∃ e2, (if e1 = 0 then 5 else e1) = e2 := ⟨_, rfl⟩
    have hne : e2 ≠ 0 := by rw [← he2]; split <;> omega
    have hbd : e2 = 0 → n ≤ 4096 := fun h => absurd h hne
    rw [he2] at HF hfin
    clear he2 hne HI
    rcases hbad with hb1 | hb1
    · skip
      go_wp2_with fail
      refine HF.out.mono ?_
      rintro en w3 ⟨rfl, hw, ht⟩
      replace HT2 := hide (HT2.out.trans ht)
      replace HW2 := hide hw
      clear hw ht HF
      go_wp2
      have HBD := hide hbd
      have HFIN := hide hfin
      clear hbd hfin
      go_loopw [6, 7] (fun v i wr => ∃ j : Nat, i = .int .i64 j ∧ Hid (∃ l s' e', Rw wr F s' e' ∧ Rt F w wr ∧ Grw wr w.heap.size 3 1 RIn v l ∧ De (pMany pnum j) s1 e2 l s' e' ∧ l.length = j ∧ (j : Int) ≤ max n 0 ∧ s'.length ≤ s.length ∧ j ≤ 4096)) (fun _ i _ => (n - intOf i).toNat)
      case atStart => exact ⟨0, rfl, hide ⟨[], s1, e2, HW2.out, HT2.out, Grw.nil, De.nil (Nat.le_refl _) (fun _ => rfl), rfl, by omega, hl, by omega⟩⟩
      case round =>
        obtain ⟨j, rfl, HR⟩ := hrel
        obtain ⟨l, s', e', hw, ht, hg, hd, hj, hjn, hsl, hj4⟩ := HR.out
        have HW := hide hw
        have HT := hide ht
        have HG := hide hg
        have HDE := hide hd
        have HJ := hide hj
        have c1 := hw.c1
        clear hw ht hg hd hj
        by_cases hlt : (j : Int) < n
        · exfalso; omega
        · skip
          go_wp2
          go_ret
          exact ⟨_, l, s', e', rfl, ⟨HG.out.lst rd_In (by decide) (by have := HJ.out; unfold maxLen; omega), by have := HJ.out; omega⟩, HFIN.out j l s' e' HDE.out (by omega) (by omega), HW.out, HT.out⟩
    · skip
      go_wp2_with fail
      refine HF.out.mono ?_
      rintro en w3 ⟨rfl, hw, ht⟩
      replace HT2 := hide (HT2.out.trans ht)
      replace HW2 := hide hw
      clear hw ht HF
      go_wp2
      have HBD := hide hbd
      have HFIN := hide hfin
      clear hbd hfin
      go_loopw [6, 7] (fun v i wr => ∃ j : Nat, i = .int .i64 j ∧ Hid (∃ l s' e', Rw wr F s' e' ∧ Rt F w wr ∧ Grw wr w.heap.size 3 1 RIn v l ∧ De (pMany pnum j) s1 e2 l s' e' ∧ l.length = j ∧ (j : Int) ≤ max n 0 ∧ s'.length ≤ s.length ∧ j ≤ 4096)) (fun _ i _ => (n - intOf i).toNat)
      case atStart => exact ⟨0, rfl, hide ⟨[], s1, e2, HW2.out, HT2.out, Grw.nil, De.nil (Nat.le_refl _) (fun _ => rfl), rfl, by omega, hl, by omega⟩⟩
      case round =>
        obtain ⟨j, rfl, HR⟩ := hrel
        obtain ⟨l, s', e', hw, ht, hg, hd, hj, hjn, hsl, hj4⟩ := HR.out
        have HW := hide hw
        have HT := hide ht
        have HG := hide hg
        have HDE := hide hd
        have HJ := hide hj
        have c1 := hw.c1
        clear hw ht hg hd hj
        by_cases hlt : (j : Int) < n
        · by_cases he : e' = 0
          · subst he
            have hn4 : n ≤ 4096 := HBD.out (Classical.byContradiction fun hne => hne (HDE.out.2.1 hne).symm)
            exfalso; omega
          · have te : (e' == 0) = false := beq_eq_false_iff_ne.2 he
            go_wp2
            go_ret
            exact ⟨_, l, s', e', rfl, ⟨HG.out.lst rd_In (by decide) (by have := HJ.out; unfold maxLen; omega), by have := HJ.out; omega⟩, HFIN.out j l s' e' HDE.out (by omega) (.inr he), HW.out, HT.out⟩
        · skip
          go_wp2
          go_ret
          exact ⟨_, l, s', e', rfl, ⟨HG.out.lst rd_In (by decide) (by have := HJ.out; unfold maxLen; omega), by have := HJ.out; omega⟩, HFIN.out j l s' e' HDE.out (by omega) (by omega), HW.out, HT.out⟩
  · have hfin : ∀ (j : Nat) l (s' : Bs) (e' : Int), De (pMany pnum j) s1 e1 l s' e' → (j : Int) ≤ max n 0 → (n ≤ j ∨ e' ≠ 0) → De (pL pnum) s e l s' e' := fun j l s' e' hm hj hx => HD.out.list hbad hm (by omega) (by omega)
    have hbd : e1 = 0 → n ≤ 4096 := fun _ => by omega
    obtain ⟨e2, rfl⟩ : ∃ e2, e2 = e1 := ⟨_, rfl⟩
    have hb1 : 0 ≤ n := by omega
    have hb2 : n ≤ 4096 := by omega
    clear HI
    go_wp2
    have HBD := hide hbd
    have HFIN := hide hfin
    clear hbd hfin
    go_loopw [6, 7] (fun v i wr => ∃ j : Nat, i = .int .i64 j ∧ Hid (∃ l s' e', Rw wr F s' e' ∧ Rt F w wr ∧ Grw wr w.heap.size 3 1 RIn v l ∧ De (pMany pnum j) s1 e2 l s' e' ∧ l.length = j ∧ (j : Int) ≤ max n 0 ∧ s'.length ≤ s.length ∧ j ≤ 4096)) (fun _ i _ => (n - intOf i).toNat)
    case atStart => exact ⟨0, rfl, hide ⟨[], s1, e2, HW2.out, HT2.out, Grw.nil, De.nil (Nat.le_refl _) (fun _ => rfl), rfl, by omega, hl, by omega⟩⟩
    case round =>
      obtain ⟨j, rfl, HR⟩ := hrel
      obtain ⟨l, s', e', hw, ht, hg, hd, hj, hjn, hsl, hj4⟩ := HR.out
      have HW := hide hw
      have HT := hide ht
      have HG := hide hg
      have HDE := hide hd
      have HJ := hide hj
      have c1 := hw.c1
      clear hw ht hg hd hj
      by_cases hlt : (j : Int) < n
      · by_cases he : e' = 0
        · subst he
          have hn4 : n ≤ 4096 := HBD.out (Classical.byContradiction fun hne => hne (HDE.out.2.1 hne).symm)
          have HONE := hide (dint_any F s' 0 wr (Nat.le_trans hsl hs) HW.out)
          have hwF : F < wr.heap.size := HW.out.lt
          have hww : w.heap.size ≤ wr.heap.size := HT.out.kp.1
          go_wp2_with fail
          refine HONE.out.mono ?_
          rintro en w3 ⟨_, x, s3, e3, rfl, ⟨rfl, hg⟩, hd, hw, ht⟩
          have HX : Hid (RIn w3 (wr.heap.size ≤ ·) [.int .i64 x] x) := hide ⟨rfl, hg⟩
          clear hg
          have HD3 := hide hd
          have HW3 := hide hw
          have HT3 := hide ht
          have HG3 := hide (HG.out.keep rd_In ht hF)
          have hlow := HG.out.low
          have HLOW := hide hlow
          have hlen : l.length < 1099511627776 := by have := HJ.out; omega
          have hlen2 := ht.kp.1
          clear hd hw ht hlow c1
          go_wp2_with (go_loud (at_builtin; refine wpList_append_grw rd_In rl_In rfl _ _ 39 rfl w.heap.size 3 i0 _ 8 Tryz.underlying39 hi0 hz0 [.int .i64 x] hz1 hz2 rfl (by simp) u6 _ rfl HG3.out _ rfl (by simp [Value.oneCell']) x HX.out (by exact hww) HLOW.out hlen (by decide) ?c3 ?_; (case c3 => exact Nat.le_trans hww hlen2); intro v2 w4 hg4 hb4 hs4))
          have HR2 : Hid (∃ l s' e', Rw w4 F s' e' ∧ Rt F w w4 ∧ Grw w4 w.heap.size 3 1 RIn v2 l ∧ De (pMany pnum (j + 1)) s1 e2 l s' e' ∧ l.length = j + 1 ∧ ((j + 1 : Nat) : Int) ≤ max n 0 ∧ s'.length ≤ s.length ∧ j + 1 ≤ 4096) :=
            hide ⟨l ++ [x], s3, e3, HW3.out.low hb4 hF, (HT.out.trans HT3.out).below hb4 (Nat.le_of_lt hF), hg4, HDE.out.snoc HD3.out, by rw [List.length_append, HJ.out]; rfl, by omega, Nat.le_trans HD3.out.1 hsl, by omega⟩
          clear hg4 hb4 HG3 HX HD3 HW3 HT3 HLOW hs4 hlen2
          go_wp2
          go_roundw
          case rel => exact ⟨j + 1, by go_num, HR2⟩
          case measure => simp [intOf]; omega
        · have te : (e' == 0) = false := beq_eq_false_iff_ne.2 he
          go_wp2
          go_ret
          exact ⟨_, l, s', e', rfl, ⟨HG.out.lst rd_In (by decide) (by have := HJ.out; unfold maxLen; omega), by have := HJ.out; omega⟩, HFIN.out j l s' e' HDE.out (by omega) (.inr he), HW.out, HT.out⟩
      · skip
        go_wp2
        go_ret
        exact ⟨_, l, s', e', rfl, ⟨HG.out.lst rd_In (by decide) (by have := HJ.out; unfold maxLen; omega), by have := HJ.out; omega⟩, HFIN.out j l s' e' HDE.out (by omega) (by omega), HW.out, HT.out⟩
end
end Go.Proofs.YtofdcgojgcnopaaGreat

namespace Go.Proofs.YtofdcgojgcnopaaGreat
open Go.RowKit
set_option linter.unusedVariables false
set_option linter.unusedSimpArgs false
section
variable (F : Nat) (s : Bs) (e : Int) (w : World)
set_option maxRecDepth 100000 in
set_option maxHeartbeats 8000000 in
theorem dpn_any (hs : s.length ≤ 100000000) (h : Rw w F s e) : Calls Tryz.prog 80 #[.pointer (some ⟨F, 0, none⟩)] w (Rds F pPnt (RA RPn w.heap.size) s e w) := by
  have hF := h.lt
  have HT := hide (Rt.laid h (.cells #[.int .i64 0, .int .i64 0] 124))
  have HR := hide (Bo.new hF [.int .i64 0, .int .i64 0] 124)
  have HW := hide (h.laid (.cells #[.int .i64 0, .int .i64 0] 124))
  clear h
  go_enter Tryz.func80, Tryz.ntmps80
  have HCL := hide (dint_any F s e (w.alloc (.cells #[.int .i64 0, .int .i64 0] 124)) (by omega) HW.out)
  go_wp2_with fail
  refine HCL.out.mono ?_
  rintro en w1 ⟨_, x1, s1, e1, rfl, ⟨rfl, hg⟩, hd, hw, ht⟩
  have HD1 := hide hd
  have hl1 : s1.length ≤ s.length := hd.1
  have HG1 := hide hg
  have hz1 : w.heap.size + 1 ≤ w1.heap.size := by have := ht.kp.1; simpa using this
  replace HT := hide (HT.out.trans ht)
  replace HR := hide (HR.out.keep ht)
  have HW := hide hw
  clear hd hw ht HCL hg
  have HCL := hide (dint_any F s1 e1 w1 (by omega) HW.out)
  go_wp2_with fail
  refine HCL.out.mono ?_
  rintro en w2 ⟨_, x2, s2, e2, rfl, ⟨rfl, hg⟩, hd, hw, ht⟩
  have HD2 := hide hd
  have hl2 : s2.length ≤ s1.length := hd.1
  have HG2 := hide hg
  have hz2 : w1.heap.size ≤ w2.heap.size := by have := ht.kp.1; simpa using this
  replace HT := hide (HT.out.trans ht)
  replace HR := hide (HR.out.keep ht)
  have HW := hide hw
  clear hd hw ht HCL hg
  obtain ⟨-, bb, bf⟩ := HR.out
  have r0 := bb 0 _ rfl
  have g0 := bf 0 (by simp)
  have r1 := bb 1 _ rfl
  have g1 := bf 1 (by simp)
  clear bb bf
  have hrk : w.heap.size < w2.heap.size := by omega
  go_wp2
  refine bodyPost_ret (v := .agg #[.int .i64 x1, .int .i64 x2]) (by rw [results_c rfl]; go_simp) rfl ?_
  exact ⟨_, ⟨x1, x2⟩, s2, e2, rfl, ⟨_, rfl, rfl, HG1.out, HG2.out⟩, by unfold pPnt; exact (HD1.out.bind (HD2.out.bind (De.ret _))), ((HW.out.far (b := w.heap.size) (by omega) 0 _).far (b := w.heap.size) (by omega) 1 _), ((HT.out.own (b := w.heap.size) (Nat.le_refl _) hF 0 _).own (b := w.heap.size) (Nat.le_refl _) hF 1 _)⟩
end
end Go.Proofs.YtofdcgojgcnopaaGreat

namespace Go.Proofs.YtofdcgojgcnopaaGreat
open Go.RowKit
set_option linter.unusedVariables false
set_option linter.unusedSimpArgs false
section
variable (F : Nat) (s : Bs) (e : Int) (w : World)
set_option maxRecDepth 100000 in
set_option maxHeartbeats 8000000 in
theorem getPn_any (hs : s.length ≤ 100000000) (h : Rw w F s e) : Calls Tryz.prog 79 #[.pointer (some ⟨F, 0, none⟩), .func (.func 80) #[.pointer (some ⟨F, 0, none⟩)] #[]] w (Rds F (pL pPnt) (RLs 2 RPn w.heap.size) s e w) := by
  have HI := hide (dint_any F s e w hs h)
  have hF := h.lt
  obtain ⟨i0, hi0, hz0, hz1, hz2⟩ := info_parts info_point
  clear h
  go_enter Tryz.func79, Tryz.ntmps79
  go_wp2_with fail
  refine HI.out.mono ?_
  rintro en w2 ⟨_, n, s1, e1, rfl, ⟨rfl, hn⟩, hd, hw, ht⟩
  have HD := hide hd
  have HW2 := hide hw
  have HT2 := hide ht
  have hl := hd.1
  unfold inI at hn
  clear hd hw ht
  by_cases hbad : n < 0 ∨ 4096 < n
  · have HF := hide (dfail_any F s1 e1 w2 5 HW2.out)
    have hfin : ∀ (j : Nat) l (s' : Bs) (e' : Int), De (pMany pPnt j) s1 (if e1 = 0 then 5 else e1) l s' e' → (j : Int) ≤ max n 0 → (n ≤ j ∨ e' ≠ 0) → De (pL pPnt) s e l s' e' := fun j l s' e' hm _ _ => HD.out.listBad hbad hm
    obtain ⟨e2, he2⟩ : ∃ e2, (if e1 = 0 then 5 else e1) = e2 := ⟨_, rfl⟩
    have hne : e2 ≠ 0 := by rw [← he2]; split <;> omega
    have hbd : e2 = 0 → n ≤ 4096 := fun h => absurd h hne
    rw [he2] at HF hfin
    clear he2 hne HI
    rcases hbad with hb1 | hb1
    · skip
      go_wp2_with fail
      refine HF.out.mono ?_
      rintro en w3 ⟨rfl, hw, ht⟩
      replace HT2 := hide (HT2.out.trans ht)
      replace HW2 := hide hw
      clear hw ht HF
      go_wp2
      have HBD := hide hbd
      have HFIN := hide hfin
      clear hbd hfin
      go_loopw [6, 7] (fun v i wr => ∃ j : Nat, i = .int .i64 j ∧ Hid (∃ l s' e', Rw wr F s' e' ∧ Rt F w wr ∧ Grw wr w.heap.size 124 2 RPn v l ∧ De (pMany pPnt j) s1 e2 l s' e' ∧ l.length = j ∧ (j : Int) ≤ max n 0 ∧ s'.length ≤ s.length ∧ j ≤ 4096)) (fun _ i _ => (n - intOf i).toNat)
      case atStart => exact ⟨0, rfl, hide ⟨[], s1, e2, HW2.out, HT2.out, Grw.nil, De.nil (Nat.le_refl _) (fun _ => rfl), rfl, by omega, hl, by omega⟩⟩
      case round =>
        obtain ⟨j, rfl, HR⟩ := hrel
        obtain ⟨l, s', e', hw, ht, hg, hd, hj, hjn, hsl, hj4⟩ := HR.out
        have HW := hide hw
        have HT := hide ht
        have HG := hide hg
        have HDE := hide hd
        have HJ := hide hj
        have c1 := hw.c1
        clear hw ht hg hd hj
        by_cases hlt : (j : Int) < n
        · exfalso; omega
        · skip
          go_wp2
          go_ret
          exact ⟨_, l, s', e', rfl, ⟨HG.out.lst rd_Pn (by decide) (by have := HJ.out; unfold maxLen; omega), by have := HJ.out; omega⟩, HFIN.out j l s' e' HDE.out (by omega) (by omega), HW.out, HT.out⟩
    · skip
      go_wp2_with fail
      refine HF.out.mono ?_
      rintro en w3 ⟨rfl, hw, ht⟩
      replace HT2 := hide (HT2.out.trans ht)
      replace HW2 := hide hw
      clear hw ht HF
      go_wp2
      have HBD := hide hbd
      have HFIN := hide hfin
      clear hbd hfin
      go_loopw [6, 7] (fun v i wr => ∃ j : Nat, i = .int .i64 j ∧ Hid (∃ l s' e', Rw wr F s' e' ∧ Rt F w wr ∧ Grw wr w.heap.size 124 2 RPn v l ∧ De (pMany pPnt j) s1 e2 l s' e' ∧ l.length = j ∧ (j : Int) ≤ max n 0 ∧ s'.length ≤ s.length ∧ j ≤ 4096)) (fun _ i _ => (n - intOf i).toNat)
      case atStart => exact ⟨0, rfl, hide ⟨[], s1, e2, HW2.out, HT2.out, Grw.nil, De.nil (Nat.le_refl _) (fun _ => rfl), rfl, by omega, hl, by omega⟩⟩
      case round =>
        obtain ⟨j, rfl, HR⟩ := hrel
        obtain ⟨l, s', e', hw, ht, hg, hd, hj, hjn, hsl, hj4⟩ := HR.out
        have HW := hide hw
        have HT := hide ht
        have HG := hide hg
        have HDE := hide hd
        have HJ := hide hj
        have c1 := hw.c1
        clear hw ht hg hd hj
        by_cases hlt : (j : Int) < n
        · by_cases he : e' = 0
          · subst he
            have hn4 : n ≤ 4096 := HBD.out (Classical.byContradiction fun hne => hne (HDE.out.2.1 hne).symm)
            exfalso; omega
          · have te : (e' == 0) = false := beq_eq_false_iff_ne.2 he
            go_wp2
            go_ret
            exact ⟨_, l, s', e', rfl, ⟨HG.out.lst rd_Pn (by decide) (by have := HJ.out; unfold maxLen; omega), by have := HJ.out; omega⟩, HFIN.out j l s' e' HDE.out (by omega) (.inr he), HW.out, HT.out⟩
        · skip
          go_wp2
          go_ret
          exact ⟨_, l, s', e', rfl, ⟨HG.out.lst rd_Pn (by decide) (by have := HJ.out; unfold maxLen; omega), by have := HJ.out; omega⟩, HFIN.out j l s' e' HDE.out (by omega) (by omega), HW.out, HT.out⟩
  · have hfin : ∀ (j : Nat) l (s' : Bs) (e' : Int), De (pMany pPnt j) s1 e1 l s' e' → (j : Int) ≤ max n 0 → (n ≤ j ∨ e' ≠ 0) → De (pL pPnt) s e l s' e' := fun j l s' e' hm hj hx => HD.out.list hbad hm (by omega) (by omega)
    have hbd : e1 = 0 → n ≤ 4096 := fun _ => by omega
    obtain ⟨e2, rfl⟩ : ∃ e2, e2 = e1 := ⟨_, rfl⟩
    have hb1 : 0 ≤ n := by omega
    have hb2 : n ≤ 4096 := by omega
    clear HI
    go_wp2
    have HBD := hide hbd
    have HFIN := hide hfin
    clear hbd hfin
    go_loopw [6, 7] (fun v i wr => ∃ j : Nat, i = .int .i64 j ∧ Hid (∃ l s' e', Rw wr F s' e' ∧ Rt F w wr ∧ Grw wr w.heap.size 124 2 RPn v l ∧ De (pMany pPnt j) s1 e2 l s' e' ∧ l.length = j ∧ (j : Int) ≤ max n 0 ∧ s'.length ≤ s.length ∧ j ≤ 4096)) (fun _ i _ => (n - intOf i).toNat)
    case atStart => exact ⟨0, rfl, hide ⟨[], s1, e2, HW2.out, HT2.out, Grw.nil, De.nil (Nat.le_refl _) (fun _ => rfl), rfl, by omega, hl, by omega⟩⟩
    case round =>
      obtain ⟨j, rfl, HR⟩ := hrel
      obtain ⟨l, s', e', hw, ht, hg, hd, hj, hjn, hsl, hj4⟩ := HR.out
      have HW := hide hw
      have HT := hide ht
      have HG := hide hg
      have HDE := hide hd
      have HJ := hide hj
      have c1 := hw.c1
      clear hw ht hg hd hj
      by_cases hlt : (j : Int) < n
      · by_cases he : e' = 0
        · subst he
          have hn4 : n ≤ 4096 := HBD.out (Classical.byContradiction fun hne => hne (HDE.out.2.1 hne).symm)
          have HONE := hide (dpn_any F s' 0 wr (Nat.le_trans hsl hs) HW.out)
          have hwF : F < wr.heap.size := HW.out.lt
          have hww : w.heap.size ≤ wr.heap.size := HT.out.kp.1
          go_wp2_with fail
          refine HONE.out.mono ?_
          rintro en w3 ⟨_, x, s3, e3, rfl, ⟨_, rfl, rfl, hg⟩, hd, hw, ht⟩
          have HX : Hid (RPn w3 (wr.heap.size ≤ ·) [.int .i64 x.s, .int .i64 x.t] x) := hide ⟨rfl, hg⟩
          clear hg
          have HD3 := hide hd
          have HW3 := hide hw
          have HT3 := hide ht
          have HG3 := hide (HG.out.keep rd_Pn ht hF)
          have hlow := HG.out.low
          have HLOW := hide hlow
          have hlen : l.length < 1099511627776 := by have := HJ.out; omega
          have hlen2 := ht.kp.1
          clear hd hw ht hlow c1
          go_wp2_with (go_loud (at_builtin; refine wpList_append_grw rd_Pn rl_Pn rfl _ _ 40 rfl w.heap.size 124 i0 _ 16 Tryz.underlying40 hi0 hz0 [.int .i64 x.s, .int .i64 x.t] hz1 hz2 rfl (by simp) u6 _ rfl HG3.out _ rfl (by simp [Value.oneCell']) x HX.out (by exact hww) HLOW.out hlen (by decide) ?c3 ?_; (case c3 => exact Nat.le_trans hww hlen2); intro v2 w4 hg4 hb4 hs4))
          have HR2 : Hid (∃ l s' e', Rw w4 F s' e' ∧ Rt F w w4 ∧ Grw w4 w.heap.size 124 2 RPn v2 l ∧ De (pMany pPnt (j + 1)) s1 e2 l s' e' ∧ l.length = j + 1 ∧ ((j + 1 : Nat) : Int) ≤ max n 0 ∧ s'.length ≤ s.length ∧ j + 1 ≤ 4096) :=
            hide ⟨l ++ [x], s3, e3, HW3.out.low hb4 hF, (HT.out.trans HT3.out).below hb4 (Nat.le_of_lt hF), hg4, HDE.out.snoc HD3.out, by rw [List.length_append, HJ.out]; rfl, by omega, Nat.le_trans HD3.out.1 hsl, by omega⟩
          clear hg4 hb4 HG3 HX HD3 HW3 HT3 HLOW hs4 hlen2
          go_wp2
          go_roundw
          case rel => exact ⟨j + 1, by go_num, HR2⟩
          case measure => simp [intOf]; omega
        · have te : (e' == 0) = false := beq_eq_false_iff_ne.2 he
          go_wp2
          go_ret
          exact ⟨_, l, s', e', rfl, ⟨HG.out.lst rd_Pn (by decide) (by have := HJ.out; unfold maxLen; omega), by have := HJ.out; omega⟩, HFIN.out j l s' e' HDE.out (by omega) (.inr he), HW.out, HT.out⟩
      · skip
        go_wp2
        go_ret
        exact ⟨_, l, s', e', rfl, ⟨HG.out.lst rd_Pn (by decide) (by have := HJ.out; unfold maxLen; omega), by have := HJ.out; omega⟩, HFIN.out j l s' e' HDE.out (by omega) (by omega), HW.out, HT.out⟩
end
end Go.Proofs.YtofdcgojgcnopaaGreat

namespace Go.Proofs.YtofdcgojgcnopaaGreat
open Go.RowKit
set_option linter.unusedVariables false
set_option linter.unusedSimpArgs false
section
variable (F : Nat) (s : Bs) (e : Int) (w : World)
set_option maxRecDepth 100000 in
set_option maxHeartbeats 8000000 in
theorem drd_any (hs : s.length ≤ 100000000) (h : Rw w F s e) : Calls Tryz.prog 51 #[.pointer (some ⟨F, 0, none⟩)] w (Rds F pRdr (RA RRd w.heap.size) s e w) := by
  have hF := h.lt
  have HT := hide (Rt.laid h (.cells #[.int .i64 0, .int .i64 0, .int .i64 0, .slice none 0 0, .slice none 0 0, .int .i64 0] 44))
  have HR := hide (Bo.new hF [.int .i64 0, .int .i64 0, .int .i64 0, .slice none 0 0, .slice none 0 0, .int .i64 0] 44)
  have HW := hide (h.laid (.cells #[.int .i64 0, .int .i64 0, .int .i64 0, .slice none 0 0, .slice none 0 0, .int .i64 0] 44))
  clear h
  go_enter Tryz.func51, Tryz.ntmps51
  have HCL := hide (dint_any F s e (w.alloc (.cells #[.int .i64 0, .int .i64 0, .int .i64 0, .slice none 0 0, .slice none 0 0, .int .i64 0] 44)) (by omega) HW.out)
  go_wp2_with fail
  refine HCL.out.mono ?_
  rintro en w1 ⟨_, x1, s1, e1, rfl, ⟨rfl, hg⟩, hd, hw, ht⟩
  have HD1 := hide hd
  have hl1 : s1.length ≤ s.length := hd.1
  have HG1 := hide hg
  have hz1 : w.heap.size + 1 ≤ w1.heap.size := by have := ht.kp.1; simpa using this
  replace HT := hide (HT.out.trans ht)
  replace HR := hide (HR.out.keep ht)
  have HW := hide hw
  clear hd hw ht HCL hg
  have HCL := hide (dint_any F s1 e1 w1 (by omega) HW.out)
  go_wp2_with fail
  refine HCL.out.mono ?_
  rintro en w2 ⟨_, x2, s2, e2, rfl, ⟨rfl, hg⟩, hd, hw, ht⟩
  have HD2 := hide hd
  have hl2 : s2.length ≤ s1.length := hd.1
  have HG2 := hide hg
  have hz2 : w1.heap.size ≤ w2.heap.size := by have := ht.kp.1; simpa using this
  replace HT := hide (HT.out.trans ht)
  replace HR := hide (HR.out.keep ht)
  have HW := hide hw
  clear hd hw ht HCL hg
  have hwl := HW.out.lt
  have HB := hide (Bo.new hwl [.int .i64 x1, .int .i64 x2, .int .i64 0, .slice none 0 0, .slice none 0 0, .int .i64 0] 44)
  replace HT := hide (HT.out.trans (Rt.laid HW.out (.cells #[.int .i64 x1, .int .i64 x2, .int .i64 0, .slice none 0 0, .slice none 0 0, .int .i64 0] 44)))
  replace HR := hide (HR.out.laid (.cells #[.int .i64 x1, .int .i64 x2, .int .i64 0, .slice none 0 0, .slice none 0 0, .int .i64 0] 44))
  replace HW := hide (HW.out.laid (.cells #[.int .i64 x1, .int .i64 x2, .int .i64 0, .slice none 0 0, .slice none 0 0, .int .i64 0] 44))
  have HCL := hide (dint_any F s2 e2 (w2.alloc (.cells #[.int .i64 x1, .int .i64 x2, .int .i64 0, .slice none 0 0, .slice none 0 0, .int .i64 0] 44)) (by omega) HW.out)
  go_wp2_with fail
  refine HCL.out.mono ?_
  rintro en w3 ⟨_, x3, s3, e3, rfl, ⟨rfl, hg⟩, hd, hw, ht⟩
  have HD3 := hide hd
  have hl3 : s3.length ≤ s2.length := hd.1
  have HG3 := hide hg
  have hz3 : w2.heap.size + 1 ≤ w3.heap.size := by have := ht.kp.1; simpa using this
  replace HT := hide (HT.out.trans ht)
  replace HR := hide (HR.out.keep ht)
  replace HB := hide (HB.out.keep ht)
  have HW := hide hw
  clear hd hw ht HCL hg
  obtain ⟨-, bb, bf⟩ := HB.out
  have b2 := bb 2 _ rfl
  have f2 := bf 2 (by simp)
  clear bb bf
  replace HW := hide (HW.out.far (b := w2.heap.size) (by omega) 2 (.int .i64 x3))
  replace HT := hide (HT.out.own (b := w2.heap.size) (by omega) hF 2 (.int .i64 x3))
  replace HR := hide (HR.out.far (b' := w2.heap.size) (by omega) 2 (.int .i64 x3))
  replace HB := hide (HB.out.set (c := 2) (by simp) (.int .i64 x3))
  have HCL := hide (getI_any F s3 e3 (w3.setCell ⟨w2.heap.size, 2, none⟩ (.int .i64 x3)) (by omega) HW.out)
  go_wp2_with fail
  refine HCL.out.mono ?_
  rintro en w4 ⟨_, x4, s4, e4, rfl, ⟨hlst, hlq⟩, hd, hw, ht⟩
  have HD4 := hide hd
  have hl4 : s4.length ≤ s3.length := hd.1
  obtain ⟨A4, c4, rfl⟩ := hlst.form
  have HQ4 := hide hlq
  have hz4 : w3.heap.size ≤ w4.heap.size := by have := ht.kp.1; simpa using this
  replace HT := hide (HT.out.trans ht)
  replace HR := hide (HR.out.keep ht)
  replace HB := hide (HB.out.keep ht)
  have HL4 : Hid (Lst w4 (fun x => w3.heap.size ≤ x ∧ x < w4.heap.size) _ _ _ _) := hide (lst_win rd_In rl_In (sz := 1) (by decide) (by first | exact Nat.le_refl _ | simp) hlst)
  have HW := hide hw
  clear hd hw ht HCL hlst hlq
  clear b2 f2
  obtain ⟨-, bb, bf⟩ := HB.out
  have b3 := bb 3 _ rfl
  have f3 := bf 3 (by simp)
  clear bb bf
  replace HW := hide (HW.out.far (b := w2.heap.size) (by omega) 3 (.slice A4 x4.length c4))
  replace HT := hide (HT.out.own (b := w2.heap.size) (by omega) hF 3 (.slice A4 x4.length c4))
  replace HR := hide (HR.out.far (b' := w2.heap.size) (by omega) 3 (.slice A4 x4.length c4))
  replace HB := hide (HB.out.set (c := 3) (by simp) (.slice A4 x4.length c4))
  replace HL4 := hide (HL4.out.keep rd_In (Kp.set ⟨w2.heap.size, 3, none⟩ (.slice A4 x4.length c4) (fun x hx => (by omega : x ≠ w2.heap.size))))
  have HCL := hide (getPn_any F s4 e4 (w4.setCell ⟨w2.heap.size, 3, none⟩ (.slice A4 x4.length c4)) (by omega) HW.out)
  go_wp2_with fail
  refine HCL.out.mono ?_
  rintro en w5 ⟨_, x5, s5, e5, rfl, ⟨hlst, hlq⟩, hd, hw, ht⟩
  have HD5 := hide hd
  have hl5 : s5.length ≤ s4.length := hd.1
  obtain ⟨A5, c5, rfl⟩ := hlst.form
  have HQ5 := hide hlq
  have hz5 : w4.heap.size ≤ w5.heap.size := by have := ht.kp.1; simpa using this
  replace HT := hide (HT.out.trans ht)
  replace HR := hide (HR.out.keep ht)
  replace HB := hide (HB.out.keep ht)
  replace HL4 := hide (HL4.out.keep rd_In (ht.kp.less fun x hx => (by omega : x ≠ F)))
  have HL5 : Hid (Lst w5 (fun x => w4.heap.size ≤ x ∧ x < w5.heap.size) _ _ _ _) := hide (lst_win rd_Pn rl_Pn (sz := 2) (by decide) (by first | exact Nat.le_refl _ | simp) hlst)
  have HW := hide hw
  clear hd hw ht HCL hlst hlq
  clear b3 f3
  obtain ⟨-, bb, bf⟩ := HB.out
  have b4 := bb 4 _ rfl
  have f4 := bf 4 (by simp)
  clear bb bf
  replace HW := hide (HW.out.far (b := w2.heap.size) (by omega) 4 (.slice A5 x5.length c5))
  replace HT := hide (HT.out.own (b := w2.heap.size) (by omega) hF 4 (.slice A5 x5.length c5))
  replace HR := hide (HR.out.far (b' := w2.heap.size) (by omega) 4 (.slice A5 x5.length c5))
  replace HB := hide (HB.out.set (c := 4) (by simp) (.slice A5 x5.length c5))
  replace HL4 := hide (HL4.out.keep rd_In (Kp.set ⟨w2.heap.size, 4, none⟩ (.slice A5 x5.length c5) (fun x hx => (by omega : x ≠ w2.heap.size))))
  replace HL5 := hide (HL5.out.keep rd_Pn (Kp.set ⟨w2.heap.size, 4, none⟩ (.slice A5 x5.length c5) (fun x hx => (by omega : x ≠ w2.heap.size))))
  have HCL := hide (dint_any F s5 e5 (w5.setCell ⟨w2.heap.size, 4, none⟩ (.slice A5 x5.length c5)) (by omega) HW.out)
  go_wp2_with fail
  refine HCL.out.mono ?_
  rintro en w6 ⟨_, x6, s6, e6, rfl, ⟨rfl, hg⟩, hd, hw, ht⟩
  have HD6 := hide hd
  have hl6 : s6.length ≤ s5.length := hd.1
  have HG6 := hide hg
  have hz6 : w5.heap.size ≤ w6.heap.size := by have := ht.kp.1; simpa using this
  replace HT := hide (HT.out.trans ht)
  replace HR := hide (HR.out.keep ht)
  replace HB := hide (HB.out.keep ht)
  replace HL4 := hide (HL4.out.keep rd_In (ht.kp.less fun x hx => (by omega : x ≠ F)))
  replace HL5 := hide (HL5.out.keep rd_Pn (ht.kp.less fun x hx => (by omega : x ≠ F)))
  have HW := hide hw
  clear hd hw ht HCL hg
  clear b4 f4
  obtain ⟨-, bb, bf⟩ := HB.out
  have b0 := bb 0 _ rfl
  have f0 := bf 0 (by simp)
  have b1 := bb 1 _ rfl
  have f1 := bf 1 (by simp)
  have b2 := bb 2 _ rfl
  have f2 := bf 2 (by simp)
  have b3 := bb 3 _ rfl
  have f3 := bf 3 (by simp)
  have b4 := bb 4 _ rfl
  have f4 := bf 4 (by simp)
  have b5 := bb 5 _ rfl
  have f5 := bf 5 (by simp)
  clear bb bf
  obtain ⟨-, bb, bf⟩ := HR.out
  have r0 := bb 0 _ rfl
  have g0 := bf 0 (by simp)
  have r1 := bb 1 _ rfl
  have g1 := bf 1 (by simp)
  have r2 := bb 2 _ rfl
  have g2 := bf 2 (by simp)
  have r3 := bb 3 _ rfl
  have g3 := bf 3 (by simp)
  have r4 := bb 4 _ rfl
  have g4 := bf 4 (by simp)
  have r5 := bb 5 _ rfl
  have g5 := bf 5 (by simp)
  clear bb bf
  have hrk : w.heap.size < w6.heap.size := by omega
  have hbk : w2.heap.size < w6.heap.size := by omega
  replace HW := hide (HW.out.far (b := w2.heap.size) (by omega) 5 (.int .i64 x6))
  replace HT := hide (HT.out.own (b := w2.heap.size) (by omega) hF 5 (.int .i64 x6))
  replace HR := hide (HR.out.far (b' := w2.heap.size) (by omega) 5 (.int .i64 x6))
  replace HB := hide (HB.out.set (c := 5) (by simp) (.int .i64 x6))
  replace HL4 := hide (HL4.out.keep rd_In (Kp.set ⟨w2.heap.size, 5, none⟩ (.int .i64 x6) (fun x hx => (by omega : x ≠ w2.heap.size))))
  replace HL5 := hide (HL5.out.keep rd_Pn (Kp.set ⟨w2.heap.size, 5, none⟩ (.int .i64 x6) (fun x hx => (by omega : x ≠ w2.heap.size))))
  go_wp2
  refine bodyPost_ret (v := .agg #[.int .i64 x1, .int .i64 x2, .int .i64 x3, .slice A4 x4.length c4, .slice A5 x5.length c5, .int .i64 x6]) (by rw [results_c rfl]; go_simp) rfl ?_
  exact ⟨_, ⟨x1, x2, x3, x4, x5, x6⟩, s6, e6, rfl, ⟨_, rfl, ⟨_, _, rfl, (lst_out rd_In HL4.out (by exact ((((((Kp.set ⟨w.heap.size, 0, none⟩ _ (fun (x : Nat) (hx : w3.heap.size ≤ x ∧ x < w4.heap.size) => (by omega : x ≠ w.heap.size))).trans (Kp.set ⟨w.heap.size, 1, none⟩ _ (fun (x : Nat) (hx : w3.heap.size ≤ x ∧ x < w4.heap.size) => (by omega : x ≠ w.heap.size)))).trans (Kp.set ⟨w.heap.size, 2, none⟩ _ (fun (x : Nat) (hx : w3.heap.size ≤ x ∧ x < w4.heap.size) => (by omega : x ≠ w.heap.size)))).trans (Kp.set ⟨w.heap.size, 3, none⟩ _ (fun (x : Nat) (hx : w3.heap.size ≤ x ∧ x < w4.heap.size) => (by omega : x ≠ w.heap.size)))).trans (Kp.set ⟨w.heap.size, 4, none⟩ _ (fun (x : Nat) (hx : w3.heap.size ≤ x ∧ x < w4.heap.size) => (by omega : x ≠ w.heap.size)))).trans (Kp.set ⟨w.heap.size, 5, none⟩ _ (fun (x : Nat) (hx : w3.heap.size ≤ x ∧ x < w4.heap.size) => (by omega : x ≠ w.heap.size))))) (by omega)), (lst_out rd_Pn HL5.out (by exact ((((((Kp.set ⟨w.heap.size, 0, none⟩ _ (fun (x : Nat) (hx : w4.heap.size ≤ x ∧ x < w5.heap.size) => (by omega : x ≠ w.heap.size))).trans (Kp.set ⟨w.heap.size, 1, none⟩ _ (fun (x : Nat) (hx : w4.heap.size ≤ x ∧ x < w5.heap.size) => (by omega : x ≠ w.heap.size)))).trans (Kp.set ⟨w.heap.size, 2, none⟩ _ (fun (x : Nat) (hx : w4.heap.size ≤ x ∧ x < w5.heap.size) => (by omega : x ≠ w.heap.size)))).trans (Kp.set ⟨w.heap.size, 3, none⟩ _ (fun (x : Nat) (hx : w4.heap.size ≤ x ∧ x < w5.heap.size) => (by omega : x ≠ w.heap.size)))).trans (Kp.set ⟨w.heap.size, 4, none⟩ _ (fun (x : Nat) (hx : w4.heap.size ≤ x ∧ x < w5.heap.size) => (by omega : x ≠ w.heap.size)))).trans (Kp.set ⟨w.heap.size, 5, none⟩ _ (fun (x : Nat) (hx : w4.heap.size ≤ x ∧ x < w5.heap.size) => (by omega : x ≠ w.heap.size))))) (by omega)), HG1.out, HG2.out, HG3.out, HG6.out⟩⟩, by unfold pRdr; exact (HD1.out.bind (HD2.out.bind (HD3.out.bind (HD4.out.bind (HD5.out.bind (HD6.out.bind (De.ret _))))))), ((((((HW.out.far (b := w.heap.size) (by omega) 0 _).far (b := w.heap.size) (by omega) 1 _).far (b := w.heap.size) (by omega) 2 _).far (b := w.heap.size) (by omega) 3 _).far (b := w.heap.size) (by omega) 4 _).far (b := w.heap.size) (by omega) 5 _), ((((((HT.out.own (b := w.heap.size) (Nat.le_refl _) hF 0 _).own (b := w.heap.size) (Nat.le_refl _) hF 1 _).own (b := w.heap.size) (Nat.le_refl _) hF 2 _).own (b := w.heap.size) (Nat.le_refl _) hF 3 _).own (b := w.heap.size) (Nat.le_refl _) hF 4 _).own (b := w.heap.size) (Nat.le_refl _) hF 5 _)⟩
end
end Go.Proofs.YtofdcgojgcnopaaGreat

namespace Go.Proofs.YtofdcgojgcnopaaGreat
open Go.RowKit
set_option linter.unusedVariables false
set_option linter.unusedSimpArgs false
section
variable (F : Nat) (s : Bs) (e : Int) (w : World)
set_option maxRecDepth 100000 in
set_option maxHeartbeats 8000000 in
theorem getRd_any (hs : s.length ≤ 100000000) (h : Rw w F s e) : Calls Tryz.prog 50 #[.pointer (some ⟨F, 0, none⟩), .func (.func 51) #[.pointer (some ⟨F, 0, none⟩)] #[]] w (Rds F (pL pRdr) (RLs 6 RRd w.heap.size) s e w) := by
  have HI := hide (dint_any F s e w hs h)
  have hF := h.lt
  obtain ⟨i0, hi0, hz0, hz1, hz2⟩ := info_parts info_reader
  clear h
  go_enter Tryz.func50, Tryz.ntmps50
  go_wp2_with fail
  refine HI.out.mono ?_
  rintro en w2 ⟨_, n, s1, e1, rfl, ⟨rfl, hn⟩, hd, hw, ht⟩
  have HD := hide hd
  have HW2 := hide hw
  have HT2 := hide ht
  have hl := hd.1
  unfold inI at hn
  clear hd hw ht
  by_cases hbad : n < 0 ∨ 4096 < n
  · have HF := hide (dfail_any F s1 e1 w2 5 HW2.out)
    have hfin : ∀ (j : Nat) l (s' : Bs) (e' : Int), De (pMany pRdr j) s1 (if e1 = 0 then 5 else e1) l s' e' → (j : Int) ≤ max n 0 → (n ≤ j ∨ e' ≠ 0) → De (pL pRdr) s e l s' e' := fun j l s' e' hm _ _ => HD.out.listBad hbad hm
    obtain ⟨e2, he2⟩ : ∃ e2, (if e1 = 0 then 5 else e1) = e2 := ⟨_, rfl⟩
    have hne : e2 ≠ 0 := by rw [← he2]; split <;> omega
    have hbd : e2 = 0 → n ≤ 4096 := fun h => absurd h hne
    rw [he2] at HF hfin
    clear he2 hne HI
    rcases hbad with hb1 | hb1
    · skip
      go_wp2_with fail
      refine HF.out.mono ?_
      rintro en w3 ⟨rfl, hw, ht⟩
      replace HT2 := hide (HT2.out.trans ht)
      replace HW2 := hide hw
      clear hw ht HF
      go_wp2
      have HBD := hide hbd
      have HFIN := hide hfin
      clear hbd hfin
      go_loopw [6, 7] (fun v i wr => ∃ j : Nat, i = .int .i64 j ∧ Hid (∃ l s' e', Rw wr F s' e' ∧ Rt F w wr ∧ Grw wr w.heap.size 44 6 RRd v l ∧ De (pMany pRdr j) s1 e2 l s' e' ∧ l.length = j ∧ (j : Int) ≤ max n 0 ∧ s'.length ≤ s.length ∧ j ≤ 4096)) (fun _ i _ => (n - intOf i).toNat)
      case atStart => exact ⟨0, rfl, hide ⟨[], s1, e2, HW2.out, HT2.out, Grw.nil, De.nil (Nat.le_refl _) (fun _ => rfl), rfl, by omega, hl, by omega⟩⟩
      case round =>
        obtain ⟨j, rfl, HR⟩ := hrel
        obtain ⟨l, s', e', hw, ht, hg, hd, hj, hjn, hsl, hj4⟩ := HR.out
        have HW := hide hw
        have HT := hide ht
        have HG := hide hg
        have HDE := hide hd
        have HJ := hide hj
        have c1 := hw.c1
        clear hw ht hg hd hj
        by_cases hlt : (j : Int) < n
        · exfalso; omega
        · skip
          go_wp2
          go_ret
          exact ⟨_, l, s', e', rfl, ⟨HG.out.lst rd_Rd (by decide) (by have := HJ.out; unfold maxLen; omega), by have := HJ.out; omega⟩, HFIN.out j l s' e' HDE.out (by omega) (by omega), HW.out, HT.out⟩
    · skip
      go_wp2_with fail
      refine HF.out.mono ?_
      rintro en w3 ⟨rfl, hw, ht⟩
      replace HT2 := hide (HT2.out.trans ht)
      replace HW2 := hide hw
      clear hw ht HF
      go_wp2
      have HBD := hide hbd
      have HFIN := hide hfin
      clear hbd hfin
      go_loopw [6, 7] (fun v i wr => ∃ j : Nat, i = .int .i64 j ∧ Hid (∃ l s' e', Rw wr F s' e' ∧ Rt F w wr ∧ Grw wr w.heap.size 44 6 RRd v l ∧ De (pMany pRdr j) s1 e2 l s' e' ∧ l.length = j ∧ (j : Int) ≤ max n 0 ∧ s'.length ≤ s.length ∧ j ≤ 4096)) (fun _ i _ => (n - intOf i).toNat)
      case atStart => exact ⟨0, rfl, hide ⟨[], s1, e2, HW2.out, HT2.out, Grw.nil, De.nil (Nat.le_refl _) (fun _ => rfl), rfl, by omega, hl, by omega⟩⟩
      case round =>
        obtain ⟨j, rfl, HR⟩ := hrel
        obtain ⟨l, s', e', hw, ht, hg, hd, hj, hjn, hsl, hj4⟩ := HR.out
        have HW := hide hw
        have HT := hide ht
        have HG := hide hg
        have HDE := hide hd
        have HJ := hide hj
        have c1 := hw.c1
        clear hw ht hg hd hj
        by_cases hlt : (j : Int) < n
        · by_cases he : e' = 0
          · subst he
            have hn4 : n ≤ 4096 := HBD.out (Classical.byContradiction fun hne => hne (HDE.out.2.1 hne).symm)
            exfalso; omega
          · have te : (e' == 0) = false := beq_eq_false_iff_ne.2 he
            go_wp2
            go_ret
            exact ⟨_, l, s', e', rfl, ⟨HG.out.lst rd_Rd (by decide) (by have := HJ.out; unfold maxLen; omega), by have := HJ.out; omega⟩, HFIN.out j l s' e' HDE.out (by omega) (.inr he), HW.out, HT.out⟩
        · skip
          go_wp2
          go_ret
          exact ⟨_, l, s', e', rfl, ⟨HG.out.lst rd_Rd (by decide) (by have := HJ.out; unfold maxLen; omega), by have := HJ.out; omega⟩, HFIN.out j l s' e' HDE.out (by omega) (by omega), HW.out, HT.out⟩
  · have hfin : ∀ (j : Nat) l (s' : Bs) (e' : Int), De (pMany pRdr j) s1 e1 l s' e' → (j : Int) ≤ max n 0 → (n ≤ j ∨ e' ≠ 0) → De (pL pRdr) s e l s' e' := fun j l s' e' hm hj hx => HD.out.list hbad hm (by omega) (by omega)
    have hbd : e1 = 0 → n ≤ 4096 := fun _ => by omega
    obtain ⟨e2, rfl⟩ : ∃ e2, e2 = e1 := ⟨_, rfl⟩
    have hb1 : 0 ≤ n := by omega
    have hb2 : n ≤ 4096 := by omega
    clear HI
    go_wp2
    have HBD := hide hbd
    have HFIN := hide hfin
    clear hbd hfin
    go_loopw [6, 7] (fun v i wr => ∃ j : Nat, i = .int .i64 j ∧ Hid (∃ l s' e', Rw wr F s' e' ∧ Rt F w wr ∧ Grw wr w.heap.size 44 6 RRd v l ∧ De (pMany pRdr j) s1 e2 l s' e' ∧ l.length = j ∧ (j : Int) ≤ max n 0 ∧ s'.length ≤ s.length ∧ j ≤ 4096)) (fun _ i _ => (n - intOf i).toNat)
    case atStart => exact ⟨0, rfl, hide ⟨[], s1, e2, HW2.out, HT2.out, Grw.nil, De.nil (Nat.le_refl _) (fun _ => rfl), rfl, by omega, hl, by omega⟩⟩
    case round =>
      obtain ⟨j, rfl, HR⟩ := hrel
      obtain ⟨l, s', e', hw, ht, hg, hd, hj, hjn, hsl, hj4⟩ := HR.out
      have HW := hide hw
      have HT := hide ht
      have HG := hide hg
      have HDE := hide hd
      have HJ := hide hj
      have c1 := hw.c1
      clear hw ht hg hd hj
      by_cases hlt : (j : Int) < n
      · by_cases he : e' = 0
        · subst he
          have hn4 : n ≤ 4096 := HBD.out (Classical.byContradiction fun hne => hne (HDE.out.2.1 hne).symm)
          have HONE := hide (drd_any F s' 0 wr (Nat.le_trans hsl hs) HW.out)
          have hwF : F < wr.heap.size := HW.out.lt
          have hww : w.heap.size ≤ wr.heap.size := HT.out.kp.1
          go_wp2_with fail
          refine HONE.out.mono ?_
          rintro en w3 ⟨_, x, s3, e3, rfl, ⟨_, rfl, u, v, rfl, hla, hlb, hg⟩, hd, hw, ht⟩
          obtain ⟨A9, c9, rfl⟩ := hla.form
          obtain ⟨A8, c8, rfl⟩ := hlb.form
          have HX : Hid (RRd w3 (wr.heap.size ≤ ·) [.int .i64 x.src, .int .i64 x.off, .int .i64 x.next, .slice A9 x.beyond.length c9, .slice A8 x.points.length c8, .int .i64 x.mark] x) := hide ⟨_, _, rfl, hla, hlb, hg⟩
          clear hla hlb hg
          have HD3 := hide hd
          have HW3 := hide hw
          have HT3 := hide ht
          have HG3 := hide (HG.out.keep rd_Rd ht hF)
          have hlow := HG.out.low
          have HLOW := hide hlow
          have hlen : l.length < 1099511627776 := by have := HJ.out; omega
          have hlen2 := ht.kp.1
          clear hd hw ht hlow c1
          go_wp2_with (go_loud (at_builtin; refine wpList_append_grw rd_Rd rl_Rd rfl _ _ 22 rfl w.heap.size 44 i0 _ 80 Tryz.underlying22 hi0 hz0 [.int .i64 x.src, .int .i64 x.off, .int .i64 x.next, .slice A9 x.beyond.length c9, .slice A8 x.points.length c8, .int .i64 x.mark] hz1 hz2 rfl (by simp) u6 _ rfl HG3.out _ rfl (by simp [Value.oneCell']) x HX.out (by exact hww) HLOW.out hlen (by decide) ?c3 ?_; (case c3 => exact Nat.le_trans hww hlen2); intro v2 w4 hg4 hb4 hs4))
          have HR2 : Hid (∃ l s' e', Rw w4 F s' e' ∧ Rt F w w4 ∧ Grw w4 w.heap.size 44 6 RRd v2 l ∧ De (pMany pRdr (j + 1)) s1 e2 l s' e' ∧ l.length = j + 1 ∧ ((j + 1 : Nat) : Int) ≤ max n 0 ∧ s'.length ≤ s.length ∧ j + 1 ≤ 4096) :=
            hide ⟨l ++ [x], s3, e3, HW3.out.low hb4 hF, (HT.out.trans HT3.out).below hb4 (Nat.le_of_lt hF), hg4, HDE.out.snoc HD3.out, by rw [List.length_append, HJ.out]; rfl, by omega, Nat.le_trans HD3.out.1 hsl, by omega⟩
          clear hg4 hb4 HG3 HX HD3 HW3 HT3 HLOW hs4 hlen2
          go_wp2
          go_roundw
          case rel => exact ⟨j + 1, by go_num, HR2⟩
          case measure => simp [intOf]; omega
        · have te : (e' == 0) = false := beq_eq_false_iff_ne.2 he
          go_wp2
          go_ret
          exact ⟨_, l, s', e', rfl, ⟨HG.out.lst rd_Rd (by decide) (by have := HJ.out; unfold maxLen; omega), by have := HJ.out; omega⟩, HFIN.out j l s' e' HDE.out (by omega) (.inr he), HW.out, HT.out⟩
      · skip
        go_wp2
        go_ret
        exact ⟨_, l, s', e', rfl, ⟨HG.out.lst rd_Rd (by decide) (by have := HJ.out; unfold maxLen; omega), by have := HJ.out; omega⟩, HFIN.out j l s' e' HDE.out (by omega) (by omega), HW.out, HT.out⟩
end
end Go.Proofs.YtofdcgojgcnopaaGreat

namespace Go.Proofs.YtofdcgojgcnopaaGreat
open Go.RowKit
set_option linter.unusedVariables false
set_option linter.unusedSimpArgs false
section
variable (F : Nat) (s : Bs) (e : Int) (w : World)
set_option maxRecDepth 100000 in
set_option maxHeartbeats 8000000 in
theorem dky_any (hs : s.length ≤ 100000000) (h : Rw w F s e) : Calls Tryz.prog 82 #[.pointer (some ⟨F, 0, none⟩)] w (Rds F pKyd (RA RKy w.heap.size) s e w) := by
  have hF := h.lt
  have HT := hide (Rt.laid h (.cells #[.int .i64 0, .int .i64 0, .int .i64 0, .string ⟨#[]⟩, .int .i64 0, .slice none 0 0, .slice none 0 0, .slice none 0 0] 55))
  have HR := hide (Bo.new hF [.int .i64 0, .int .i64 0, .int .i64 0, .string ⟨#[]⟩, .int .i64 0, .slice none 0 0, .slice none 0 0, .slice none 0 0] 55)
  have HW := hide (h.laid (.cells #[.int .i64 0, .int .i64 0, .int .i64 0, .string ⟨#[]⟩, .int .i64 0, .slice none 0 0, .slice none 0 0, .slice none 0 0] 55))
  clear h
  go_enter Tryz.func82, Tryz.ntmps82
  have HCL := hide (dint_any F s e (w.alloc (.cells #[.int .i64 0, .int .i64 0, .int .i64 0, .string ⟨#[]⟩, .int .i64 0, .slice none 0 0, .slice none 0 0, .slice none 0 0] 55)) (by omega) HW.out)
  go_wp2_with fail
  refine HCL.out.mono ?_
  rintro en w1 ⟨_, x1, s1, e1, rfl, ⟨rfl, hg⟩, hd, hw, ht⟩
  have HD1 := hide hd
  have hl1 : s1.length ≤ s.length := hd.1
  have HG1 := hide hg
  have hz1 : w.heap.size + 1 ≤ w1.heap.size := by have := ht.kp.1; simpa using this
  replace HT := hide (HT.out.trans ht)
  replace HR := hide (HR.out.keep ht)
  have HW := hide hw
  clear hd hw ht HCL hg
  have hwl := HW.out.lt
  have HB := hide (Bo.new hwl [.int .i64 x1, .int .i64 0, .int .i64 0, .string ⟨#[]⟩, .int .i64 0, .slice none 0 0, .slice none 0 0, .slice none 0 0] 55)
  replace HT := hide (HT.out.trans (Rt.laid HW.out (.cells #[.int .i64 x1, .int .i64 0, .int .i64 0, .string ⟨#[]⟩, .int .i64 0, .slice none 0 0, .slice none 0 0, .slice none 0 0] 55)))
  replace HR := hide (HR.out.laid (.cells #[.int .i64 x1, .int .i64 0, .int .i64 0, .string ⟨#[]⟩, .int .i64 0, .slice none 0 0, .slice none 0 0, .slice none 0 0] 55))
  replace HW := hide (HW.out.laid (.cells #[.int .i64 x1, .int .i64 0, .int .i64 0, .string ⟨#[]⟩, .int .i64 0, .slice none 0 0, .slice none 0 0, .slice none 0 0] 55))
  have HCL := hide (dvalue_any F s1 e1 (w1.alloc (.cells #[.int .i64 x1, .int .i64 0, .int .i64 0, .string ⟨#[]⟩, .int .i64 0, .slice none 0 0, .slice none 0 0, .slice none 0 0] 55)) (by omega) HW.out)
  go_wp2_with fail
  refine HCL.out.mono ?_
  rintro en w2 ⟨_, x2, s2, e2, rfl, ⟨rfl, hg, hxz⟩, hd, hw, ht⟩
  have HD2 := hide hd
  have hl2 : s2.length ≤ s1.length := hd.1
  have HG2 := hide (And.intro hg hxz)
  have hz2 : w1.heap.size + 1 ≤ w2.heap.size := by have := ht.kp.1; simpa using this
  replace HT := hide (HT.out.trans ht)
  replace HR := hide (HR.out.keep ht)
  replace HB := hide (HB.out.keep ht)
  have HW := hide hw
  clear hd hw ht HCL hg hxz
  obtain ⟨-, bb, bf⟩ := HB.out
  have b1 := bb 1 _ rfl
  have f1 := bf 1 (by simp)
  have b2 := bb 2 _ rfl
  have f2 := bf 2 (by simp)
  have b3 := bb 3 _ rfl
  have f3 := bf 3 (by simp)
  clear bb bf
  replace HW := hide (HW.out.far (b := w1.heap.size) (by omega) 1 (.int .i64 x2.q))
  replace HT := hide (HT.out.own (b := w1.heap.size) (by omega) hF 1 (.int .i64 x2.q))
  replace HR := hide (HR.out.far (b' := w1.heap.size) (by omega) 1 (.int .i64 x2.q))
  replace HB := hide (HB.out.set (c := 1) (by simp) (.int .i64 x2.q))
  replace HW := hide (HW.out.far (b := w1.heap.size) (by omega) 2 (.int .i64 x2.n))
  replace HT := hide (HT.out.own (b := w1.heap.size) (by omega) hF 2 (.int .i64 x2.n))
  replace HR := hide (HR.out.far (b' := w1.heap.size) (by omega) 2 (.int .i64 x2.n))
  replace HB := hide (HB.out.set (c := 2) (by simp) (.int .i64 x2.n))
  replace HW := hide (HW.out.far (b := w1.heap.size) (by omega) 3 (.string x2.s))
  replace HT := hide (HT.out.own (b := w1.heap.size) (by omega) hF 3 (.string x2.s))
  replace HR := hide (HR.out.far (b' := w1.heap.size) (by omega) 3 (.string x2.s))
  replace HB := hide (HB.out.set (c := 3) (by simp) (.string x2.s))
  have HCL := hide (dEn_any F s2 e2 (((w2.setCell ⟨w1.heap.size, 1, none⟩ (.int .i64 x2.q)).setCell ⟨w1.heap.size, 2, none⟩ (.int .i64 x2.n)).setCell ⟨w1.heap.size, 3, none⟩ (.string x2.s)) (by omega) HW.out)
  go_wp2_with fail
  refine HCL.out.mono ?_
  rintro en w3 ⟨_, x3, s3, e3, rfl, ⟨_, rfl, va, vb, vc, rfl, hla, hlb, hlc, hg⟩, hd, hw, ht⟩
  have HD3 := hide hd
  have hl3 : s3.length ≤ s2.length := hd.1
  obtain ⟨Aa3, ca3, rfl⟩ := hla.form
  obtain ⟨Ab3, cb3, rfl⟩ := hlb.form
  obtain ⟨Ac3, cc3, rfl⟩ := hlc.form
  have HG3 := hide hg
  have hz3 : w2.heap.size ≤ w3.heap.size := by have := ht.kp.1; simpa using this
  replace HT := hide (HT.out.trans ht)
  replace HR := hide (HR.out.keep ht)
  replace HB := hide (HB.out.keep ht)
  have HLa3 : Hid (Lst w3 (fun x => w2.heap.size ≤ x ∧ x < w3.heap.size) _ _ _ _) := hide (lst_win rd_Ev0 rl_Ev0 (sz := 5) (by decide) (by first | exact Nat.le_refl _ | simp) hla)
  have HLb3 : Hid (Lst w3 (fun x => w2.heap.size ≤ x ∧ x < w3.heap.size) _ _ _ _) := hide (lst_win rd_Cf rl_Cf (sz := 3) (by decide) (by first | exact Nat.le_refl _ | simp) hlb)
  have HLc3 : Hid (Lst w3 (fun x => w2.heap.size ≤ x ∧ x < w3.heap.size) _ _ _ _) := hide (lst_win rd_Ev0 rl_Ev0 (sz := 5) (by decide) (by first | exact Nat.le_refl _ | simp) hlc)
  have HW := hide hw
  clear hd hw ht HCL hla hlb hlc hg
  clear b1 f1 b2 f2 b3 f3
  obtain ⟨-, bb, bf⟩ := HB.out
  have b0 := bb 0 _ rfl
  have f0 := bf 0 (by simp)
  have b1 := bb 1 _ rfl
  have f1 := bf 1 (by simp)
  have b2 := bb 2 _ rfl
  have f2 := bf 2 (by simp)
  have b3 := bb 3 _ rfl
  have f3 := bf 3 (by simp)
  have b4 := bb 4 _ rfl
  have f4 := bf 4 (by simp)
  have b5 := bb 5 _ rfl
  have f5 := bf 5 (by simp)
  have b6 := bb 6 _ rfl
  have f6 := bf 6 (by simp)
  have b7 := bb 7 _ rfl
  have f7 := bf 7 (by simp)
  clear bb bf
  obtain ⟨-, bb, bf⟩ := HR.out
  have r0 := bb 0 _ rfl
  have g0 := bf 0 (by simp)
  have r1 := bb 1 _ rfl
  have g1 := bf 1 (by simp)
  have r2 := bb 2 _ rfl
  have g2 := bf 2 (by simp)
  have r3 := bb 3 _ rfl
  have g3 := bf 3 (by simp)
  have r4 := bb 4 _ rfl
  have g4 := bf 4 (by simp)
  have r5 := bb 5 _ rfl
  have g5 := bf 5 (by simp)
  have r6 := bb 6 _ rfl
  have g6 := bf 6 (by simp)
  have r7 := bb 7 _ rfl
  have g7 := bf 7 (by simp)
  clear bb bf
  have hrk : w.heap.size < w3.heap.size := by omega
  have hbk : w1.heap.size < w3.heap.size := by omega
  replace HW := hide (HW.out.far (b := w1.heap.size) (by omega) 4 (.int .i64 x3.mark))
  replace HT := hide (HT.out.own (b := w1.heap.size) (by omega) hF 4 (.int .i64 x3.mark))
  replace HR := hide (HR.out.far (b' := w1.heap.size) (by omega) 4 (.int .i64 x3.mark))
  replace HB := hide (HB.out.set (c := 4) (by simp) (.int .i64 x3.mark))
  replace HLa3 := hide (HLa3.out.keep rd_Ev0 (Kp.set ⟨w1.heap.size, 4, none⟩ (.int .i64 x3.mark) (fun x hx => (by omega : x ≠ w1.heap.size))))
  replace HLb3 := hide (HLb3.out.keep rd_Cf (Kp.set ⟨w1.heap.size, 4, none⟩ (.int .i64 x3.mark) (fun x hx => (by omega : x ≠ w1.heap.size))))
  replace HLc3 := hide (HLc3.out.keep rd_Ev0 (Kp.set ⟨w1.heap.size, 4, none⟩ (.int .i64 x3.mark) (fun x hx => (by omega : x ≠ w1.heap.size))))
  replace HW := hide (HW.out.far (b := w1.heap.size) (by omega) 5 (.slice Aa3 x3.wait.length ca3))
  replace HT := hide (HT.out.own (b := w1.heap.size) (by omega) hF 5 (.slice Aa3 x3.wait.length ca3))
  replace HR := hide (HR.out.far (b' := w1.heap.size) (by omega) 5 (.slice Aa3 x3.wait.length ca3))
  replace HB := hide (HB.out.set (c := 5) (by simp) (.slice Aa3 x3.wait.length ca3))
  replace HLa3 := hide (HLa3.out.keep rd_Ev0 (Kp.set ⟨w1.heap.size, 5, none⟩ (.slice Aa3 x3.wait.length ca3) (fun x hx => (by omega : x ≠ w1.heap.size))))
  replace HLb3 := hide (HLb3.out.keep rd_Cf (Kp.set ⟨w1.heap.size, 5, none⟩ (.slice Aa3 x3.wait.length ca3) (fun x hx => (by omega : x ≠ w1.heap.size))))
  replace HLc3 := hide (HLc3.out.keep rd_Ev0 (Kp.set ⟨w1.heap.size, 5, none⟩ (.slice Aa3 x3.wait.length ca3) (fun x hx => (by omega : x ≠ w1.heap.size))))
  replace HW := hide (HW.out.far (b := w1.heap.size) (by omega) 6 (.slice Ab3 x3.runs.length cb3))
  replace HT := hide (HT.out.own (b := w1.heap.size) (by omega) hF 6 (.slice Ab3 x3.runs.length cb3))
  replace HR := hide (HR.out.far (b' := w1.heap.size) (by omega) 6 (.slice Ab3 x3.runs.length cb3))
  replace HB := hide (HB.out.set (c := 6) (by simp) (.slice Ab3 x3.runs.length cb3))
  replace HLa3 := hide (HLa3.out.keep rd_Ev0 (Kp.set ⟨w1.heap.size, 6, none⟩ (.slice Ab3 x3.runs.length cb3) (fun x hx => (by omega : x ≠ w1.heap.size))))
  replace HLb3 := hide (HLb3.out.keep rd_Cf (Kp.set ⟨w1.heap.size, 6, none⟩ (.slice Ab3 x3.runs.length cb3) (fun x hx => (by omega : x ≠ w1.heap.size))))
  replace HLc3 := hide (HLc3.out.keep rd_Ev0 (Kp.set ⟨w1.heap.size, 6, none⟩ (.slice Ab3 x3.runs.length cb3) (fun x hx => (by omega : x ≠ w1.heap.size))))
  replace HW := hide (HW.out.far (b := w1.heap.size) (by omega) 7 (.slice Ac3 x3.held.length cc3))
  replace HT := hide (HT.out.own (b := w1.heap.size) (by omega) hF 7 (.slice Ac3 x3.held.length cc3))
  replace HR := hide (HR.out.far (b' := w1.heap.size) (by omega) 7 (.slice Ac3 x3.held.length cc3))
  replace HB := hide (HB.out.set (c := 7) (by simp) (.slice Ac3 x3.held.length cc3))
  replace HLa3 := hide (HLa3.out.keep rd_Ev0 (Kp.set ⟨w1.heap.size, 7, none⟩ (.slice Ac3 x3.held.length cc3) (fun x hx => (by omega : x ≠ w1.heap.size))))
  replace HLb3 := hide (HLb3.out.keep rd_Cf (Kp.set ⟨w1.heap.size, 7, none⟩ (.slice Ac3 x3.held.length cc3) (fun x hx => (by omega : x ≠ w1.heap.size))))
  replace HLc3 := hide (HLc3.out.keep rd_Ev0 (Kp.set ⟨w1.heap.size, 7, none⟩ (.slice Ac3 x3.held.length cc3) (fun x hx => (by omega : x ≠ w1.heap.size))))
  go_wp2
  refine bodyPost_ret (v := .agg #[.int .i64 x1, .int .i64 x2.q, .int .i64 x2.n, .string x2.s, .int .i64 x3.mark, .slice Aa3 x3.wait.length ca3, .slice Ab3 x3.runs.length cb3, .slice Ac3 x3.held.length cc3]) (by rw [results_c rfl]; go_simp) rfl ?_
  exact ⟨_, ⟨x1, x2, x3⟩, s3, e3, rfl, ⟨_, rfl, ⟨_, _, _, rfl, (lst_out rd_Ev0 HLa3.out (by exact ((((((((Kp.set ⟨w.heap.size, 0, none⟩ _ (fun (x : Nat) (hx : w2.heap.size ≤ x ∧ x < w3.heap.size) => (by omega : x ≠ w.heap.size))).trans (Kp.set ⟨w.heap.size, 1, none⟩ _ (fun (x : Nat) (hx : w2.heap.size ≤ x ∧ x < w3.heap.size) => (by omega : x ≠ w.heap.size)))).trans (Kp.set ⟨w.heap.size, 2, none⟩ _ (fun (x : Nat) (hx : w2.heap.size ≤ x ∧ x < w3.heap.size) => (by omega : x ≠ w.heap.size)))).trans (Kp.set ⟨w.heap.size, 3, none⟩ _ (fun (x : Nat) (hx : w2.heap.size ≤ x ∧ x < w3.heap.size) => (by omega : x ≠ w.heap.size)))).trans (Kp.set ⟨w.heap.size, 4, none⟩ _ (fun (x : Nat) (hx : w2.heap.size ≤ x ∧ x < w3.heap.size) => (by omega : x ≠ w.heap.size)))).trans (Kp.set ⟨w.heap.size, 5, none⟩ _ (fun (x : Nat) (hx : w2.heap.size ≤ x ∧ x < w3.heap.size) => (by omega : x ≠ w.heap.size)))).trans (Kp.set ⟨w.heap.size, 6, none⟩ _ (fun (x : Nat) (hx : w2.heap.size ≤ x ∧ x < w3.heap.size) => (by omega : x ≠ w.heap.size)))).trans (Kp.set ⟨w.heap.size, 7, none⟩ _ (fun (x : Nat) (hx : w2.heap.size ≤ x ∧ x < w3.heap.size) => (by omega : x ≠ w.heap.size))))) (by omega)), (lst_out rd_Cf HLb3.out (by exact ((((((((Kp.set ⟨w.heap.size, 0, none⟩ _ (fun (x : Nat) (hx : w2.heap.size ≤ x ∧ x < w3.heap.size) => (by omega : x ≠ w.heap.size))).trans (Kp.set ⟨w.heap.size, 1, none⟩ _ (fun (x : Nat) (hx : w2.heap.size ≤ x ∧ x < w3.heap.size) => (by omega : x ≠ w.heap.size)))).trans (Kp.set ⟨w.heap.size, 2, none⟩ _ (fun (x : Nat) (hx : w2.heap.size ≤ x ∧ x < w3.heap.size) => (by omega : x ≠ w.heap.size)))).trans (Kp.set ⟨w.heap.size, 3, none⟩ _ (fun (x : Nat) (hx : w2.heap.size ≤ x ∧ x < w3.heap.size) => (by omega : x ≠ w.heap.size)))).trans (Kp.set ⟨w.heap.size, 4, none⟩ _ (fun (x : Nat) (hx : w2.heap.size ≤ x ∧ x < w3.heap.size) => (by omega : x ≠ w.heap.size)))).trans (Kp.set ⟨w.heap.size, 5, none⟩ _ (fun (x : Nat) (hx : w2.heap.size ≤ x ∧ x < w3.heap.size) => (by omega : x ≠ w.heap.size)))).trans (Kp.set ⟨w.heap.size, 6, none⟩ _ (fun (x : Nat) (hx : w2.heap.size ≤ x ∧ x < w3.heap.size) => (by omega : x ≠ w.heap.size)))).trans (Kp.set ⟨w.heap.size, 7, none⟩ _ (fun (x : Nat) (hx : w2.heap.size ≤ x ∧ x < w3.heap.size) => (by omega : x ≠ w.heap.size))))) (by omega)), (lst_out rd_Ev0 HLc3.out (by exact ((((((((Kp.set ⟨w.heap.size, 0, none⟩ _ (fun (x : Nat) (hx : w2.heap.size ≤ x ∧ x < w3.heap.size) => (by omega : x ≠ w.heap.size))).trans (Kp.set ⟨w.heap.size, 1, none⟩ _ (fun (x : Nat) (hx : w2.heap.size ≤ x ∧ x < w3.heap.size) => (by omega : x ≠ w.heap.size)))).trans (Kp.set ⟨w.heap.size, 2, none⟩ _ (fun (x : Nat) (hx : w2.heap.size ≤ x ∧ x < w3.heap.size) => (by omega : x ≠ w.heap.size)))).trans (Kp.set ⟨w.heap.size, 3, none⟩ _ (fun (x : Nat) (hx : w2.heap.size ≤ x ∧ x < w3.heap.size) => (by omega : x ≠ w.heap.size)))).trans (Kp.set ⟨w.heap.size, 4, none⟩ _ (fun (x : Nat) (hx : w2.heap.size ≤ x ∧ x < w3.heap.size) => (by omega : x ≠ w.heap.size)))).trans (Kp.set ⟨w.heap.size, 5, none⟩ _ (fun (x : Nat) (hx : w2.heap.size ≤ x ∧ x < w3.heap.size) => (by omega : x ≠ w.heap.size)))).trans (Kp.set ⟨w.heap.size, 6, none⟩ _ (fun (x : Nat) (hx : w2.heap.size ≤ x ∧ x < w3.heap.size) => (by omega : x ≠ w.heap.size)))).trans (Kp.set ⟨w.heap.size, 7, none⟩ _ (fun (x : Nat) (hx : w2.heap.size ≤ x ∧ x < w3.heap.size) => (by omega : x ≠ w.heap.size))))) (by omega)), HG1.out, HG2.out.1, Nat.le_trans HG2.out.2 (by decide), HG3.out⟩⟩, by unfold pKyd; exact (HD1.out.bind (HD2.out.bind (HD3.out.bind (De.ret _)))), ((((((((HW.out.far (b := w.heap.size) (by omega) 0 _).far (b := w.heap.size) (by omega) 1 _).far (b := w.heap.size) (by omega) 2 _).far (b := w.heap.size) (by omega) 3 _).far (b := w.heap.size) (by omega) 4 _).far (b := w.heap.size) (by omega) 5 _).far (b := w.heap.size) (by omega) 6 _).far (b := w.heap.size) (by omega) 7 _), ((((((((HT.out.own (b := w.heap.size) (Nat.le_refl _) hF 0 _).own (b := w.heap.size) (Nat.le_refl _) hF 1 _).own (b := w.heap.size) (Nat.le_refl _) hF 2 _).own (b := w.heap.size) (Nat.le_refl _) hF 3 _).own (b := w.heap.size) (Nat.le_refl _) hF 4 _).own (b := w.heap.size) (Nat.le_refl _) hF 5 _).own (b := w.heap.size) (Nat.le_refl _) hF 6 _).own (b := w.heap.size) (Nat.le_refl _) hF 7 _)⟩
end
end Go.Proofs.YtofdcgojgcnopaaGreat

namespace Go.Proofs.YtofdcgojgcnopaaGreat
open Go.RowKit
set_option linter.unusedVariables false
set_option linter.unusedSimpArgs false
section
variable (F : Nat) (s : Bs) (e : Int) (w : World)
set_option maxRecDepth 100000 in
set_option maxHeartbeats 8000000 in
theorem getKy_any (hs : s.length ≤ 100000000) (h : Rw w F s e) : Calls Tryz.prog 81 #[.pointer (some ⟨F, 0, none⟩), .func (.func 82) #[.pointer (some ⟨F, 0, none⟩)] #[]] w (Rds F (pL pKyd) (RLs 8 RKy w.heap.size) s e w) := by
  have HI := hide (dint_any F s e w hs h)
  have hF := h.lt
  obtain ⟨i0, hi0, hz0, hz1, hz2⟩ := info_parts info_keyed
  clear h
  go_enter Tryz.func81, Tryz.ntmps81
  go_wp2_with fail
  refine HI.out.mono ?_
  rintro en w2 ⟨_, n, s1, e1, rfl, ⟨rfl, hn⟩, hd, hw, ht⟩
  have HD := hide hd
  have HW2 := hide hw
  have HT2 := hide ht
  have hl := hd.1
  unfold inI at hn
  clear hd hw ht
  by_cases hbad : n < 0 ∨ 4096 < n
  · have HF := hide (dfail_any F s1 e1 w2 5 HW2.out)
    have hfin : ∀ (j : Nat) l (s' : Bs) (e' : Int), De (pMany pKyd j) s1 (if e1 = 0 then 5 else e1) l s' e' → (j : Int) ≤ max n 0 → (n ≤ j ∨ e' ≠ 0) → De (pL pKyd) s e l s' e' := fun j l s' e' hm _ _ => HD.out.listBad hbad hm
    obtain ⟨e2, he2⟩ : ∃ e2, (if e1 = 0 then 5 else e1) = e2 := ⟨_, rfl⟩
    have hne : e2 ≠ 0 := by rw [← he2]; split <;> omega
    have hbd : e2 = 0 → n ≤ 4096 := fun h => absurd h hne
    rw [he2] at HF hfin
    clear he2 hne HI
    rcases hbad with hb1 | hb1
    · skip
      go_wp2_with fail
      refine HF.out.mono ?_
      rintro en w3 ⟨rfl, hw, ht⟩
      replace HT2 := hide (HT2.out.trans ht)
      replace HW2 := hide hw
      clear hw ht HF
      go_wp2
      have HBD := hide hbd
      have HFIN := hide hfin
      clear hbd hfin
      go_loopw [6, 7] (fun v i wr => ∃ j : Nat, i = .int .i64 j ∧ Hid (∃ l s' e', Rw wr F s' e' ∧ Rt F w wr ∧ Grw wr w.heap.size 55 8 RKy v l ∧ De (pMany pKyd j) s1 e2 l s' e' ∧ l.length = j ∧ (j : Int) ≤ max n 0 ∧ s'.length ≤ s.length ∧ j ≤ 4096)) (fun _ i _ => (n - intOf i).toNat)
      case atStart => exact ⟨0, rfl, hide ⟨[], s1, e2, HW2.out, HT2.out, Grw.nil, De.nil (Nat.le_refl _) (fun _ => rfl), rfl, by omega, hl, by omega⟩⟩
      case round =>
        obtain ⟨j, rfl, HR⟩ := hrel
        obtain ⟨l, s', e', hw, ht, hg, hd, hj, hjn, hsl, hj4⟩ := HR.out
        have HW := hide hw
        have HT := hide ht
        have HG := hide hg
        have HDE := hide hd
        have HJ := hide hj
        have c1 := hw.c1
        clear hw ht hg hd hj
        by_cases hlt : (j : Int) < n
        · exfalso; omega
        · skip
          go_wp2
          go_ret
          exact ⟨_, l, s', e', rfl, ⟨HG.out.lst rd_Ky (by decide) (by have := HJ.out; unfold maxLen; omega), by have := HJ.out; omega⟩, HFIN.out j l s' e' HDE.out (by omega) (by omega), HW.out, HT.out⟩
    · skip
      go_wp2_with fail
      refine HF.out.mono ?_
      rintro en w3 ⟨rfl, hw, ht⟩
      replace HT2 := hide (HT2.out.trans ht)
      replace HW2 := hide hw
      clear hw ht HF
      go_wp2
      have HBD := hide hbd
      have HFIN := hide hfin
      clear hbd hfin
      go_loopw [6, 7] (fun v i wr => ∃ j : Nat, i = .int .i64 j ∧ Hid (∃ l s' e', Rw wr F s' e' ∧ Rt F w wr ∧ Grw wr w.heap.size 55 8 RKy v l ∧ De (pMany pKyd j) s1 e2 l s' e' ∧ l.length = j ∧ (j : Int) ≤ max n 0 ∧ s'.length ≤ s.length ∧ j ≤ 4096)) (fun _ i _ => (n - intOf i).toNat)
      case atStart => exact ⟨0, rfl, hide ⟨[], s1, e2, HW2.out, HT2.out, Grw.nil, De.nil (Nat.le_refl _) (fun _ => rfl), rfl, by omega, hl, by omega⟩⟩
      case round =>
        obtain ⟨j, rfl, HR⟩ := hrel
        obtain ⟨l, s', e', hw, ht, hg, hd, hj, hjn, hsl, hj4⟩ := HR.out
        have HW := hide hw
        have HT := hide ht
        have HG := hide hg
        have HDE := hide hd
        have HJ := hide hj
        have c1 := hw.c1
        clear hw ht hg hd hj
        by_cases hlt : (j : Int) < n
        · by_cases he : e' = 0
          · subst he
            have hn4 : n ≤ 4096 := HBD.out (Classical.byContradiction fun hne => hne (HDE.out.2.1 hne).symm)
            exfalso; omega
          · have te : (e' == 0) = false := beq_eq_false_iff_ne.2 he
            go_wp2
            go_ret
            exact ⟨_, l, s', e', rfl, ⟨HG.out.lst rd_Ky (by decide) (by have := HJ.out; unfold maxLen; omega), by have := HJ.out; omega⟩, HFIN.out j l s' e' HDE.out (by omega) (.inr he), HW.out, HT.out⟩
        · skip
          go_wp2
          go_ret
          exact ⟨_, l, s', e', rfl, ⟨HG.out.lst rd_Ky (by decide) (by have := HJ.out; unfold maxLen; omega), by have := HJ.out; omega⟩, HFIN.out j l s' e' HDE.out (by omega) (by omega), HW.out, HT.out⟩
  · have hfin : ∀ (j : Nat) l (s' : Bs) (e' : Int), De (pMany pKyd j) s1 e1 l s' e' → (j : Int) ≤ max n 0 → (n ≤ j ∨ e' ≠ 0) → De (pL pKyd) s e l s' e' := fun j l s' e' hm hj hx => HD.out.list hbad hm (by omega) (by omega)
    have hbd : e1 = 0 → n ≤ 4096 := fun _ => by omega
    obtain ⟨e2, rfl⟩ : ∃ e2, e2 = e1 := ⟨_, rfl⟩
    have hb1 : 0 ≤ n := by omega
    have hb2 : n ≤ 4096 := by omega
    clear HI
    go_wp2
    have HBD := hide hbd
    have HFIN := hide hfin
    clear hbd hfin
    go_loopw [6, 7] (fun v i wr => ∃ j : Nat, i = .int .i64 j ∧ Hid (∃ l s' e', Rw wr F s' e' ∧ Rt F w wr ∧ Grw wr w.heap.size 55 8 RKy v l ∧ De (pMany pKyd j) s1 e2 l s' e' ∧ l.length = j ∧ (j : Int) ≤ max n 0 ∧ s'.length ≤ s.length ∧ j ≤ 4096)) (fun _ i _ => (n - intOf i).toNat)
    case atStart => exact ⟨0, rfl, hide ⟨[], s1, e2, HW2.out, HT2.out, Grw.nil, De.nil (Nat.le_refl _) (fun _ => rfl), rfl, by omega, hl, by omega⟩⟩
    case round =>
      obtain ⟨j, rfl, HR⟩ := hrel
      obtain ⟨l, s', e', hw, ht, hg, hd, hj, hjn, hsl, hj4⟩ := HR.out
      have HW := hide hw
      have HT := hide ht
      have HG := hide hg
      have HDE := hide hd
      have HJ := hide hj
      have c1 := hw.c1
      clear hw ht hg hd hj
      by_cases hlt : (j : Int) < n
      · by_cases he : e' = 0
        · subst he
          have hn4 : n ≤ 4096 := HBD.out (Classical.byContradiction fun hne => hne (HDE.out.2.1 hne).symm)
          have HONE := hide (dky_any F s' 0 wr (Nat.le_trans hsl hs) HW.out)
          have hwF : F < wr.heap.size := HW.out.lt
          have hww : w.heap.size ≤ wr.heap.size := HT.out.kp.1
          go_wp2_with fail
          refine HONE.out.mono ?_
          rintro en w3 ⟨_, x, s3, e3, rfl, ⟨_, rfl, u, v, t, rfl, hla, hlb, hlc, hg⟩, hd, hw, ht⟩
          obtain ⟨A9, c9, rfl⟩ := hla.form
          obtain ⟨A8, c8, rfl⟩ := hlb.form
          obtain ⟨A7, c7, rfl⟩ := hlc.form
          have HX : Hid (RKy w3 (wr.heap.size ≤ ·) [.int .i64 x.query, .int .i64 x.key.q, .int .i64 x.key.n, .string x.key.s, .int .i64 x.eng.mark, .slice A9 x.eng.wait.length c9, .slice A8 x.eng.runs.length c8, .slice A7 x.eng.held.length c7] x) := hide ⟨_, _, _, rfl, hla, hlb, hlc, hg⟩
          clear hla hlb hlc hg
          have HD3 := hide hd
          have HW3 := hide hw
          have HT3 := hide ht
          have HG3 := hide (HG.out.keep rd_Ky ht hF)
          have hlow := HG.out.low
          have HLOW := hide hlow
          have hlen : l.length < 1099511627776 := by have := HJ.out; omega
          have hlen2 := ht.kp.1
          clear hd hw ht hlow c1
          go_wp2_with (go_loud (at_builtin; refine wpList_append_grw rd_Ky rl_Ky rfl _ _ 45 rfl w.heap.size 55 i0 _ 120 Tryz.underlying45 hi0 hz0 [.int .i64 x.query, .int .i64 x.key.q, .int .i64 x.key.n, .string x.key.s, .int .i64 x.eng.mark, .slice A9 x.eng.wait.length c9, .slice A8 x.eng.runs.length c8, .slice A7 x.eng.held.length c7] hz1 hz2 rfl (by simp) u6 _ rfl HG3.out _ rfl (by simp [Value.oneCell']) x HX.out (by exact hww) HLOW.out hlen (by decide) ?c3 ?_; (case c3 => exact Nat.le_trans hww hlen2); intro v2 w4 hg4 hb4 hs4))
          have HR2 : Hid (∃ l s' e', Rw w4 F s' e' ∧ Rt F w w4 ∧ Grw w4 w.heap.size 55 8 RKy v2 l ∧ De (pMany pKyd (j + 1)) s1 e2 l s' e' ∧ l.length = j + 1 ∧ ((j + 1 : Nat) : Int) ≤ max n 0 ∧ s'.length ≤ s.length ∧ j + 1 ≤ 4096) :=
            hide ⟨l ++ [x], s3, e3, HW3.out.low hb4 hF, (HT.out.trans HT3.out).below hb4 (Nat.le_of_lt hF), hg4, HDE.out.snoc HD3.out, by rw [List.length_append, HJ.out]; rfl, by omega, Nat.le_trans HD3.out.1 hsl, by omega⟩
          clear hg4 hb4 HG3 HX HD3 HW3 HT3 HLOW hs4 hlen2
          go_wp2
          go_roundw
          case rel => exact ⟨j + 1, by go_num, HR2⟩
          case measure => simp [intOf]; omega
        · have te : (e' == 0) = false := beq_eq_false_iff_ne.2 he
          go_wp2
          go_ret
          exact ⟨_, l, s', e', rfl, ⟨HG.out.lst rd_Ky (by decide) (by have := HJ.out; unfold maxLen; omega), by have := HJ.out; omega⟩, HFIN.out j l s' e' HDE.out (by omega) (.inr he), HW.out, HT.out⟩
      · skip
        go_wp2
        go_ret
        exact ⟨_, l, s', e', rfl, ⟨HG.out.lst rd_Ky (by decide) (by have := HJ.out; unfold maxLen; omega), by have := HJ.out; omega⟩, HFIN.out j l s' e' HDE.out (by omega) (by omega), HW.out, HT.out⟩
end
end Go.Proofs.YtofdcgojgcnopaaGreat

namespace Go.Proofs.YtofdcgojgcnopaaGreat
open Go.RowKit
set_option linter.unusedVariables false
set_option linter.unusedSimpArgs false
section
variable (F : Nat) (s : Bs) (e : Int) (w : World)
set_option maxRecDepth 100000 in
set_option maxHeartbeats 8000000 in
theorem dop_any (hs : s.length ≤ 100000000) (h : Rw w F s e) : Calls Tryz.prog 53 #[.pointer (some ⟨F, 0, none⟩)] w (Rds F pOpr (RA ROp w.heap.size) s e w) := by
  have hF := h.lt
  have HT := hide (Rt.laid h (.cells #[.slice none 0 0, .slice none 0 0] 47))
  have HR := hide (Bo.new hF [.slice none 0 0, .slice none 0 0] 47)
  have HW := hide (h.laid (.cells #[.slice none 0 0, .slice none 0 0] 47))
  clear h
  go_enter Tryz.func53, Tryz.ntmps53
  have HCL := hide (getI_any F s e (w.alloc (.cells #[.slice none 0 0, .slice none 0 0] 47)) (by omega) HW.out)
  go_wp2_with fail
  refine HCL.out.mono ?_
  rintro en w1 ⟨_, x1, s1, e1, rfl, ⟨hlst, hlq⟩, hd, hw, ht⟩
  have HD1 := hide hd
  have hl1 : s1.length ≤ s.length := hd.1
  obtain ⟨A1, c1, rfl⟩ := hlst.form
  have HQ1 := hide hlq
  have hz1 : w.heap.size + 1 ≤ w1.heap.size := by have := ht.kp.1; simpa using this
  replace HT := hide (HT.out.trans ht)
  replace HR := hide (HR.out.keep ht)
  have HL1 : Hid (Lst w1 (fun x => w.heap.size + 1 ≤ x ∧ x < w1.heap.size) _ _ _ _) := hide (lst_win rd_In rl_In (sz := 1) (by decide) (by first | exact Nat.le_refl _ | simp) hlst)
  have HW := hide hw
  clear hd hw ht HCL hlst hlq
  have hwl := HW.out.lt
  have HB := hide (Bo.new hwl [.slice A1 x1.length c1, .slice none 0 0] 47)
  replace HT := hide (HT.out.trans (Rt.laid HW.out (.cells #[.slice A1 x1.length c1, .slice none 0 0] 47)))
  replace HR := hide (HR.out.laid (.cells #[.slice A1 x1.length c1, .slice none 0 0] 47))
  replace HL1 := hide (HL1.out.keep rd_In (Kp.alloc (.cells #[.slice A1 x1.length c1, .slice none 0 0] 47)))
  replace HW := hide (HW.out.laid (.cells #[.slice A1 x1.length c1, .slice none 0 0] 47))
  have HCL := hide (getKy_any F s1 e1 (w1.alloc (.cells #[.slice A1 x1.length c1, .slice none 0 0] 47)) (by omega) HW.out)
  go_wp2_with fail
  refine HCL.out.mono ?_
  rintro en w2 ⟨_, x2, s2, e2, rfl, ⟨hlst, hlq⟩, hd, hw, ht⟩
  have HD2 := hide hd
  have hl2 : s2.length ≤ s1.length := hd.1
  obtain ⟨A2, c2, rfl⟩ := hlst.form
  have HQ2 := hide hlq
  have hz2 : w1.heap.size + 1 ≤ w2.heap.size := by have := ht.kp.1; simpa using this
  replace HT := hide (HT.out.trans ht)
  replace HR := hide (HR.out.keep ht)
  replace HB := hide (HB.out.keep ht)
  replace HL1 := hide (HL1.out.keep rd_In (ht.kp.less fun x hx => (by omega : x ≠ F)))
  have HL2 : Hid (Lst w2 (fun x => w1.heap.size + 1 ≤ x ∧ x < w2.heap.size) _ _ _ _) := hide (lst_win rd_Ky rl_Ky (sz := 8) (by decide) (by first | exact Nat.le_refl _ | simp) hlst)
  have HW := hide hw
  clear hd hw ht HCL hlst hlq
  obtain ⟨-, bb, bf⟩ := HB.out
  have b0 := bb 0 _ rfl
  have f0 := bf 0 (by simp)
  have b1 := bb 1 _ rfl
  have f1 := bf 1 (by simp)
  clear bb bf
  obtain ⟨-, bb, bf⟩ := HR.out
  have r0 := bb 0 _ rfl
  have g0 := bf 0 (by simp)
  have r1 := bb 1 _ rfl
  have g1 := bf 1 (by simp)
  clear bb bf
  have hrk : w.heap.size < w2.heap.size := by omega
  have hbk : w1.heap.size < w2.heap.size := by omega
  replace HW := hide (HW.out.far (b := w1.heap.size) (by omega) 1 (.slice A2 x2.length c2))
  replace HT := hide (HT.out.own (b := w1.heap.size) (by omega) hF 1 (.slice A2 x2.length c2))
  replace HR := hide (HR.out.far (b' := w1.heap.size) (by omega) 1 (.slice A2 x2.length c2))
  replace HB := hide (HB.out.set (c := 1) (by simp) (.slice A2 x2.length c2))
  replace HL1 := hide (HL1.out.keep rd_In (Kp.set ⟨w1.heap.size, 1, none⟩ (.slice A2 x2.length c2) (fun x hx => (by omega : x ≠ w1.heap.size))))
  replace HL2 := hide (HL2.out.keep rd_Ky (Kp.set ⟨w1.heap.size, 1, none⟩ (.slice A2 x2.length c2) (fun x hx => (by omega : x ≠ w1.heap.size))))
  go_wp2
  refine bodyPost_ret (v := .agg #[.slice A1 x1.length c1, .slice A2 x2.length c2]) (by rw [results_c rfl]; go_simp) rfl ?_
  exact ⟨_, ⟨x1, x2⟩, s2, e2, rfl, ⟨_, rfl, ⟨_, _, rfl, (lst_out rd_In HL1.out (by exact ((Kp.set ⟨w.heap.size, 0, none⟩ _ (fun (x : Nat) (hx : w.heap.size + 1 ≤ x ∧ x < w1.heap.size) => (by omega : x ≠ w.heap.size))).trans (Kp.set ⟨w.heap.size, 1, none⟩ _ (fun (x : Nat) (hx : w.heap.size + 1 ≤ x ∧ x < w1.heap.size) => (by omega : x ≠ w.heap.size))))) (by omega)), (lst_out rd_Ky HL2.out (by exact ((Kp.set ⟨w.heap.size, 0, none⟩ _ (fun (x : Nat) (hx : w1.heap.size + 1 ≤ x ∧ x < w2.heap.size) => (by omega : x ≠ w.heap.size))).trans (Kp.set ⟨w.heap.size, 1, none⟩ _ (fun (x : Nat) (hx : w1.heap.size + 1 ≤ x ∧ x < w2.heap.size) => (by omega : x ≠ w.heap.size))))) (by omega))⟩⟩, by unfold pOpr; exact (HD1.out.bind (HD2.out.bind (De.ret _))), ((HW.out.far (b := w.heap.size) (by omega) 0 _).far (b := w.heap.size) (by omega) 1 _), ((HT.out.own (b := w.heap.size) (Nat.le_refl _) hF 0 _).own (b := w.heap.size) (Nat.le_refl _) hF 1 _)⟩
end
end Go.Proofs.YtofdcgojgcnopaaGreat

namespace Go.Proofs.YtofdcgojgcnopaaGreat
open Go.RowKit
set_option linter.unusedVariables false
set_option linter.unusedSimpArgs false
section
variable (F : Nat) (s : Bs) (e : Int) (w : World)
set_option maxRecDepth 100000 in
set_option maxHeartbeats 8000000 in
theorem getOp_any (hs : s.length ≤ 100000000) (h : Rw w F s e) : Calls Tryz.prog 52 #[.pointer (some ⟨F, 0, none⟩), .func (.func 53) #[.pointer (some ⟨F, 0, none⟩)] #[]] w (Rds F (pL pOpr) (RLs 2 ROp w.heap.size) s e w) := by
  have HI := hide (dint_any F s e w hs h)
  have hF := h.lt
  obtain ⟨i0, hi0, hz0, hz1, hz2⟩ := info_parts info_operator
  clear h
  go_enter Tryz.func52, Tryz.ntmps52
  go_wp2_with fail
  refine HI.out.mono ?_
  rintro en w2 ⟨_, n, s1, e1, rfl, ⟨rfl, hn⟩, hd, hw, ht⟩
  have HD := hide hd
  have HW2 := hide hw
  have HT2 := hide ht
  have hl := hd.1
  unfold inI at hn
  clear hd hw ht
  by_cases hbad : n < 0 ∨ 4096 < n
  · have HF := hide (dfail_any F s1 e1 w2 5 HW2.out)
    have hfin : ∀ (j : Nat) l (s' : Bs) (e' : Int), De (pMany pOpr j) s1 (if e1 = 0 then 5 else e1) l s' e' → (j : Int) ≤ max n 0 → (n ≤ j ∨ e' ≠ 0) → De (pL pOpr) s e l s' e' := fun j l s' e' hm _ _ => HD.out.listBad hbad hm
    obtain ⟨e2, he2⟩ : ∃ e2, (if e1 = 0 then 5 else e1) = e2 := ⟨_, rfl⟩
    have hne : e2 ≠ 0 := by rw [← he2]; split <;> omega
    have hbd : e2 = 0 → n ≤ 4096 := fun h => absurd h hne
    rw [he2] at HF hfin
    clear he2 hne HI
    rcases hbad with hb1 | hb1
    · skip
      go_wp2_with fail
      refine HF.out.mono ?_
      rintro en w3 ⟨rfl, hw, ht⟩
      replace HT2 := hide (HT2.out.trans ht)
      replace HW2 := hide hw
      clear hw ht HF
      go_wp2
      have HBD := hide hbd
      have HFIN := hide hfin
      clear hbd hfin
      go_loopw [6, 7] (fun v i wr => ∃ j : Nat, i = .int .i64 j ∧ Hid (∃ l s' e', Rw wr F s' e' ∧ Rt F w wr ∧ Grw wr w.heap.size 47 2 ROp v l ∧ De (pMany pOpr j) s1 e2 l s' e' ∧ l.length = j ∧ (j : Int) ≤ max n 0 ∧ s'.length ≤ s.length ∧ j ≤ 4096)) (fun _ i _ => (n - intOf i).toNat)
      case atStart => exact ⟨0, rfl, hide ⟨[], s1, e2, HW2.out, HT2.out, Grw.nil, De.nil (Nat.le_refl _) (fun _ => rfl), rfl, by omega, hl, by omega⟩⟩
      case round =>
        obtain ⟨j, rfl, HR⟩ := hrel
        obtain ⟨l, s', e', hw, ht, hg, hd, hj, hjn, hsl, hj4⟩ := HR.out
        have HW := hide hw
        have HT := hide ht
        have HG := hide hg
        have HDE := hide hd
        have HJ := hide hj
        have c1 := hw.c1
        clear hw ht hg hd hj
        by_cases hlt : (j : Int) < n
        · exfalso; omega
        · skip
          go_wp2
          go_ret
          exact ⟨_, l, s', e', rfl, ⟨HG.out.lst rd_Op (by decide) (by have := HJ.out; unfold maxLen; omega), by have := HJ.out; omega⟩, HFIN.out j l s' e' HDE.out (by omega) (by omega), HW.out, HT.out⟩
    · skip
      go_wp2_with fail
      refine HF.out.mono ?_
      rintro en w3 ⟨rfl, hw, ht⟩
      replace HT2 := hide (HT2.out.trans ht)
      replace HW2 := hide hw
      clear hw ht HF
      go_wp2
      have HBD := hide hbd
      have HFIN := hide hfin
      clear hbd hfin
      go_loopw [6, 7] (fun v i wr => ∃ j : Nat, i = .int .i64 j ∧ Hid (∃ l s' e', Rw wr F s' e' ∧ Rt F w wr ∧ Grw wr w.heap.size 47 2 ROp v l ∧ De (pMany pOpr j) s1 e2 l s' e' ∧ l.length = j ∧ (j : Int) ≤ max n 0 ∧ s'.length ≤ s.length ∧ j ≤ 4096)) (fun _ i _ => (n - intOf i).toNat)
      case atStart => exact ⟨0, rfl, hide ⟨[], s1, e2, HW2.out, HT2.out, Grw.nil, De.nil (Nat.le_refl _) (fun _ => rfl), rfl, by omega, hl, by omega⟩⟩
      case round =>
        obtain ⟨j, rfl, HR⟩ := hrel
        obtain ⟨l, s', e', hw, ht, hg, hd, hj, hjn, hsl, hj4⟩ := HR.out
        have HW := hide hw
        have HT := hide ht
        have HG := hide hg
        have HDE := hide hd
        have HJ := hide hj
        have c1 := hw.c1
        clear hw ht hg hd hj
        by_cases hlt : (j : Int) < n
        · by_cases he : e' = 0
          · subst he
            have hn4 : n ≤ 4096 := HBD.out (Classical.byContradiction fun hne => hne (HDE.out.2.1 hne).symm)
            exfalso; omega
          · have te : (e' == 0) = false := beq_eq_false_iff_ne.2 he
            go_wp2
            go_ret
            exact ⟨_, l, s', e', rfl, ⟨HG.out.lst rd_Op (by decide) (by have := HJ.out; unfold maxLen; omega), by have := HJ.out; omega⟩, HFIN.out j l s' e' HDE.out (by omega) (.inr he), HW.out, HT.out⟩
        · skip
          go_wp2
          go_ret
          exact ⟨_, l, s', e', rfl, ⟨HG.out.lst rd_Op (by decide) (by have := HJ.out; unfold maxLen; omega), by have := HJ.out; omega⟩, HFIN.out j l s' e' HDE.out (by omega) (by omega), HW.out, HT.out⟩
  · have hfin : ∀ (j : Nat) l (s' : Bs) (e' : Int), De (pMany pOpr j) s1 e1 l s' e' → (j : Int) ≤ max n 0 → (n ≤ j ∨ e' ≠ 0) → De (pL pOpr) s e l s' e' := fun j l s' e' hm hj hx => HD.out.list hbad hm (by omega) (by omega)
    have hbd : e1 = 0 → n ≤ 4096 := fun _ => by omega
    obtain ⟨e2, rfl⟩ : ∃ e2, e2 = e1 := ⟨_, rfl⟩
    have hb1 : 0 ≤ n := by omega
    have hb2 : n ≤ 4096 := by omega
    clear HI
    go_wp2
    have HBD := hide hbd
    have HFIN := hide hfin
    clear hbd hfin
    go_loopw [6, 7] (fun v i wr => ∃ j : Nat, i = .int .i64 j ∧ Hid (∃ l s' e', Rw wr F s' e' ∧ Rt F w wr ∧ Grw wr w.heap.size 47 2 ROp v l ∧ De (pMany pOpr j) s1 e2 l s' e' ∧ l.length = j ∧ (j : Int) ≤ max n 0 ∧ s'.length ≤ s.length ∧ j ≤ 4096)) (fun _ i _ => (n - intOf i).toNat)
    case atStart => exact ⟨0, rfl, hide ⟨[], s1, e2, HW2.out, HT2.out, Grw.nil, De.nil (Nat.le_refl _) (fun _ => rfl), rfl, by omega, hl, by omega⟩⟩
    case round =>
      obtain ⟨j, rfl, HR⟩ := hrel
      obtain ⟨l, s', e', hw, ht, hg, hd, hj, hjn, hsl, hj4⟩ := HR.out
      have HW := hide hw
      have HT := hide ht
      have HG := hide hg
      have HDE := hide hd
      have HJ := hide hj
      have c1 := hw.c1
      clear hw ht hg hd hj
      by_cases hlt : (j : Int) < n
      · by_cases he : e' = 0
        · subst he
          have hn4 : n ≤ 4096 := HBD.out (Classical.byContradiction fun hne => hne (HDE.out.2.1 hne).symm)
          have HONE := hide (dop_any F s' 0 wr (Nat.le_trans hsl hs) HW.out)
          have hwF : F < wr.heap.size := HW.out.lt
          have hww : w.heap.size ≤ wr.heap.size := HT.out.kp.1
          go_wp2_with fail
          refine HONE.out.mono ?_
          rintro en w3 ⟨_, x, s3, e3, rfl, ⟨_, rfl, u, v, rfl, hla, hlb⟩, hd, hw, ht⟩
          obtain ⟨A9, c9, rfl⟩ := hla.form
          obtain ⟨A8, c8, rfl⟩ := hlb.form
          have HX : Hid (ROp w3 (wr.heap.size ≤ ·) [.slice A9 x.marks.length c9, .slice A8 x.engs.length c8] x) := hide ⟨_, _, rfl, hla, hlb⟩
          clear hla hlb
          have HD3 := hide hd
          have HW3 := hide hw
          have HT3 := hide ht
          have HG3 := hide (HG.out.keep rd_Op ht hF)
          have hlow := HG.out.low
          have HLOW := hide hlow
          have hlen : l.length < 1099511627776 := by have := HJ.out; omega
          have hlen2 := ht.kp.1
          clear hd hw ht hlow c1
          go_wp2_with (go_loud (at_builtin; refine wpList_append_grw rd_Op rl_Op rfl _ _ 23 rfl w.heap.size 47 i0 _ 48 Tryz.underlying23 hi0 hz0 [.slice A9 x.marks.length c9, .slice A8 x.engs.length c8] hz1 hz2 rfl (by simp) u6 _ rfl HG3.out _ rfl (by simp [Value.oneCell']) x HX.out (by exact hww) HLOW.out hlen (by decide) ?c3 ?_; (case c3 => exact Nat.le_trans hww hlen2); intro v2 w4 hg4 hb4 hs4))
          have HR2 : Hid (∃ l s' e', Rw w4 F s' e' ∧ Rt F w w4 ∧ Grw w4 w.heap.size 47 2 ROp v2 l ∧ De (pMany pOpr (j + 1)) s1 e2 l s' e' ∧ l.length = j + 1 ∧ ((j + 1 : Nat) : Int) ≤ max n 0 ∧ s'.length ≤ s.length ∧ j + 1 ≤ 4096) :=
            hide ⟨l ++ [x], s3, e3, HW3.out.low hb4 hF, (HT.out.trans HT3.out).below hb4 (Nat.le_of_lt hF), hg4, HDE.out.snoc HD3.out, by rw [List.length_append, HJ.out]; rfl, by omega, Nat.le_trans HD3.out.1 hsl, by omega⟩
          clear hg4 hb4 HG3 HX HD3 HW3 HT3 HLOW hs4 hlen2
          go_wp2
          go_roundw
          case rel => exact ⟨j + 1, by go_num, HR2⟩
          case measure => simp [intOf]; omega
        · have te : (e' == 0) = false := beq_eq_false_iff_ne.2 he
          go_wp2
          go_ret
          exact ⟨_, l, s', e', rfl, ⟨HG.out.lst rd_Op (by decide) (by have := HJ.out; unfold maxLen; omega), by have := HJ.out; omega⟩, HFIN.out j l s' e' HDE.out (by omega) (.inr he), HW.out, HT.out⟩
      · skip
        go_wp2
        go_ret
        exact ⟨_, l, s', e', rfl, ⟨HG.out.lst rd_Op (by decide) (by have := HJ.out; unfold maxLen; omega), by have := HJ.out; omega⟩, HFIN.out j l s' e' HDE.out (by omega) (by omega), HW.out, HT.out⟩
end
end Go.Proofs.YtofdcgojgcnopaaGreat

namespace Go.Proofs.YtofdcgojgcnopaaGreat
open Go.RowKit
set_option linter.unusedVariables false
set_option linter.unusedSimpArgs false
section
variable (F : Nat) (s : Bs) (e : Int) (w : World)
set_option maxRecDepth 100000 in
set_option maxHeartbeats 8000000 in
theorem dsn_any (hs : s.length ≤ 100000000) (h : Rw w F s e) : Calls Tryz.prog 22 #[.pointer (some ⟨F, 0, none⟩)] w (Rds F pSnp (RA RSn w.heap.size) s e w) := by
  have hF := h.lt
  have HT := hide (Rt.laid h (.cells #[.int .i64 0, .slice none 0 0, .slice none 0 0] 25))
  have HR := hide (Bo.new hF [.int .i64 0, .slice none 0 0, .slice none 0 0] 25)
  have HW := hide (h.laid (.cells #[.int .i64 0, .slice none 0 0, .slice none 0 0] 25))
  clear h
  go_enter Tryz.func22, Tryz.ntmps22
  have HCL := hide (dint_any F s e (w.alloc (.cells #[.int .i64 0, .slice none 0 0, .slice none 0 0] 25)) (by omega) HW.out)
  go_wp2_with fail
  refine HCL.out.mono ?_
  rintro en w1 ⟨_, x1, s1, e1, rfl, ⟨rfl, hg⟩, hd, hw, ht⟩
  have HD1 := hide hd
  have hl1 : s1.length ≤ s.length := hd.1
  have HG1 := hide hg
  have hz1 : w.heap.size + 1 ≤ w1.heap.size := by have := ht.kp.1; simpa using this
  replace HT := hide (HT.out.trans ht)
  replace HR := hide (HR.out.keep ht)
  have HW := hide hw
  clear hd hw ht HCL hg
  have hwl := HW.out.lt
  have HB := hide (Bo.new hwl [.int .i64 x1, .slice none 0 0, .slice none 0 0] 25)
  replace HT := hide (HT.out.trans (Rt.laid HW.out (.cells #[.int .i64 x1, .slice none 0 0, .slice none 0 0] 25)))
  replace HR := hide (HR.out.laid (.cells #[.int .i64 x1, .slice none 0 0, .slice none 0 0] 25))
  replace HW := hide (HW.out.laid (.cells #[.int .i64 x1, .slice none 0 0, .slice none 0 0] 25))
  have HCL := hide (getRd_any F s1 e1 (w1.alloc (.cells #[.int .i64 x1, .slice none 0 0, .slice none 0 0] 25)) (by omega) HW.out)
  go_wp2_with fail
  refine HCL.out.mono ?_
  rintro en w2 ⟨_, x2, s2, e2, rfl, ⟨hlst, hlq⟩, hd, hw, ht⟩
  have HD2 := hide hd
  have hl2 : s2.length ≤ s1.length := hd.1
  obtain ⟨A2, c2, rfl⟩ := hlst.form
  have HQ2 := hide hlq
  have hz2 : w1.heap.size + 1 ≤ w2.heap.size := by have := ht.kp.1; simpa using this
  replace HT := hide (HT.out.trans ht)
  replace HR := hide (HR.out.keep ht)
  replace HB := hide (HB.out.keep ht)
  have HL2 : Hid (Lst w2 (fun x => w1.heap.size + 1 ≤ x ∧ x < w2.heap.size) _ _ _ _) := hide (lst_win rd_Rd rl_Rd (sz := 6) (by decide) (by first | exact Nat.le_refl _ | simp) hlst)
  have HW := hide hw
  clear hd hw ht HCL hlst hlq
  obtain ⟨-, bb, bf⟩ := HB.out
  have b1 := bb 1 _ rfl
  have f1 := bf 1 (by simp)
  clear bb bf
  replace HW := hide (HW.out.far (b := w1.heap.size) (by omega) 1 (.slice A2 x2.length c2))
  replace HT := hide (HT.out.own (b := w1.heap.size) (by omega) hF 1 (.slice A2 x2.length c2))
  replace HR := hide (HR.out.far (b' := w1.heap.size) (by omega) 1 (.slice A2 x2.length c2))
  replace HB := hide (HB.out.set (c := 1) (by simp) (.slice A2 x2.length c2))
  replace HL2 := hide (HL2.out.keep rd_Rd (Kp.set ⟨w1.heap.size, 1, none⟩ (.slice A2 x2.length c2) (fun x hx => (by omega : x ≠ w1.heap.size))))
  have HCL := hide (getOp_any F s2 e2 (w2.setCell ⟨w1.heap.size, 1, none⟩ (.slice A2 x2.length c2)) (by omega) HW.out)
  go_wp2_with fail
  refine HCL.out.mono ?_
  rintro en w3 ⟨_, x3, s3, e3, rfl, ⟨hlst, hlq⟩, hd, hw, ht⟩
  have HD3 := hide hd
  have hl3 : s3.length ≤ s2.length := hd.1
  obtain ⟨A3, c3, rfl⟩ := hlst.form
  have HQ3 := hide hlq
  have hz3 : w2.heap.size ≤ w3.heap.size := by have := ht.kp.1; simpa using this
  replace HT := hide (HT.out.trans ht)
  replace HR := hide (HR.out.keep ht)
  replace HB := hide (HB.out.keep ht)
  replace HL2 := hide (HL2.out.keep rd_Rd (ht.kp.less fun x hx => (by omega : x ≠ F)))
  have HL3 : Hid (Lst w3 (fun x => w2.heap.size ≤ x ∧ x < w3.heap.size) _ _ _ _) := hide (lst_win rd_Op rl_Op (sz := 2) (by decide) (by first | exact Nat.le_refl _ | simp) hlst)
  have HW := hide hw
  clear hd hw ht HCL hlst hlq
  clear b1 f1
  obtain ⟨-, bb, bf⟩ := HB.out
  have b0 := bb 0 _ rfl
  have f0 := bf 0 (by simp)
  have b1 := bb 1 _ rfl
  have f1 := bf 1 (by simp)
  have b2 := bb 2 _ rfl
  have f2 := bf 2 (by simp)
  clear bb bf
  obtain ⟨-, bb, bf⟩ := HR.out
  have r0 := bb 0 _ rfl
  have g0 := bf 0 (by simp)
  have r1 := bb 1 _ rfl
  have g1 := bf 1 (by simp)
  have r2 := bb 2 _ rfl
  have g2 := bf 2 (by simp)
  clear bb bf
  have hrk : w.heap.size < w3.heap.size := by omega
  have hbk : w1.heap.size < w3.heap.size := by omega
  replace HW := hide (HW.out.far (b := w1.heap.size) (by omega) 2 (.slice A3 x3.length c3))
  replace HT := hide (HT.out.own (b := w1.heap.size) (by omega) hF 2 (.slice A3 x3.length c3))
  replace HR := hide (HR.out.far (b' := w1.heap.size) (by omega) 2 (.slice A3 x3.length c3))
  replace HB := hide (HB.out.set (c := 2) (by simp) (.slice A3 x3.length c3))
  replace HL2 := hide (HL2.out.keep rd_Rd (Kp.set ⟨w1.heap.size, 2, none⟩ (.slice A3 x3.length c3) (fun x hx => (by omega : x ≠ w1.heap.size))))
  replace HL3 := hide (HL3.out.keep rd_Op (Kp.set ⟨w1.heap.size, 2, none⟩ (.slice A3 x3.length c3) (fun x hx => (by omega : x ≠ w1.heap.size))))
  go_wp2
  refine bodyPost_ret (v := .agg #[.int .i64 x1, .slice A2 x2.length c2, .slice A3 x3.length c3]) (by rw [results_c rfl]; go_simp) rfl ?_
  exact ⟨_, ⟨x1, x2, x3⟩, s3, e3, rfl, ⟨_, rfl, ⟨_, _, rfl, (lst_out rd_Rd HL2.out (by exact (((Kp.set ⟨w.heap.size, 0, none⟩ _ (fun (x : Nat) (hx : w1.heap.size + 1 ≤ x ∧ x < w2.heap.size) => (by omega : x ≠ w.heap.size))).trans (Kp.set ⟨w.heap.size, 1, none⟩ _ (fun (x : Nat) (hx : w1.heap.size + 1 ≤ x ∧ x < w2.heap.size) => (by omega : x ≠ w.heap.size)))).trans (Kp.set ⟨w.heap.size, 2, none⟩ _ (fun (x : Nat) (hx : w1.heap.size + 1 ≤ x ∧ x < w2.heap.size) => (by omega : x ≠ w.heap.size))))) (by omega)), (lst_out rd_Op HL3.out (by exact (((Kp.set ⟨w.heap.size, 0, none⟩ _ (fun (x : Nat) (hx : w2.heap.size ≤ x ∧ x < w3.heap.size) => (by omega : x ≠ w.heap.size))).trans (Kp.set ⟨w.heap.size, 1, none⟩ _ (fun (x : Nat) (hx : w2.heap.size ≤ x ∧ x < w3.heap.size) => (by omega : x ≠ w.heap.size)))).trans (Kp.set ⟨w.heap.size, 2, none⟩ _ (fun (x : Nat) (hx : w2.heap.size ≤ x ∧ x < w3.heap.size) => (by omega : x ≠ w.heap.size))))) (by omega)), HG1.out⟩⟩, by unfold pSnp; exact (HD1.out.bind (HD2.out.bind (HD3.out.bind (De.ret _)))), (((HW.out.far (b := w.heap.size) (by omega) 0 _).far (b := w.heap.size) (by omega) 1 _).far (b := w.heap.size) (by omega) 2 _), (((HT.out.own (b := w.heap.size) (Nat.le_refl _) hF 0 _).own (b := w.heap.size) (Nat.le_refl _) hF 1 _).own (b := w.heap.size) (Nat.le_refl _) hF 2 _)⟩
end
end Go.Proofs.YtofdcgojgcnopaaGreat
