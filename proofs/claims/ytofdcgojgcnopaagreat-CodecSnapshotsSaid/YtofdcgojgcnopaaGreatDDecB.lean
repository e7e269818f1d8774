/- opened, of a snapshot. Decode of a snapshot: the program's. -/
import Derived.Test.YtofdcgojgcnopaaGreatDOp
import Derived.Test.YtofdcgojgcnopaaGreatDRdC
namespace Go.Proofs.YtofdcgojgcnopaaGreat
open Go.RowKit
set_option linter.unusedVariables false
set_option linter.unusedSimpArgs false
section
variable (s : ByteArray) (w : World)
set_option maxRecDepth 100000 in
set_option maxHeartbeats 16000000 in
theorem openedSn_any (hs : s.size ≤ 9223372036854775807) : Calls Tryz.prog 21 #[.string s, .func (.func 22) #[] #[]] w (Opd pSnp (ROs RSn) (.agg #[.int .i64 0, .slice none 0 0, .slice none 0 0]) s.data.toList w) := by
  have hz := data_len s
  by_cases hl : 1048576 < s.size
  · refine calls_opd (open_long (by omega)) ?_
    clear hz
    go_enter Tryz.func21, Tryz.ntmps21
    go_wp2
    refine bodyPost_ret (v := .tuple #[.agg #[.int .i64 0, .slice none 0 0, .slice none 0 0], .int .i64 13]) (by rw [results_ct rfl]; go_simp) rfl ?_
    exact Ret.mk rfl (((below_laid _).alloc (by simp) _))
  · by_cases hl4 : s.size < 4
    · refine calls_opd (open_short (by omega)) ?_
      clear hz
      go_enter Tryz.func21, Tryz.ntmps21
      go_wp2
      refine bodyPost_ret (v := .tuple #[.agg #[.int .i64 0, .slice none 0 0, .slice none 0 0], .int .i64 26]) (by rw [results_ct rfl]; go_simp) rfl ?_
      exact Ret.mk rfl (((below_laid _).alloc (by simp) _))
    · obtain ⟨o, a, b, c, d, ho, -, hol⟩ := last4 (l := s.data.toList) (by omega)
      obtain ⟨m, hm⟩ : ∃ m, o.length = m := ⟨_, rfl⟩
      have hsz : s.size = m + 4 := by omega
      have hszI : (s.size : Int) = (m : Int) + 4 := by omega
      have hi0 : ∀ h : m < s.size, s[m] = a := at_list ho m a (by rw [List.getElem?_append_right (by omega), hm]; simp)
      have hi1 : ∀ h : m + 1 < s.size, s[m + 1] = b := at_list ho (m + 1) b (by rw [List.getElem?_append_right (by omega), hm]; simp [Nat.add_sub_cancel_left])
      have hi2 : ∀ h : m + 2 < s.size, s[m + 2] = c := at_list ho (m + 2) c (by rw [List.getElem?_append_right (by omega), hm]; simp [Nat.add_sub_cancel_left])
      have hi3 : ∀ h : m + 3 < s.size, s[m + 3] = d := at_list ho (m + 3) d (by rw [List.getElem?_append_right (by omega), hm]; simp [Nat.add_sub_cancel_left])
      have hex : s.extract 0 m = bstr o := by rw [← hm]; exact bstr_pre ho
      by_cases hsum : sumS o = sum4 a b c d
      · have HGOOD := hide (fun x (s' : Bs) (e' : Int) (hd : De pSnp o 0 x s' e') => open_good (a := a) (b := b) (c := c) (d := d) (by omega) hsum hd)
        rw [← ho] at HGOOD
        have tn : (((sumS o : Nat) : Int) != ((sum4 a b c d : Nat) : Int)) = false := by rw [hsum]; simp
        obtain ⟨r, hr⟩ : ∃ r, openE pSnp s.data.toList = r := ⟨_, rfl⟩
        rw [hr] at HGOOD
        refine calls_opd' hr ?_
        clear hsum hr
        have HTN := hide tn
        clear tn
        go_enter Tryz.func21, Tryz.ntmps21
        have hlm : m + 4 ≤ 1048576 := by omega
        have HO := hide ho
        have HOL := hide hm
        clear ho hol hz hm hsz hl hl4 hs
        have w1 : IntKind.i64.wrap ((m : Int) + 1) = (m : Int) + 1 := wrap_small (by omega) (by omega)
        have w2 : IntKind.i64.wrap ((m : Int) + 2) = (m : Int) + 2 := wrap_small (by omega) (by omega)
        have w3 : IntKind.i64.wrap ((m : Int) + 3) = (m : Int) + 3 := wrap_small (by omega) (by omega)
        have HI0 := hide hi0
        have HI1 := hide hi1
        have HI2 := hide hi2
        have HI3 := hide hi3
        have HEX := hide hex
        clear hi0 hi1 hi2 hi3 hex
        have hsub : (s.size : Int) - 4 = (m : Int) := by omega
        have hA : (m : Int) + 4 ≤ (s.size : Int) := by omega
        have hB : (s.size : Int) ≤ (m : Int) + 4 := by omega
        clear hszI
        go_upto_region 7 with (fail)
        have ha8 := a.toNat_lt
        have hb8 := b.toNat_lt
        have hc8 := c.toNat_lt
        have hd8 := d.toNat_lt
        have hp0 : m < s.size := by omega
        have hq0 : (m : Int) < (s.size : Int) := by omega
        have hr0 : (0 : Int) ≤ (m : Int) := by omega
        have hx0 : IntKind.i64.wrap ((s[m].toNat : Nat) : Int) = (a.toNat : Int) := by rw [HI0.out hp0]; exact wrap_small (by omega) (by omega)
        have hy0 : IntKind.i64.wrap ((a.toNat : Int) * 16777216) = (a.toNat : Int) * 16777216 := wrap_small (by omega) (by omega)
        have hp1 : m + 1 < s.size := by omega
        have hq1 : (m : Int) + 1 < (s.size : Int) := by omega
        have hr1 : (0 : Int) ≤ (m : Int) + 1 := by omega
        have ht1 : ((m : Int) + 1).toNat = m + 1 := by omega
        have hx1 : IntKind.i64.wrap ((s[m + 1].toNat : Nat) : Int) = (b.toNat : Int) := by rw [HI1.out hp1]; exact wrap_small (by omega) (by omega)
        have hy1 : IntKind.i64.wrap ((b.toNat : Int) * 65536) = (b.toNat : Int) * 65536 := wrap_small (by omega) (by omega)
        have hp2 : m + 2 < s.size := by omega
        have hq2 : (m : Int) + 2 < (s.size : Int) := by omega
        have hr2 : (0 : Int) ≤ (m : Int) + 2 := by omega
        have ht2 : ((m : Int) + 2).toNat = m + 2 := by omega
        have hx2 : IntKind.i64.wrap ((s[m + 2].toNat : Nat) : Int) = (c.toNat : Int) := by rw [HI2.out hp2]; exact wrap_small (by omega) (by omega)
        have hy2 : IntKind.i64.wrap ((c.toNat : Int) * 256) = (c.toNat : Int) * 256 := wrap_small (by omega) (by omega)
        have hp3 : m + 3 < s.size := by omega
        have hq3 : (m : Int) + 3 < (s.size : Int) := by omega
        have hr3 : (0 : Int) ≤ (m : Int) + 3 := by omega
        have ht3 : ((m : Int) + 3).toNat = m + 3 := by omega
        have hx3 : IntKind.i64.wrap ((s[m + 3].toNat : Nat) : Int) = (d.toNat : Int) := by rw [HI3.out hp3]; exact wrap_small (by omega) (by omega)
        have hos := or_sum a b c d
        go_quiet (fail)
        try clear hos
        try clear hy0 hy1 hy2
        have hex := HEX.out
        have HC := hide (fun w => checksum_any (bstr o) w (by rw [bstr_size]; unfold maxLen; have := HOL.out; omega))
        simp only [bstr_data] at HC
        have hm1 : (m : Int) ≤ (s.size : Int) := by omega
        have tn := HTN.out
        go_wp2_with fail
        refine (HC.out _).mono ?_
        rintro en w5 ⟨rfl, rfl⟩
        go_wp2_with fail
        refine (dsn_any (w.heap.size + 1 + 1) o 0 _ (by have := HOL.out; omega) (Rw.new _ o _ (by simp))).mono ?_
        rintro en w6 ⟨_, x, s', e', rfl, ⟨_, rfl, u, v, rfl, hla, hlb, hg⟩, hd, hw, ht⟩
        have HD := hide hd
        have HW := hide hw
        have HT := hide ht
        obtain ⟨A0, k0, rfl⟩ := hla.form
        obtain ⟨A1, k1, rfl⟩ := hlb.form
        have HG : Hid (RSn w6 (fun b => w.heap.size < b) [.int .i64 x.number, .slice A0 x.rs.length k0, .slice A1 x.os.length k1] x) := hide (rd_Sn.more (fun b hb => by simp at hb; omega) ⟨_, _, rfl, hla, hlb, hg⟩)
        clear hla hlb hg
        have HR := hide (((((Bo.lay (F := (w.heap.size + 1 + 1)) (w := w) (by omega) [.int .i64 0, .slice none 0 0, .slice none 0 0] 25).laid _).drewN nq).laid _).keep ht)
        have HN := hide ((((Bo.lay (F := (w.heap.size + 1 + 1)) (w := w.alloc (.cells #[.int .i64 0, .slice none 0 0, .slice none 0 0] 25)) (by simp) [.int .i64 0, .slice none 0 0, .slice none 0 0] 25).drewN nq).laid _).keep ht)
        simp only [World.size_alloc] at HN
        clear ht hd hw
        have HBW := hide (((below_drewN ((below_laid (w := w) (.cells #[.int .i64 0, .slice none 0 0, .slice none 0 0] 25)).alloc (by simp) (.cells #[.int .i64 0, .slice none 0 0, .slice none 0 0] 25)) nq).alloc (by simp; omega) (.cells #[.string (bstr o), .int .i64 0] 110)).trans (HT.out.low.mono (by omega)))
        have hF6 := HW.out.lt
        have c0 := HW.out.c0
        have c1 := HW.out.c1
        obtain ⟨S, hS⟩ : ∃ S, bstr s' = S := ⟨_, rfl⟩
        have HL := hide (bstr_list hS)
        rw [hS] at c0
        clear hS
        have hrb : w.heap.size < w6.heap.size := by omega
        have hrb1 : w.heap.size + 1 < w6.heap.size := by omega
        by_cases hs' : s' = []
        · subst hs'
          have hS0 : S.toList = [] := HL.out.1 rfl
          have hS1 : S.toList.isEmpty = true := by rw [hS0]; rfl
          rcases HGOOD.out x [] e' HD.out with ⟨he, rfl⟩ | ⟨-, hq, -⟩ | ⟨rfl, -, rfl⟩
          · obtain ⟨⟨-, rr, rf⟩, ⟨-, nn, -⟩⟩ := And.intro HR.out HN.out
            have r0 := rr 0 _ rfl
            have g0 := rf 0 (by simp)
            have n0 := nn 0 _ rfl
            have r1 := rr 1 _ rfl
            have g1 := rf 1 (by simp)
            have n1 := nn 1 _ rfl
            have r2 := rr 2 _ rfl
            have g2 := rf 2 (by simp)
            have n2 := nn 2 _ rfl
            clear rr rf nn
            have te : (e' != 0) = true := bne_iff_ne.2 he
            clear HL HGOOD
            go_wp2_with fail
            go_region
            all_goals
              go_wp2
              refine bodyPost_ret (v := .tuple #[.agg #[.int .i64 0, .slice none 0 0, .slice none 0 0], .int .i64 e']) (by rw [results_ct rfl]; go_simp) rfl ?_
              exact RetO.err rfl (below_undrew' ((((HBW.out.setCell (p := ⟨w.heap.size, 0, none⟩) (Nat.le_refl _) _).setCell (p := ⟨w.heap.size, 1, none⟩) (Nat.le_refl _) _).setCell (p := ⟨w.heap.size, 2, none⟩) (Nat.le_refl _) _).alloc (by simp; omega) _))
          · exact absurd rfl hq
          · obtain ⟨⟨-, rr, rf⟩, ⟨-, nn, -⟩⟩ := And.intro HR.out HN.out
            have r0 := rr 0 _ rfl
            have g0 := rf 0 (by simp)
            have n0 := nn 0 _ rfl
            have r1 := rr 1 _ rfl
            have g1 := rf 1 (by simp)
            have n1 := nn 1 _ rfl
            have r2 := rr 2 _ rfl
            have g2 := rf 2 (by simp)
            have n2 := nn 2 _ rfl
            clear rr rf nn
            clear HL HGOOD
            go_wp2
            refine bodyPost_ret (v := .tuple #[.agg #[.int .i64 x.number, .slice A0 x.rs.length k0, .slice A1 x.os.length k1], .int .i64 0]) (by rw [results_ct rfl]; go_simp) rfl ?_
            exact RetO.ok rfl (ros_keep rd_Sn HG.out ((((kp_box 0 _).trans (kp_box 1 _)).trans (kp_box 2 _)).trans (Kp.alloc _))) (((((HBW.out.setCell (p := ⟨w.heap.size, 0, none⟩) (Nat.le_refl _) _).setCell (p := ⟨w.heap.size, 1, none⟩) (Nat.le_refl _) _).setCell (p := ⟨w.heap.size, 2, none⟩) (Nat.le_refl _) _).alloc (by simp; omega) _))
        · have hS0 := HL.out.2 hs'
          have hS1 : S.toList.isEmpty = false := List.isEmpty_eq_false_iff.2 hS0
          have hr : ∃ c, r = .error c ∧ c ≠ 0 ∧ (if e' = 0 then 3 else e') = c := by
            rcases HGOOD.out x s' e' HD.out with ⟨he, rfl⟩ | ⟨rfl, -, rfl⟩ | ⟨-, hq, -⟩
            · exact ⟨_, rfl, he, if_neg he⟩
            · exact ⟨_, rfl, by decide, rfl⟩
            · exact absurd hq hs'
          obtain ⟨c2, rfl, hc2, he2⟩ := hr
          have HF := hide (dfail_any (w.heap.size + 1 + 1) s' e' _ 3 (HW.out.laid (.cells #[.int .i64 x.number, .slice A0 x.rs.length k0, .slice A1 x.os.length k1] 25)))
          rw [he2] at HF
          clear he2 HL HGOOD
          have te : (c2 != 0) = true := bne_iff_ne.2 hc2
          clear hc2
          go_wp2_with fail
          refine HF.out.mono ?_
          rintro en w8 ⟨rfl, hw, ht⟩
          have HW8 := hide hw
          have HB8 := hide ((HBW.out.alloc (by omega) _).trans (ht.low.mono (by omega)))
          have c1' := hw.c1
          obtain ⟨⟨-, rr, rf⟩, ⟨-, nn, -⟩⟩ := And.intro (HR.out.laid _ |>.keep ht) (HN.out.laid _ |>.keep ht)
          have r0 := rr 0 _ rfl
          have g0 := rf 0 (by simp)
          have n0 := nn 0 _ rfl
          have r1 := rr 1 _ rfl
          have g1 := rf 1 (by simp)
          have n1 := nn 1 _ rfl
          have r2 := rr 2 _ rfl
          have g2 := rf 2 (by simp)
          have n2 := nn 2 _ rfl
          clear rr rf nn
          have hs8 := ht.kp.1
          rw [World.size_alloc] at hs8
          have hrb8 : w.heap.size < w8.heap.size := by omega
          clear hw ht c0 c1 hs8
          go_wp2_with fail
          go_region
          all_goals
            go_wp2
            refine bodyPost_ret (v := .tuple #[.agg #[.int .i64 0, .slice none 0 0, .slice none 0 0], .int .i64 c2]) (by rw [results_ct rfl]; go_simp) rfl ?_
            exact RetO.err rfl (below_undrew' (((HB8.out.setCell (p := ⟨w.heap.size, 0, none⟩) (Nat.le_refl _) _).setCell (p := ⟨w.heap.size, 1, none⟩) (Nat.le_refl _) _).setCell (p := ⟨w.heap.size, 2, none⟩) (Nat.le_refl _) _))
      · refine calls_opd (by rw [ho]; exact open_bad (by omega) hsum) ?_
        have tn : (((sumS o : Nat) : Int) != ((sum4 a b c d : Nat) : Int)) = true := bne_iff_ne.2 (by omega)
        clear hsum
        have HTN := hide tn
        clear tn
        go_enter Tryz.func21, Tryz.ntmps21
        have hlm : m + 4 ≤ 1048576 := by omega
        have HO := hide ho
        have HOL := hide hm
        clear ho hol hz hm hsz hl hl4 hs
        have w1 : IntKind.i64.wrap ((m : Int) + 1) = (m : Int) + 1 := wrap_small (by omega) (by omega)
        have w2 : IntKind.i64.wrap ((m : Int) + 2) = (m : Int) + 2 := wrap_small (by omega) (by omega)
        have w3 : IntKind.i64.wrap ((m : Int) + 3) = (m : Int) + 3 := wrap_small (by omega) (by omega)
        have HI0 := hide hi0
        have HI1 := hide hi1
        have HI2 := hide hi2
        have HI3 := hide hi3
        have HEX := hide hex
        clear hi0 hi1 hi2 hi3 hex
        have hsub : (s.size : Int) - 4 = (m : Int) := by omega
        have hA : (m : Int) + 4 ≤ (s.size : Int) := by omega
        have hB : (s.size : Int) ≤ (m : Int) + 4 := by omega
        clear hszI
        go_upto_region 7 with (fail)
        have ha8 := a.toNat_lt
        have hb8 := b.toNat_lt
        have hc8 := c.toNat_lt
        have hd8 := d.toNat_lt
        have hp0 : m < s.size := by omega
        have hq0 : (m : Int) < (s.size : Int) := by omega
        have hr0 : (0 : Int) ≤ (m : Int) := by omega
        have hx0 : IntKind.i64.wrap ((s[m].toNat : Nat) : Int) = (a.toNat : Int) := by rw [HI0.out hp0]; exact wrap_small (by omega) (by omega)
        have hy0 : IntKind.i64.wrap ((a.toNat : Int) * 16777216) = (a.toNat : Int) * 16777216 := wrap_small (by omega) (by omega)
        have hp1 : m + 1 < s.size := by omega
        have hq1 : (m : Int) + 1 < (s.size : Int) := by omega
        have hr1 : (0 : Int) ≤ (m : Int) + 1 := by omega
        have ht1 : ((m : Int) + 1).toNat = m + 1 := by omega
        have hx1 : IntKind.i64.wrap ((s[m + 1].toNat : Nat) : Int) = (b.toNat : Int) := by rw [HI1.out hp1]; exact wrap_small (by omega) (by omega)
        have hy1 : IntKind.i64.wrap ((b.toNat : Int) * 65536) = (b.toNat : Int) * 65536 := wrap_small (by omega) (by omega)
        have hp2 : m + 2 < s.size := by omega
        have hq2 : (m : Int) + 2 < (s.size : Int) := by omega
        have hr2 : (0 : Int) ≤ (m : Int) + 2 := by omega
        have ht2 : ((m : Int) + 2).toNat = m + 2 := by omega
        have hx2 : IntKind.i64.wrap ((s[m + 2].toNat : Nat) : Int) = (c.toNat : Int) := by rw [HI2.out hp2]; exact wrap_small (by omega) (by omega)
        have hy2 : IntKind.i64.wrap ((c.toNat : Int) * 256) = (c.toNat : Int) * 256 := wrap_small (by omega) (by omega)
        have hp3 : m + 3 < s.size := by omega
        have hq3 : (m : Int) + 3 < (s.size : Int) := by omega
        have hr3 : (0 : Int) ≤ (m : Int) + 3 := by omega
        have ht3 : ((m : Int) + 3).toNat = m + 3 := by omega
        have hx3 : IntKind.i64.wrap ((s[m + 3].toNat : Nat) : Int) = (d.toNat : Int) := by rw [HI3.out hp3]; exact wrap_small (by omega) (by omega)
        have hos := or_sum a b c d
        go_quiet (fail)
        try clear hos
        try clear hy0 hy1 hy2
        have hex := HEX.out
        have HC := hide (fun w => checksum_any (bstr o) w (by rw [bstr_size]; unfold maxLen; have := HOL.out; omega))
        simp only [bstr_data] at HC
        have hm1 : (m : Int) ≤ (s.size : Int) := by omega
        have tn := HTN.out
        go_wp2_with fail
        refine (HC.out _).mono ?_
        rintro en w5 ⟨rfl, rfl⟩
        go_wp2
        refine bodyPost_ret (v := .tuple #[.agg #[.int .i64 0, .slice none 0 0, .slice none 0 0], .int .i64 26]) (by rw [results_ct rfl]; go_simp) rfl ?_
        exact Ret.mk rfl (((((below_drewN ((below_laid _).alloc (by simp) _) _).setCell (p := ⟨w.heap.size, 0, none⟩) (Nat.le_refl _) _).setCell (p := ⟨w.heap.size, 1, none⟩) (Nat.le_refl _) _).setCell (p := ⟨w.heap.size, 2, none⟩) (Nat.le_refl _) _))
end
end Go.Proofs.YtofdcgojgcnopaaGreat

namespace Go.Proofs.YtofdcgojgcnopaaGreat
open Go.RowKit
set_option linter.unusedVariables false
set_option linter.unusedSimpArgs false
section
variable (s : ByteArray) (w : World)
set_option maxRecDepth 100000 in
set_option maxHeartbeats 4000000 in
theorem decSn_any (hs : s.size ≤ 9223372036854775807) : Calls Tryz.prog 8 #[.string s] w (Opd pSnp (ROs RSn) (.agg #[.int .i64 0, .slice none 0 0, .slice none 0 0]) s.data.toList w) := by
  have HO := hide (fun w => openedSn_any s w hs)
  obtain ⟨r, hr⟩ : ∃ r, openE pSnp s.data.toList = r := ⟨_, rfl⟩
  refine calls_opd' hr ?_
  unfold Opd at HO
  rw [hr] at HO
  clear hr hs
  go_enter Tryz.func8, Tryz.ntmps8
  go_wp2_with fail
  refine (HO.out _).mono ?_
  rintro en w1 ⟨v, rfl, hb, ho⟩
  obtain ⟨hb1, hz1, hx⟩ := step_box [.int .i64 0, .slice none 0 0, .slice none 0 0] hb
  have HB := hide hb1
  have r0 := hx 0 _ rfl
  have r1 := hx 1 _ rfl
  have r2 := hx 2 _ rfl
  have g0 := step_frozen [.int .i64 0, .slice none 0 0, .slice none 0 0] hb 0
  have g1 := step_frozen [.int .i64 0, .slice none 0 0, .slice none 0 0] hb 1
  have g2 := step_frozen [.int .i64 0, .slice none 0 0, .slice none 0 0] hb 2
  clear hb hb1 hx
  cases r with
  | error c =>
    obtain rfl : v = .agg #[.int .i64 0, .slice none 0 0, .slice none 0 0] := ho
    have tc : codE (.error c : Ex Snp) = c := rfl
    rw [tc]
    go_wp2
    refine bodyPost_ret (v := .tuple #[.agg #[.int .i64 0, .slice none 0 0, .slice none 0 0], .int .i64 c]) (by rw [results_ct rfl]; go_simp) rfl ?_
    exact RetO.err rfl (((HB.out.setCell (p := ⟨w.heap.size, 0, none⟩) (Nat.le_refl _) _).setCell (p := ⟨w.heap.size, 1, none⟩) (Nat.le_refl _) _).setCell (p := ⟨w.heap.size, 2, none⟩) (Nat.le_refl _) _)
  | ok x =>
    obtain ⟨_, rfl, u, v, rfl, hla, hlb, hg⟩ := ho
    obtain ⟨A0, k0, rfl⟩ := hla.form
    obtain ⟨A1, k1, rfl⟩ := hlb.form
    have HG : Hid (RSn w1 (fun b => w.heap.size < b) [.int .i64 x.number, .slice A0 x.rs.length k0, .slice A1 x.os.length k1] x) := hide (rd_Sn.more (fun b hb => by simp at hb; omega) ⟨_, _, rfl, hla, hlb, hg⟩)
    clear hla hlb hg
    have tc : codE (.ok x : Ex Snp) = 0 := rfl
    rw [tc]
    go_wp2
    refine bodyPost_ret (v := .tuple #[.agg #[.int .i64 x.number, .slice A0 x.rs.length k0, .slice A1 x.os.length k1], .int .i64 0]) (by rw [results_ct rfl]; go_simp) rfl ?_
    exact RetO.ok rfl (ros_keep rd_Sn HG.out (((kp_box 0 _).trans (kp_box 1 _)).trans (kp_box 2 _))) (((HB.out.setCell (p := ⟨w.heap.size, 0, none⟩) (Nat.le_refl _) _).setCell (p := ⟨w.heap.size, 1, none⟩) (Nat.le_refl _) _).setCell (p := ⟨w.heap.size, 2, none⟩) (Nat.le_refl _) _)
end
end Go.Proofs.YtofdcgojgcnopaaGreat
