/- Decode of an engine: the reference's. -/
import Derived.Test.YtofdcgojgcnopaaDEnd
import Derived.Test.YtofdcgojgcnopaaDRtB
namespace Go.Proofs.Ytofdcgojgcnopaa
open Go.RowKit
set_option linter.unusedVariables false
set_option linter.unusedSimpArgs false
section
variable (s : ByteArray) (w : World)
set_option maxRecDepth 100000 in
set_option maxHeartbeats 4000000 in
theorem rdecEn_any (hs : s.size ≤ 100000000) : Calls Try.prog 26 #[.string s] w (Opd pEng (ROs REn) (.agg #[.int .i64 0, .slice none 0 0, .slice none 0 0, .slice none 0 0]) s.data.toList w) := by
  have HO := hide (fun w => ropen_any s w (by omega))
  have HL : Hid (s.data.toList.length ≤ 100000000) := hide (by have := data_len s; omega)
  obtain ⟨r, hr⟩ : ∃ r, openE pEng s.data.toList = r := ⟨_, rfl⟩
  refine calls_opd' hr ?_
  have HRR := hide hr
  clear hr hs
  go_enter Try.func26, Try.ntmps26
  go_wp2_with fail
  refine (HO.out _).mono ?_
  rintro en w1 ⟨F, o, e, rfl, hF, hb, hw, hl, hop⟩
  have HOP := hide (fun x s' e' hd => HRR.out ▸ hop _ pEng x s' e' hd)
  have HW := hide hw
  have HR0 := hide (rtEn_any F o e w1 (Nat.le_trans hl HL.out) hw)
  have HB := hide (bthen (below_laid (.cells #[.int .i64 0, .slice none 0 0, .slice none 0 0, .slice none 0 0] 48)) hb)
  have HX := hide (Bo.under [.slice none 0 0, .slice none 0 0, .slice none 0 0] 48 hF hb)
  have hF1 := hw.lt
  rw [World.size_alloc] at hF
  have HF1 := hide (show w.heap.size < w1.heap.size by omega)
  clear hw hb hl hop
  go_wp2_with fail
  refine HR0.out.mono ?_
  rintro en w2 ⟨_, x, s', e', rfl, ⟨_, rfl, u, v, t, rfl, hla, hlb, hlc, hg⟩, hd, hw, ht⟩
  obtain ⟨A0, k0, rfl⟩ := hla.form
  obtain ⟨A1, k1, rfl⟩ := hlb.form
  obtain ⟨A2, k2, rfl⟩ := hlc.form
  have HG : Hid (REn w2 (fun b => w.heap.size < b) [.int .i64 x.mark, .slice A0 x.wait.length k0, .slice A1 x.runs.length k1, .slice A2 x.held.length k2] x) := hide (rd_En.more (fun b hb => by have := HF1.out; omega) ⟨_, _, _, rfl, hla, hlb, hlc, hg⟩)
  clear hla hlb hlc hg
  have HX2 := hide (HX.out.keep ht)
  have HWL := hide hw
  have HD := hide hd
  have HB2 := hide (HB.out.trans (ht.low.mono (by omega)))
  have hF2 := hw.lt
  have HDN := hide (fun w (h : Rw w F s' e') => rdone_any F s' e' w h)
  have HWB := hide (hw.laid (.cells #[.int .i64 x.mark, .slice A0 x.wait.length k0, .slice A1 x.runs.length k1, .slice A2 x.held.length k2] 48))
  obtain ⟨c, hc⟩ : ∃ c, doneC s' e' = c := ⟨_, rfl⟩
  have HF := HOP.out x s' e' hd
  rw [hc] at HF HDN
  clear hc hw ht hd
  go_wp2_with fail
  refine (HDN.out _ HWB.out).mono ?_
  rintro en w3 ⟨rfl, rfl⟩
  have hr2 : w.heap.size < w2.heap.size := by omega
  obtain ⟨-, rr, rf⟩ := HX2.out
  have r0 := rr 0 _ rfl
  have g0 := rf 0 (by simp)
  have r1 := rr 1 _ rfl
  have g1 := rf 1 (by simp)
  have r2 := rr 2 _ rfl
  have g2 := rf 2 (by simp)
  have r3 := rr 3 _ rfl
  have g3 := rf 3 (by simp)
  clear rr rf
  rcases HF with ⟨hc, rfl⟩ | ⟨rfl, rfl⟩
  · have tc : (c != 0) = true := bne_iff_ne.2 hc
    go_wp2
    refine bodyPost_ret (v := .tuple #[.agg #[.int .i64 0, .slice none 0 0, .slice none 0 0, .slice none 0 0], .int .i64 c]) (by rw [results_ct rfl]; go_simp) rfl ?_
    exact RetO.err rfl (((((HB2.out.setCell (p := ⟨w.heap.size, 0, none⟩) (Nat.le_refl _) _).setCell (p := ⟨w.heap.size, 1, none⟩) (Nat.le_refl _) _).setCell (p := ⟨w.heap.size, 2, none⟩) (Nat.le_refl _) _).setCell (p := ⟨w.heap.size, 3, none⟩) (Nat.le_refl _) _).alloc (by simp; omega) _)
  · go_wp2
    refine bodyPost_ret (v := .tuple #[.agg #[.int .i64 x.mark, .slice A0 x.wait.length k0, .slice A1 x.runs.length k1, .slice A2 x.held.length k2], .int .i64 0]) (by rw [results_ct rfl]; go_simp) rfl ?_
    exact RetO.ok rfl (ros_keep rd_En HG.out (((((kp_box 0 _).trans (kp_box 1 _)).trans (kp_box 2 _)).trans (kp_box 3 _)).trans (Kp.alloc _))) (((((HB2.out.setCell (p := ⟨w.heap.size, 0, none⟩) (Nat.le_refl _) _).setCell (p := ⟨w.heap.size, 1, none⟩) (Nat.le_refl _) _).setCell (p := ⟨w.heap.size, 2, none⟩) (Nat.le_refl _) _).setCell (p := ⟨w.heap.size, 3, none⟩) (Nat.le_refl _) _).alloc (by simp; omega) _)
end
end Go.Proofs.Ytofdcgojgcnopaa
