/- Decode of events: the reference's. -/
import Derived.Test.YtofdcgojgcnopaaDEnd
import Derived.Test.YtofdcgojgcnopaaDRtE
namespace Go.Proofs.Ytofdcgojgcnopaa
open Go.RowKit
set_option linter.unusedVariables false
set_option linter.unusedSimpArgs false
section
variable (s : ByteArray) (w : World)
set_option maxRecDepth 100000 in
set_option maxHeartbeats 4000000 in
theorem rdecL_any (hs : s.size ≤ 100000000) : Calls Try.prog 21 #[.string s] w (Opd (pL pEv) ROL (.slice none 0 0) s.data.toList w) := by
  have HO := hide (fun w => ropen_any s w (by omega))
  have HL : Hid (s.data.toList.length ≤ 100000000) := hide (by have := data_len s; omega)
  obtain ⟨r, hr⟩ : ∃ r, openE (pL pEv) s.data.toList = r := ⟨_, rfl⟩
  refine calls_opd' hr ?_
  have HRR := hide hr
  clear hr hs
  go_enter Try.func21, Try.ntmps21
  go_wp2_with fail
  refine (HO.out _).mono ?_
  rintro en w1 ⟨F, o, e, rfl, hF, hb, hw, hl, hop⟩
  have HOP := hide (fun x s' e' hd => HRR.out ▸ hop _ (pL pEv) x s' e' hd)
  have HW := hide hw
  have HR0 := hide (rtE_any F o e w1 (Nat.le_trans hl HL.out) hw)
  have HB := hide hb
  clear hw hb hl hop
  go_wp2_with fail
  refine HR0.out.mono ?_
  rintro en w2 ⟨_, x, s', e', rfl, ⟨hlst, hl4⟩, hd, hw, ht⟩
  obtain ⟨A9, c9, rfl⟩ := hlst.form
  have HG := hide (And.intro (lst_from rd_Ev0 (B := w.heap.size) hlst (by have := HB.out.size; omega)) hl4)
  clear hlst hl4
  have HD := hide hd
  have HB2 := hide (HB.out.trans (ht.low.mono (by omega)))
  have hF2 := hw.lt
  have HDN := hide (fun w (h : Rw w F s' e') => rdone_any F s' e' w h)
  have HWB := hide hw
  obtain ⟨c, hc⟩ : ∃ c, doneC s' e' = c := ⟨_, rfl⟩
  have HF := HOP.out x s' e' hd
  rw [hc] at HF HDN
  clear hc hw ht hd
  go_wp2_with fail
  refine (HDN.out _ HWB.out).mono ?_
  rintro en w3 ⟨rfl, rfl⟩
  rcases HF with ⟨hc, rfl⟩ | ⟨rfl, rfl⟩
  · have tc : (c != 0) = true := bne_iff_ne.2 hc
    go_wp2
    go_ret2
    exact RetO.err rfl HB2.out
  · go_wp2
    go_ret2
    exact RetO.ok rfl HG.out HB2.out
end
end Go.Proofs.Ytofdcgojgcnopaa
