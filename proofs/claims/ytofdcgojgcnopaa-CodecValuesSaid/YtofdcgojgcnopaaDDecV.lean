/- Decode of a value: the program's, the reference's. -/
import Derived.Test.YtofdcgojgcnopaaDEnd
import Derived.Test.YtofdcgojgcnopaaDOpV
namespace Go.Proofs.Ytofdcgojgcnopaa
open Go.RowKit
set_option linter.unusedVariables false
set_option linter.unusedSimpArgs false
section
variable (s : ByteArray) (w : World)
set_option maxRecDepth 100000 in
set_option maxHeartbeats 4000000 in
theorem decV_any (hs : s.size ≤ 9223372036854775807) : Calls Try.prog 15 #[.string s] w (Opd pV (fun _ _ v x => RV3 w v x) (.agg #[.int .i64 0, .int .i64 0, .string ⟨#[]⟩]) s.data.toList w) := by
  have HO := hide (fun w => openedV_any s w hs)
  obtain ⟨r, hr⟩ : ∃ r, openE pV s.data.toList = r := ⟨_, rfl⟩
  refine calls_opd' hr ?_
  unfold Opd at HO
  rw [hr] at HO
  clear hr hs
  go_enter Try.func15, Try.ntmps15
  go_wp2_with fail
  refine (HO.out _).mono ?_
  rintro en w1 ⟨v, rfl, hb, ho⟩
  obtain ⟨hb1, hz1, hx⟩ := step_box [.int .i64 0, .int .i64 0, .string ⟨#[]⟩] hb
  have HB := hide hb1
  have r0 := hx 0 _ rfl
  have r1 := hx 1 _ rfl
  have r2 := hx 2 _ rfl
  have g0 := step_frozen [.int .i64 0, .int .i64 0, .string ⟨#[]⟩] hb 0
  have g1 := step_frozen [.int .i64 0, .int .i64 0, .string ⟨#[]⟩] hb 1
  have g2 := step_frozen [.int .i64 0, .int .i64 0, .string ⟨#[]⟩] hb 2
  clear hb hb1 hx
  cases r with
  | error c =>
    obtain rfl : v = .agg #[.int .i64 0, .int .i64 0, .string ⟨#[]⟩] := ho
    have tc : codE (.error c : Ex V3) = c := rfl
    rw [tc]
    go_wp2
    refine bodyPost_ret (v := .tuple #[.agg #[.int .i64 0, .int .i64 0, .string ⟨#[]⟩], .int .i64 c]) (by rw [results_ct rfl]; go_simp) rfl ?_
    exact RetO.err rfl (((HB.out.setCell (p := ⟨w.heap.size, 0, none⟩) (Nat.le_refl _) _).setCell (p := ⟨w.heap.size, 1, none⟩) (Nat.le_refl _) _).setCell (p := ⟨w.heap.size, 2, none⟩) (Nat.le_refl _) _)
  | ok x =>
    obtain ⟨rfl, hg, hxz⟩ := ho
    have HG := hide (And.intro hg hxz)
    clear hg hxz
    have tc : codE (.ok x : Ex V3) = 0 := rfl
    rw [tc]
    go_wp2
    refine bodyPost_ret (v := .tuple #[.agg #[.int .i64 x.q, .int .i64 x.n, .string x.s], .int .i64 0]) (by rw [results_ct rfl]; go_simp) rfl ?_
    exact RetO.ok rfl ⟨rfl, HG.out⟩ (((HB.out.setCell (p := ⟨w.heap.size, 0, none⟩) (Nat.le_refl _) _).setCell (p := ⟨w.heap.size, 1, none⟩) (Nat.le_refl _) _).setCell (p := ⟨w.heap.size, 2, none⟩) (Nat.le_refl _) _)
set_option maxRecDepth 100000 in
set_option maxHeartbeats 4000000 in
theorem rdecV_any (hs : s.size ≤ 100000000) : Calls Try.prog 16 #[.string s] w (Opd pV (fun _ _ v x => RV3 w v x) (.agg #[.int .i64 0, .int .i64 0, .string ⟨#[]⟩]) s.data.toList w) := by
  have HO := hide (fun w => ropen_any s w (by omega))
  have HL : Hid (s.data.toList.length ≤ 100000000) := hide (by have := data_len s; omega)
  obtain ⟨r, hr⟩ : ∃ r, openE pV s.data.toList = r := ⟨_, rfl⟩
  refine calls_opd' hr ?_
  have HRR := hide hr
  clear hr hs
  go_enter Try.func16, Try.ntmps16
  go_wp2_with fail
  refine (HO.out _).mono ?_
  rintro en w1 ⟨F, o, e, rfl, hF, hb, hw, hl, hop⟩
  have HOP := hide (fun x s' e' hd => HRR.out ▸ hop _ pV x s' e' hd)
  have HW := hide hw
  have HR0 := hide (rtv_any F o e w1 (Nat.le_trans hl HL.out) hw)
  have HB := hide (bthen (below_laid (.cells #[.int .i64 0, .int .i64 0, .string ⟨#[]⟩] 30)) hb)
  have HX := hide (Bo.under [.int .i64 0, .string ⟨#[]⟩] 30 hF hb)
  have hF1 := hw.lt
  rw [World.size_alloc] at hF
  clear hw hb hl hop
  go_wp2_with fail
  refine HR0.out.mono ?_
  rintro en w2 ⟨_, x, s', e', rfl, ⟨rfl, hg, hxz⟩, hd, hw, ht⟩
  have HG := hide (And.intro hg hxz)
  clear hg hxz
  have HX2 := hide (HX.out.keep ht)
  have HWL := hide hw
  have HD := hide hd
  have HB2 := hide (HB.out.trans (ht.low.mono (by omega)))
  have hF2 := hw.lt
  have HDN := hide (fun w (h : Rw w F s' e') => rdone_any F s' e' w h)
  have HWB := hide (hw.laid (.cells #[.int .i64 x.q, .int .i64 x.n, .string x.s] 30))
  obtain ⟨c, hc⟩ : ∃ c, doneC s' e' = c := ⟨_, rfl⟩
  have HF := HOP.out x s' e' hd
  rw [hc] at HF HDN
  clear hc hw ht hd
  go_wp2_with fail
  refine (HDN.out _ HWB.out).mono ?_
  rintro en w3 ⟨rfl, rfl⟩
  have hr2 : w.heap.size < w2.heap.size := by omega
  obtain ⟨-, rr, rf⟩ := HX2.out
  have r0 := rr 0 _ rfl
  have g0 := rf 0 (by simp)
  have r1 := rr 1 _ rfl
  have g1 := rf 1 (by simp)
  have r2 := rr 2 _ rfl
  have g2 := rf 2 (by simp)
  clear rr rf
  rcases HF with ⟨hc, rfl⟩ | ⟨rfl, rfl⟩
  · have tc : (c != 0) = true := bne_iff_ne.2 hc
    go_wp2
    refine bodyPost_ret (v := .tuple #[.agg #[.int .i64 0, .int .i64 0, .string ⟨#[]⟩], .int .i64 c]) (by rw [results_ct rfl]; go_simp) rfl ?_
    exact RetO.err rfl ((((HB2.out.setCell (p := ⟨w.heap.size, 0, none⟩) (Nat.le_refl _) _).setCell (p := ⟨w.heap.size, 1, none⟩) (Nat.le_refl _) _).setCell (p := ⟨w.heap.size, 2, none⟩) (Nat.le_refl _) _).alloc (by simp; omega) _)
  · go_wp2
    refine bodyPost_ret (v := .tuple #[.agg #[.int .i64 x.q, .int .i64 x.n, .string x.s], .int .i64 0]) (by rw [results_ct rfl]; go_simp) rfl ?_
    exact RetO.ok rfl ⟨rfl, HG.out⟩ ((((HB2.out.setCell (p := ⟨w.heap.size, 0, none⟩) (Nat.le_refl _) _).setCell (p := ⟨w.heap.size, 1, none⟩) (Nat.le_refl _) _).setCell (p := ⟨w.heap.size, 2, none⟩) (Nat.le_refl _) _).alloc (by simp; omega) _)
end
end Go.Proofs.Ytofdcgojgcnopaa
