/- Decode of an engine: the program's. -/
import Derived.Test.YtofdcgojgcnopaaDOpEn
namespace Go.Proofs.Ytofdcgojgcnopaa
open Go.RowKit
set_option linter.unusedVariables false
set_option linter.unusedSimpArgs false
section
variable (s : ByteArray) (w : World)
set_option maxRecDepth 100000 in
set_option maxHeartbeats 4000000 in
theorem decEn_any (hs : s.size ≤ 9223372036854775807) : Calls Try.prog 25 #[.string s] w (Opd pEng (ROs REn) (.agg #[.int .i64 0, .slice none 0 0, .slice none 0 0, .slice none 0 0]) s.data.toList w) := by
  have HO := hide (fun w => openedEn_any s w hs)
  obtain ⟨r, hr⟩ : ∃ r, openE pEng s.data.toList = r := ⟨_, rfl⟩
  refine calls_opd' hr ?_
  unfold Opd at HO
  rw [hr] at HO
  clear hr hs
  go_enter Try.func25, Try.ntmps25
  go_wp2_with fail
  refine (HO.out _).mono ?_
  rintro en w1 ⟨v, rfl, hb, ho⟩
  obtain ⟨hb1, hz1, hx⟩ := step_box [.int .i64 0, .slice none 0 0, .slice none 0 0, .slice none 0 0] hb
  have HB := hide hb1
  have r0 := hx 0 _ rfl
  have r1 := hx 1 _ rfl
  have r2 := hx 2 _ rfl
  have r3 := hx 3 _ rfl
  have g0 := step_frozen [.int .i64 0, .slice none 0 0, .slice none 0 0, .slice none 0 0] hb 0
  have g1 := step_frozen [.int .i64 0, .slice none 0 0, .slice none 0 0, .slice none 0 0] hb 1
  have g2 := step_frozen [.int .i64 0, .slice none 0 0, .slice none 0 0, .slice none 0 0] hb 2
  have g3 := step_frozen [.int .i64 0, .slice none 0 0, .slice none 0 0, .slice none 0 0] hb 3
  clear hb hb1 hx
  cases r with
  | error c =>
    obtain rfl : v = .agg #[.int .i64 0, .slice none 0 0, .slice none 0 0, .slice none 0 0] := ho
    have tc : codE (.error c : Ex Eng) = c := rfl
    rw [tc]
    go_wp2
    refine bodyPost_ret (v := .tuple #[.agg #[.int .i64 0, .slice none 0 0, .slice none 0 0, .slice none 0 0], .int .i64 c]) (by rw [results_ct rfl]; go_simp) rfl ?_
    exact RetO.err rfl ((((HB.out.setCell (p := ⟨w.heap.size, 0, none⟩) (Nat.le_refl _) _).setCell (p := ⟨w.heap.size, 1, none⟩) (Nat.le_refl _) _).setCell (p := ⟨w.heap.size, 2, none⟩) (Nat.le_refl _) _).setCell (p := ⟨w.heap.size, 3, none⟩) (Nat.le_refl _) _)
  | ok x =>
    obtain ⟨_, rfl, u, v, t, rfl, hla, hlb, hlc, hg⟩ := ho
    obtain ⟨A0, k0, rfl⟩ := hla.form
    obtain ⟨A1, k1, rfl⟩ := hlb.form
    obtain ⟨A2, k2, rfl⟩ := hlc.form
    have HG : Hid (REn w1 (fun b => w.heap.size < b) [.int .i64 x.mark, .slice A0 x.wait.length k0, .slice A1 x.runs.length k1, .slice A2 x.held.length k2] x) := hide (rd_En.more (fun b hb => by simp at hb; omega) ⟨_, _, _, rfl, hla, hlb, hlc, hg⟩)
    clear hla hlb hlc hg
    have tc : codE (.ok x : Ex Eng) = 0 := rfl
    rw [tc]
    go_wp2
    refine bodyPost_ret (v := .tuple #[.agg #[.int .i64 x.mark, .slice A0 x.wait.length k0, .slice A1 x.runs.length k1, .slice A2 x.held.length k2], .int .i64 0]) (by rw [results_ct rfl]; go_simp) rfl ?_
    exact RetO.ok rfl (ros_keep rd_En HG.out ((((kp_box 0 _).trans (kp_box 1 _)).trans (kp_box 2 _)).trans (kp_box 3 _))) ((((HB.out.setCell (p := ⟨w.heap.size, 0, none⟩) (Nat.le_refl _) _).setCell (p := ⟨w.heap.size, 1, none⟩) (Nat.le_refl _) _).setCell (p := ⟨w.heap.size, 2, none⟩) (Nat.le_refl _) _).setCell (p := ⟨w.heap.size, 3, none⟩) (Nat.le_refl _) _)
end
end Go.Proofs.Ytofdcgojgcnopaa
