/- Decode of a snapshot: the program's. -/
import Derived.Test.YtofdcgojgcnopaaDOpSn
namespace Go.Proofs.Ytofdcgojgcnopaa
open Go.RowKit
set_option linter.unusedVariables false
set_option linter.unusedSimpArgs false
section
variable (s : ByteArray) (w : World)
set_option maxRecDepth 100000 in
set_option maxHeartbeats 4000000 in
theorem decSn_any (hs : s.size ≤ 9223372036854775807) : Calls Try.prog 28 #[.string s] w (Opd pSnp (ROs RSn) (.agg #[.int .i64 0, .slice none 0 0, .slice none 0 0]) s.data.toList w) := by
  have HO := hide (fun w => openedSn_any s w hs)
  obtain ⟨r, hr⟩ : ∃ r, openE pSnp s.data.toList = r := ⟨_, rfl⟩
  refine calls_opd' hr ?_
  unfold Opd at HO
  rw [hr] at HO
  clear hr hs
  go_enter Try.func28, Try.ntmps28
  go_wp2_with fail
  refine (HO.out _).mono ?_
  rintro en w1 ⟨v, rfl, hb, ho⟩
  obtain ⟨hb1, hz1, hx⟩ := step_box [.int .i64 0, .slice none 0 0, .slice none 0 0] hb
  have HB := hide hb1
  have r0 := hx 0 _ rfl
  have r1 := hx 1 _ rfl
  have r2 := hx 2 _ rfl
  have g0 := step_frozen [.int .i64 0, .slice none 0 0, .slice none 0 0] hb 0
  have g1 := step_frozen [.int .i64 0, .slice none 0 0, .slice none 0 0] hb 1
  have g2 := step_frozen [.int .i64 0, .slice none 0 0, .slice none 0 0] hb 2
  clear hb hb1 hx
  cases r with
  | error c =>
    obtain rfl : v = .agg #[.int .i64 0, .slice none 0 0, .slice none 0 0] := ho
    have tc : codE (.error c : Ex Snp) = c := rfl
    rw [tc]
    go_wp2
    refine bodyPost_ret (v := .tuple #[.agg #[.int .i64 0, .slice none 0 0, .slice none 0 0], .int .i64 c]) (by rw [results_ct rfl]; go_simp) rfl ?_
    exact RetO.err rfl (((HB.out.setCell (p := ⟨w.heap.size, 0, none⟩) (Nat.le_refl _) _).setCell (p := ⟨w.heap.size, 1, none⟩) (Nat.le_refl _) _).setCell (p := ⟨w.heap.size, 2, none⟩) (Nat.le_refl _) _)
  | ok x =>
    obtain ⟨_, rfl, u, v, rfl, hla, hlb, hg⟩ := ho
    obtain ⟨A0, k0, rfl⟩ := hla.form
    obtain ⟨A1, k1, rfl⟩ := hlb.form
    have HG : Hid (RSn w1 (fun b => w.heap.size < b) [.int .i64 x.number, .slice A0 x.rs.length k0, .slice A1 x.os.length k1] x) := hide (rd_Sn.more (fun b hb => by simp at hb; omega) ⟨_, _, rfl, hla, hlb, hg⟩)
    clear hla hlb hg
    have tc : codE (.ok x : Ex Snp) = 0 := rfl
    rw [tc]
    go_wp2
    refine bodyPost_ret (v := .tuple #[.agg #[.int .i64 x.number, .slice A0 x.rs.length k0, .slice A1 x.os.length k1], .int .i64 0]) (by rw [results_ct rfl]; go_simp) rfl ?_
    exact RetO.ok rfl (ros_keep rd_Sn HG.out (((kp_box 0 _).trans (kp_box 1 _)).trans (kp_box 2 _))) (((HB.out.setCell (p := ⟨w.heap.size, 0, none⟩) (Nat.le_refl _) _).setCell (p := ⟨w.heap.size, 1, none⟩) (Nat.le_refl _) _).setCell (p := ⟨w.heap.size, 2, none⟩) (Nat.le_refl _) _)
end
end Go.Proofs.Ytofdcgojgcnopaa
