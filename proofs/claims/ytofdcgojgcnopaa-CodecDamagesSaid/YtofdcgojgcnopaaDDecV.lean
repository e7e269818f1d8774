/- Decode of a value: the program's. -/
import Derived.Test.YtofdcgojgcnopaaDOpV
namespace Go.Proofs.Ytofdcgojgcnopaa
open Go.RowKit
set_option linter.unusedVariables false
set_option linter.unusedSimpArgs false
section
variable (s : ByteArray) (w : World)
set_option maxRecDepth 100000 in
set_option maxHeartbeats 4000000 in
theorem decV_any (hs : s.size ≤ 9223372036854775807) : Calls Try.prog 15 #[.string s] w (Opd pV (fun _ w v x => RV3 w v x) (.agg #[.int .i64 0, .int .i64 0, .string ⟨#[]⟩]) s.data.toList w) := by
  have HO := hide (fun w => openedV_any s w hs)
  obtain ⟨r, hr⟩ : ∃ r, openE pV s.data.toList = r := ⟨_, rfl⟩
  refine calls_opd' hr ?_
  unfold Opd at HO
  rw [hr] at HO
  clear hr hs
  go_enter Try.func15, Try.ntmps15
  go_wp2_with fail
  refine (HO.out _).mono ?_
  rintro en w1 ⟨v, rfl, hb, ho⟩
  obtain ⟨hb1, hz1, hx⟩ := step_box [.int .i64 0, .int .i64 0, .string ⟨#[]⟩] hb
  have HB := hide hb1
  have r0 := hx 0 _ rfl
  have r1 := hx 1 _ rfl
  have r2 := hx 2 _ rfl
  have g0 := step_frozen [.int .i64 0, .int .i64 0, .string ⟨#[]⟩] hb 0
  have g1 := step_frozen [.int .i64 0, .int .i64 0, .string ⟨#[]⟩] hb 1
  have g2 := step_frozen [.int .i64 0, .int .i64 0, .string ⟨#[]⟩] hb 2
  clear hb hb1 hx
  cases r with
  | error c =>
    obtain rfl : v = .agg #[.int .i64 0, .int .i64 0, .string ⟨#[]⟩] := ho
    have tc : codE (.error c : Ex V3) = c := rfl
    rw [tc]
    go_wp2
    refine bodyPost_ret (v := .tuple #[.agg #[.int .i64 0, .int .i64 0, .string ⟨#[]⟩], .int .i64 c]) (by rw [results_ct rfl]; go_simp) rfl ?_
    exact RetO.err rfl (((HB.out.setCell (p := ⟨w.heap.size, 0, none⟩) (Nat.le_refl _) _).setCell (p := ⟨w.heap.size, 1, none⟩) (Nat.le_refl _) _).setCell (p := ⟨w.heap.size, 2, none⟩) (Nat.le_refl _) _)
  | ok x =>
    obtain ⟨rfl, hg, hxz⟩ := ho
    have HG := hide (And.intro hg hxz)
    clear hg hxz
    have tc : codE (.ok x : Ex V3) = 0 := rfl
    rw [tc]
    go_wp2
    refine bodyPost_ret (v := .tuple #[.agg #[.int .i64 x.q, .int .i64 x.n, .string x.s], .int .i64 0]) (by rw [results_ct rfl]; go_simp) rfl ?_
    exact RetO.ok rfl ⟨rfl, HG.out⟩ (((HB.out.setCell (p := ⟨w.heap.size, 0, none⟩) (Nat.le_refl _) _).setCell (p := ⟨w.heap.size, 1, none⟩) (Nat.le_refl _) _).setCell (p := ⟨w.heap.size, 2, none⟩) (Nat.le_refl _) _)
end
end Go.Proofs.Ytofdcgojgcnopaa
