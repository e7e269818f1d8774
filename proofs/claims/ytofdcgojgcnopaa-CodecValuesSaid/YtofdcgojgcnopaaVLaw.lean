/- The law of values. -/
import Derived.Test.YtofdcgojgcnopaaDDecV
import Derived.Test.YtofdcgojgcnopaaCEnc
import Derived.Test.YtofdcgojgcnopaaREnc
import Derived.Test.YtofdcgojgcnopaaCAwake
import Derived.Test.YtofdcgojgcnopaaCNz
namespace Go.Proofs.Ytofdcgojgcnopaa
open Go.RowKit
set_option linter.unusedVariables false
set_option linter.unusedSimpArgs false
theorem opd_v {s : Bs} {w w' : World} {en : Ending} (h : Opd pV (fun _ _ v x => RV3 w v x) (.agg #[.int .i64 0, .int .i64 0, .string ⟨#[]⟩]) s w en w') :
    en = .returned (.tuple #[.agg #[.int .i64 (outE V3.z (openE pV s)).q, .int .i64 (outE V3.z (openE pV s)).n, .string (outE V3.z (openE pV s)).s], .int .i64 (codE (openE pV s))]) ∧ Below w.heap.size w w' := by
  obtain ⟨v, rfl, hb, hr⟩ := h
  refine ⟨?_, hb⟩
  cases ho : openE pV s with
  | error c => rw [ho] at hr; obtain rfl := hr; rfl
  | ok x => rw [ho] at hr; obtain ⟨rfl, -⟩ := hr; rfl
theorem decV_eq (s : ByteArray) (w : World) (hs : s.size ≤ 100000000) : Calls Try.prog 15 #[.string s] w (Ret (.tuple #[.agg #[.int .i64 (outE V3.z (openE pV s.data.toList)).q, .int .i64 (outE V3.z (openE pV s.data.toList)).n, .string (outE V3.z (openE pV s.data.toList)).s], .int .i64 (codE (openE pV s.data.toList))]) w) :=
  (decV_any s w (by omega)).mono fun _ _ h => opd_v h
theorem rdecV_eq (s : ByteArray) (w : World) (hs : s.size ≤ 100000000) : Calls Try.prog 16 #[.string s] w (Ret (.tuple #[.agg #[.int .i64 (outE V3.z (openE pV s.data.toList)).q, .int .i64 (outE V3.z (openE pV s.data.toList)).n, .string (outE V3.z (openE pV s.data.toList)).s], .int .i64 (codE (openE pV s.data.toList))]) w) :=
  (rdecV_any s w hs).mono fun _ _ h => opd_v h
section
variable (w : World)
set_option maxRecDepth 100000 in
set_option maxHeartbeats 4000000 in
theorem values_law (x : V3) (s : ByteArray) (hg : gV x) (hx : x.s.size ≤ maxLen) (hs : s.size ≤ maxLen) : Calls Try.prog 4 #[.agg #[.int .i64 x.q, .int .i64 x.n, .string x.s], .string s] w (Ret (.bool true) w) := by
  unfold maxLen at hx hs
  by_cases h1 : 200 < x.s.size
  · have t1 : decide ((200 : Int) < (x.s.size : Int)) = true := decide_eq_true (by omega)
    go_enter Try.func4, Try.ntmps4
    go_wp2_with fail
    refine (awake_any _).mono ?_
    rintro en w1 ⟨rfl, hb⟩
    go_wp2
    go_ret
    exact Ret.bool rfl (bthen (below_laid _) hb)
  by_cases h2 : 300 < s.size ∧ s.size ≤ 1048576
  · have t1 : decide ((200 : Int) < (x.s.size : Int)) = false := decide_eq_false (by omega)
    have t2 : decide ((300 : Int) < (s.size : Int)) = true := decide_eq_true (by omega)
    have t3 : decide ((s.size : Int) ≤ 1048576) = true := decide_eq_true (by omega)
    go_enter Try.func4, Try.ntmps4
    go_wp2_with fail
    refine (awake_any _).mono ?_
    rintro en w1 ⟨rfl, hb⟩
    go_wp2
    go_ret
    exact Ret.bool rfl (bthen (below_laid _) hb)
  by_cases h3 : 1048585 < s.size
  · have t1 : decide ((200 : Int) < (x.s.size : Int)) = false := decide_eq_false (by omega)
    have t2 : decide ((300 : Int) < (s.size : Int)) = true := decide_eq_true (by omega)
    have t3 : decide ((s.size : Int) ≤ 1048576) = false := decide_eq_false (by omega)
    have t4 : decide ((1048585 : Int) < (s.size : Int)) = true := decide_eq_true (by omega)
    go_enter Try.func4, Try.ntmps4
    go_wp2_with fail
    refine (awake_any _).mono ?_
    rintro en w1 ⟨rfl, hb⟩
    go_wp2
    go_ret
    exact Ret.bool rfl (bthen (below_laid _) hb)
  have HE := hide (fun w => encV_any w x hg (by omega))
  have HRE := hide (fun w => rencV_any w x hg (by omega))
  have HD := hide (fun w => decV_eq s w (by omega))
  have HRD := hide (fun w => rdecV_eq s w (by omega))
  have HC := hide (fun w => checksum_any s w (by unfold maxLen; omega))
  have HRC := hide (fun w => rchecksum_any s w (by unfold maxLen; omega))
  have hx2 : (x.s.size : Int) ≤ 200 := by omega
  have t1 : decide ((200 : Int) < (x.s.size : Int)) = false := decide_eq_false (by omega)
  have t4 : decide ((1048585 : Int) < (s.size : Int)) = false := decide_eq_false (by omega)
  have t23 : (decide ((300 : Int) < (s.size : Int)) = false) ∨ (decide ((300 : Int) < (s.size : Int)) = true ∧ decide ((s.size : Int) ≤ 1048576) = false) := by
    by_cases h : 300 < s.size
    · exact .inr ⟨decide_eq_true (by omega), decide_eq_false (by omega)⟩
    · exact .inl (decide_eq_false (by omega))
  obtain ⟨S, hS⟩ : ∃ S, strE (sealE (eV x)) = S := ⟨_, rfl⟩
  obtain ⟨n, hn⟩ : ∃ n, numE (sealE (eV x)) = n := ⟨_, rfl⟩
  obtain ⟨y, hy⟩ : ∃ y, outE V3.z (openE pV s.data.toList) = y := ⟨_, rfl⟩
  obtain ⟨m, hm⟩ : ∃ m, codE (openE pV s.data.toList) = m := ⟨_, rfl⟩
  obtain ⟨k, hk⟩ : ∃ k, sumS s.data.toList = k := ⟨_, rfl⟩
  rw [hS, hn] at HE HRE
  rw [hy, hm] at HD HRD
  rw [hk] at HC HRC
  clear hS hn hy hm hk h1 h2 h3 hg
  rcases t23 with t2 | ⟨t2, t3⟩
  all_goals
    go_enter Try.func4, Try.ntmps4
    go_wp2_with fail
    refine (HE.out _).mono ?_
    rintro en w1 ⟨rfl, hb⟩
    obtain ⟨hb1, hz1, hx⟩ := step_box [.int .i64 x.q, .int .i64 x.n, .string x.s] hb
    have HB := hide hb1
    have c0 := hx 0 _ rfl
    have c1 := hx 1 _ rfl
    have c2 := hx 2 _ rfl
    clear hb hb1 hx
    go_wp2_with fail
    refine (HRE.out _).mono ?_
    rintro en w2 ⟨rfl, hb⟩
    have hz2 := Nat.lt_of_lt_of_le hz1 hb.size
    replace HB := hide (bthen HB.out hb)
    clear hb c0 c1 c2 hz1
    go_wp2_with fail
    refine (HD.out _).mono ?_
    rintro en w3 ⟨rfl, hb⟩
    replace HB := hide (bthen HB.out hb)
    clear hb hz2
    go_wp2_with fail
    refine (HRD.out _).mono ?_
    rintro en w4 ⟨rfl, hb⟩
    obtain ⟨hb1, hz1, hx⟩ := step_box [.int .i64 y.q, .int .i64 y.n, .string y.s] hb
    replace HB := hide (bthen HB.out hb1)
    have c0 := hx 0 _ rfl
    have c1 := hx 1 _ rfl
    have c2 := hx 2 _ rfl
    clear hb hb1 hx
    go_wp2_with fail
    refine (HC.out _).mono ?_
    rintro en w5 ⟨rfl, rfl⟩
    go_wp2_with fail
    refine (HRC.out _).mono ?_
    rintro en w5 ⟨rfl, rfl⟩
    go_wp2_with fail
    refine (awake_any _).mono ?_
    rintro en w5 ⟨rfl, hb⟩
    replace HB := hide (bthen (HB.out.trans ((below_laid _).mono HB.out.size)) hb)
    clear hb
    go_wp2
    go_ret
    exact Ret.bool rfl HB.out
end
end Go.Proofs.Ytofdcgojgcnopaa
