/- The law's function CoordinatorTriggers returns true. -/
import Derived.Test.YtihbonndinnohaaQLWds
import Derived.Test.YtihbonndinnohaaQRTrig2
namespace Go.Proofs.Ytihbonndinnohaa
open Go.RowKit
set_option linter.unusedVariables false
set_option linter.unusedSimpArgs false

section
variable (w : World) (c : Cq)
set_option maxRecDepth 100000 in
set_option maxHeartbeats 16000000 in
theorem triggers_few (v : Value) (rv : Value) (l : List Rq) (n : Int) (h : CoV w v c) (hr : Lq w 6 RRq rv l) (hf : fewQ c = false) : Calls Try.prog 3 #[v, rv, .int .i64 n] w (Ret (.bool true) w) := by
  obtain ⟨LA, lc, rfl⟩ := hr.form
  have hrl := hr.len
  unfold maxLen at hrl
  obtain ⟨A, cap, rfl⟩ := coz_form h.z
  obtain ⟨w0, hw0⟩ : ∃ x, w.alloc (.cells #[.int .i64 c.next, .slice A c.atts.length cap, .int .i64 c.dur] 24) = x := ⟨_, rfl⟩
  have HC0 := hide (h.laid (.cells #[.int .i64 c.next, .slice A c.atts.length cap, .int .i64 c.dur] 24))
  have HX0 := hide (Bl.new w [.int .i64 c.next, .slice A c.atts.length cap, .int .i64 c.dur] 24)
  have HB0 := hide (below_laid (w := w) (.cells #[.int .i64 c.next, .slice A c.atts.length cap, .int .i64 c.dur] 24))
  rw [hw0] at HC0 HX0 HB0
  have HP := hide (fun w' (h9 : Below w0.heap.size w0 w') => And.intro (HX0.out.keep h9) (And.intro (HC0.out.grow h9) (And.intro (hr.grow rd_Rq (bthen HB0.out h9)) (bthen HB0.out h9))))
  obtain ⟨nr, hnr⟩ : ∃ n, l.length = n := ⟨_, rfl⟩
  rw [hnr] at HP hrl ⊢
  have HNR := hide hnr
  obtain ⟨-, hcx, -⟩ := HP.out w0 (Below.refl _ _)
  have HF := hide (fewc_any w0 c _ hcx)
  rw [hf] at HF
  clear hcx hf h hr HC0 HX0 HB0 hnr
  obtain ⟨⟨yy, ff, zzx⟩, -⟩ := HP.out w0 (Below.refl _ _)
  have x0 := yy 0 _ rfl
  have x1 := yy 1 _ rfl
  have x2 := yy 2 _ rfl
  clear yy ff
  go_enter Try.func3, Try.ntmps3
  go_wp2_with fail
  clear hw0
  have HS := hide (HF.out)
  go_wp2_with fail
  refine HS.out.mono ?_
  rintro e w1 ⟨rfl, hb⟩
  clear x0 x1 x2 zzx
  clear HS
  replace HP := hide (fun w' (h : Below w1.heap.size w1 w') => HP.out w' (bthen hb h))
  clear hb
  clear HF
  have HS2 := hide (awake_any w1)
  have HS := hide (HS2.out)
  go_wp2_with fail
  refine HS.out.mono ?_
  rintro e w2 ⟨rfl, hb⟩
  clear HS
  replace HP := hide (fun w' (h : Below w2.heap.size w2 w') => HP.out w' (bthen hb h))
  clear hb
  clear HS2
  go_wp2
  go_ret
  exact Ret.bool rfl (HP.out _ (Below.refl _ _)).2.2.2
set_option maxRecDepth 100000 in
set_option maxHeartbeats 16000000 in
theorem triggers_long (v : Value) (rv : Value) (l : List Rq) (n : Int) (h : CoV w v c) (hr : Lq w 6 RRq rv l) (hf : fewQ c = true) (hl : 20 < l.length) : Calls Try.prog 3 #[v, rv, .int .i64 n] w (Ret (.bool true) w) := by
  obtain ⟨LA, lc, rfl⟩ := hr.form
  have hrl := hr.len
  unfold maxLen at hrl
  obtain ⟨A, cap, rfl⟩ := coz_form h.z
  obtain ⟨w0, hw0⟩ : ∃ x, w.alloc (.cells #[.int .i64 c.next, .slice A c.atts.length cap, .int .i64 c.dur] 24) = x := ⟨_, rfl⟩
  have HC0 := hide (h.laid (.cells #[.int .i64 c.next, .slice A c.atts.length cap, .int .i64 c.dur] 24))
  have HX0 := hide (Bl.new w [.int .i64 c.next, .slice A c.atts.length cap, .int .i64 c.dur] 24)
  have HB0 := hide (below_laid (w := w) (.cells #[.int .i64 c.next, .slice A c.atts.length cap, .int .i64 c.dur] 24))
  rw [hw0] at HC0 HX0 HB0
  have HP := hide (fun w' (h9 : Below w0.heap.size w0 w') => And.intro (HX0.out.keep h9) (And.intro (HC0.out.grow h9) (And.intro (hr.grow rd_Rq (bthen HB0.out h9)) (bthen HB0.out h9))))
  obtain ⟨nr, hnr⟩ : ∃ n, l.length = n := ⟨_, rfl⟩
  rw [hnr] at HP hrl ⊢
  have HNR := hide hnr
  obtain ⟨-, hcx, -⟩ := HP.out w0 (Below.refl _ _)
  have HF := hide (fewc_any w0 c _ hcx)
  rw [hf] at HF
  have t1 : decide ((20 : Int) < (nr : Int)) = true := decide_eq_true (by omega)
  clear hcx hf h hr HC0 HX0 HB0 hnr
  obtain ⟨⟨yy, ff, zzx⟩, -⟩ := HP.out w0 (Below.refl _ _)
  have x0 := yy 0 _ rfl
  have x1 := yy 1 _ rfl
  have x2 := yy 2 _ rfl
  clear yy ff
  go_enter Try.func3, Try.ntmps3
  go_wp2_with fail
  clear hw0
  have HS := hide (HF.out)
  go_wp2_with fail
  refine HS.out.mono ?_
  rintro e w1 ⟨rfl, hb⟩
  clear x0 x1 x2 zzx
  clear HS
  replace HP := hide (fun w' (h : Below w1.heap.size w1 w') => HP.out w' (bthen hb h))
  clear hb
  clear HF
  have HS2 := hide (awake_any w1)
  have HS := hide (HS2.out)
  go_wp2_with fail
  refine HS.out.mono ?_
  rintro e w2 ⟨rfl, hb⟩
  clear HS
  replace HP := hide (fun w' (h : Below w2.heap.size w2 w') => HP.out w' (bthen hb h))
  clear hb
  clear HS2
  go_wp2
  go_ret
  exact Ret.bool rfl (HP.out _ (Below.refl _ _)).2.2.2
set_option maxRecDepth 100000 in
set_option maxHeartbeats 16000000 in
theorem triggers_main (v : Value) (rv : Value) (l : List Rq) (n : Int) (h : CoV w v c) (hr : Lq w 6 RRq rv l) (hf : fewQ c = true) (hl : l.length ≤ 20) : Calls Try.prog 3 #[v, rv, .int .i64 n] w (Ret (.bool true) w) := by
  obtain ⟨LA, lc, rfl⟩ := hr.form
  have hrl := hr.len
  unfold maxLen at hrl
  obtain ⟨A, cap, rfl⟩ := coz_form h.z
  obtain ⟨w0, hw0⟩ : ∃ x, w.alloc (.cells #[.int .i64 c.next, .slice A c.atts.length cap, .int .i64 c.dur] 24) = x := ⟨_, rfl⟩
  have HC0 := hide (h.laid (.cells #[.int .i64 c.next, .slice A c.atts.length cap, .int .i64 c.dur] 24))
  have HX0 := hide (Bl.new w [.int .i64 c.next, .slice A c.atts.length cap, .int .i64 c.dur] 24)
  have HB0 := hide (below_laid (w := w) (.cells #[.int .i64 c.next, .slice A c.atts.length cap, .int .i64 c.dur] 24))
  rw [hw0] at HC0 HX0 HB0
  have HP := hide (fun w' (h9 : Below w0.heap.size w0 w') => And.intro (HX0.out.keep h9) (And.intro (HC0.out.grow h9) (And.intro (hr.grow rd_Rq (bthen HB0.out h9)) (bthen HB0.out h9))))
  obtain ⟨nr, hnr⟩ : ∃ n, l.length = n := ⟨_, rfl⟩
  rw [hnr] at HP hrl ⊢
  have HNR := hide hnr
  obtain ⟨-, hcx, -⟩ := HP.out w0 (Below.refl _ _)
  have HF := hide (fewc_any w0 c _ hcx)
  rw [hf] at HF
  have t1 : decide ((20 : Int) < (nr : Int)) = false := decide_eq_false (by omega)
  obtain ⟨K, hK9⟩ : ∃ x, trigC c l n = x := ⟨_, rfl⟩
  obtain ⟨TN, hTN⟩ : ∃ x, trigN c l.length n = x := ⟨_, rfl⟩
  obtain ⟨TE, hTE⟩ : ∃ x, trigE c l.length n = x := ⟨_, rfl⟩
  obtain ⟨E, hE9⟩ : ∃ x, chkQ c = x := ⟨_, rfl⟩
  have HKK := hide (And.intro hK9 (And.intro hTN (And.intro hTE hE9)))
  clear hK9 hTN hTE hE9
  clear hcx hf h hr HC0 HX0 HB0 hnr
  obtain ⟨⟨yy, ff, zzx⟩, -⟩ := HP.out w0 (Below.refl _ _)
  have x0 := yy 0 _ rfl
  have x1 := yy 1 _ rfl
  have x2 := yy 2 _ rfl
  clear yy ff
  go_enter Try.func3, Try.ntmps3
  go_wp2_with fail
  clear hw0
  have HS := hide (HF.out)
  go_wp2_with fail
  refine HS.out.mono ?_
  rintro e w1 ⟨rfl, hb⟩
  clear x0 x1 x2 zzx
  clear HS
  replace HP := hide (fun w' (h : Below w1.heap.size w1 w') => HP.out w' (bthen hb h))
  clear hb
  clear HF
  obtain ⟨⟨yy, ff, zzx⟩, -⟩ := HP.out w1 (Below.refl _ _)
  have x0 := yy 0 _ rfl
  have x1 := yy 1 _ rfl
  have x2 := yy 2 _ rfl
  clear yy ff
  obtain ⟨-, hcx, hlr, -⟩ := HP.out w1 (Below.refl _ _)
  have HS2 := hide (trig_any w1 c _ _ l n hcx hlr)
  rw [HKK.out.1, HKK.out.2.1, HKK.out.2.2.1] at HS2
  clear hcx hlr
  have HS := hide (HS2.out)
  go_wp2_with fail
  refine HS.out.mono ?_
  rintro e w2 ⟨V, rfl, hV, hb⟩
  clear x0 x1 x2 zzx
  clear HS
  replace HP := hide (fun w' (h : Below w2.heap.size w2 w') => HP.out w' (bthen hb h))
  clear hb
  clear HS2
  obtain ⟨Aa, qa, rfl⟩ := coz_form hV.z
  have HV := hide hV
  clear hV
  replace HP := hide (fun w' (h : Below w2.heap.size w2 w') => And.intro (HV.out.grow h) (HP.out w' h))
  clear HV
  have HN := hide (Bl.new w2 [.int .i64 K.next, .slice Aa K.atts.length qa, .int .i64 K.dur] 24)
  replace HP := hide (fun w' (h : Below (w2.alloc (.cells #[.int .i64 K.next, .slice Aa K.atts.length qa, .int .i64 K.dur] 24)).heap.size (w2.alloc (.cells #[.int .i64 K.next, .slice Aa K.atts.length qa, .int .i64 K.dur] 24)) w') => And.intro (HN.out.keep h) (HP.out w' (bthen (below_laid _) h)))
  go_upto_region 4 with (fail)
  obtain ⟨bya, hbya⟩ : ∃ b, w2.heap.size = b := ⟨_, rfl⟩
  obtain ⟨w3, hw⟩ : ∃ x, w2.alloc (.cells #[.int .i64 K.next, .slice Aa K.atts.length qa, .int .i64 K.dur] 24) = x := ⟨_, rfl⟩
  rw [hw, hbya] at HP
  rw [hw, hbya]
  clear hw hbya HN
  obtain ⟨-, -, -, hcx, hlr, -⟩ := HP.out w3 (Below.refl _ _)
  have HS2 := hide (rtrig_any w3 c _ _ l n hcx hlr)
  rw [HKK.out.1, HKK.out.2.1, HKK.out.2.2.1] at HS2
  clear hcx hlr
  obtain ⟨-, -, ⟨yy, ff, zzx⟩, -⟩ := HP.out w3 (Below.refl _ _)
  have x0 := yy 0 _ rfl
  have x1 := yy 1 _ rfl
  have x2 := yy 2 _ rfl
  clear yy ff
  have HS := hide (HS2.out)
  go_wp2_with fail
  refine HS.out.mono ?_
  rintro e w4 ⟨V, rfl, hV, hb⟩
  clear x0 x1 x2 zzx
  clear HS
  replace HP := hide (fun w' (h : Below w4.heap.size w4 w') => HP.out w' (bthen hb h))
  clear hb
  clear HS2
  obtain ⟨Ab, qb, rfl⟩ := coz_form hV.z
  have HV := hide hV
  clear hV
  replace HP := hide (fun w' (h : Below w4.heap.size w4 w') => And.intro (HV.out.grow h) (HP.out w' h))
  clear HV
  have HN := hide (Bl.new w4 [.int .i64 K.next, .slice Ab K.atts.length qb, .int .i64 K.dur] 24)
  replace HP := hide (fun w' (h : Below (w4.alloc (.cells #[.int .i64 K.next, .slice Ab K.atts.length qb, .int .i64 K.dur] 24)).heap.size (w4.alloc (.cells #[.int .i64 K.next, .slice Ab K.atts.length qb, .int .i64 K.dur] 24)) w') => And.intro (HN.out.keep h) (HP.out w' (bthen (below_laid _) h)))
  go_upto_region 5 with (fail)
  obtain ⟨byb, hbyb⟩ : ∃ b, w4.heap.size = b := ⟨_, rfl⟩
  obtain ⟨w5, hw⟩ : ∃ x, w4.alloc (.cells #[.int .i64 K.next, .slice Ab K.atts.length qb, .int .i64 K.dur] 24) = x := ⟨_, rfl⟩
  rw [hw, hbyb] at HP
  rw [hw, hbyb]
  clear hw hbyb HN
  obtain ⟨-, -, -, -, ⟨yy, ff, zzx⟩, -⟩ := HP.out w5 (Below.refl _ _)
  have x0 := yy 0 _ rfl
  have x1 := yy 1 _ rfl
  have x2 := yy 2 _ rfl
  clear yy ff
  obtain ⟨-, -, ⟨yy, ff, zzya⟩, -⟩ := HP.out w5 (Below.refl _ _)
  have ya0 := yy 0 _ rfl
  have ya1 := yy 1 _ rfl
  have ya2 := yy 2 _ rfl
  clear yy ff
  obtain ⟨⟨yy, ff, zzyb⟩, -⟩ := HP.out w5 (Below.refl _ _)
  have yb0 := yy 0 _ rfl
  have yb1 := yy 1 _ rfl
  have yb2 := yy 2 _ rfl
  clear yy ff
  obtain ⟨-, hcb, -, hca, -, hcx, -⟩ := HP.out w5 (Below.refl _ _)
  have HCK := hide (fun (w' : World) (hb : Below w5.heap.size w5 w') => chk_any w' _ c (hcx.grow hb))
  have HRK := hide (fun (w' : World) (hb : Below w5.heap.size w5 w') => rchk_any w' c _ (hcx.grow hb))
  have HSM := hide (fun (w' : World) (hb : Below w5.heap.size w5 w') => same_any w' K _ _ (hca.grow hb) (hcb.grow hb))
  rw [HKK.out.2.2.2] at HCK HRK
  clear hcx hca hcb
  go_region_held3 (fun w' => w'.cell? ⟨(w.heap.size), 0, none⟩ = some (.int .i64 c.next) ∧ w'.cell? ⟨(w.heap.size), 1, none⟩ = some (.slice A c.atts.length cap) ∧ w'.cell? ⟨(w.heap.size), 2, none⟩ = some (.int .i64 c.dur) ∧ w'.cell? ⟨bya, 0, none⟩ = some (.int .i64 K.next) ∧ w'.cell? ⟨bya, 1, none⟩ = some (.slice Aa K.atts.length qa) ∧ w'.cell? ⟨bya, 2, none⟩ = some (.int .i64 K.dur) ∧ w'.cell? ⟨byb, 0, none⟩ = some (.int .i64 K.next) ∧ w'.cell? ⟨byb, 1, none⟩ = some (.slice Ab K.atts.length qb) ∧ w'.cell? ⟨byb, 2, none⟩ = some (.int .i64 K.dur))
    (first
      | with_reducible exact ⟨keep1 hk x0, keep1 hk x1, keep1 hk x2, keep1 hk ya0, keep1 hk ya1, keep1 hk ya2, keep1 hk yb0, keep1 hk yb1, keep1 hk yb2⟩
      | (go_keep; done))
    (first
      | (go_at_call 10; refine (awake_any _).mono ?_; rintro e v1 ⟨rfl, hb'⟩; have hk : Below w5.heap.size w5 v1 := below_undrew hb'; clear hb')
      | (go_at_call 13; refine (HCK.out _ hk).mono ?_; rintro e v1 ⟨rfl, hb'⟩; replace hk := bthen hk hb'; clear hb')
      | (go_at_call 14; refine (HRK.out _ hk).mono ?_; rintro e v1 ⟨rfl, hb'⟩; replace hk := bthen hk hb'; clear hb')
      | (clear mR; go_at_call 16; refine (begin_any _).mono ?_; rintro e v1 ⟨V1, rfl, hV, hb'⟩; replace hk := bthen hk hb'; have HV1 := hide hV; replace HV2 := hide (HV2.out.grow hb'); have mS : True := trivial; clear hb' hV)
      | (clear mB; go_at_call 17; refine (rbegin_any _).mono ?_; rintro e v1 ⟨V2, rfl, hV, hb'⟩; replace hk := bthen hk hb'; have HV2 := hide hV; replace HV1 := hide (HV1.out.grow hb'); have mS : True := trivial; clear hb' hV)
      | (go_at_call 16; refine (begin_any _).mono ?_; rintro e v1 ⟨V1, rfl, hV, hb'⟩; replace hk := bthen hk hb'; have HV1 := hide hV; have mB : True := trivial; clear hb' hV)
      | (go_at_call 17; refine (rbegin_any _).mono ?_; rintro e v1 ⟨V2, rfl, hV, hb'⟩; replace hk := bthen hk hb'; have HV2 := hide hV; have mR : True := trivial; clear hb' hV)
      | (clear mS; go_at_call 15; refine (same_any _ _ _ _ HV1.out HV2.out).mono ?_; rintro e v1 ⟨rfl, hb'⟩; replace hk := bthen hk hb'; clear hb')
      | (go_at_call 15; refine (HSM.out _ hk).mono ?_; rintro e v1 ⟨rfl, hb'⟩; replace hk := bthen hk hb'; clear hb'))
  all_goals
    go_wp2
    go_ret
    exact Ret.bool rfl (bthen (HP.out w5 (Below.refl _ _)).2.2.2.2.2.2.2 hk)
theorem triggers_law (v rv : Value) (l : List Rq) (n : Int) (h : CoV w v c) (hr : Lq w 6 RRq rv l) : Calls Try.prog 3 #[v, rv, .int .i64 n] w (Ret (.bool true) w) := by
  cases hf : fewQ c with
  | false => exact triggers_few w c v rv l n h hr hf
  | true =>
    by_cases h1 : l.length ≤ 20
    · exact triggers_main w c v rv l n h hr hf h1
    · exact triggers_long w c v rv l n h hr hf (by omega)
end
end Go.Proofs.Ytihbonndinnohaa
