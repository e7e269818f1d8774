/- awake, the example of the chapter. -/
import Derived.Test.YtihbonndinnohaaQAwk
namespace Go.Proofs.Ytihbonndinnohaa
open Go.RowKit
set_option linter.unusedVariables false
set_option linter.unusedSimpArgs false
theorem Aw.start {w wz : World} {r : Nat} {K : Cq} {A : Option Addr} {q : Nat} (hV : CoV wz (.agg #[.int .i64 K.next, .slice A K.atts.length q, .int .i64 K.dur]) K) (hr : Lq wz 6 RRq (.slice (some ⟨r, 0, none⟩) 1 1) rd7) (hb : Below w.heap.size w wz) :
    Aw w (wz.alloc (.cells #[.int .i64 K.next, .slice A K.atts.length q, .int .i64 K.dur] 24)) wz.heap.size r K A q := by
  have hz : ∀ x, x < wz.heap.size → x ≠ wz.heap.size ∧ x < (wz.alloc (.cells #[.int .i64 K.next, .slice A K.atts.length q, .int .i64 K.dur] 24)).heap.size := fun x hx => ⟨by omega, by rw [World.size_alloc]; omega⟩
  exact ⟨Bl.new wz [.int .i64 K.next, .slice A K.atts.length q, .int .i64 K.dur] _, (hV.z.keep (Kp.of_below (below_laid _))).more hz, (hr.keep rd_Rq (Kp.of_below (below_laid _))).more rd_Rq hz, bA_alloc hb _, hb.size⟩
theorem rd7_lst (w : World) (t : TypeId) : Lq (w.alloc (.cells #[.int .i64 0, .int .i64 7, .int .i64 0, .slice none 0 0, .slice none 0 0, .int .i64 0] t)) 6 RRq (.slice (some ⟨w.heap.size, 0, none⟩) 1 1) rd7 := by
  refine ⟨⟨_, 1, rfl, Nat.le_refl _, by simp [rd7, maxLen]⟩, fun j hj => ?_⟩
  have hj0 : j = 0 := by simp [rd7] at hj; omega
  subst hj0
  refine ⟨w.heap.size, 0, 1, [.int .i64 0, .int .i64 7, .int .i64 0, .slice none 0 0, .slice none 0 0, .int .i64 0], rfl, by simp, rfl, fun c u hu => ?_, 0, 0, none, none, 0, 0, 0, 0, rfl⟩
  have := cells_lit w [.int .i64 0, .int .i64 7, .int .i64 0, .slice none 0 0, .slice none 0 0, .int .i64 0] t c u hu
  simpa using this
theorem two_ops {w : World} {a1 a2 b1 b2 : Value} {o p : Oq} (t : TypeId) (h1 : ROq w (· < w.heap.size) [a1, a2] o) (h2 : ROq w (· < w.heap.size) [b1, b2] p) : Lq (w.alloc (.cells #[a1, a2, b1, b2] t)) 2 ROq (.slice (some ⟨w.heap.size, 0, none⟩) 2 2) [o, p] := by
  refine ⟨⟨_, 2, rfl, Nat.le_refl _, by simp [maxLen]⟩, fun j hj => ?_⟩
  have hk : ∀ {xs : List Value} {o : Oq}, ROq w (· < w.heap.size) xs o → ROq (w.alloc (.cells #[a1, a2, b1, b2] t)) (· < (w.alloc (.cells #[a1, a2, b1, b2] t)).heap.size) xs o := fun h =>
    rd_Oq.more (fun x hx => Nat.lt_of_lt_of_le hx (below_laid _).size) (rd_Oq.keep (Kp.of_below (below_laid _)) h)
  have hc := cells_lit w [a1, a2, b1, b2] t
  match j, hj with
  | 0, _ =>
    refine ⟨w.heap.size, 0, 2, [a1, a2], rfl, by simp, rfl, fun c u hu => ?_, hk h1⟩
    match c, hu with
    | 0, hu => simp at hu; subst hu; exact hc 0 _ rfl
    | 1, hu => simp at hu; subst hu; exact hc 1 _ rfl
  | 1, _ =>
    refine ⟨w.heap.size, 0, 2, [b1, b2], rfl, by simp, rfl, fun c u hu => ?_, hk h2⟩
    match c, hu with
    | 0, hu => simp at hu; subst hu; exact hc 2 _ rfl
    | 1, hu => simp at hu; subst hu; exact hc 3 _ rfl
section
variable (w : World)
set_option maxRecDepth 100000 in
set_option maxHeartbeats 16000000 in
theorem awake_any : Calls Try.prog 10 #[] w (Ret (.bool true) w) := by
  have HR1 := hide (rd7_lst w 68)
  have HB1 := hide (below_laid (w := w) (.cells #[.int .i64 0, .int .i64 7, .int .i64 0, .slice none 0 0, .slice none 0 0, .int .i64 0] 68))
  go_enter Try.func10, Try.ntmps10
  go_wp2_with fail
  refine (begin_any _).mono ?_
  rintro e w2 ⟨V0, rfl, hV0, hb⟩
  have HS := hide (s1 (w := w2) hV0.z (fun _ h => h) (HR1.out.grow rd_Rq hb))
  have HR2 := hide (HR1.out.grow rd_Rq hb)
  have HB2 := hide (bthen HB1.out hb)
  clear hb hV0
  go_wp2_with fail
  refine HS.out.mono ?_
  rintro e w3 ⟨V, rfl, hV, hb⟩
  obtain ⟨A, q, rfl⟩ := coz_form hV
  have HA := hide (Aw.start (hV.cov fun b hz => hz.elim (fun h => Nat.lt_of_lt_of_le h hb.size) (fun h => h.2)) (HR2.out.grow rd_Rq hb) (bthen HB2.out hb))
  obtain ⟨r, hr⟩ : ∃ r, w.heap.size = r := ⟨_, rfl⟩
  rw [hr] at HA ⊢
  clear hb hV HR1 HB1 HR2 HB2 HS hr
  go_upto_region 3 with (fail)
  obtain ⟨b, hb⟩ : ∃ b, w3.heap.size = b := ⟨_, rfl⟩
  rw [hb] at HA ⊢
  obtain ⟨wc, hwc⟩ : ∃ wc, w3.alloc (.cells #[.int .i64 C1.next, .slice A C1.atts.length q, .int .i64 C1.dur] 24) = wc := ⟨_, rfl⟩
  rw [hwc] at HA ⊢
  clear hb hwc
  have x0 := HA.out.bx.c 0 _ rfl
  have x1 := HA.out.bx.c 1 _ rfl
  have x2 := HA.out.bx.c 2 _ rfl
  have f0 := HA.out.bx.f 0
  have f1 := HA.out.bx.f 1
  have f2 := HA.out.bx.f 2
  have HS := hide (s2 HA.out.co (fun _ h => h.2) HA.out.rq)
  go_wp2_with fail
  refine HS.out.mono ?_
  rintro e w4 ⟨V, rfl, hV, hb⟩
  obtain ⟨B, p, rfl⟩ := coz_form hV
  have HN := hide (HA.out.store (Below.refl _ _) hb hV)
  replace HA := hide (HA.out.keep hb)
  clear x0 x1 x2 f0 f1 f2
  clear hV hb HS
  have x0 := HA.out.bx.c 0 _ rfl
  have x1 := HA.out.bx.c 1 _ rfl
  have x2 := HA.out.bx.c 2 _ rfl
  have f0 := HA.out.bx.f 0
  have f1 := HA.out.bx.f 1
  have f2 := HA.out.bx.f 2
  go_upto_region 4 with (fail)
  obtain ⟨w5, hw5⟩ : ∃ w5, (((w4.setCell ⟨b, 0, none⟩ (.int .i64 C2.next)).setCell ⟨b, 1, none⟩ (.slice B C2.atts.length p)).setCell ⟨b, 2, none⟩ (.int .i64 C2.dur)) = w5 := ⟨_, rfl⟩
  rw [hw5] at HN ⊢
  replace HA := HN
  clear x0 x1 x2 f0 f1 f2
  clear hw5 HN
  have x0 := HA.out.bx.c 0 _ rfl
  have x1 := HA.out.bx.c 1 _ rfl
  have x2 := HA.out.bx.c 2 _ rfl
  have f0 := HA.out.bx.f 0
  have f1 := HA.out.bx.f 1
  have f2 := HA.out.bx.f 2
  obtain ⟨wc, rfl⟩ : ∃ w, w = w5 := ⟨_, rfl⟩
  go_cut [7] from 33 to 39 (fun p wx => p = .int .i64 0 ∧ Hid (∃ A q, Aw w wx b r C3 A q))
  case first =>
    go_region_with (first | (go_at_call 29; refine (opr_any _ 5).mono ?_; rintro e wo ⟨g, rfl, hro, hbo'⟩; have hbo : Below wc.heap.size wc wo := below_undrew hbo'; have HKo := hide (HA.out.keep hbo); have HRo := hide hro; have HBo := hide hbo; have xo0 := HKo.out.bx.c 0 _ rfl; have xo1 := HKo.out.bx.c 1 _ rfl; have xo2 := HKo.out.bx.c 2 _ rfl; clear hro hbo hbo') | (go_at_call 18; refine (s3 HKo.out.co (fun _ h => h.2) HRo.out).mono ?_; rintro e wp ⟨V, rfl, hV, hbp⟩; obtain ⟨B, p, rfl⟩ := coz_form hV; have HN := hide (HA.out.store HBo.out hbp hV); have HKp := hide (HKo.out.keep hbp); have xp0 := HKp.out.bx.c 0 _ rfl; have xp1 := HKp.out.bx.c 1 _ rfl; have xp2 := HKp.out.bx.c 2 _ rfl; have fp0 := HKp.out.bx.f 0; have fp1 := HKp.out.bx.f 1; have fp2 := HKp.out.bx.f 2; clear hV hbp))
    all_goals
      go_wp2_with fail
      go_meet
      exact ⟨rfl, hide ⟨_, _, HN.out⟩⟩
  case rest =>
    obtain ⟨rfl, HH⟩ := hcut
    obtain ⟨A, q, ha⟩ := HH.out
    obtain ⟨wd, rfl⟩ : ∃ w, w = wc := ⟨_, rfl⟩
    replace HA := hide ha
    clear x0 x1 x2 f0 f1 f2
    clear HH ha
    have x0 := HA.out.bx.c 0 _ rfl
    have x1 := HA.out.bx.c 1 _ rfl
    have x2 := HA.out.bx.c 2 _ rfl
    have f0 := HA.out.bx.f 0
    have f1 := HA.out.bx.f 1
    have f2 := HA.out.bx.f 2
    have HS := hide (s10 HA.out.cov)
    go_wp2_with fail
    refine HS.out.mono ?_
    rintro e w6 ⟨v6, u6, rfl, l1, l2, hb⟩
    obtain ⟨D1, d1, rfl⟩ := l1.form
    obtain ⟨D2, d2, rfl⟩ := l2.form
    replace HA := hide (HA.out.keep hb)
    clear x0 x1 x2 f0 f1 f2
    clear l1 l2 hb HS
    have x0 := HA.out.bx.c 0 _ rfl
    have x1 := HA.out.bx.c 1 _ rfl
    have x2 := HA.out.bx.c 2 _ rfl
    have f0 := HA.out.bx.f 0
    have f1 := HA.out.bx.f 1
    have f2 := HA.out.bx.f 2
    go_upto_region 6 with (fail)
    obtain ⟨wc, hwc⟩ : ∃ wc, w6.alloc (.cells #[.int .i64 0, .slice D1 0 d1, .slice D2 0 d2] 54) = wc := ⟨_, rfl⟩
    replace HA := hide (HA.out.keep (below_laid (.cells #[.int .i64 0, .slice D1 0 d1, .slice D2 0 d2] 54)))
    rw [hwc] at HA ⊢
    clear hwc
    clear x0 x1 x2 f0 f1 f2
    have x0 := HA.out.bx.c 0 _ rfl
    have x1 := HA.out.bx.c 1 _ rfl
    have x2 := HA.out.bx.c 2 _ rfl
    have f0 := HA.out.bx.f 0
    have f1 := HA.out.bx.f 1
    have f2 := HA.out.bx.f 2
    go_cut [11] from 45 to 51 (fun p wx => p = .int .i64 0 ∧ Hid (∃ A q, Aw w wx b r C4 A q))
    case first =>
      go_region_with (first | (go_at_call 29; refine (opr_any _ 4).mono ?_; rintro e wo ⟨g, rfl, hro, hbo'⟩; have hbo : Below wc.heap.size wc wo := below_undrew hbo'; have HKo := hide (HA.out.keep hbo); have HRo := hide hro; have HBo := hide hbo; have xo0 := HKo.out.bx.c 0 _ rfl; have xo1 := HKo.out.bx.c 1 _ rfl; have xo2 := HKo.out.bx.c 2 _ rfl; clear hro hbo hbo') | (go_at_call 18; refine (s4 HKo.out.co (fun _ h => h.2) HRo.out).mono ?_; rintro e wp ⟨V, rfl, hV, hbp⟩; obtain ⟨B, p, rfl⟩ := coz_form hV; have HN := hide (HA.out.store HBo.out hbp hV); have HKp := hide (HKo.out.keep hbp); have xp0 := HKp.out.bx.c 0 _ rfl; have xp1 := HKp.out.bx.c 1 _ rfl; have xp2 := HKp.out.bx.c 2 _ rfl; have fp0 := HKp.out.bx.f 0; have fp1 := HKp.out.bx.f 1; have fp2 := HKp.out.bx.f 2; clear hV hbp))
      all_goals
        go_wp2_with fail
        go_meet
        exact ⟨rfl, hide ⟨_, _, HN.out⟩⟩
    case rest =>
      obtain ⟨rfl, HH⟩ := hcut
      obtain ⟨A, q, ha⟩ := HH.out
      obtain ⟨wd, rfl⟩ : ∃ w, w = wc := ⟨_, rfl⟩
      replace HA := hide ha
      clear x0 x1 x2 f0 f1 f2
      clear HH ha
      have x0 := HA.out.bx.c 0 _ rfl
      have x1 := HA.out.bx.c 1 _ rfl
      have x2 := HA.out.bx.c 2 _ rfl
      have f0 := HA.out.bx.f 0
      have f1 := HA.out.bx.f 1
      have f2 := HA.out.bx.f 2
      have HS := hide (s11 HA.out.cov)
      go_wp2_with fail
      refine HS.out.mono ?_
      rintro e w7 ⟨v7, u7, rfl, l1, l2, hb⟩
      obtain ⟨E1, e1, h1⟩ := l1.form
      obtain ⟨E2, e2, h2⟩ := l2.form
      change v7 = .slice E1 1 e1 at h1
      change u7 = .slice E2 2 e2 at h2
      subst h1 h2
      replace HA := hide (HA.out.keep hb)
      have HL := hide (And.intro (l1.laid rd_Rq (.cells #[.int .i64 1, .slice E1 1 e1, .slice E2 2 e2] 54)) (l2.laid rd_Oq (.cells #[.int .i64 1, .slice E1 1 e1, .slice E2 2 e2] 54)))
      have HZ := hide (Bl.new w7 [.int .i64 1, .slice E1 1 e1, .slice E2 2 e2] 54)
      clear x0 x1 x2 f0 f1 f2
      clear l1 l2 hb HS
      have x0 := HA.out.bx.c 0 _ rfl
      have x1 := HA.out.bx.c 1 _ rfl
      have x2 := HA.out.bx.c 2 _ rfl
      have f0 := HA.out.bx.f 0
      have f1 := HA.out.bx.f 1
      have f2 := HA.out.bx.f 2
      go_upto_region 8 with (fail)
      obtain ⟨bs, hbs⟩ : ∃ b, w7.heap.size = b := ⟨_, rfl⟩
      obtain ⟨wc, hwc⟩ : ∃ wc, w7.alloc (.cells #[.int .i64 1, .slice E1 1 e1, .slice E2 2 e2] 54) = wc := ⟨_, rfl⟩
      replace HA := hide (HA.out.keep (below_laid (.cells #[.int .i64 1, .slice E1 1 e1, .slice E2 2 e2] 54)))
      rw [hwc] at HA HZ HL ⊢
      rw [hbs] at HZ ⊢
      clear hwc hbs
      clear x0 x1 x2 f0 f1 f2
      have z0 := HZ.out.c 0 _ rfl
      have z1 := HZ.out.c 1 _ rfl
      have z2 := HZ.out.c 2 _ rfl
      go_cut [100] from 57 to 101 (fun p wx => p = .bool false ∧ Hid (Below wc.heap.size wc wx))
      case first =>
        go_region_held3 (fun w' => w'.cell? ⟨bs, 0, none⟩ = some (.int .i64 1) ∧ w'.cell? ⟨bs, 1, none⟩ = some (.slice E1 1 e1) ∧ w'.cell? ⟨bs, 2, none⟩ = some (.slice E2 2 e2))
          (first
            | with_reducible exact ⟨keep1 hk3 z0, keep1 hk3 z1, keep1 hk3 z2⟩
            | with_reducible exact ⟨keep1 hk2 z0, keep1 hk2 z1, keep1 hk2 z2⟩
            | with_reducible exact ⟨keep1 (bA_alloc hk2 _) z0, keep1 (bA_alloc hk2 _) z1, keep1 (bA_alloc hk2 _) z2⟩
            | with_reducible exact ⟨keep1 hk1 z0, keep1 hk1 z1, keep1 hk1 z2⟩
            | (go_keep; done))
          (first
            | (go_at_call 29; refine (opr_any _ 4).mono ?_; rintro e w4' ⟨g4, rfl, hr4, hb4⟩; have hk1 : Below wc.heap.size wc w4' := below_undrew hb4; have HR4 := hide hr4; clear hr4 hb4)
            | (go_at_call 29; refine (opr_any _ 4).mono ?_; rintro e w4' ⟨g4, rfl, hr4, hb4⟩; have hk2 : Below wc.heap.size wc w4' := bthen hk1 hb4; have HR4 := hide hr4; replace HR5 := hide (rd_Oq.more (fun x hx => Nat.lt_of_lt_of_le hx hb4.size) (rd_Oq.keep (Kp.of_below hb4) HR5.out)); clear hr4 hb4)
            | (go_at_call 29; refine (opr_any _ 5).mono ?_; rintro e w5' ⟨g5, rfl, hr5, hb5⟩; have hk1 : Below wc.heap.size wc w5' := below_undrew hb5; have HR5 := hide hr5; clear hr5 hb5)
            | (go_at_call 29; refine (opr_any _ 5).mono ?_; rintro e w5' ⟨g5, rfl, hr5, hb5⟩; have hk2 : Below wc.heap.size wc w5' := bthen hk1 hb5; have HR5 := hide hr5; replace HR4 := hide (rd_Oq.more (fun x hx => Nat.lt_of_lt_of_le hx hb5.size) (rd_Oq.keep (Kp.of_below hb5) HR4.out)); clear hr5 hb5)
            | (go_at_call 23; refine (smp_any _ rd7 [mk1 4, mk1 5] _ _ _ _ (HL.out.1.grow rd_Rq (bA_alloc hk2 _)) (HA.out.rq.grow rd_Rq (bA_alloc hk2 _)) (HL.out.2.grow rd_Oq (bA_alloc hk2 _)) (two_ops _ HR4.out HR5.out)).mono ?_; rintro e ws ⟨rfl, hbs'⟩; have hk3 : Below wc.heap.size wc ws := bthen (bA_alloc hk2 _) hbs'; clear hbs'))
        all_goals
          go_wp2_with fail
          go_meet
          exact ⟨rfl, hide hk3⟩
      case rest =>
        obtain ⟨rfl, HH⟩ := hcut
        replace HA := hide (HA.out.keep HH.out)
        clear HH z0 z1 z2 HZ HL
        have x0 := HA.out.bx.c 0 _ rfl
        have x1 := HA.out.bx.c 1 _ rfl
        have x2 := HA.out.bx.c 2 _ rfl
        have f0 := HA.out.bx.f 0
        have f1 := HA.out.bx.f 1
        have f2 := HA.out.bx.f 2
        go_upto_region 10 with (fail)
        go_cut [4] from 101 to 107 (fun p wx => p = .int .i64 0 ∧ Hid (∃ A q, Aw w wx b r C5 A q))
        case first =>
          go_region_with (first | (go_at_call 29; refine (opr_any _ 6).mono ?_; rintro e wo ⟨g, rfl, hro, hbo'⟩; have hbo : Below wc.heap.size wc wo := below_undrew hbo'; have HKo := hide (HA.out.keep hbo); have HRo := hide hro; have HBo := hide hbo; have xo0 := HKo.out.bx.c 0 _ rfl; have xo1 := HKo.out.bx.c 1 _ rfl; have xo2 := HKo.out.bx.c 2 _ rfl; clear hro hbo hbo') | (go_at_call 18; refine (s5 HKo.out.co (fun _ h => h.2) HRo.out).mono ?_; rintro e wp ⟨V, rfl, hV, hbp⟩; obtain ⟨B, p, rfl⟩ := coz_form hV; have HN := hide (HA.out.store HBo.out hbp hV); have HKp := hide (HKo.out.keep hbp); have xp0 := HKp.out.bx.c 0 _ rfl; have xp1 := HKp.out.bx.c 1 _ rfl; have xp2 := HKp.out.bx.c 2 _ rfl; have fp0 := HKp.out.bx.f 0; have fp1 := HKp.out.bx.f 1; have fp2 := HKp.out.bx.f 2; clear hV hbp))
          all_goals
            go_wp2_with fail
            go_meet
            exact ⟨rfl, hide ⟨_, _, HN.out⟩⟩
        case rest =>
          obtain ⟨rfl, HH⟩ := hcut
          obtain ⟨A, q, ha⟩ := HH.out
          replace HA := hide ha
          clear x0 x1 x2 f0 f1 f2
          clear HH ha
          have x0 := HA.out.bx.c 0 _ rfl
          have x1 := HA.out.bx.c 1 _ rfl
          have x2 := HA.out.bx.c 2 _ rfl
          have f0 := HA.out.bx.f 0
          have f1 := HA.out.bx.f 1
          have f2 := HA.out.bx.f 2
          go_upto_region 11 with (fail)
          go_cut [6] from 107 to 113 (fun p wx => p = .int .i64 31 ∧ Hid (Below wc.heap.size wc wx))
          case first =>
            go_region_with (first | (go_at_call 29; refine (opr_any _ 6).mono ?_; rintro e wo ⟨g, rfl, hro, hbo'⟩; have hbo : Below wc.heap.size wc wo := below_undrew hbo'; have HKo := hide (HA.out.keep hbo); have HRo := hide hro; have HBo := hide hbo; have xo0 := HKo.out.bx.c 0 _ rfl; have xo1 := HKo.out.bx.c 1 _ rfl; have xo2 := HKo.out.bx.c 2 _ rfl; clear hro hbo hbo') | (go_at_call 18; refine (s6 HKo.out.co (fun _ h => h.2) HRo.out).mono ?_; rintro e wp ⟨V, rfl, hV, hbp⟩; have HN := hide (bthen HBo.out hbp); clear hV hbp))
            all_goals
              go_wp2_with fail
              go_meet
              exact ⟨rfl, HN⟩
          case rest =>
            obtain ⟨rfl, HH⟩ := hcut
            replace HA := hide (HA.out.keep HH.out)
            clear x0 x1 x2 f0 f1 f2
            clear HH
            have x0 := HA.out.bx.c 0 _ rfl
            have x1 := HA.out.bx.c 1 _ rfl
            have x2 := HA.out.bx.c 2 _ rfl
            have f0 := HA.out.bx.f 0
            have f1 := HA.out.bx.f 1
            have f2 := HA.out.bx.f 2
            have HS := hide (s7 HA.out.cov)
            go_wp2_with fail
            refine HS.out.mono ?_
            rintro e wf ⟨V, rfl, hV, hb⟩
            replace HA := hide (HA.out.keep hb)
            clear x0 x1 x2 f0 f1 f2
            clear hV hb HS
            have x0 := HA.out.bx.c 0 _ rfl
            have x1 := HA.out.bx.c 1 _ rfl
            have x2 := HA.out.bx.c 2 _ rfl
            have f0 := HA.out.bx.f 0
            have f1 := HA.out.bx.f 1
            have f2 := HA.out.bx.f 2
            have HS := hide (s8 HA.out.cov)
            go_wp2_with fail
            refine HS.out.mono ?_
            rintro e wg ⟨V, rfl, hV, hb⟩
            obtain ⟨D, d, rfl⟩ := coz_form hV.z
            rw [show C6.dur = 1 from n6.1] at hV ⊢
            have HB9 := hide (bthen HA.out.be hb)
            have HV := hide (hV.laid (.cells #[.int .i64 C6.next, .slice D C6.atts.length d, .int .i64 1] 24))
            have HD := hide (Bl.new wg [.int .i64 C6.next, .slice D C6.atts.length d, .int .i64 1] 24)
            clear x0 x1 x2 f0 f1 f2
            clear hV hb HS HA
            have y0 := HD.out.c 0 _ rfl
            have y1 := HD.out.c 1 _ rfl
            have y2 := HD.out.c 2 _ rfl
            have HS := hide (s9 HV.out)
            go_wp2_with fail
            refine HS.out.mono ?_
            rintro e wh ⟨V, rfl, hV, hb⟩
            obtain ⟨D', d', rfl⟩ := coz_form hV.z
            rw [show C7.next = 2 from n6.2.2.1, show C7.atts.length = 0 from n6.2.2.2]
            have HD2 := hide (HD.out.keep hb)
            have HB10 := hide (bthen (bA_alloc HB9.out (.cells #[.int .i64 C6.next, .slice D C6.atts.length d, .int .i64 1] 24)) hb)
            have hltd := HD2.out.lt
            clear y0 y1 y2 hV hb HS
            have y0 := HD2.out.c 0 _ rfl
            have y1 := HD2.out.c 1 _ rfl
            have y2 := HD2.out.c 2 _ rfl
            go_wp2
            go_ret
            exact Ret.bool rfl (bA_alloc HB10.out _)
end
end Go.Proofs.Ytihbonndinnohaa
