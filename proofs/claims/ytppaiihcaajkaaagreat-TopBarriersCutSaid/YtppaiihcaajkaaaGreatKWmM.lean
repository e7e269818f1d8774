/- watermark: receiveEvent, the sources of messages: written by genWm5.py. A row under way: made by a copy, its cells stored. watermark.Check of well-formed trackers. -/
import Derived.Test.YtppaiihcaajkaaaGreatKRcvM
import Derived.Test.YtppaiihcaajkaaaGreatKSeqN
import Derived.Laws.OwnMore
namespace Go.Proofs.YtppaiihcaajkaaaGreat
open Go.RowKit
set_option linter.unusedVariables false
set_option linter.unusedSimpArgs false
section
variable (w : World)
set_option maxHeartbeats 4000000 in
theorem ksrc1_any (M : Msg) (A : Option Addr) (c : Nat) : Calls Tryz.prog 96 #[.agg #[.int .i64 M.k, .int .i64 M.e.a, .int .i64 M.e.b, .int .i64 M.e.c, .int .i64 M.e.d, .slice A M.e.vs.length c, .int .i64 M.s, .int .i64 M.q, .int .i64 M.t]] w (Ret (.int .i64 M.e.a) w) := by
  obtain ⟨k, ⟨a, b, c', d, vs⟩, s, q, t⟩ := M
  go_enter Tryz.func96, Tryz.ntmps96
  go_wp2
  go_ret
  exact ⟨rfl, below_laid _⟩
set_option maxHeartbeats 4000000 in
theorem ksrc2_any (M : Msg) (A : Option Addr) (c : Nat) : Calls Tryz.prog 99 #[.agg #[.int .i64 M.k, .int .i64 M.e.a, .int .i64 M.e.b, .int .i64 M.e.c, .int .i64 M.e.d, .slice A M.e.vs.length c, .int .i64 M.s, .int .i64 M.q, .int .i64 M.t]] w (Ret (.int .i64 M.s) w) := by
  obtain ⟨k, ⟨a, b, c', d, vs⟩, s, q, t⟩ := M
  go_enter Tryz.func99, Tryz.ntmps99
  go_wp2
  go_ret
  exact ⟨rfl, below_laid _⟩
set_option maxRecDepth 100000 in
set_option maxHeartbeats 16000000 in
theorem revent_any (x : Trk) (M : Msg) (A B E : Option Addr) (a b cc B0 : Nat) (hx0 : TrV w (· < B0) A a B b x) (hB0 : B0 ≤ w.heap.size) (hok : TrkOK x) (hM : NumM M) : Calls Tryz.prog 97 #[.agg #[.int .i64 x.next, .slice A x.beyond.length a, .slice B x.points.length b, .int .i64 x.mark], .agg #[.int .i64 M.k, .int .i64 M.e.a, .int .i64 M.e.b, .int .i64 M.e.c, .int .i64 M.e.d, .slice E M.e.vs.length cc, .int .i64 M.s, .int .i64 M.q, .int .i64 M.t]] w (RetRc B0 (Sim x M) (fun f y => TrkOK y ∧ (Sim x M → f = true ∧ y = ⟨x.next + 1, [], [], x.mark⟩)) w) := by
  have hx : TrV w (· < w.heap.size) A a B b x := ⟨hx0.u.more rd_In (fun k hk => Nat.lt_of_lt_of_le hk hB0), hx0.v.more rd_Pn (fun k hk => Nat.lt_of_lt_of_le hk hB0), hx0.n, hx0.m⟩
  have HT0 := hide (show ∀ w1, Below w.heap.size w w1 → TrV w1 (fun k => k < w1.heap.size ∧ (k < B0 ∨ w.heap.size ≤ k)) A a B b x from fun w1 hb => ⟨(hx0.u.keep rd_In (Kp.lowBelow hb (fun k hk => Nat.lt_of_lt_of_le hk hB0))).more rd_In (fun k hk => ⟨Nat.lt_of_lt_of_le (Nat.lt_of_lt_of_le hk hB0) hb.size, .inl hk⟩), (hx0.v.keep rd_Pn (Kp.lowBelow hb (fun k hk => Nat.lt_of_lt_of_le hk hB0))).more rd_Pn (fun k hk => ⟨Nat.lt_of_lt_of_le (Nat.lt_of_lt_of_le hk hB0) hb.size, .inl hk⟩), hx0.n, hx0.m⟩)
  have HHAS := hide (fun (w1 : World) (hb : Below w.heap.size w w1) => hasq_any w1 x A B a b M.e.b (hx.below hb))
  have HALW := hide (fun (w1 : World) (hb : Below w.heap.size w w1) => allows_any w1 x A B a b M.e.b M.e.d (hx.below hb))
  have HRCV := hide (fun (w1 : World) (hb : Below w.heap.size w w1) => srecv_any w1 x A B a b M.e.b (hx.below hb) hok.1 (Nat.le_trans hok.2.2.1 (by decide)))
  obtain ⟨S, hS⟩ : ∃ S : Prop, S = Sim x M := ⟨_, rfl⟩
  obtain ⟨P, hP⟩ : ∃ P : Bool → Trk → Prop, P = (fun f y => TrkOK y ∧ (Sim x M → f = true ∧ y = ⟨x.next + 1, [], [], x.mark⟩)) := ⟨_, rfl⟩
  rw [← hP, ← hS]
  have HS := hide hS
  have HP := hide (show ∀ f y, P f y ↔ (TrkOK y ∧ (S → f = true ∧ y = ⟨x.next + 1, [], [], x.mark⟩)) by intro f y; rw [hP, hS])
  have HHP := hide (show S → x.beyond = [] ∧ x.points = [] ∧ M.e.b = x.next ∧ M.e.b ≤ 1099511627776 ∧ x.mark < M.e.d ∧ (0 ≤ M.e.d ∧ M.e.d ≤ 1099511627776) by rw [hS]; exact fun h => h)
  have HNX := hide (show S → Nxt x M.e.b from fun h => by rw [hS] at h; exact ⟨h.1, h.2.2.1, h.2.2.2.1⟩)
  have HAS := hide (show S → ∀ y : Trk, y = ⟨x.next + 1, [], x.points, x.mark⟩ → AscOK y (-1) (-1) ∧ setT y = ⟨x.next + 1, [], [], x.mark⟩ from fun h y hy => by
    rw [hS] at h
    obtain ⟨h1, h2, h3, h4, -⟩ := h
    rw [h2] at hy
    subst hy
    refine ⟨⟨⟨?_, ?_, by simp, trivial⟩, hok.2.1, by simp, trivial⟩, setT_sim⟩
    · have := hok.1.1; show 0 ≤ x.next + 1; omega
    · show x.next + 1 ≤ 1099511627777; omega)
  have HPO := hide (show TrkOK x ∧ (S → Nxt x M.e.b) from ⟨hok, HNX.out⟩)
  clear hP hS
  have HTV := hide (fun (w1 : World) (hb : Below w.heap.size w w1) => hx.below hb)
  obtain ⟨X1, hX1⟩ : ∃ X, X = w.alloc (.cells #[.int .i64 x.next, .slice A x.beyond.length a, .slice B x.points.length b, .int .i64 x.mark] 33) := ⟨_, rfl⟩
  have hB1 : Below w.heap.size w X1 := by rw [hX1]; exact below_laid _
  have hsz1 : X1.heap.size = w.heap.size + 1 := by rw [hX1]; simp
  have hbx := Bl.new w [.int .i64 x.next, .slice A x.beyond.length a, .slice B x.points.length b, .int .i64 x.mark] 33
  rw [← hX1] at hbx
  obtain ⟨X2, hX2⟩ : ∃ X, X = X1.alloc (.cells #[.int .i64 M.k, .int .i64 M.e.a, .int .i64 M.e.b, .int .i64 M.e.c, .int .i64 M.e.d, .slice E M.e.vs.length cc, .int .i64 M.s, .int .i64 M.q, .int .i64 M.t] 54) := ⟨_, rfl⟩
  have hB2 : Below w.heap.size w X2 := by rw [hX2]; exact bthen hB1 (below_laid _)
  have hsz2 : X2.heap.size = w.heap.size + 1 + 1 := by rw [hX2]; simp [hsz1]
  have hbp := Bl.new X1 [.int .i64 M.k, .int .i64 M.e.a, .int .i64 M.e.b, .int .i64 M.e.c, .int .i64 M.e.d, .slice E M.e.vs.length cc, .int .i64 M.s, .int .i64 M.q, .int .i64 M.t] 54
  rw [← hX2, hsz1] at hbp
  replace hbx : Bl X2 w.heap.size [.int .i64 x.next, .slice A x.beyond.length a, .slice B x.points.length b, .int .i64 x.mark] := by rw [hX2]; exact hbx.laid _
  obtain ⟨W3, hW3⟩ : ∃ X, X = X2.alloc (.cells #[.int .i64 0, .slice none 0 0, .slice none 0 0, .int .i64 0] 33) := ⟨_, rfl⟩
  have hB3 : Below w.heap.size w W3 := by rw [hW3]; exact bthen hB2 (below_laid _)
  have hbz := Bl.new X2 [.int .i64 0, .slice none 0 0, .slice none 0 0, .int .i64 0] 33
  rw [← hW3, hsz2] at hbz
  have HX := hide (show Bl W3 w.heap.size [.int .i64 x.next, .slice A x.beyond.length a, .slice B x.points.length b, .int .i64 x.mark] by rw [hW3]; exact hbx.laid _)
  have HM := hide (show Bl W3 (w.heap.size + 1) [.int .i64 M.k, .int .i64 M.e.a, .int .i64 M.e.b, .int .i64 M.e.c, .int .i64 M.e.d, .slice E M.e.vs.length cc, .int .i64 M.s, .int .i64 M.q, .int .i64 M.t] by rw [hW3]; exact hbp.laid _)
  have HZ := hide hbz
  have HB := hide hB3
  have HWW := hide (show ((w.alloc (.cells #[.int .i64 x.next, .slice A x.beyond.length a, .slice B x.points.length b, .int .i64 x.mark] 33)).alloc (.cells #[.int .i64 M.k, .int .i64 M.e.a, .int .i64 M.e.b, .int .i64 M.e.c, .int .i64 M.e.d, .slice E M.e.vs.length cc, .int .i64 M.s, .int .i64 M.q, .int .i64 M.t] 54)).alloc (.cells #[.int .i64 0, .slice none 0 0, .slice none 0 0, .int .i64 0] 33) = W3 by rw [hW3, hX2, hX1])
  have HOK := hide hok
  clear hx hx0 hB0 hM hB1 hB2 hB3 hbx hbp hbz hsz1 hsz2 hX1 hX2 hW3 hok
  obtain ⟨next, beyond, points, mark⟩ := x
  obtain ⟨k, ⟨ea, eb, ec, ed, vs⟩, s, q, t⟩ := M
  simp only at HX HM HTV HT0 HHAS HALW HRCV HWW HOK HP HHP HNX HAS HPO ⊢
  clear HS
  obtain ⟨m, hm⟩ : ∃ m, beyond.length = m := ⟨_, rfl⟩
  obtain ⟨n, hn⟩ : ∃ n, points.length = n := ⟨_, rfl⟩
  obtain ⟨el, hel⟩ : ∃ el, vs.length = el := ⟨_, rfl⟩
  have HMM := hide hm
  have HNN := hide hn
  simp only [hm, hn, hel] at HX HM HHAS HALW HRCV HWW ⊢
  clear hm hn hel
  go_enter Tryz.func97, Tryz.ntmps97
  go_upto_region 1 with (fail)
  rw [HWW.out]
  clear HWW
  have d0 := HX.out.c 0 _ rfl
  have d1 := HX.out.c 1 _ rfl
  have d2 := HX.out.c 2 _ rfl
  have d3 := HX.out.c 3 _ rfl
  have m2 := HM.out.c 2 _ rfl
  have m4 := HM.out.c 4 _ rfl
  have z0 := HZ.out.c 0 _ rfl
  have g0 := HZ.out.f 0
  have z1 := HZ.out.c 1 _ rfl
  have g1 := HZ.out.f 1
  have z2 := HZ.out.c 2 _ rfl
  have g2 := HZ.out.f 2
  have z3 := HZ.out.c 3 _ rfl
  have g3 := HZ.out.f 3
  have HHAS1 := hide (HHAS.out W3 HB.out)
  go_wp2_with fail
  refine HHAS1.out.mono ?_
  rintro e1 w1 ⟨kn, n1, rfl, hh, hb1⟩
  obtain rfl : n1 = 0 := hh.1 HOK.out.1
  have HH := hide hh.2
  have HX1 := hide (HX.out.keep hb1)
  have HM1 := hide (HM.out.keep hb1)
  have HZ1 := hide (HZ.out.keep hb1)
  have HB1 := hide (bthen HB.out hb1)
  clear hb1 hh HHAS HHAS1 HX HM HZ HB d0 d1 d2 d3 m2 m4 z0 z1 z2 z3 g0 g1 g2 g3
  have d0 := HX1.out.c 0 _ rfl
  have d1 := HX1.out.c 1 _ rfl
  have d2 := HX1.out.c 2 _ rfl
  have d3 := HX1.out.c 3 _ rfl
  have m2 := HM1.out.c 2 _ rfl
  have m4 := HM1.out.c 4 _ rfl
  have z0 := HZ1.out.c 0 _ rfl
  have g0 := HZ1.out.f 0
  have z1 := HZ1.out.c 1 _ rfl
  have g1 := HZ1.out.f 1
  have z2 := HZ1.out.c 2 _ rfl
  have g2 := HZ1.out.f 2
  have z3 := HZ1.out.c 3 _ rfl
  have g3 := HZ1.out.f 3
  cases kn
  · have HALW1 := hide (HALW.out w1 HB1.out)
    go_wp2_with fail
    refine HALW1.out.mono ?_
    rintro e2 w2 ⟨al, n2, rfl, hal, hb2⟩
    have HAL := hide (show S → al = true ∧ n2 = 0 from fun h => by
      obtain ⟨h1, h2, h3, h4, h5, h6, h7⟩ := HHP.out h
      have := HOK.out.1.1
      exact hal HOK.out (by simp only at this h3; omega) h4 h6 h7 h1 h2 h5 (by omega))
    have HX2 := hide (HX1.out.keep hb2)
    have HM2 := hide (HM1.out.keep hb2)
    have HZ2 := hide (HZ1.out.keep hb2)
    have HB2 := hide (bthen HB1.out hb2)
    clear hb2 hal HALW HALW1 HX1 HM1 HZ1 HB1 d0 d1 d2 d3 m2 m4 z0 z1 z2 z3 g0 g1 g2 g3
    have d0 := HX2.out.c 0 _ rfl
    have d1 := HX2.out.c 1 _ rfl
    have d2 := HX2.out.c 2 _ rfl
    have d3 := HX2.out.c 3 _ rfl
    have m2 := HM2.out.c 2 _ rfl
    have m4 := HM2.out.c 4 _ rfl
    have z0 := HZ2.out.c 0 _ rfl
    have g0 := HZ2.out.f 0
    have z1 := HZ2.out.c 1 _ rfl
    have g1 := HZ2.out.f 1
    have z2 := HZ2.out.c 2 _ rfl
    have g2 := HZ2.out.f 2
    have z3 := HZ2.out.c 3 _ rfl
    have g3 := HZ2.out.f 3
    by_cases hn2 : n2 = 0
    · obtain rfl := hn2
      cases al
      · go_wp2
        refine bodyPost_ret (v := .tuple #[.agg #[.int .i64 next, .slice A m a, .slice B n b, .int .i64 mark], .bool false, .int .i64 19]) (by rw [results_ctt rfl]; go_simp) rfl ?_
        exact .inl ⟨_, _, _, _, _, _, _, _, _, _, by decide, rfl, fun h => absurd (HAL.out h).1 (by decide), Off.below (s := w.heap.size) (d := 3) (by repeat (first | refine Off.set ?_ (by constructor <;> simp <;> omega) | exact Off.refl)) HB2.out (Nat.le_refl _)⟩
      · have HRCV1 := hide (HRCV.out w2 HB2.out)
        go_wp2_with fail
        refine HRCV1.out.mono ?_
        rintro e3 w3 (⟨n3, hn3, rfl, hns, hb3⟩ | ⟨f3, y, A3, a3, B3, b3, rfl, hT, ⟨hy1, hy2, hy3⟩, hb3⟩)
        · have HX3 := hide (HX2.out.keep hb3)
          have HM3 := hide (HM2.out.keep hb3)
          have HZ3 := hide (HZ2.out.keep hb3)
          have HB3 := hide (bthen HB2.out hb3)
          have HNS := hide (show ¬ S from fun h => hns (HNX.out h))
          have t3 : (n3 != 0) = true := bne_iff_ne.2 hn3
          clear hb3 hns d0 d1 d2 d3 m2 m4 z0 z1 z2 z3 g0 g1 g2 g3
          have d0 := HX3.out.c 0 _ rfl
          have d1 := HX3.out.c 1 _ rfl
          have d2 := HX3.out.c 2 _ rfl
          have d3 := HX3.out.c 3 _ rfl
          have m2 := HM3.out.c 2 _ rfl
          have m4 := HM3.out.c 4 _ rfl
          have z0 := HZ3.out.c 0 _ rfl
          have g0 := HZ3.out.f 0
          have z1 := HZ3.out.c 1 _ rfl
          have g1 := HZ3.out.f 1
          have z2 := HZ3.out.c 2 _ rfl
          have g2 := HZ3.out.f 2
          have z3 := HZ3.out.c 3 _ rfl
          have g3 := HZ3.out.f 3
          have HB4 := hide (bthen HB3.out (below_laid (w := w3) (.cells #[.int .i64 0, .slice none 0 0, .slice none 0 0, .int .i64 0] 33)))
          unfold zeT
          go_upto_region 11 with (fail)
          obtain ⟨W4, hW4⟩ : ∃ W4, w3.alloc (.cells #[.int .i64 0, .slice none 0 0, .slice none 0 0, .int .i64 0] 33) = W4 := ⟨_, rfl⟩
          have hbW : Below w3.heap.size w3 W4 := by rw [← hW4]; exact below_laid _
          rw [hW4] at HB4 ⊢
          have HX4 := hide (HX3.out.keep hbW)
          have HZ4 := hide (HZ3.out.keep hbW)
          clear hW4 hbW d0 d1 d2 d3 m2 m4 z0 z1 z2 z3 g0 g1 g2 g3
          have d0 := HX4.out.c 0 _ rfl
          have d1 := HX4.out.c 1 _ rfl
          have d2 := HX4.out.c 2 _ rfl
          have d3 := HX4.out.c 3 _ rfl
          have z0 := HZ4.out.c 0 _ rfl
          have g0 := HZ4.out.f 0
          have z1 := HZ4.out.c 1 _ rfl
          have g1 := HZ4.out.f 1
          have z2 := HZ4.out.c 2 _ rfl
          have g2 := HZ4.out.f 2
          have z3 := HZ4.out.c 3 _ rfl
          have g3 := HZ4.out.f 3
          go_wp2
          refine bodyPost_ret (v := .tuple #[.agg #[.int .i64 next, .slice A m a, .slice B n b, .int .i64 mark], .bool false, .int .i64 n3]) (by rw [results_ctt rfl]; go_simp) rfl ?_
          exact .inl ⟨_, _, _, _, _, _, _, _, _, _, hn3, rfl, HNS.out, Off.below (s := w.heap.size) (d := 3) (by repeat (first | refine Off.set ?_ (by constructor <;> simp <;> omega) | exact Off.refl)) HB4.out (Nat.le_refl _)⟩
        · have HSET := hide (fun (w4 : World) (hb : Below w3.heap.size w3 w4) => settle_any w4 y A3 B3 a3 b3 ⟨(hT.u.keep rd_In (Kp.of_below hb)).more rd_In (fun k (hk : w2.heap.size ≤ k ∧ k < w3.heap.size) => by have := hb.size; omega), (hT.v.keep rd_Pn (Kp.of_below hb)).more rd_Pn (fun k (hk : w2.heap.size ≤ k ∧ k < w3.heap.size) => by have := hb.size; omega), hT.n, hT.m⟩ (Nat.le_trans hy1 (by decide)))
          have HX3 := hide (HX2.out.keep hb3)
          have HM3 := hide (HM2.out.keep hb3)
          have HZ3 := hide (HZ2.out.keep hb3)
          have HB3 := hide (bthen HB2.out hb3)
          have HYS := hide (show S → AscOK y (-1) (-1) ∧ setT y = ⟨next + 1, [], [], mark⟩ from fun h => HAS.out h y (hy3 (HNX.out h)))
          clear hb3 hT hy1 hy2 hy3 d0 d1 d2 d3 m2 m4 z0 z1 z2 z3 g0 g1 g2 g3
          obtain ⟨yn, yb, yp, ym⟩ := y
          simp only at HSET HYS ⊢
          obtain ⟨yl, hyl⟩ : ∃ yl, yb.length = yl := ⟨_, rfl⟩
          obtain ⟨yq, hyq⟩ : ∃ yq, yp.length = yq := ⟨_, rfl⟩
          simp only [hyl, hyq] at HSET ⊢
          clear hyl hyq
          go_upto_region 11 with (fail)
          obtain ⟨W4, hW4⟩ : ∃ W4, w3.alloc (.cells #[.int .i64 yn, .slice A3 yl a3, .slice B3 yq b3, .int .i64 ym] 33) = W4 := ⟨_, rfl⟩
          have hbW : Below w3.heap.size w3 W4 := by rw [← hW4]; exact below_laid _
          have HY4 := hide (show Bl W4 w3.heap.size [.int .i64 yn, .slice A3 yl a3, .slice B3 yq b3, .int .i64 ym] by rw [← hW4]; exact Bl.new w3 [.int .i64 yn, .slice A3 yl a3, .slice B3 yq b3, .int .i64 ym] 33)
          have HSET4 := hide (HSET.out W4 hbW)
          have HZ4 := hide (HZ3.out.keep hbW)
          have HB4 := hide (bthen HB3.out hbW)
          rw [hW4]
          clear hW4 hbW HSET
          have y0 := HY4.out.c 0 _ rfl
          have y1 := HY4.out.c 1 _ rfl
          have y2 := HY4.out.c 2 _ rfl
          have y3 := HY4.out.c 3 _ rfl
          go_wp2_with fail
          refine HSET4.out.mono ?_
          have hz3 := HZ3.out.lt
          have hz4 := HY4.out.lt
          have hne : w3.heap.size ≠ w.heap.size + 1 + 1 := by omega
          rintro e5 w5 (⟨n5, hn5, rfl, hns, hb5⟩ | ⟨y', A5, a5, B5, b5, rfl, hT5, ⟨hy5, hy6⟩, hb5⟩)
          · have HY5 := hide (HY4.out.keep hb5)
            have HZ5 := hide (HZ4.out.keep hb5)
            have HB5 := hide (bthen HB4.out hb5)
            have HNS := hide (show ¬ S from fun h => hns (HYS.out h).1)
            clear hb5 y0 y1 y2 y3 hns
            have y0 := HY5.out.c 0 _ rfl
            have y1 := HY5.out.c 1 _ rfl
            have y2 := HY5.out.c 2 _ rfl
            have y3 := HY5.out.c 3 _ rfl
            have f0 := HY5.out.f 0
            have f1 := HY5.out.f 1
            have f2 := HY5.out.f 2
            have f3 := HY5.out.f 3
            unfold zeT
            go_upto_region 14 with (fail)
            obtain ⟨W6, hW6⟩ : ∃ W6, (((w5.setCell ⟨w3.heap.size, 0, none⟩ (.int .i64 0)).setCell ⟨w3.heap.size, 1, none⟩ (.slice none 0 0)).setCell ⟨w3.heap.size, 2, none⟩ (.slice none 0 0)).setCell ⟨w3.heap.size, 3, none⟩ (.int .i64 0) = W6 := ⟨_, rfl⟩
            have HY6 := hide (show Bl W6 w3.heap.size [.int .i64 0, .slice none 0 0, .slice none 0 0, .int .i64 0] by rw [← hW6]; exact (((HY5.out.put (k := 0) (by simp) _).put (k := 1) (by simp) _).put (k := 2) (by simp) _).put (k := 3) (by simp) _)
            have HZ6 := hide (show Bl W6 (w.heap.size + 1 + 1) [.int .i64 0, .slice none 0 0, .slice none 0 0, .int .i64 0] by rw [← hW6]; exact (((HZ5.out.far (p := ⟨w3.heap.size, 0, none⟩) hne _).far (p := ⟨w3.heap.size, 1, none⟩) hne _).far (p := ⟨w3.heap.size, 2, none⟩) hne _).far (p := ⟨w3.heap.size, 3, none⟩) hne _)
            have HB6 := hide (show Below w.heap.size w W6 by rw [← hW6]; exact (((HB5.out.setCell (p := ⟨w3.heap.size, 0, none⟩) (by show w.heap.size ≤ w3.heap.size; omega) _).setCell (p := ⟨w3.heap.size, 1, none⟩) (by show w.heap.size ≤ w3.heap.size; omega) _).setCell (p := ⟨w3.heap.size, 2, none⟩) (by show w.heap.size ≤ w3.heap.size; omega) _).setCell (p := ⟨w3.heap.size, 3, none⟩) (by show w.heap.size ≤ w3.heap.size; omega) _)
            skip
            rw [hW6]
            clear hW6 HY5 HZ5 HB5 y0 y1 y2 y3 f0 f1 f2 f3
            have y0 := HY6.out.c 0 _ rfl
            have y1 := HY6.out.c 1 _ rfl
            have y2 := HY6.out.c 2 _ rfl
            have y3 := HY6.out.c 3 _ rfl
            have z0 := HZ6.out.c 0 _ rfl
            have g0 := HZ6.out.f 0
            have z1 := HZ6.out.c 1 _ rfl
            have g1 := HZ6.out.f 1
            have z2 := HZ6.out.c 2 _ rfl
            have g2 := HZ6.out.f 2
            have z3 := HZ6.out.c 3 _ rfl
            have g3 := HZ6.out.f 3
            go_wp2
            refine bodyPost_ret (v := .tuple #[.agg #[.int .i64 0, .slice none 0 0, .slice none 0 0, .int .i64 0], .bool true, .int .i64 n5]) (by rw [results_ctt rfl]; go_simp) rfl ?_
            exact .inl ⟨_, _, _, _, _, _, _, _, _, _, hn5, rfl, HNS.out, Off.below (s := w.heap.size) (d := 3) (by repeat (first | refine Off.set ?_ (by constructor <;> simp <;> omega) | exact Off.refl)) HB6.out (Nat.le_refl _)⟩
          · have HT5 := hide hT5
            have HY5 := hide (HY4.out.keep hb5)
            have HZ5 := hide (HZ4.out.keep hb5)
            have HB5 := hide (bthen HB4.out hb5)
            have HYP := hide (show P true y' from (HP.out true y').2 ⟨hy5, fun h => ⟨rfl, by rw [hy6]; exact (HYS.out h).2⟩⟩)
            clear hb5 y0 y1 y2 y3 hT5 hy5 hy6
            have y0 := HY5.out.c 0 _ rfl
            have y1 := HY5.out.c 1 _ rfl
            have y2 := HY5.out.c 2 _ rfl
            have y3 := HY5.out.c 3 _ rfl
            have f0 := HY5.out.f 0
            have f1 := HY5.out.f 1
            have f2 := HY5.out.f 2
            have f3 := HY5.out.f 3
            skip
            go_upto_region 14 with (fail)
            obtain ⟨W6, hW6⟩ : ∃ W6, (((w5.setCell ⟨w3.heap.size, 0, none⟩ ((.int .i64 y'.next))).setCell ⟨w3.heap.size, 1, none⟩ ((.slice A5 y'.beyond.length a5))).setCell ⟨w3.heap.size, 2, none⟩ ((.slice B5 y'.points.length b5))).setCell ⟨w3.heap.size, 3, none⟩ ((.int .i64 y'.mark)) = W6 := ⟨_, rfl⟩
            have HY6 := hide (show Bl W6 w3.heap.size [(.int .i64 y'.next), (.slice A5 y'.beyond.length a5), (.slice B5 y'.points.length b5), (.int .i64 y'.mark)] by rw [← hW6]; exact (((HY5.out.put (k := 0) (by simp) _).put (k := 1) (by simp) _).put (k := 2) (by simp) _).put (k := 3) (by simp) _)
            have HZ6 := hide (show Bl W6 (w.heap.size + 1 + 1) [.int .i64 0, .slice none 0 0, .slice none 0 0, .int .i64 0] by rw [← hW6]; exact (((HZ5.out.far (p := ⟨w3.heap.size, 0, none⟩) hne _).far (p := ⟨w3.heap.size, 1, none⟩) hne _).far (p := ⟨w3.heap.size, 2, none⟩) hne _).far (p := ⟨w3.heap.size, 3, none⟩) hne _)
            have HB6 := hide (show Below w.heap.size w W6 by rw [← hW6]; exact (((HB5.out.setCell (p := ⟨w3.heap.size, 0, none⟩) (by show w.heap.size ≤ w3.heap.size; omega) _).setCell (p := ⟨w3.heap.size, 1, none⟩) (by show w.heap.size ≤ w3.heap.size; omega) _).setCell (p := ⟨w3.heap.size, 2, none⟩) (by show w.heap.size ≤ w3.heap.size; omega) _).setCell (p := ⟨w3.heap.size, 3, none⟩) (by show w.heap.size ≤ w3.heap.size; omega) _)
            have HU6 := hide (show TrV W6 (fun k => W4.heap.size ≤ k ∧ k < w5.heap.size) A5 a5 B5 b5 y' by
              rw [← hW6]
              have kp : ∀ j u wz, Kp (fun k => W4.heap.size ≤ k ∧ k < w5.heap.size) wz (wz.setCell ⟨w3.heap.size, j, none⟩ u) := fun j u wz => Kp.set ⟨w3.heap.size, j, none⟩ u fun b hb => by show b ≠ w3.heap.size; omega
              exact (((HT5.out.keep (kp 0 _ _)).keep (kp 1 _ _)).keep (kp 2 _ _)).keep (kp 3 _ _))
            have HS6 := hide (show W6.heap.size = w5.heap.size by rw [← hW6]; simp [World.setCell])
            have HBW5 := hide HB4.out.size
            rw [hW6]
            clear hW6 HY5 HZ5 HB5 y0 y1 y2 y3 f0 f1 f2 f3
            have y0 := HY6.out.c 0 _ rfl
            have y1 := HY6.out.c 1 _ rfl
            have y2 := HY6.out.c 2 _ rfl
            have y3 := HY6.out.c 3 _ rfl
            have z0 := HZ6.out.c 0 _ rfl
            have g0 := HZ6.out.f 0
            have z1 := HZ6.out.c 1 _ rfl
            have g1 := HZ6.out.f 1
            have z2 := HZ6.out.c 2 _ rfl
            have g2 := HZ6.out.f 2
            have z3 := HZ6.out.c 3 _ rfl
            have g3 := HZ6.out.f 3
            go_wp2
            refine bodyPost_ret (v := .tuple #[.agg #[(.int .i64 y'.next), (.slice A5 y'.beyond.length a5), (.slice B5 y'.points.length b5), (.int .i64 y'.mark)], .bool true, .int .i64 0]) (by rw [results_ctt rfl]; go_simp) rfl ?_
            have key : ∀ W', Off w.heap.size 3 W6 W' → RetRc B0 S P w (.returned (.tuple #[.agg #[.int .i64 y'.next, .slice A5 y'.beyond.length a5, .slice B5 y'.points.length b5, .int .i64 y'.mark], .bool true, .int .i64 0])) W' := fun W' hO => by
              have hs := hO.size
              have hs6 := HS6.out
              have hw5 := HBW5.out
              exact .inr ⟨true, y', A5, a5, B5, b5, rfl, ⟨(HU6.out.u.keep rd_In (hO.kp (fun k hk => .inr (by omega)))).more rd_In (fun k (hk : W4.heap.size ≤ k ∧ k < w5.heap.size) => by omega), (HU6.out.v.keep rd_Pn (hO.kp (fun k hk => .inr (by omega)))).more rd_Pn (fun k (hk : W4.heap.size ≤ k ∧ k < w5.heap.size) => by omega), HU6.out.n, HU6.out.m⟩, HYP.out, hO.below HB6.out (Nat.le_refl _)⟩
            exact key _ (by repeat (first | refine Off.set ?_ (by constructor <;> simp <;> omega) | exact Off.refl))
    · have t2 : (n2 != 0) = true := bne_iff_ne.2 hn2
      go_wp2
      refine bodyPost_ret (v := .tuple #[.agg #[.int .i64 next, .slice A m a, .slice B n b, .int .i64 mark], .bool false, .int .i64 n2]) (by rw [results_ctt rfl]; go_simp) rfl ?_
      exact .inl ⟨_, _, _, _, _, _, _, _, _, _, hn2, rfl, fun h => hn2 (HAL.out h).2, Off.below (s := w.heap.size) (d := 3) (by repeat (first | refine Off.set ?_ (by constructor <;> simp <;> omega) | exact Off.refl)) HB2.out (Nat.le_refl _)⟩
  · have HNS := hide (show ¬ S from fun h => by
      obtain ⟨h1, h2, h3, -⟩ := HHP.out h
      exact absurd (HH.out h1 (by omega)) (by decide))
    go_wp2
    refine bodyPost_ret (v := .tuple #[.agg #[.int .i64 next, .slice A m a, .slice B n b, .int .i64 mark], .bool false, .int .i64 0]) (by rw [results_ctt rfl]; go_simp) rfl ?_
    have key : ∀ W', Off w.heap.size 3 w1 W' → RetRc B0 S P w (.returned (.tuple #[.agg #[.int .i64 next, .slice A m a, .slice B n b, .int .i64 mark], .bool false, .int .i64 0])) W' := fun W' hO => by
      have hb := hO.below HB1.out (Nat.le_refl _)
      have hT := HT0.out W' hb
      exact .inr ⟨false, ⟨next, beyond, points, mark⟩, A, a, B, b, by simp only [HMM.out, HNN.out], hT, (HP.out false _).2 ⟨HOK.out, fun h => absurd h HNS.out⟩, hb⟩
    exact key _ (by repeat (first | refine Off.set ?_ (by constructor <;> simp <;> omega) | exact Off.refl))
end
end Go.Proofs.YtppaiihcaajkaaaGreat

namespace Go.Proofs.YtppaiihcaajkaaaGreat
open Go.RowKit
set_option linter.unusedVariables false
set_option linter.unusedSimpArgs false
def storeN : World → Nat → Nat → List Value → World
  | w, _, _, [] => w
  | w, g, o, u :: us => storeN (w.setCell ⟨g, o, none⟩ u) g (o + 1) us
def setN : List Value → Nat → List Value → List Value
  | xs, _, [] => xs
  | xs, o, u :: us => setN (xs.set o u) (o + 1) us
theorem setN_len : ∀ (us xs : List Value) (o : Nat), (setN xs o us).length = xs.length
  | [], xs, o => rfl
  | u :: us, xs, o => by rw [setN, setN_len us]; simp
theorem setN_at : ∀ (us xs : List Value) (o k : Nat), o + us.length ≤ xs.length → (setN xs o us)[k]? = if o ≤ k ∧ k < o + us.length then us[k - o]? else xs[k]?
  | [], xs, o, k, _ => by rw [setN, if_neg (by simp only [List.length_nil]; omega)]
  | u :: us, xs, o, k, h => by
    simp only [List.length_cons] at h
    rw [setN, setN_at us (xs.set o u) (o + 1) k (by simp; omega)]
    by_cases h1 : o + 1 ≤ k ∧ k < o + 1 + us.length
    · rw [if_pos h1, if_pos (by simp; omega), show k - o = (k - (o + 1)) + 1 by omega, List.getElem?_cons_succ]
    · rw [if_neg h1]
      by_cases h2 : k = o
      · subst h2
        rw [if_pos (by simp), Nat.sub_self, List.getElem?_set_self (by omega)]; rfl
      · rw [if_neg (by simp; omega), List.getElem?_set_ne (fun e => h2 e.symm)]
section
variable {w w' : World} {base : Nat} {te : TypeId} {sz n c g : Nat} {xs : List Value}
theorem own_storeN : ∀ (us : List Value) (w : World) (xs : List Value) (o : Nat), w.ownsRow base te sz (.slice (some ⟨g, 0, none⟩) n c) n xs → (storeN w g o us).ownsRow base te sz (.slice (some ⟨g, 0, none⟩) n c) n (setN xs o us)
  | [], _, _, _, h => h
  | u :: us, w, xs, o, h => own_storeN us _ _ _ (h.stored o u).1
theorem grown_storeN : ∀ (us : List Value) (w : World) (o : Nat), w.grownBy (storeN w g o us) (some g)
  | [], w, _ => World.grownBy.refl w _
  | u :: us, w, o => grownBy_then (b := w.setCell ⟨g, o, none⟩ u) ⟨rfl, rfl, rfl, by simp [World.setCell], fun k _ hk => Below.heap_setCell w ⟨g, o, none⟩ u k (fun e => hk (by rw [e]))⟩ (grown_storeN us _ (o + 1))
theorem size_storeN : ∀ (us : List Value) (w : World) (o : Nat), (storeN w g o us).heap.size = w.heap.size
  | [], w, _ => rfl
  | u :: us, w, o => by rw [storeN, size_storeN us]; simp [World.setCell]
end
section
variable {α : Type} {R : World → (Nat → Prop) → List Value → α → Prop} {w w' : World} {Y : Nat → Prop} {base sz : Nat} {te : TypeId} {l : List α}
/-- An element is stored, whole or in part. -/
theorem Gq.store (hR : Rd R) (hsz : 0 < sz) {g c i k : Nat} {us : List Value} (h : Gq w Y base te sz R (.slice (some ⟨g, 0, none⟩) l.length c) l) (hi : i < l.length) (hk : k + us.length ≤ sz) (y : α)
    (hy : ∀ ys, ys.length = sz → (∀ c' u, ys[c']? = some u → w.cell? ⟨g, i * sz + c', none⟩ = some u) → R w (fun b => Y b ∧ b < w.heap.size ∧ b ≠ g) ys l[i] → R w (fun b => Y b ∧ b < w.heap.size ∧ b ≠ g) (setN ys k us) y) :
    Gq (storeN w g (i * sz + k) us) Y base te sz R (.slice (some ⟨g, 0, none⟩) l.length c) (l.set i y) := by
  obtain ⟨xs, hown, hY, hel⟩ := h
  have hgr := grown_storeN (g := g) us w (i * sz + k)
  have hown' := own_storeN us w xs (i * sz + k) hown
  have hkp : Kp (fun b => Y b ∧ b < w.heap.size ∧ b ≠ g) w (storeN w g (i * sz + k) us) := ⟨hgr.size, fun b hb hlt => hgr.block b hlt (fun e => by injection e with e; exact hb.2.2 e)⟩
  have hfit : i * sz + k + us.length ≤ xs.length := by
    have := Nat.mul_le_mul_right sz (show i + 1 ≤ l.length from hi)
    rw [Nat.succ_mul] at this
    rw [hown.1]; omega
  have hne : ∀ b, ((Value.slice (some ⟨g, 0, none⟩) l.length c).ownBlock ≠ some b) = (b ≠ g) := fun b => by
    show (some g ≠ some b) = (b ≠ g)
    apply propext
    exact ⟨fun h e => h (by rw [e]), fun h e => h (by injection e with e; exact e.symm)⟩
  simp only [hne] at hel
  refine ⟨setN xs (i * sz + k) us, by rw [List.length_set]; exact hown', hY, fun j hj => ?_⟩
  simp only [hne, size_storeN]
  rw [List.length_set] at hj
  obtain ⟨ys, h1, h2, h3⟩ := hel j hj
  by_cases hji : j = i
  · subst hji
    refine ⟨setN ys k us, by rw [setN_len]; exact h1, fun c' u hu => ?_, ?_⟩
    · rw [setN_at _ _ _ _ (by omega)] at hu
      rw [setN_at _ _ _ _ hfit]
      by_cases hc : k ≤ c' ∧ c' < k + us.length
      · rw [if_pos hc] at hu
        rw [if_pos (by omega), show j * sz + c' - (j * sz + k) = c' - k by omega]; exact hu
      · rw [if_neg hc] at hu
        rw [if_neg (by omega)]
        exact h2 c' u hu
    · rw [List.getElem_set_self]
      exact hR.keep hkp (hy ys h1 (fun c' u hu => own_cell hown (h2 c' u hu)) h3)
  · refine ⟨ys, h1, fun c' u hu => ?_, ?_⟩
    · have hc := (List.getElem?_eq_some_iff.1 hu).1
      rw [setN_at _ _ _ _ hfit, if_neg ?_]
      · exact h2 c' u hu
      · intro hh
        rcases Nat.lt_or_gt_of_ne hji with hlt | hlt
        · have := Nat.mul_le_mul_right sz (show j + 1 ≤ i from hlt)
          rw [Nat.succ_mul] at this
          omega
        · have := Nat.mul_le_mul_right sz (show i + 1 ≤ j from hlt)
          rw [Nat.succ_mul] at this
          omega
    · rw [List.getElem_set_ne (fun e => hji e.symm)]
      exact hR.keep hkp h3
/-- A copy of a list is a row under way. -/
theorem gq_copy (hR : Rd R) (hO : One R) (hsz : 0 < sz) {Z : Nat → Prop} {w0 : World} {v : Value} {cells : List (List Value)} (hc : cells.length = l.length) (hce : ∀ j (hj : j < l.length), ∃ xs, cells[j]? = some xs ∧ xs.length = sz ∧ R w0 Z xs l[j]) (hall : ∀ c ∈ cells, c.length = sz)
    (hZ : ∀ b, Z b → b < base) (hbw : base ≤ w.heap.size) (hk : Kp Z w0 w) (hown : w.ownsRow base te sz v cells.length cells.flatten) : Gq w (fun _ => True) base te sz R v l := by
  rw [hc] at hown
  refine ⟨cells.flatten, hown, fun _ _ => trivial, fun j hj => ?_⟩
  obtain ⟨xs, h1, h2, h3⟩ := hce j hj
  refine ⟨xs, h2, flat_put cells j xs hall h1, ?_⟩
  exact hR.more (fun b hb => ⟨trivial, Nat.lt_of_lt_of_le (hZ b hb) hbw, fun e => by have := (hown.lt b e).1; have := hZ b hb; omega⟩) (hR.keep hk h3)
theorem setN_all {ys us : List Value} (h : ys.length = us.length) : setN ys 0 us = us := by
  apply List.ext_getElem?
  intro k
  rw [setN_at us ys 0 k (by omega)]
  by_cases hk : k < us.length
  · rw [if_pos ⟨Nat.zero_le _, by omega⟩, Nat.sub_zero]
  · rw [if_neg (by omega), List.getElem?_eq_none (by omega), List.getElem?_eq_none (by omega)]
theorem Gq.down {v : Value} {base' : Nat} (h : Gq w Y base te sz R v l) (hb : base' ≤ base) : Gq w Y base' te sz R v l := by
  obtain ⟨xs, hown, r⟩ := h
  exact ⟨xs, own_more hown hb, r⟩
/-- The form of a row that has elements. -/
theorem Gq.some_ {v : Value} (h : Gq w Y base te sz R v l) (hl : 0 < l.length) : ∃ g c, v = .slice (some ⟨g, 0, none⟩) l.length c ∧ base ≤ g ∧ g < w.heap.size ∧ l.length ≤ c := by
  obtain ⟨xs, hown, -, -⟩ := h
  rcases hown.2 with ⟨-, h0⟩ | ⟨g, cap, cur, rfl, hb, hg, hnc, -⟩
  · omega
  · exact ⟨g, cap, rfl, hb, (Array.getElem?_eq_some_iff.1 hg).1, hnc⟩
theorem Gq.frozen {g c n : Nat} (h : Gq w Y base te sz R (.slice (some ⟨g, 0, none⟩) n c) l) (j : Nat) : w.frozen? ⟨g, j, none⟩ = false := by
  obtain ⟨xs, hown, -⟩ := h
  obtain ⟨A, cap, e⟩ := own_form hown
  injection e with e1 e2 e3
  subst e1 e2 e3
  exact hown.frozenAt j
theorem Gq.at_ {g c n : Nat} (h : Gq w Y base te sz R (.slice (some ⟨g, 0, none⟩) n c) l) {j : Nat} (hj : j < l.length) : ∃ ys, ys.length = sz ∧ (∀ c' u, ys[c']? = some u → w.cell? ⟨g, j * sz + c', none⟩ = some u) ∧ R w (fun b => Y b ∧ b < w.heap.size ∧ b ≠ g) ys l[j] := by
  obtain ⟨xs, hown, -, hel⟩ := h
  obtain ⟨A, cap, e⟩ := own_form hown
  injection e with e1 e2 e3
  subst e1 e2 e3
  obtain ⟨ys, h1, h2, h3⟩ := hel j hj
  have hne : ∀ b, ((Value.slice (some ⟨g, 0, none⟩) l.length c).ownBlock ≠ some b) = (b ≠ g) := fun b => by
    show (some g ≠ some b) = (b ≠ g)
    apply propext
    exact ⟨fun h e => h (by rw [e]), fun h e => h (by injection e with e; exact e.symm)⟩
  simp only [hne] at h3
  exact ⟨ys, h1, fun c' u hu => own_cell hown (h2 c' u hu), h3⟩
end
theorem RTr.tv {w : World} {Z : Nat → Prop} {xs : List Value} {x : Trk} (h : RTr w Z xs x) : ∃ A a B b, xs = [.int .i64 x.next, .slice A x.beyond.length a, .slice B x.points.length b, .int .i64 x.mark] ∧ TrV w Z A a B b x := by
  obtain ⟨u, v, rfl, hu, hv, hn, hm⟩ := h
  obtain ⟨A, a, rfl⟩ := hu.form
  obtain ⟨B, b, rfl⟩ := hv.form
  exact ⟨A, a, B, b, rfl, hu, hv, hn, hm⟩
theorem TrV.more {w : World} {Z Y : Nat → Prop} {A B : Option Addr} {a b : Nat} {x : Trk} (h : TrV w Z A a B b x) (hz : ∀ k, Z k → Y k) : TrV w Y A a B b x := ⟨h.u.more rd_In hz, h.v.more rd_Pn hz, h.n, h.m⟩
theorem TrV.rt {w : World} {Z : Nat → Prop} {A B : Option Addr} {a b : Nat} {x : Trk} (h : TrV w Z A a B b x) : RTr w Z [.int .i64 x.next, .slice A x.beyond.length a, .slice B x.points.length b, .int .i64 x.mark] x := ⟨_, _, rfl, h.u, h.v, h.n, h.m⟩
theorem one_Tr : One RTr := by
  rintro w Z xs x ⟨u, v, rfl, hu, hv, -⟩ y hy
  obtain ⟨A, a, rfl⟩ := hu.form
  obtain ⟨B, b, rfl⟩ := hv.form
  simp at hy
  rcases hy with rfl | rfl | rfl | rfl <;> rfl
end Go.Proofs.YtppaiihcaajkaaaGreat

namespace Go.Proofs.YtppaiihcaajkaaaGreat
open Go.RowKit
set_option linter.unusedVariables false
set_option linter.unusedSimpArgs false
section
variable (w : World)
set_option maxRecDepth 100000 in
set_option maxHeartbeats 8000000 in
theorem wcheck_any (l : List Trk) (A : Option Addr) (c : Nat) (hl : Lst w (· < w.heap.size) 4 RTr (.slice A l.length c) l) (h8 : l.length ≤ 8) (hok : ∀ x ∈ l, TrkOK x) : Calls Tryz.prog 83 #[.slice A l.length c] w (Ret (.int .i64 0) w) := by
  have HL := hide (fun (w1 : World) (hb : Below w.heap.size w w1) => hl.below rd_Tr hb)
  have HO := hide hok
  obtain ⟨m, hm⟩ : ∃ m, l.length = m := ⟨_, rfl⟩
  have HM := hide hm
  simp only [hm] at HL h8 ⊢
  clear hl hok hm
  have t3 : decide ((8 : Int) < (m : Int)) = false := decide_eq_false (by omega)
  go_enter Tryz.func83, Tryz.ntmps83
  go_wp2
  go_loopw [11] (fun i wr => ∃ j : Nat, j ≤ m ∧ i = .int .i64 j ∧ Hid (Below w.heap.size w wr)) (fun i _ => m - (intOf i).toNat)
  case atStart => exact ⟨0, by omega, rfl, hide (Below.refl _ _)⟩
  case round =>
    obtain ⟨j, hj, rfl, HB⟩ := hrel
    by_cases hlt : j < m
    · have hjl : j < l.length := by rw [HM.out]; exact hlt
      obtain ⟨g, off, xs, e2, hg, hxl, hc, hR⟩ := (HL.out wr HB.out).at_ hjl
      cases e2
      have HOJ := hide (HO.out _ (List.getElem_mem hjl))
      obtain ⟨x, hx⟩ : ∃ x, l[j] = x := ⟨_, rfl⟩
      rw [hx] at hR HOJ
      obtain ⟨A1, a1, B1, b1, rfl, hT⟩ := hR.tv
      have HPC := hide (fun (w1 : World) (hb : Below wr.heap.size wr w1) => pcheck_any w1 x A1 B1 a1 b1 (hT.below hb))
      have k0 := hc 0 _ rfl
      have k1 := hc 1 _ rfl
      have k2 := hc 2 _ rfl
      have k3 := hc 3 _ rfl
      rw [Nat.add_zero] at k0
      have hu0 : (0 : Int) ≤ (j : Int) := by omega
      have hu1 : (j : Int) < (m : Int) := by omega
      obtain ⟨next, beyond, points, mark⟩ := x
      simp only at k0 k1 k2 k3 HPC
      obtain ⟨bl, hbl⟩ : ∃ bl, beyond.length = bl := ⟨_, rfl⟩
      obtain ⟨pl, hpl⟩ : ∃ pl, points.length = pl := ⟨_, rfl⟩
      simp only [hbl, hpl] at k1 k2 HPC
      clear hx hc hxl hT hR hbl hpl
      go_wp2_with (go_at_call 64; refine (HPC.out _ (below_laid _)).mono ?_; rintro e1 w1 ⟨e, rfl, he, hb1⟩; obtain rfl : e = 0 := he.2 HOJ.out; have HB1 := hide (bthen HB.out (bthen (below_laid _) hb1)); clear hb1 he)
      go_roundw
      case rel => exact ⟨j + 1, by omega, by go_num, HB1⟩
      case measure => simp [intOf]; omega
    · obtain rfl : j = m := by omega
      go_wp2
      go_ret
      exact ⟨rfl, HB.out⟩
end
end Go.Proofs.YtppaiihcaajkaaaGreat
