/- sequence.Receive: written by genRcv.py. watermark: valid, checkPoint, kinds, CheckMessage: written by genWm2.py. watermark: checkPoint, kinds, CheckMessage. watermark: receivePoint, receiveEvent: written by genWm4.py. -/
import Derived.Test.YtppaiihcaajkaaaGreatKSeqN
import Derived.Test.YtppaiihcaajkaaaGreatKAddM
import Derived.Laws.EntriesVeiled
namespace Go.Proofs.YtppaiihcaajkaaaGreat
open Go.RowKit
set_option linter.unusedVariables false
set_option linter.unusedSimpArgs false
theorem results_ctt {fn : Func} {p u v : Tmp} {ty : TypeId} (h : fn.results = #[.cell p ty, .tmp u, .tmp v]) (tmps : Array Value) (P : Program) (w : World) :
    (results fn tmps).run P w =
      ((asAddr (tmps.getD p undef)).run P w).andThen fun a w₁ => ((loadVar ty a).run P w₁).andThen fun x w₂ => .ok (.tuple #[x, tmps.getD u undef, tmps.getD v undef]) w₂ := by
  simp only [results, h]
  simp [Sem.run_bind, Result.andThen]
/-- A tracker and a flag for which P, in new memory; or an error, if S is false. -/
def RetTF (S : Prop) (P : Bool → Trk → Prop) (w : World) (e : Ending) (w' : World) : Prop :=
  (∃ n : Int, n ≠ 0 ∧ e = .returned (.tuple #[zeT, .bool false, .int .i64 n]) ∧ ¬ S ∧ Below w.heap.size w w') ∨
  (∃ f x A a B b, e = .returned (.tuple #[.agg #[.int .i64 x.next, .slice A x.beyond.length a, .slice B x.points.length b, .int .i64 x.mark], .bool f, .int .i64 0]) ∧ TrV w' (fun k => w.heap.size ≤ k ∧ k < w'.heap.size) A a B b x ∧ P f x ∧ Below w.heap.size w w')
/-- An event's number comes next, and nothing is beyond. -/
def Nxt (x : Trk) (n : Int) : Prop := x.beyond = [] ∧ n = x.next ∧ n ≤ 1099511627776
section
variable (w : World)
set_option maxRecDepth 100000 in
set_option maxHeartbeats 16000000 in
theorem srecv_any (x : Trk) (A B : Option Addr) (a b : Nat) (sq : Int) (hx : TrV w (· < w.heap.size) A a B b x) (hok : SeqOK x) (hp : x.points.length ≤ 1000) : Calls Tryz.prog 107 #[.agg #[.int .i64 x.next, .slice A x.beyond.length a, .slice B x.points.length b, .int .i64 x.mark], .int .i64 sq] w (RetTF (Nxt x sq) (fun f y => y.beyond.length ≤ 257 ∧ y.points = x.points ∧ (Nxt x sq → y = ⟨x.next + 1, [], x.points, x.mark⟩)) w) := by
  have hm1 : x.beyond.length ≤ 1000 := Nat.le_trans hok.2.2.1 (by decide)
  have hm2 := hp
  have HOK := hide hok
  obtain ⟨P, hP⟩ : ∃ P : Bool → Trk → Prop, P = (fun f y => y.beyond.length ≤ 257 ∧ y.points = x.points ∧ (Nxt x sq → y = ⟨x.next + 1, [], x.points, x.mark⟩)) := ⟨_, rfl⟩
  rw [← hP]
  have HPP := hide hP
  obtain ⟨S, hS⟩ : ∃ S : Prop, S = Nxt x sq := ⟨_, rfl⟩
  rw [← hS]
  have HSS := hide hS
  have HSC := hide (fun (w1 : World) (hb : Below w.heap.size w w1) => seqcheck_any w1 x A B a b (hx.below hb))
  have HHS := hide (fun (w1 : World) (hb : Below w.heap.size w w1) => has_any w1 x A B a b sq (hx.below hb) hok.2.2.1)
  have HWI := hide (fun (w1 : World) (hb : Below w.heap.size w w1) (hsq : inI sq) => with_any w1 x A B a b sq (hx.below hb) hok hp hsq)
  clear hok hp hP hS
  obtain ⟨cu, hcu, hul, hue⟩ := lst_raw one_In hx.u
  obtain ⟨cv, hcv, hvl, hve⟩ := lst_raw one_Pn hx.v
  have HUE := hide hue
  have HVE := hide hve
  have HN := hide (And.intro hx.n hx.m)
  have HCU := hide (fun (w' : World) (h : Below w.heap.size w w') => iclone_any A a cu w' _ (by rw [hul]; exact hcu.keep rd_Wq (Kp.of_below h)) (by omega))
  have HCV := hide (fun (w' : World) (h : Below w.heap.size w w') => pclone_any B b cv w' _ (by rw [hvl]; exact hcv.keep rd_Wq (Kp.of_below h)) (by omega))
  have HUL := hide hul
  have HVL := hide hvl
  rw [hul] at HCU
  rw [hvl] at HCV
  have HTV := hide (fun (w1 : World) (hb : Below w.heap.size w w1) => hx.below hb)
  clear hx hcu hcv hue hve hul hvl
  obtain ⟨next, beyond, points, mark⟩ := x
  simp only at *
  obtain ⟨X1, hX1⟩ : ∃ X, X = w.alloc (.cells #[.int .i64 next, .slice A beyond.length a, .slice B points.length b, .int .i64 mark] 33) := ⟨_, rfl⟩
  have HB1 := hide (show Below w.heap.size w X1 by rw [hX1]; exact below_laid _)
  have HX := hide ((Bl.new w [.int .i64 next, .slice A beyond.length a, .slice B points.length b, .int .i64 mark] 33).laid (.cells #[.int .i64 0, .slice none 0 0, .slice none 0 0, .int .i64 0] 33))
  have HZ := hide (Bl.new X1 [.int .i64 0, .slice none 0 0, .slice none 0 0, .int .i64 0] 33)
  have HB := hide (bthen HB1.out (below_laid (w := X1) (.cells #[.int .i64 0, .slice none 0 0, .slice none 0 0, .int .i64 0] 33)))
  have HSZ := hide (show X1.heap.size = w.heap.size + 1 by rw [hX1]; simp)
  subst hX1
  obtain ⟨m, hm⟩ : ∃ m, beyond.length = m := ⟨_, rfl⟩
  obtain ⟨n, hn⟩ : ∃ n, points.length = n := ⟨_, rfl⟩
  have HM := hide hm
  have HNN := hide hn
  simp only [hm, hn] at HCU HCV HX HZ HB HB1 HSZ hm1 hm2 ⊢
  clear hm hn
  go_enter Tryz.func107, Tryz.ntmps107
  go_upto_region 1 with (fail)
  obtain ⟨W2, hW2⟩ : ∃ W2, ((w.alloc (.cells #[.int .i64 next, .slice A m a, .slice B n b, .int .i64 mark] 33)).alloc (.cells #[.int .i64 0, .slice none 0 0, .slice none 0 0, .int .i64 0] 33)) = W2 := ⟨_, rfl⟩
  simp only [HSZ.out] at HZ
  rw [hW2] at HX HZ HB ⊢
  clear hW2 HSZ HB1
  have hz2 := HZ.out.lt
  have z0 := HZ.out.c 0 _ rfl; have g0 := HZ.out.f 0; have z1 := HZ.out.c 1 _ rfl; have g1 := HZ.out.f 1; have z2 := HZ.out.c 2 _ rfl; have g2 := HZ.out.f 2; have z3 := HZ.out.c 3 _ rfl; have g3 := HZ.out.f 3; 
  have d0 := HX.out.c 0 _ rfl; have d1 := HX.out.c 1 _ rfl; have d2 := HX.out.c 2 _ rfl; have d3 := HX.out.c 3 _ rfl; 
  simp only [HM.out, HNN.out] at HSC HHS HWI
  have HSC1 := hide (HSC.out W2 HB.out)
  have HNS := hide (show sq < 0 ∨ 1099511627776 < sq → ¬ S from fun h => by rw [HSS.out]; rintro ⟨-, h1, h2⟩; have := HOK.out.1; simp only at h1 this; omega)
  rcases (by omega : sq < 0 ∨ (0 ≤ sq ∧ 1099511627776 < sq) ∨ (0 ≤ sq ∧ sq ≤ 1099511627776)) with hr | ⟨hr, hr2⟩ | ⟨hr, hr2⟩
  · have t1 : decide (sq < 0) = true := decide_eq_true hr
    go_wp2_with (go_at_call 93; refine HSC1.out.mono ?_; rintro e1 w1 ⟨e, rfl, hok, hb1⟩; have HE := hide (hok.2 HOK.out); have HX1 := hide (HX.out.keep hb1); have HZ1 := hide (HZ.out.keep hb1); have HB1 := hide (bthen HB.out hb1); clear hok hb1; clear d0 d1 d2 d3 z0 z1 z2 z3 g0 g1 g2 g3; have d0 := HX1.out.c 0 _ rfl; have d1 := HX1.out.c 1 _ rfl; have d2 := HX1.out.c 2 _ rfl; have d3 := HX1.out.c 3 _ rfl; have z0 := HZ1.out.c 0 _ rfl; have g0 := HZ1.out.f 0; have z1 := HZ1.out.c 1 _ rfl; have g1 := HZ1.out.f 1; have z2 := HZ1.out.c 2 _ rfl; have g2 := HZ1.out.f 2; have z3 := HZ1.out.c 3 _ rfl; have g3 := HZ1.out.f 3; obtain rfl : e = 0 := HE.out; clear HE)
    refine bodyPost_ret (v := .tuple #[zeT, .bool false, .int .i64 2]) (by rw [results_ctt rfl]; unfold zeT; go_simp) rfl ?_
    refine .inl ⟨2, by decide, rfl, HNS.out (by omega), Off.below (s := w.heap.size) (d := 2) ?_ HB1.out (Nat.le_refl _)⟩
    repeat (first | refine Off.set ?_ (by constructor <;> simp) | exact Off.refl)
  · have t1 : decide (sq < 0) = false := decide_eq_false (by omega)
    have t2 : decide (1099511627776 < sq) = true := decide_eq_true hr2
    go_wp2_with (go_at_call 93; refine HSC1.out.mono ?_; rintro e1 w1 ⟨e, rfl, hok, hb1⟩; have HE := hide (hok.2 HOK.out); have HX1 := hide (HX.out.keep hb1); have HZ1 := hide (HZ.out.keep hb1); have HB1 := hide (bthen HB.out hb1); clear hok hb1; clear d0 d1 d2 d3 z0 z1 z2 z3 g0 g1 g2 g3; have d0 := HX1.out.c 0 _ rfl; have d1 := HX1.out.c 1 _ rfl; have d2 := HX1.out.c 2 _ rfl; have d3 := HX1.out.c 3 _ rfl; have z0 := HZ1.out.c 0 _ rfl; have g0 := HZ1.out.f 0; have z1 := HZ1.out.c 1 _ rfl; have g1 := HZ1.out.f 1; have z2 := HZ1.out.c 2 _ rfl; have g2 := HZ1.out.f 2; have z3 := HZ1.out.c 3 _ rfl; have g3 := HZ1.out.f 3; obtain rfl : e = 0 := HE.out; clear HE)
    refine bodyPost_ret (v := .tuple #[zeT, .bool false, .int .i64 2]) (by rw [results_ctt rfl]; unfold zeT; go_simp) rfl ?_
    refine .inl ⟨2, by decide, rfl, HNS.out (by omega), Off.below (s := w.heap.size) (d := 2) ?_ HB1.out (Nat.le_refl _)⟩
    repeat (first | refine Off.set ?_ (by constructor <;> simp) | exact Off.refl)
  · have t1 : decide (sq < 0) = false := decide_eq_false (by omega)
    have t2 : decide (1099511627776 < sq) = false := decide_eq_false (by omega)
    go_wp2_with (go_at_call 93; refine HSC1.out.mono ?_; rintro e1 w1 ⟨e, rfl, hok, hb1⟩; have HE := hide (hok.2 HOK.out); have HX1 := hide (HX.out.keep hb1); have HZ1 := hide (HZ.out.keep hb1); have HB1 := hide (bthen HB.out hb1); clear hok hb1; clear d0 d1 d2 d3 z0 z1 z2 z3 g0 g1 g2 g3; have d0 := HX1.out.c 0 _ rfl; have d1 := HX1.out.c 1 _ rfl; have d2 := HX1.out.c 2 _ rfl; have d3 := HX1.out.c 3 _ rfl; have z0 := HZ1.out.c 0 _ rfl; have g0 := HZ1.out.f 0; have z1 := HZ1.out.c 1 _ rfl; have g1 := HZ1.out.f 1; have z2 := HZ1.out.c 2 _ rfl; have g2 := HZ1.out.f 2; have z3 := HZ1.out.c 3 _ rfl; have g3 := HZ1.out.f 3; obtain rfl : e = 0 := HE.out; clear HE; have HHS1 := hide (HHS.out w1 HB1.out))
    refine HHS1.out.mono ?_
    rintro e2 w2 ⟨f, rfl, hf, hb2⟩
    have HX2 := hide (HX1.out.keep hb2)
    have HZ2 := hide (HZ1.out.keep hb2)
    have HB2 := hide (bthen HB1.out hb2)
    have HF := hide hf
    clear hf hb2 d0 d1 d2 d3 z0 z1 z2 z3 g0 g1 g2 g3 HX HZ HB HX1 HZ1 HB1 HSC HHS hz2
    cases f
    · have z0 := HZ2.out.c 0 _ rfl
      have g0 := HZ2.out.f 0
      have z1 := HZ2.out.c 1 _ rfl
      have g1 := HZ2.out.f 1
      have z2 := HZ2.out.c 2 _ rfl
      have g2 := HZ2.out.f 2
      have z3 := HZ2.out.c 3 _ rfl
      have g3 := HZ2.out.f 3
      have d0 := HX2.out.c 0 _ rfl
      have d1 := HX2.out.c 1 _ rfl
      have d2 := HX2.out.c 2 _ rfl
      have d3 := HX2.out.c 3 _ rfl
      have HWI2 := hide (HWI.out w2 HB2.out ⟨by omega, by omega⟩)
      go_wp2_with fail
      refine HWI2.out.mono ?_
      rintro e3 w3 ⟨y, A3, a3, B3, b3, rfl, hT, hP, hb3⟩
      have HT := hide hT
      have HWP := hide hP
      have HZ3 := hide (HZ2.out.keep hb3)
      have HB3 := hide (bthen HB2.out hb3)
      have hz3 := hb3.size
      have hz2 := HZ2.out.lt
      obtain ⟨yn, yb, yp, ym⟩ := y
      simp only at HT HWP ⊢
      obtain ⟨k, hk⟩ : ∃ k, yb.length = k := ⟨_, rfl⟩
      have HK := hide hk
      rw [hk]
      clear hT hP hb3 hk d0 d1 d2 d3 z0 z1 z2 z3 g0 g1 g2 g3
      have HZ4 := hide (HZ3.out.laid (.cells #[.int .i64 yn, .slice A3 k a3, .slice B3 yp.length b3, .int .i64 ym] 33))
      have HB4 := hide (bthen HB3.out (below_laid (w := w3) (.cells #[.int .i64 yn, .slice A3 k a3, .slice B3 yp.length b3, .int .i64 ym] 33)))
      have z0 := HZ4.out.c 0 _ rfl
      have g0 := HZ4.out.f 0
      have z1 := HZ4.out.c 1 _ rfl
      have g1 := HZ4.out.f 1
      have z2 := HZ4.out.c 2 _ rfl
      have g2 := HZ4.out.f 2
      have z3 := HZ4.out.c 3 _ rfl
      have g3 := HZ4.out.f 3
      by_cases hk : 256 < k
      · have t3 : decide ((256 : Int) < (k : Int)) = true := decide_eq_true (by omega)
        have HNS2 := hide (show ¬ S by rw [HSS.out]; rintro ⟨h1, h2, h3⟩; have h4 := (HWP.out.2.2.2 h1 h2).2; have h5 := HK.out; simp only at h4; rw [h4] at h5; simp only [List.length_nil] at h5; omega)
        go_wp2
        refine bodyPost_ret (v := .tuple #[zeT, .bool false, .int .i64 5]) (by rw [results_ctt rfl]; unfold zeT; go_simp) rfl ?_
        refine .inl ⟨5, by decide, rfl, HNS2.out, Off.below (s := w.heap.size) (d := 2) ?_ HB4.out (Nat.le_refl _)⟩
        repeat (first | refine Off.set ?_ (by constructor <;> simp) | exact Off.refl)

      · have t3 : decide ((256 : Int) < (k : Int)) = false := decide_eq_false (by omega)
        go_wp2
        refine bodyPost_ret (v := .tuple #[.agg #[.int .i64 yn, .slice A3 k a3, .slice B3 yp.length b3, .int .i64 ym], .bool true, .int .i64 0]) (by rw [results_ctt rfl]; go_simp) rfl ?_
        have key : ∀ W', Off w.heap.size 2 (w3.alloc (.cells #[.int .i64 yn, .slice A3 k a3, .slice B3 yp.length b3, .int .i64 ym] 33)) W' → RetTF S P w (.returned (.tuple #[.agg #[.int .i64 yn, .slice A3 k a3, .slice B3 yp.length b3, .int .i64 ym], .bool true, .int .i64 0])) W' := fun W' hO => by
          have hT4 := HT.out.keep (Kp.alloc (w := w3) (.cells #[.int .i64 yn, .slice A3 k a3, .slice B3 yp.length b3, .int .i64 ym] 33))
          have hs : W'.heap.size = w3.heap.size + 1 := by rw [hO.size]; simp
          refine .inr ⟨true, ⟨yn, yb, yp, ym⟩, A3, a3, B3, b3, by simp only [HK.out], ⟨(hT4.u.keep rd_In (hO.kp (fun k hk => .inr (by omega)))).more rd_In (fun k (hk : w2.heap.size ≤ k ∧ k < w3.heap.size) => ⟨by omega, by omega⟩), (hT4.v.keep rd_Pn (hO.kp (fun k hk => .inr (by omega)))).more rd_Pn (fun k (hk : w2.heap.size ≤ k ∧ k < w3.heap.size) => ⟨by omega, by omega⟩), hT4.n, hT4.m⟩, ?_, hO.below HB4.out (Nat.le_refl _)⟩
          rw [HPP.out]
          obtain ⟨h1, h2, h3, h4⟩ := HWP.out
          have h5 := HOK.out.2.2.1
          simp only at h1 h2 h3 h4 h5
          refine ⟨by simp only; omega, h1, fun hS => ?_⟩
          obtain ⟨h6, h7⟩ := h4 hS.1 hS.2.1
          rw [h6, h7, h1, h2]
        exact key _ (by repeat (first | refine Off.set ?_ (by constructor <;> simp) | exact Off.refl | refine Off.drew ?_))
    · have HX := HX2
      have HZ := HZ2
      have HB := HB2
      have hz2 := HZ.out.lt
      have z0 := HZ2.out.c 0 _ rfl
      have g0 := HZ2.out.f 0
      have z1 := HZ2.out.c 1 _ rfl
      have g1 := HZ2.out.f 1
      have z2 := HZ2.out.c 2 _ rfl
      have g2 := HZ2.out.f 2
      have z3 := HZ2.out.c 3 _ rfl
      have g3 := HZ2.out.f 3
      have d0 := HX2.out.c 0 _ rfl
      have d1 := HX2.out.c 1 _ rfl
      have d2 := HX2.out.c 2 _ rfl
      have d3 := HX2.out.c 3 _ rfl
      go_wp2_with fail
      refine wp_region_grow 7 [25, 26, 27, 28, 29, 30, 31] [FixV (.pointer (some ⟨w.heap.size, 1, none⟩)), FixV (.slice A m a), OwnR (w.heap.size + 2) 3 1 cu, FixV (.pointer (some ⟨w.heap.size, 2, none⟩)), FixV (.slice B n b), OwnR (w.heap.size + 2) 84 2 cv, FixV (.pointer (some ⟨w.heap.size, 1, none⟩))] (by kernel_rfl) (by kernel_rfl) (by kernel_rfl) (by kernel_rfl) (by kernel_rfl) ?_ ?_ ?_
      · intro p hp
        simp only [List.mem_cons, List.not_mem_nil, or_false] at hp
        rcases hp with rfl | rfl | rfl | rfl | rfl | rfl | rfl
        all_goals first | exact (fun _ _ _ _ h => h) | exact (fun _ _ _ hb h => own_keep h hb)
      · intro j9 o9 hj9 ho x w5 hb hd
        have hjc : j9 = 0 ∨ j9 = 1 ∨ j9 = 2 ∨ j9 = 3 ∨ j9 = 4 ∨ j9 = 5 ∨ j9 = 6 := by omega
        have hbw := bthen HB.out hb
        have hz5 := hb.size
        have x1 := keep1 hb (HX.out.c 1 _ rfl)
        have x2 := keep1 hb (HX.out.c 2 _ rfl)
        rcases hjc with rfl | rfl | rfl | rfl | rfl | rfl | rfl
        all_goals obtain rfl := Option.some.inj ho
        all_goals generalize hK : (fun (a' : Act) (w' : World) => _) = K
        all_goals simp only [puts]
        · go_simp
          rw [← hK]
          exact ⟨.pointer (some ⟨w.heap.size, 1, none⟩), (by simp only [puts]; go_simp), Below.refl _ _, rfl⟩
        · have e : x 25 = .pointer (some ⟨w.heap.size, 1, none⟩) := hd 0 (by kernel_rfl)
          go_simp
          rw [← hK]
          exact ⟨.slice A m a, (by simp only [puts]; go_simp), Below.refl _ _, rfl⟩
        · have e : x 26 = .slice A m a := hd 1 (by kernel_rfl)
          have HC := hide (HCU.out w5 hbw)
          go_simp
          go_at_call 48
          refine HC.out.mono ?_
          rintro en9 w9 ⟨v9, rfl, hown, hbc⟩
          rw [← hK]
          exact ⟨v9, (by simp only [puts]; go_simp), hbc, own_more hown (by omega)⟩
        · go_simp
          rw [← hK]
          exact ⟨.pointer (some ⟨w.heap.size, 2, none⟩), (by simp only [puts]; go_simp), Below.refl _ _, rfl⟩
        · have e : x 28 = .pointer (some ⟨w.heap.size, 2, none⟩) := hd 3 (by kernel_rfl)
          go_simp
          rw [← hK]
          exact ⟨.slice B n b, (by simp only [puts]; go_simp), Below.refl _ _, rfl⟩
        · have e : x 29 = .slice B n b := hd 4 (by kernel_rfl)
          have HC := hide (HCV.out w5 hbw)
          go_simp
          go_at_call 49
          refine HC.out.mono ?_
          rintro en9 w9 ⟨v9, rfl, hown, hbc⟩
          rw [← hK]
          exact ⟨v9, (by simp only [puts]; go_simp), hbc, own_more hown (by omega)⟩
        · go_simp
          rw [← hK]
          exact ⟨.pointer (some ⟨w.heap.size, 1, none⟩), (by simp only [puts]; go_simp), Below.refl _ _, rfl⟩
      · intro x w9 hb hP
        have e31 : x 31 = .pointer (some ⟨w.heap.size, 1, none⟩) := hP 6 (by decide)
        have hu : w9.ownsRow (w.heap.size + 2) 3 1 (x 27) cu.length cu.flatten := hP 2 (by decide)
        have hv : w9.ownsRow (w.heap.size + 2) 84 2 (x 30) cv.length cv.flatten := hP 5 (by decide)
        have hLU := lst_own (R := RIn) (fun h => h) (by decide) hu HUL.out (by have := HM.out; unfold maxLen; omega) HUE.out
        have hLV := lst_own (R := RPn) (fun h => h) (by decide) hv HVL.out (by have := HNN.out; unfold maxLen; omega) HVE.out
        obtain ⟨A1, a1, e27⟩ := hLU.form
        obtain ⟨B1, b1, e30⟩ := hLV.form
        rw [e27] at hLU
        rw [e30] at hLV
        rw [HM.out] at e27
        rw [HNN.out] at e30
        have HLU := hide hLU
        have HLV := hide hLV
        have HX9 := hide (HX.out.keep hb)
        have HZ9 := hide (HZ.out.keep hb)
        have HB9 := hide (bthen HB.out hb)
        have hz9 := hb.size
        clear hP hb hu hv hLU hLV
        have x0 := HX9.out.c 0 _ rfl
        have x1 := HX9.out.c 1 _ rfl
        have x2 := HX9.out.c 2 _ rfl
        have x3 := HX9.out.c 3 _ rfl
        have f1 := HX9.out.f 1
        have f2 := HX9.out.f 2
        have z0 := HZ9.out.c 0 _ rfl
        have z1 := HZ9.out.c 1 _ rfl
        have z2 := HZ9.out.c 2 _ rfl
        have z3 := HZ9.out.c 3 _ rfl
        have g0 := HZ9.out.f 0
        have g1 := HZ9.out.f 1
        have g2 := HZ9.out.f 2
        have g3 := HZ9.out.f 3
        simp only [puts, Act.put, List.setIfInBounds_toArray, List.set_cons_succ, List.set_cons_zero, List.drop]
        go_wp2
        refine bodyPost_ret (v := .tuple #[.agg #[.int .i64 next, .slice A1 m a1, .slice B1 n b1, .int .i64 mark], .bool false, .int .i64 0]) (by rw [results_ctt rfl]; go_simp) rfl ?_
        have key : ∀ W', Off w.heap.size 2 w9 W' → RetTF S P w (.returned (.tuple #[.agg #[.int .i64 next, .slice A1 m a1, .slice B1 n b1, .int .i64 mark], .bool false, .int .i64 0])) W' := fun W' hO => by
          refine .inr ⟨false, ⟨next, beyond, points, mark⟩, A1, a1, B1, b1, by simp only [HM.out, HNN.out], ⟨(HLU.out.keep rd_In (hO.kp (fun k hk => .inr hk.1))).more rd_In (fun k hk => ⟨by omega, by rw [hO.size]; exact hk.2⟩), (HLV.out.keep rd_Pn (hO.kp (fun k hk => .inr hk.1))).more rd_Pn (fun k hk => ⟨by omega, by rw [hO.size]; exact hk.2⟩), HN.out.1, HN.out.2⟩, ?_, hO.below HB9.out (Nat.le_refl _)⟩
          rw [HPP.out]
          have h5 := HOK.out.2.2.1
          simp only at h5
          exact ⟨by simp only; omega, rfl, fun hS => absurd (HF.out hS.1 (by have := hS.2.1; simp only at this; omega)) (by simp)⟩
        exact key _ (by repeat (first | refine Off.set ?_ (by constructor <;> simp) | exact Off.refl))
end
end Go.Proofs.YtppaiihcaajkaaaGreat

namespace Go.Proofs.YtppaiihcaajkaaaGreat
open Go.RowKit
set_option linter.unusedVariables false
set_option linter.unusedSimpArgs false
/-- A pointer to a block of its own, of cells zs. -/
def NewB (B0 : Nat) (zs : List Value) : World → Value → Prop := fun w v => ∃ b, v = .pointer (some ⟨b, 0, none⟩) ∧ B0 ≤ b ∧ Bl w b zs
theorem NewB.keep {B0 : Nat} {zs : List Value} {w w' : World} {v : Value} (h : NewB B0 zs w v) (hb : Below w.heap.size w w') : NewB B0 zs w' v := by
  obtain ⟨b, e, h1, h2⟩ := h
  exact ⟨b, e, h1, h2.keep hb⟩
def IntV : World → Value → Prop := fun _ v => ∃ n : Int, v = .int .i64 n
def AggT : World → Value → Prop := fun _ v => ∃ (i j : Int) (A B : Option Addr) (la a lb b : Nat), v = .agg #[.int .i64 i, .slice A la a, .slice B lb b, .int .i64 j]
def TupT : World → Value → Prop := fun _ v => ∃ (i j n : Int) (A B : Option Addr) (la a lb b : Nat), v = .tuple #[.agg #[.int .i64 i, .slice A la a, .slice B lb b, .int .i64 j], .int .i64 n]
section
variable (w : World)
set_option maxRecDepth 100000 in
set_option maxHeartbeats 16000000 in
theorem wvalid_any (x : Msg) (A : Option Addr) (c : Nat) (hq : inI x.q ∧ inI x.t) : Calls Tryz.prog 109 #[.agg #[.int .i64 x.k, .int .i64 x.e.a, .int .i64 x.e.b, .int .i64 x.e.c, .int .i64 x.e.d, .slice A x.e.vs.length c, .int .i64 x.s, .int .i64 x.q, .int .i64 x.t]] w (RetB w) := by
  have HADD := hide (fun (w1 : World) => add_any w1 trk0 ⟨x.q, x.t⟩ none none 0 0 (trk0_v w1) (by decide) hq)
  have HX := hide (Bl.new w [.int .i64 x.k, .int .i64 x.e.a, .int .i64 x.e.b, .int .i64 x.e.c, .int .i64 x.e.d, .slice A x.e.vs.length c, .int .i64 x.s, .int .i64 x.q, .int .i64 x.t] 54)
  have HB := hide (below_laid (w := w) (.cells #[.int .i64 x.k, .int .i64 x.e.a, .int .i64 x.e.b, .int .i64 x.e.c, .int .i64 x.e.d, .slice A x.e.vs.length c, .int .i64 x.s, .int .i64 x.q, .int .i64 x.t] 54))
  have HBG := hide sbegin_any
  obtain ⟨k, ⟨a, b, c', d, vs⟩, s, q, t⟩ := x
  simp only [trk0] at HADD HX HB ⊢
  clear hq
  go_enter Tryz.func109, Tryz.ntmps109
  go_wp2_with fail
  obtain ⟨W1, hW1⟩ : ∃ W1, w.alloc (.cells #[.int .i64 k, .int .i64 a, .int .i64 b, .int .i64 c', .int .i64 d, .slice A vs.length c, .int .i64 s, .int .i64 q, .int .i64 t] 54) = W1 := ⟨_, rfl⟩
  rw [hW1] at HX HB ⊢
  clear hW1
  have c7 := HX.out.c 7 _ rfl
  have c8 := HX.out.c 8 _ rfl
  have hl0 := HX.out.lt
  have hn0 : W1.heap.size ≠ w.heap.size := by omega
  go_region_held3 (fun w' => w'.cell? ⟨w.heap.size, 7, none⟩ = some (.int .i64 q) ∧ w'.cell? ⟨w.heap.size, 8, none⟩ = some (.int .i64 t))
    (first | with_reducible exact ⟨keep1 hk c7, keep1 hk c8⟩ | with_reducible exact ⟨keep1 (hk.alloc hk.size _) c7, keep1 (hk.alloc hk.size _) c8⟩ | (go_keep; done))
    (first
      | (go_at_call 28; refine (HBG.out _).mono ?_; rintro e1 v1 ⟨rfl, hb'⟩; have hk : Below W1.heap.size W1 v1 := (by first | exact below_undrew hb' | exact bthen (((Below.refl _ _).drew).alloc (by simp) _) hb'); have k7 := keep1 hk c7; have k8 := keep1 hk c8; have hv : w.heap.size < v1.heap.size := Nat.lt_of_lt_of_le HX.out.lt hk.size; have hn1 : v1.heap.size ≠ w.heap.size := (by omega); (try (have HBX : Hid (Bl v1 W1.heap.size [.int .i64 0, .slice none 0 0, .slice none 0 0, .int .i64 0]) := hide ((Bl.new W1.drew [.int .i64 0, .slice none 0 0, .slice none 0 0, .int .i64 0] 33).keep hb'))); clear hb')
      | (go_at_call 110; refine (HADD.out _).mono ?_; rintro e2 v2 hr; obtain ⟨i, j, n, A', B', la, a', lb, b', rfl, hbc⟩ := hr.weak; replace hk : Below W1.heap.size W1 v2 := (by first | exact bthen hk hbc | exact bthen (hk.alloc hk.size _) hbc); have k7 := keep1 hk c7; have k8 := keep1 hk c8; have hv : w.heap.size < v2.heap.size := Nat.lt_of_lt_of_le HX.out.lt hk.size; have hn2 : v2.heap.size ≠ w.heap.size := (by omega); (try (have HBY : Hid (Bl v2 W1.heap.size [.int .i64 0, .slice none 0 0, .slice none 0 0, .int .i64 0]) := hide (HBX.out.keep hbc); have z0 := HBY.out.c 0 _ rfl; have g0 := HBY.out.f 0; have z1 := HBY.out.c 1 _ rfl; have g1 := HBY.out.f 1; have z2 := HBY.out.c 2 _ rfl; have g2 := HBY.out.f 2; have z3 := HBY.out.c 3 _ rfl; have g3 := HBY.out.f 3; have hl := HBY.out.lt)); (try (have HBY : Hid (Bl v2 v1.heap.size [.int .i64 0, .slice none 0 0, .slice none 0 0, .int .i64 0]) := hide ((Bl.new v1 [.int .i64 0, .slice none 0 0, .slice none 0 0, .int .i64 0] 33).keep hbc); have z0 := HBY.out.c 0 _ rfl; have g0 := HBY.out.f 0; have z1 := HBY.out.c 1 _ rfl; have g1 := HBY.out.f 1; have z2 := HBY.out.c 2 _ rfl; have g2 := HBY.out.f 2; have z3 := HBY.out.c 3 _ rfl; have g3 := HBY.out.f 3; have hl := HBY.out.lt)); clear hbc))
  all_goals go_wp2
  all_goals go_ret
  all_goals refine ⟨_, rfl, ?_⟩
  all_goals repeat (first | refine Below.setCell ?_ (by show w.heap.size ≤ _; omega) _ | exact bthen HB.out hk | exact bthen (bthen HB.out hk) (below_laid _) | refine Below.drew ?_ | (refine Below.setCell ?_ ?_ _; rotate_left; (show w.heap.size ≤ _; first | exact Nat.le_of_lt hl0 | exact Nat.le_of_lt (by assumption))))
end
end Go.Proofs.YtppaiihcaajkaaaGreat

namespace Go.Proofs.YtppaiihcaajkaaaGreat
open Go.RowKit
set_option linter.unusedVariables false
set_option linter.unusedSimpArgs false
section
variable (w : World)
set_option maxRecDepth 100000 in
set_option maxHeartbeats 16000000 in
theorem checkpt_any (x : Msg) (A : Option Addr) (c : Nat) (hq : inI x.q ∧ inI x.t) : Calls Tryz.prog 98 #[.agg #[.int .i64 x.k, .int .i64 x.e.a, .int .i64 x.e.b, .int .i64 x.e.c, .int .i64 x.e.d, .slice A x.e.vs.length c, .int .i64 x.s, .int .i64 x.q, .int .i64 x.t]] w (RetN w) := by
  have HVA := hide (fun (w1 : World) (a b c' d : Int) => wvalid_any w1 ⟨x.k, ⟨a, b, c', d, x.e.vs⟩, x.s, x.q, x.t⟩ A c hq)
  obtain ⟨k, ⟨a, b, c', d, vs⟩, s, q, t⟩ := x
  simp only at HVA ⊢
  clear hq
  have HW := hide (fun w' n m => ranged_any w' n m)
  go_enter Tryz.func98, Tryz.ntmps98
  go_wp2_with (first
    | (go_at_call 104; refine (HW.out _ _ _).mono ?_; rintro e1 w1 ⟨rfl, rfl⟩; generalize (_ && _ : Bool) = bb; cases bb)
    | (go_at_call 109; refine (HVA.out _ _ _ _ _).mono ?_; rintro e2 w2 ⟨b2, rfl, hb2⟩; cases b2))
  all_goals go_ret
  all_goals refine ⟨_, rfl, ?_⟩
  all_goals first | exact (below_laid _).alloc (by simp) _ | exact bthen ((below_laid _).alloc (by simp) _) hb2
set_option maxHeartbeats 4000000 in
theorem kinds_any : Calls Tryz.prog 82 #[] w (Ret (.agg #[.func (.func 95) #[] #[], .func (.func 96) #[] #[], .func (.func 97) #[] #[], .func (.func 98) #[] #[], .func (.func 99) #[] #[], .func (.func 100) #[] #[]]) w) := by
  go_enter Tryz.func82, Tryz.ntmps82
  go_wp2
  refine bodyPost_ret (v := .agg #[.func (.func 95) #[] #[], .func (.func 96) #[] #[], .func (.func 97) #[] #[], .func (.func 98) #[] #[], .func (.func 99) #[] #[], .func (.func 100) #[] #[]]) (by rw [results_c rfl]; go_simp) rfl ?_
  exact ⟨rfl, below_laid _⟩
def kdL : List Value := [.func (.func 95) #[] #[], .func (.func 96) #[] #[], .func (.func 97) #[] #[], .func (.func 98) #[] #[], .func (.func 99) #[] #[], .func (.func 100) #[] #[]]
set_option maxRecDepth 100000 in
set_option maxHeartbeats 16000000 in
theorem checkmsg_any (x : Msg) (A : Option Addr) (c : Nat) (hx : NumM x) : Calls Tryz.prog 67 #[.agg #[.int .i64 x.k, .int .i64 x.e.a, .int .i64 x.e.b, .int .i64 x.e.c, .int .i64 x.e.d, .slice A x.e.vs.length c, .int .i64 x.s, .int .i64 x.q, .int .i64 x.t]] w (RetNP (fun n => (n = 0 → x.k = 0 ∨ x.k = 1) ∧ (x.k = 0 → PassE x → n = 0)) w) := by
  have HEV := hide (fun (w1 : World) => checkev_any w1 x A c)
  have HPT := hide (fun (w1 : World) => checkpt_any w1 x A c ⟨hx.q, hx.t⟩)
  obtain ⟨P, hP⟩ : ∃ P : Int → Prop, P = (fun n => (n = 0 → x.k = 0 ∨ x.k = 1) ∧ (x.k = 0 → PassE x → n = 0)) := ⟨_, rfl⟩
  rw [← hP]
  have HP := hide (show ∀ n, P n ↔ (n = 0 → x.k = 0 ∨ x.k = 1) ∧ (x.k = 0 → PassE x → n = 0) by intro n; rw [hP])
  obtain ⟨Q, hQ⟩ : ∃ Q : Prop, PassE x = Q := ⟨_, rfl⟩
  rw [hQ] at HEV HP
  clear hP hQ hx
  obtain ⟨k, ⟨a, b, c', d, vs⟩, s, q, t⟩ := x
  simp only at HEV HPT HP ⊢
  have HKI := hide (fun w' => kinds_any w')
  have HB := hide (below_laid (w := w) (.cells #[.int .i64 k, .int .i64 a, .int .i64 b, .int .i64 c', .int .i64 d, .slice A vs.length c, .int .i64 s, .int .i64 q, .int .i64 t] 54))
  have HX := hide (Bl.new w [.int .i64 k, .int .i64 a, .int .i64 b, .int .i64 c', .int .i64 d, .slice A vs.length c, .int .i64 s, .int .i64 q, .int .i64 t] 54)
  go_enter Tryz.func67, Tryz.ntmps67
  go_upto_region 2 with (go_at_call 82; refine (HKI.out _).mono ?_; rintro e1 w1 ⟨rfl, hb1⟩; have HX1 := hide (HX.out.keep hb1); have HB1 := hide (bthen HB.out hb1); clear hb1)
  obtain ⟨W2, hW2⟩ : ∃ W2, w1.alloc (.cells #[.func (.func 95) #[] #[], .func (.func 96) #[] #[], .func (.func 97) #[] #[], .func (.func 98) #[] #[], .func (.func 99) #[] #[], .func (.func 100) #[] #[]] 160) = W2 := ⟨_, rfl⟩
  have HK := hide (show Bl W2 w1.heap.size [.func (.func 95) #[] #[], .func (.func 96) #[] #[], .func (.func 97) #[] #[], .func (.func 98) #[] #[], .func (.func 99) #[] #[], .func (.func 100) #[] #[]] by rw [← hW2]; exact Bl.new w1 [.func (.func 95) #[] #[], .func (.func 96) #[] #[], .func (.func 97) #[] #[], .func (.func 98) #[] #[], .func (.func 99) #[] #[], .func (.func 100) #[] #[]] 160)
  have hbW : Below w1.heap.size w1 W2 := by rw [← hW2]; exact below_laid _
  have HX2 := hide (HX1.out.keep hbW)
  have HB2 := hide (bthen HB1.out hbW)
  rw [hW2]
  clear hW2 hbW HX1 HB1 HX HB
  have x0 := HX2.out.c 0 _ rfl
  have x1 := HX2.out.c 1 _ rfl
  have x2 := HX2.out.c 2 _ rfl
  have x3 := HX2.out.c 3 _ rfl
  have x4 := HX2.out.c 4 _ rfl
  have x5 := HX2.out.c 5 _ rfl
  have x6 := HX2.out.c 6 _ rfl
  have x7 := HX2.out.c 7 _ rfl
  have x8 := HX2.out.c 8 _ rfl
  rcases (by omega : k < 0 ∨ (0 ≤ k ∧ 2 ≤ k) ∨ k = 0 ∨ k = 1) with hk | ⟨hk, hk2⟩ | rfl | rfl
  · have t1 : decide (k < 0) = true := decide_eq_true hk
    go_wp2
    go_ret
    exact ⟨1, rfl, (HP.out 1).2 ⟨fun h => absurd h (by decide), fun h => absurd h (by omega)⟩, HB2.out⟩
  · have t1 : decide (k < 0) = false := decide_eq_false (by omega)
    have t2 : decide (2 ≤ k) = true := decide_eq_true hk2
    go_wp2
    go_ret
    exact ⟨1, rfl, (HP.out 1).2 ⟨fun h => absurd h (by decide), fun h => absurd h (by omega)⟩, HB2.out⟩
  · have f0 := HK.out.c 0 _ rfl
    go_wp2_with fail
    go_region_held3 (fun w' => w'.cell? ⟨w1.heap.size, 0, none⟩ = some (.func (.func 95) #[] #[]) ∧ w'.cell? ⟨w.heap.size, 0, none⟩ = some (.int .i64 0) ∧ w'.cell? ⟨w.heap.size, 1, none⟩ = some (.int .i64 a) ∧ w'.cell? ⟨w.heap.size, 2, none⟩ = some (.int .i64 b) ∧ w'.cell? ⟨w.heap.size, 3, none⟩ = some (.int .i64 c') ∧ w'.cell? ⟨w.heap.size, 4, none⟩ = some (.int .i64 d) ∧ w'.cell? ⟨w.heap.size, 5, none⟩ = some (.slice A vs.length c) ∧ w'.cell? ⟨w.heap.size, 6, none⟩ = some (.int .i64 s) ∧ w'.cell? ⟨w.heap.size, 7, none⟩ = some (.int .i64 q) ∧ w'.cell? ⟨w.heap.size, 8, none⟩ = some (.int .i64 t))
      (first | with_reducible exact ⟨keep1 hk f0, keep1 hk x0, keep1 hk x1, keep1 hk x2, keep1 hk x3, keep1 hk x4, keep1 hk x5, keep1 hk x6, keep1 hk x7, keep1 hk x8⟩ | (go_keep; done))
      ((go_at_call 95; refine (HEV.out _).mono ?_; rintro e2 w2 ⟨n, rfl, hn, hb2⟩; have hk : Below W2.heap.size W2 w2 := below_undrew hb2; have HN := hide hn; clear hb2))
    go_wp2
    go_ret
    refine ⟨n, rfl, ?_, bthen HB2.out hk⟩
    rw [HP.out]
    exact ⟨fun _ => .inl (by trivial), fun _ => HN.out⟩
  · have f0 := HK.out.c 3 _ rfl
    go_wp2_with fail
    go_region_held3 (fun w' => w'.cell? ⟨w1.heap.size, 3, none⟩ = some (.func (.func 98) #[] #[]) ∧ w'.cell? ⟨w.heap.size, 0, none⟩ = some (.int .i64 1) ∧ w'.cell? ⟨w.heap.size, 1, none⟩ = some (.int .i64 a) ∧ w'.cell? ⟨w.heap.size, 2, none⟩ = some (.int .i64 b) ∧ w'.cell? ⟨w.heap.size, 3, none⟩ = some (.int .i64 c') ∧ w'.cell? ⟨w.heap.size, 4, none⟩ = some (.int .i64 d) ∧ w'.cell? ⟨w.heap.size, 5, none⟩ = some (.slice A vs.length c) ∧ w'.cell? ⟨w.heap.size, 6, none⟩ = some (.int .i64 s) ∧ w'.cell? ⟨w.heap.size, 7, none⟩ = some (.int .i64 q) ∧ w'.cell? ⟨w.heap.size, 8, none⟩ = some (.int .i64 t))
      (first | with_reducible exact ⟨keep1 hk f0, keep1 hk x0, keep1 hk x1, keep1 hk x2, keep1 hk x3, keep1 hk x4, keep1 hk x5, keep1 hk x6, keep1 hk x7, keep1 hk x8⟩ | (go_keep; done))
      ((go_at_call 98; refine (HPT.out _).mono ?_; rintro e2 w2 ⟨n, rfl, hb2⟩; have hk : Below W2.heap.size W2 w2 := below_undrew hb2; clear hb2))
    go_wp2
    go_ret
    refine ⟨n, rfl, ?_, bthen HB2.out hk⟩
    rw [HP.out]
    exact ⟨fun _ => .inr (by trivial), fun h => absurd h (by decide)⟩
end
end Go.Proofs.YtppaiihcaajkaaaGreat

namespace Go.Proofs.YtppaiihcaajkaaaGreat
open Go.RowKit
set_option linter.unusedVariables false
set_option linter.unusedSimpArgs false
/-- An error, if S is false; or a tracker and a flag for which P. -/
def RetRc (B0 : Nat) (S : Prop) (P : Bool → Trk → Prop) (w : World) (e : Ending) (w' : World) : Prop :=
  (∃ (n i j : Int) (f : Bool) (A B : Option Addr) (la a lb b : Nat), n ≠ 0 ∧ e = .returned (.tuple #[.agg #[.int .i64 i, .slice A la a, .slice B lb b, .int .i64 j], .bool f, .int .i64 n]) ∧ ¬ S ∧ Below w.heap.size w w') ∨
  (∃ f x A a B b, e = .returned (.tuple #[.agg #[.int .i64 x.next, .slice A x.beyond.length a, .slice B x.points.length b, .int .i64 x.mark], .bool f, .int .i64 0]) ∧ TrV w' (fun k => k < w'.heap.size ∧ (k < B0 ∨ w.heap.size ≤ k)) A a B b x ∧ P f x ∧ Below w.heap.size w w')
theorem Off.low {s d : Nat} {a b : World} (h : Off s d a b) : b.heap.size = a.heap.size := h.size
/-- An event comes next at a tracker that waits for nothing. -/
def Sim (x : Trk) (M : Msg) : Prop := x.beyond = [] ∧ x.points = [] ∧ M.e.b = x.next ∧ M.e.b ≤ 1099511627776 ∧ x.mark < M.e.d ∧ (0 ≤ M.e.d ∧ M.e.d ≤ 1099511627776)
theorem setT_sim {n t : Int} : setT ⟨n, [], [], t⟩ = ⟨n, [], [], t⟩ := by simp [setT, latI]
section
variable (w : World)
set_option maxRecDepth 100000 in
set_option maxHeartbeats 16000000 in
theorem rpoint_any (x : Trk) (M : Msg) (A B E : Option Addr) (a b cc B0 : Nat) (hx0 : TrV w (· < B0) A a B b x) (hB0 : B0 ≤ w.heap.size) (hok : TrkOK x) (hq : inI M.q ∧ inI M.t) : Calls Tryz.prog 100 #[.agg #[.int .i64 x.next, .slice A x.beyond.length a, .slice B x.points.length b, .int .i64 x.mark], .agg #[.int .i64 M.k, .int .i64 M.e.a, .int .i64 M.e.b, .int .i64 M.e.c, .int .i64 M.e.d, .slice E M.e.vs.length cc, .int .i64 M.s, .int .i64 M.q, .int .i64 M.t]] w (RetRc B0 False (fun f y => f = false ∧ TrkOK y) w) := by
  have hx : TrV w (· < w.heap.size) A a B b x := ⟨hx0.u.more rd_In (fun k hk => Nat.lt_of_lt_of_le hk hB0), hx0.v.more rd_Pn (fun k hk => Nat.lt_of_lt_of_le hk hB0), hx0.n, hx0.m⟩
  have HADD := hide (fun (w1 : World) (hb : Below w.heap.size w w1) => add_any w1 x ⟨M.q, M.t⟩ A B a b (hx.below hb) (Nat.le_trans hok.1.2.2.1 (by decide)) hq)
  have HTV := hide (fun (w1 : World) (hb : Below w.heap.size w w1) => hx.below hb)
  obtain ⟨X1, hX1⟩ : ∃ X, X = w.alloc (.cells #[.int .i64 x.next, .slice A x.beyond.length a, .slice B x.points.length b, .int .i64 x.mark] 33) := ⟨_, rfl⟩
  have hB1 : Below w.heap.size w X1 := by rw [hX1]; exact below_laid _
  have hsz1 : X1.heap.size = w.heap.size + 1 := by rw [hX1]; simp
  have hbx := Bl.new w [.int .i64 x.next, .slice A x.beyond.length a, .slice B x.points.length b, .int .i64 x.mark] 33
  rw [← hX1] at hbx
  obtain ⟨X2, hX2⟩ : ∃ X, X = X1.alloc (.cells #[.int .i64 M.k, .int .i64 M.e.a, .int .i64 M.e.b, .int .i64 M.e.c, .int .i64 M.e.d, .slice E M.e.vs.length cc, .int .i64 M.s, .int .i64 M.q, .int .i64 M.t] 54) := ⟨_, rfl⟩
  have hB2 : Below w.heap.size w X2 := by rw [hX2]; exact bthen hB1 (below_laid _)
  have hsz2 : X2.heap.size = w.heap.size + 1 + 1 := by rw [hX2]; simp [hsz1]
  have hbp := Bl.new X1 [.int .i64 M.k, .int .i64 M.e.a, .int .i64 M.e.b, .int .i64 M.e.c, .int .i64 M.e.d, .slice E M.e.vs.length cc, .int .i64 M.s, .int .i64 M.q, .int .i64 M.t] 54
  rw [← hX2, hsz1] at hbp
  replace hbx : Bl X2 w.heap.size [.int .i64 x.next, .slice A x.beyond.length a, .slice B x.points.length b, .int .i64 x.mark] := by rw [hX2]; exact hbx.laid _
  obtain ⟨W3, hW3⟩ : ∃ X, X = X2.alloc (.cells #[.int .i64 0, .slice none 0 0, .slice none 0 0, .int .i64 0] 33) := ⟨_, rfl⟩
  have hB3 : Below w.heap.size w W3 := by rw [hW3]; exact bthen hB2 (below_laid _)
  have hbz := Bl.new X2 [.int .i64 0, .slice none 0 0, .slice none 0 0, .int .i64 0] 33
  rw [← hW3, hsz2] at hbz
  have HX := hide (show Bl W3 w.heap.size [.int .i64 x.next, .slice A x.beyond.length a, .slice B x.points.length b, .int .i64 x.mark] by rw [hW3]; exact hbx.laid _)
  have HM := hide (show Bl W3 (w.heap.size + 1) [.int .i64 M.k, .int .i64 M.e.a, .int .i64 M.e.b, .int .i64 M.e.c, .int .i64 M.e.d, .slice E M.e.vs.length cc, .int .i64 M.s, .int .i64 M.q, .int .i64 M.t] by rw [hW3]; exact hbp.laid _)
  have HZ := hide hbz
  have HB := hide hB3
  have HWW := hide (show ((w.alloc (.cells #[.int .i64 x.next, .slice A x.beyond.length a, .slice B x.points.length b, .int .i64 x.mark] 33)).alloc (.cells #[.int .i64 M.k, .int .i64 M.e.a, .int .i64 M.e.b, .int .i64 M.e.c, .int .i64 M.e.d, .slice E M.e.vs.length cc, .int .i64 M.s, .int .i64 M.q, .int .i64 M.t] 54)).alloc (.cells #[.int .i64 0, .slice none 0 0, .slice none 0 0, .int .i64 0] 33) = W3 by rw [hW3, hX2, hX1])
  have HOK := hide hok
  clear hx hx0 hB0 hB1 hB2 hB3 hbx hbp hbz hsz1 hsz2 hX1 hX2 hW3 hok
  clear hq
  obtain ⟨next, beyond, points, mark⟩ := x
  obtain ⟨k, ⟨ea, eb, ec, ed, vs⟩, s, q, t⟩ := M
  simp only at HX HM HTV HADD HWW HOK ⊢
  obtain ⟨m, hm⟩ : ∃ m, beyond.length = m := ⟨_, rfl⟩
  obtain ⟨n, hn⟩ : ∃ n, points.length = n := ⟨_, rfl⟩
  obtain ⟨el, hel⟩ : ∃ el, vs.length = el := ⟨_, rfl⟩
  simp only [hm, hn, hel] at HX HM HADD HWW ⊢
  clear hm hn hel
  go_enter Tryz.func100, Tryz.ntmps100
  go_upto_region 1 with (fail)
  rw [HWW.out]
  clear HWW
  have d0 := HX.out.c 0 _ rfl
  have d1 := HX.out.c 1 _ rfl
  have d2 := HX.out.c 2 _ rfl
  have d3 := HX.out.c 3 _ rfl
  have m7 := HM.out.c 7 _ rfl
  have m8 := HM.out.c 8 _ rfl
  have HADD1 := hide (HADD.out W3 HB.out)
  go_wp2_with fail
  refine HADD1.out.mono ?_
  rintro e1 w1 (⟨c, hc, rfl, hb1⟩ | ⟨y, A1, a1, B1, b1, rfl, hT, hy, hb1⟩)
  · have HZ1 := hide (HZ.out.keep hb1)
    have HB1 := hide (bthen HB.out hb1)
    have hz1 := HZ1.out.lt
    have hzw := hb1.size
    clear hb1 d0 d1 d2 d3 m7 m8
    have HZ2 := hide (HZ1.out.laid (.cells #[.int .i64 0, .slice none 0 0, .slice none 0 0, .int .i64 0] 33))
    have HB2 := hide (bthen HB1.out (below_laid (w := w1) (.cells #[.int .i64 0, .slice none 0 0, .slice none 0 0, .int .i64 0] 33)))
    have z0 := HZ2.out.c 0 _ rfl
    have g0 := HZ2.out.f 0
    have z1 := HZ2.out.c 1 _ rfl
    have g1 := HZ2.out.f 1
    have z2 := HZ2.out.c 2 _ rfl
    have g2 := HZ2.out.f 2
    have z3 := HZ2.out.c 3 _ rfl
    have g3 := HZ2.out.f 3
    unfold zeT
    go_upto_region 2 with (fail)
    have HWE := hide (show ∃ W4, w1.alloc (.cells #[.int .i64 0, .slice none 0 0, .slice none 0 0, .int .i64 0] 33) = W4 from ⟨_, rfl⟩)
    obtain ⟨W4, hW4⟩ := HWE.out
    rw [hW4] at HZ2 HB2 z0 z1 z2 z3 g0 g1 g2 g3 ⊢
    clear HWE
    have c0 : Bl W4 w1.heap.size [.int .i64 0, .slice none 0 0, .slice none 0 0, .int .i64 0] := by rw [← hW4]; exact Bl.new w1 [.int .i64 0, .slice none 0 0, .slice none 0 0, .int .i64 0] 33
    have HW4 := hide hW4
    have y0 := c0.c 0 _ rfl
    have y1 := c0.c 1 _ rfl
    have y2 := c0.c 2 _ rfl
    have y3 := c0.c 3 _ rfl
    clear hW4 c0
    go_wp2
    refine bodyPost_ret (v := .tuple #[.agg #[.int .i64 0, .slice none 0 0, .slice none 0 0, .int .i64 0], .bool false, .int .i64 c]) (by rw [results_ctt rfl]; go_simp) rfl ?_
    exact .inl ⟨c, 0, 0, false, none, none, 0, 0, 0, 0, hc, rfl, fun h => h, Off.below (s := w.heap.size) (d := 3) (by repeat (first | refine Off.set ?_ (by constructor <;> simp <;> omega) | exact Off.refl)) HB2.out (Nat.le_refl _)⟩
  · have HZ1 := hide (HZ.out.keep hb1)
    have HB1 := hide (bthen HB.out hb1)
    have hz1 := HZ1.out.lt
    have hzw := hb1.size
    have HT := hide hT
    clear hT
    clear hb1 d0 d1 d2 d3 m7 m8
    have HZ2 := hide (HZ1.out.laid (.cells #[.int .i64 y.next, .slice A1 y.beyond.length a1, .slice B1 y.points.length b1, .int .i64 y.mark] 33))
    have HB2 := hide (bthen HB1.out (below_laid (w := w1) (.cells #[.int .i64 y.next, .slice A1 y.beyond.length a1, .slice B1 y.points.length b1, .int .i64 y.mark] 33)))
    have z0 := HZ2.out.c 0 _ rfl
    have g0 := HZ2.out.f 0
    have z1 := HZ2.out.c 1 _ rfl
    have g1 := HZ2.out.f 1
    have z2 := HZ2.out.c 2 _ rfl
    have g2 := HZ2.out.f 2
    have z3 := HZ2.out.c 3 _ rfl
    have g3 := HZ2.out.f 3
    skip
    go_upto_region 2 with (fail)
    have HWE := hide (show ∃ W4, w1.alloc (.cells #[.int .i64 y.next, .slice A1 y.beyond.length a1, .slice B1 y.points.length b1, .int .i64 y.mark] 33) = W4 from ⟨_, rfl⟩)
    obtain ⟨W4, hW4⟩ := HWE.out
    rw [hW4] at HZ2 HB2 z0 z1 z2 z3 g0 g1 g2 g3 ⊢
    clear HWE
    have c0 : Bl W4 w1.heap.size [.int .i64 y.next, .slice A1 y.beyond.length a1, .slice B1 y.points.length b1, .int .i64 y.mark] := by rw [← hW4]; exact Bl.new w1 [.int .i64 y.next, .slice A1 y.beyond.length a1, .slice B1 y.points.length b1, .int .i64 y.mark] 33
    have HW4 := hide hW4
    have y0 := c0.c 0 _ rfl
    have y1 := c0.c 1 _ rfl
    have y2 := c0.c 2 _ rfl
    have y3 := c0.c 3 _ rfl
    clear hW4 c0
    go_wp2
    refine bodyPost_ret (v := .tuple #[.agg #[.int .i64 y.next, .slice A1 y.beyond.length a1, .slice B1 y.points.length b1, .int .i64 y.mark], .bool false, .int .i64 0]) (by rw [results_ctt rfl]; go_simp) rfl ?_
    have key : ∀ W', Off w.heap.size 3 W4 W' → RetRc B0 False (fun f y => f = false ∧ TrkOK y) w (.returned (.tuple #[.agg #[.int .i64 y.next, .slice A1 y.beyond.length a1, .slice B1 y.points.length b1, .int .i64 y.mark], .bool false, .int .i64 0])) W' := fun W' hO => by
      have hT2 := HT.out.keep (Kp.alloc (w := w1) (.cells #[.int .i64 y.next, .slice A1 y.beyond.length a1, .slice B1 y.points.length b1, .int .i64 y.mark] 33))
      rw [HW4.out] at hT2
      have hs : W'.heap.size = w1.heap.size + 1 := by rw [hO.size, ← HW4.out]; simp
      have hw3 := HZ.out.lt
      have hww := HB.out.size
      exact .inr ⟨false, y, A1, a1, B1, b1, rfl, ⟨(hT2.u.keep rd_In (hO.kp (fun k hk => .inr (by omega)))).more rd_In (fun k (hk : W3.heap.size ≤ k ∧ k < w1.heap.size) => by omega), (hT2.v.keep rd_Pn (hO.kp (fun k hk => .inr (by omega)))).more rd_Pn (fun k (hk : W3.heap.size ≤ k ∧ k < w1.heap.size) => by omega), hT2.n, hT2.m⟩, ⟨rfl, hy⟩, hO.below HB2.out (Nat.le_refl _)⟩
    exact key _ (by repeat (first | refine Off.set ?_ (by constructor <;> simp <;> omega) | exact Off.refl))

end
end Go.Proofs.YtppaiihcaajkaaaGreat
