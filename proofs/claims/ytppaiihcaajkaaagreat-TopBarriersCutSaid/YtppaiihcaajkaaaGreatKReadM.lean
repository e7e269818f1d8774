/- reader.read. reader.owned: written by genOwd.py. reader.Read: written by genRdR.py. -/
import Derived.Test.YtppaiihcaajkaaaGreatKAcc
namespace Go.Proofs.YtppaiihcaajkaaaGreat
open Go.RowKit
set_option linter.unusedVariables false
set_option linter.unusedSimpArgs false
/-- What a reader sends: an event or a mark. -/
def GoodI (x : Itm) : Prop := ItemOK x ∧ x.k ≠ 2 ∧ (x.k = 0 → EvOK x.e)
def RetRead (W0 : World) (B0 : Nat) (s off : Int) (x : Trk) (M : Msg) (w : World) (e : Ending) (w' : World) : Prop := ∃ (y : Trk) (A : Option Addr) (a : Nat) (B : Option Addr) (b : Nat) (l : List Itm) (v : Value), e = .returned (.tuple #[.agg #[.int .i64 s, .int .i64 (off + 1), .int .i64 y.next, .slice A y.beyond.length a, .slice B y.points.length b, .int .i64 y.mark], v]) ∧
  TrV w' (fun k => k < w'.heap.size ∧ (k < B0 ∨ w.heap.size ≤ k)) A a B b y ∧ TrkOK y ∧ Lst w' (fun k => w.heap.size ≤ k ∧ k < w'.heap.size) 7 (RIt W0) v l ∧ l.length ≤ 2 ∧ (∀ i ∈ l, GoodI i) ∧ (SimA s x M → y = ⟨x.next + 1, [], [], x.mark⟩ ∧ l = [⟨0, M.e, 0⟩]) ∧ Below w.heap.size w w'
def markI (n : Int) : Itm := ⟨1, ⟨0, 0, 0, 0, []⟩, n⟩
theorem good_ev {e : Evt} (h : EvOK e) : GoodI ⟨0, e, 0⟩ := ⟨.inl ⟨rfl, rfl⟩, by simp, fun _ => h⟩
theorem good_mark {n : Int} (h : 0 ≤ n ∧ n ≤ 1099511627776) : GoodI (markI n) := ⟨.inr (.inl ⟨rfl, h, rfl, rfl, rfl, rfl, rfl⟩), by simp [markI], fun h => by simp [markI] at h⟩
theorem inI0 : inI 0 := by unfold inI; decide
theorem rit_ev {W0 w : World} {Z : Nat → Prop} {M : Msg} {E : Option Addr} {c : Nat} (h : VsE W0 E c M.e) (hM : NumM M) : RIt W0 w Z [.int .i64 0, .int .i64 M.e.a, .int .i64 M.e.b, .int .i64 M.e.c, .int .i64 M.e.d, .slice E M.e.vs.length c, .int .i64 0] ⟨0, M.e, 0⟩ := ⟨E, c, rfl, h, inI0, hM.e, inI0⟩
theorem rit_mark {W0 w : World} {Z : Nat → Prop} {n : Int} (h : inI n) : RIt W0 w Z [.int .i64 1, .int .i64 0, .int .i64 0, .int .i64 0, .int .i64 0, .slice none 0 0, .int .i64 n] (markI n) := by
  have h0 : inI 0 := by unfold inI; decide
  exact ⟨none, 0, rfl, Lst.nil, by unfold inI markI; simp, ⟨h0, h0, h0, h0⟩, h⟩
section
variable (w : World)
set_option maxRecDepth 100000 in
set_option maxHeartbeats 16000000 in
theorem read_any (W0 : World) (hW : Below W0.heap.size W0 w) (v : Value) (hT : There RSc 2 w v TT) (s : Int) (hs : s = 0 ∨ s = 1) (off : Int) (ho : 0 ≤ off) (hm : off ≤ 4096) (x : Trk) (A B E : Option Addr) (a b c B0 : Nat) (M : Msg) (hx0 : TrV w (· < B0) A a B b x) (hB0 : B0 ≤ w.heap.size) (hok : TrkOK x) (hM : NumM M) (hE : VsE W0 E c M.e) :
    Calls Tryz.prog 36 #[v, .agg #[.int .i64 s, .int .i64 off, .int .i64 x.next, .slice A x.beyond.length a, .slice B x.points.length b, .int .i64 x.mark], .agg #[.int .i64 M.k, .int .i64 M.e.a, .int .i64 M.e.b, .int .i64 M.e.c, .int .i64 M.e.d, .slice E M.e.vs.length c, .int .i64 M.s, .int .i64 M.q, .int .i64 M.t]] w (RetRead W0 B0 s off x M w) := by
  obtain ⟨i0, hi, hz0, hz1, hz2⟩ := info_parts iq_item
  have hx : TrV w (· < w.heap.size) A a B b x := ⟨hx0.u.more rd_In (fun k hk => Nat.lt_of_lt_of_le hk hB0), hx0.v.more rd_Pn (fun k hk => Nat.lt_of_lt_of_le hk hB0), hx0.n, hx0.m⟩
  have HBB0 := hide hB0
  have hv0 : Lst w (· < w.heap.size) 3 RV0 (.slice E M.e.vs.length c) M.e.vs := Lst.below rd_V0 hE hW
  have HAC := hide (fun (w1 : World) (hb : Below w.heap.size w w1) => accept_any w1 v (There.keep rd_Sc hT hb) s hs off x A B E a b c B0 M (hx0.keep (Kp.lowBelow hb (fun k hk => Nat.lt_of_lt_of_le hk hB0))) (Nat.le_trans hB0 hb.size) hok hM (hv0.below rd_V0 hb))
  have HEV := hide (fun (W : World) (Z : Nat → Prop) => rit_ev (w := W) (Z := Z) hE hM)
  obtain ⟨X1, hX1⟩ : ∃ X1, w.alloc (.cells #[.int .i64 s, .int .i64 off, .int .i64 x.next, .slice A x.beyond.length a, .slice B x.points.length b, .int .i64 x.mark] 35) = X1 := ⟨_, rfl⟩
  obtain ⟨X2, hX2⟩ : ∃ X2, X1.alloc (.cells #[.int .i64 M.k, .int .i64 M.e.a, .int .i64 M.e.b, .int .i64 M.e.c, .int .i64 M.e.d, .slice E M.e.vs.length c, .int .i64 M.s, .int .i64 M.q, .int .i64 M.t] 54) = X2 := ⟨_, rfl⟩
  obtain ⟨W3, hW3⟩ : ∃ W3, X2.alloc (.cells #[.int .i64 0, .int .i64 0, .int .i64 0, .slice none 0 0, .slice none 0 0, .int .i64 0] 35) = W3 := ⟨_, rfl⟩
  have hs1 : X1.heap.size = w.heap.size + 1 := by rw [← hX1]; simp
  have hs2 : X2.heap.size = w.heap.size + 2 := by rw [← hX2]; simp [hs1]
  have HX := hide (show Bl W3 w.heap.size [.int .i64 s, .int .i64 off, .int .i64 x.next, .slice A x.beyond.length a, .slice B x.points.length b, .int .i64 x.mark] by rw [← hW3, ← hX2, ← hX1]; exact ((Bl.new w _ _).laid _).laid _)
  have HM := hide (show Bl W3 (w.heap.size + 1) [.int .i64 M.k, .int .i64 M.e.a, .int .i64 M.e.b, .int .i64 M.e.c, .int .i64 M.e.d, .slice E M.e.vs.length c, .int .i64 M.s, .int .i64 M.q, .int .i64 M.t] by rw [← hW3, ← hX2, ← hs1]; exact (Bl.new X1 _ _).laid _)
  have HZ := hide (show Bl W3 (w.heap.size + 2) [.int .i64 0, .int .i64 0, .int .i64 0, .slice none 0 0, .slice none 0 0, .int .i64 0] by rw [← hW3, ← hs2]; exact Bl.new X2 _ _)
  have HB := hide (show Below w.heap.size w W3 by rw [← hW3, ← hX2, ← hX1]; exact bthen (bthen (below_laid _) (below_laid _)) (below_laid _))
  have HWW := hide (show ((w.alloc (.cells #[.int .i64 s, .int .i64 off, .int .i64 x.next, .slice A x.beyond.length a, .slice B x.points.length b, .int .i64 x.mark] 35)).alloc (.cells #[.int .i64 M.k, .int .i64 M.e.a, .int .i64 M.e.b, .int .i64 M.e.c, .int .i64 M.e.d, .slice E M.e.vs.length c, .int .i64 M.s, .int .i64 M.q, .int .i64 M.t] 54)).alloc (.cells #[.int .i64 0, .int .i64 0, .int .i64 0, .slice none 0 0, .slice none 0 0, .int .i64 0] 35) = W3 by rw [hX1, hX2, hW3])
  have hs3 : W3.heap.size = w.heap.size + 3 := by rw [← hW3]; simp [hs2]
  have HOK := hide hok
  have HTX := hide (show ∀ w1, Below w.heap.size w w1 → TrV w1 (fun k => k < w1.heap.size ∧ (k < B0 ∨ w.heap.size ≤ k)) A a B b x from fun w1 hb => ⟨(hx0.u.keep rd_In (Kp.lowBelow hb (fun k hk => Nat.lt_of_lt_of_le hk hB0))).more rd_In (fun k hk => ⟨Nat.lt_of_lt_of_le (Nat.lt_of_lt_of_le hk hB0) hb.size, .inl hk⟩), (hx0.v.keep rd_Pn (Kp.lowBelow hb (fun k hk => Nat.lt_of_lt_of_le hk hB0))).more rd_Pn (fun k hk => ⟨Nat.lt_of_lt_of_le (Nat.lt_of_lt_of_le hk hB0) hb.size, .inl hk⟩), hx0.n, hx0.m⟩)
  have HNX := hide (show inI x.next ∧ inI x.mark from ⟨hx.n, hx.m⟩)
  clear hs1 hs2 hX1 hX2 hW3 hT hx hx0 hB0 hok hM hE hv0 hW hs
  have hw1 : IntKind.i64.wrap (off + 1) = off + 1 := by rw [IntKind.wrap_i64]; omega
  go_enter Tryz.func36, Tryz.ntmps36
  go_upto_region 1 with (fail)
  rw [HWW.out]
  clear HWW
  have x0 := HX.out.c 0 _ rfl
  have x1 := HX.out.c 1 _ rfl
  have x2 := HX.out.c 2 _ rfl
  have x3 := HX.out.c 3 _ rfl
  have x4 := HX.out.c 4 _ rfl
  have x5 := HX.out.c 5 _ rfl
  go_upto_region 3 with (fail)
  obtain ⟨W4, hW4⟩ : ∃ W4, W3.alloc (.cells #[.int .i64 s, .int .i64 (off + 1), .int .i64 x.next, .slice A x.beyond.length a, .slice B x.points.length b, .int .i64 x.mark] 35) = W4 := ⟨_, rfl⟩
  have HN4 := hide (show Bl W4 (w.heap.size + 3) [.int .i64 s, .int .i64 (off + 1), .int .i64 x.next, .slice A x.beyond.length a, .slice B x.points.length b, .int .i64 x.mark] by rw [← hW4, ← hs3]; exact Bl.new W3 _ _)
  have HX4 := hide (show Bl W4 w.heap.size [.int .i64 s, .int .i64 off, .int .i64 x.next, .slice A x.beyond.length a, .slice B x.points.length b, .int .i64 x.mark] by rw [← hW4]; exact HX.out.laid _)
  have HM4 := hide (show Bl W4 (w.heap.size + 1) [.int .i64 M.k, .int .i64 M.e.a, .int .i64 M.e.b, .int .i64 M.e.c, .int .i64 M.e.d, .slice E M.e.vs.length c, .int .i64 M.s, .int .i64 M.q, .int .i64 M.t] by rw [← hW4]; exact HM.out.laid _)
  have HZ4 := hide (show Bl W4 (w.heap.size + 2) [.int .i64 0, .int .i64 0, .int .i64 0, .slice none 0 0, .slice none 0 0, .int .i64 0] by rw [← hW4]; exact HZ.out.laid _)
  have HB4 := hide (show Below w.heap.size w W4 by rw [← hW4]; exact bthen HB.out (below_laid _))
  have hs4 : W4.heap.size = w.heap.size + 4 := by rw [← hW4]; simp [hs3]
  rw [hW4]
  clear hW4 hs3 HX HM HZ HB x0 x1 x2 x3 x4 x5
  have x0 := HX4.out.c 0 _ rfl
  have x1 := HX4.out.c 1 _ rfl
  have x2 := HX4.out.c 2 _ rfl
  have x3 := HX4.out.c 3 _ rfl
  have x4 := HX4.out.c 4 _ rfl
  have x5 := HX4.out.c 5 _ rfl
  have m0 := HM4.out.c 0 _ rfl
  have m1 := HM4.out.c 1 _ rfl
  have m2 := HM4.out.c 2 _ rfl
  have m3 := HM4.out.c 3 _ rfl
  have m4 := HM4.out.c 4 _ rfl
  have m5 := HM4.out.c 5 _ rfl
  have m6 := HM4.out.c 6 _ rfl
  have m7 := HM4.out.c 7 _ rfl
  have m8 := HM4.out.c 8 _ rfl
  have HAC4 := hide (HAC.out W4 HB4.out)
  go_wp2_with fail
  refine HAC4.out.mono ?_
  rintro e5 w5 ⟨y, A1, a1, B1, b1, f, ok, rfl, hy, hyo, hf, hsim, hb5⟩
  have HN5 := hide (HN4.out.keep hb5)
  have HX5 := hide (HX4.out.keep hb5)
  have HM5 := hide (HM4.out.keep hb5)
  have HZ5 := hide (HZ4.out.keep hb5)
  have HB5 := hide (bthen HB4.out hb5)
  have HY := hide hy
  have HYO := hide hyo
  have HF := hide hf
  have HSM := hide hsim
  have hz5 := hb5.size
  clear hb5 hy hyo hf hsim x0 x1 x2 x3 x4 x5 m0 m1 m2 m3 m4 m5 m6 m7 m8 HAC HAC4 HX4 HM4 HZ4 HN4 HB4
  go_upto_region 4 with (fail)
  obtain ⟨W6, hW6⟩ : ∃ W6, w5.alloc (.cells #[.int .i64 y.next, .slice A1 y.beyond.length a1, .slice B1 y.points.length b1, .int .i64 y.mark] 33) = W6 := ⟨_, rfl⟩
  have HT6 := hide (show Bl W6 w5.heap.size [.int .i64 y.next, .slice A1 y.beyond.length a1, .slice B1 y.points.length b1, .int .i64 y.mark] by rw [← hW6]; exact Bl.new w5 _ _)
  have HX6 := hide (show Bl W6 w.heap.size [.int .i64 s, .int .i64 off, .int .i64 x.next, .slice A x.beyond.length a, .slice B x.points.length b, .int .i64 x.mark] by rw [← hW6]; exact HX5.out.laid _)
  have HN6 := hide (show Bl W6 (w.heap.size + 3) [.int .i64 s, .int .i64 (off + 1), .int .i64 x.next, .slice A x.beyond.length a, .slice B x.points.length b, .int .i64 x.mark] by rw [← hW6]; exact HN5.out.laid _)
  have HM6 := hide (show Bl W6 (w.heap.size + 1) [.int .i64 M.k, .int .i64 M.e.a, .int .i64 M.e.b, .int .i64 M.e.c, .int .i64 M.e.d, .slice E M.e.vs.length c, .int .i64 M.s, .int .i64 M.q, .int .i64 M.t] by rw [← hW6]; exact HM5.out.laid _)
  have HZ6 := hide (show Bl W6 (w.heap.size + 2) [.int .i64 0, .int .i64 0, .int .i64 0, .slice none 0 0, .slice none 0 0, .int .i64 0] by rw [← hW6]; exact HZ5.out.laid _)
  have HB6 := hide (show Below w.heap.size w W6 by rw [← hW6]; exact bthen HB5.out (below_laid _))
  have HY6 := hide (show TrV W6 (fun k => k < w5.heap.size ∧ (k < B0 ∨ W4.heap.size ≤ k)) A1 a1 B1 b1 y by rw [← hW6]; exact HY.out.keep (Kp.of_below (below_laid _) |>.less (fun k hk => hk.1)))
  have hs6 : W6.heap.size = w5.heap.size + 1 := by rw [← hW6]; simp
  rw [hW6]
  clear hW6 HX5 HM5 HZ5 HN5 HB5 HY
  have n0 := HN6.out.c 0 _ rfl
  have n1 := HN6.out.c 1 _ rfl
  have n2 := HN6.out.c 2 _ rfl
  have n3 := HN6.out.c 3 _ rfl
  have n4 := HN6.out.c 4 _ rfl
  have n5 := HN6.out.c 5 _ rfl
  cases ok
  · have z0 := HZ6.out.c 0 _ rfl
    have z1 := HZ6.out.c 1 _ rfl
    have z2 := HZ6.out.c 2 _ rfl
    have z3 := HZ6.out.c 3 _ rfl
    have z4 := HZ6.out.c 4 _ rfl
    have z5 := HZ6.out.c 5 _ rfl
    have g0 := HZ6.out.f 0
    have g1 := HZ6.out.f 1
    have g2 := HZ6.out.f 2
    have g3 := HZ6.out.f 3
    have g4 := HZ6.out.f 4
    have g5 := HZ6.out.f 5
    go_wp2
    refine bodyPost_ret (v := .tuple #[.agg #[.int .i64 s, .int .i64 (off + 1), .int .i64 x.next, .slice A x.beyond.length a, .slice B x.points.length b, .int .i64 x.mark], .slice none 0 0]) (by rw [results_ct rfl]; go_simp) rfl ?_
    have key : ∀ W', Off (w.heap.size + 2) 1 W6 W' → RetRead W0 B0 s off x M w (.returned (.tuple #[.agg #[.int .i64 s, .int .i64 (off + 1), .int .i64 x.next, .slice A x.beyond.length a, .slice B x.points.length b, .int .i64 x.mark], .slice none 0 0])) W' := fun W' hO => ⟨x, A, a, B, b, [], .slice none 0 0, rfl, HTX.out W' (hO.below HB6.out (by omega)), HOK.out, Lst.nil, (by decide), (fun i hi => by cases hi), fun h => absurd (HSM.out h).1 (by decide), hO.below HB6.out (by omega)⟩
    exact key _ (by repeat (first | refine Off.set ?_ (by constructor <;> (simp; try omega)) | with_reducible exact Off.refl))
  · have c0 := HT6.out.c 0 _ rfl
    have c1 := HT6.out.c 1 _ rfl
    have c2 := HT6.out.c 2 _ rfl
    have c3 := HT6.out.c 3 _ rfl
    have f2 := HN6.out.f 2
    have f3 := HN6.out.f 3
    have f4 := HN6.out.f 4
    have f5 := HN6.out.f 5
    go_upto_region 8 with (fail)
    obtain ⟨W7, hW7⟩ : ∃ W7, ((((W6.setCell ⟨w.heap.size + 3, 2, none⟩ (.int .i64 y.next)).setCell ⟨w.heap.size + 3, 3, none⟩ (.slice A1 y.beyond.length a1)).setCell ⟨w.heap.size + 3, 4, none⟩ (.slice B1 y.points.length b1)).setCell ⟨w.heap.size + 3, 5, none⟩ (.int .i64 y.mark)) = W7 := ⟨_, rfl⟩
    have q0 : w.heap.size + 3 ≠ w.heap.size := by omega
    have q1 : w.heap.size + 3 ≠ w.heap.size + 1 := by omega
    have q2 : w.heap.size + 3 ≠ w.heap.size + 2 := by omega
    have q3 : w.heap.size + 3 ≠ w5.heap.size := by omega
    have HN7 := hide (show Bl W7 (w.heap.size + 3) [.int .i64 s, .int .i64 (off + 1), .int .i64 y.next, .slice A1 y.beyond.length a1, .slice B1 y.points.length b1, .int .i64 y.mark] by rw [← hW7]; exact (((HN6.out.put (k := 2) (by simp) _).put (k := 3) (by simp) _).put (k := 4) (by simp) _).put (k := 5) (by simp) _)
    have HX7 := hide (show Bl W7 w.heap.size [.int .i64 s, .int .i64 off, .int .i64 x.next, .slice A x.beyond.length a, .slice B x.points.length b, .int .i64 x.mark] by rw [← hW7]; exact ((((HX6.out.far (p := ⟨w.heap.size + 3, 2, none⟩) q0 _).far (p := ⟨w.heap.size + 3, 3, none⟩) q0 _).far (p := ⟨w.heap.size + 3, 4, none⟩) q0 _).far (p := ⟨w.heap.size + 3, 5, none⟩) q0 _))
    have HM7 := hide (show Bl W7 (w.heap.size + 1) [.int .i64 M.k, .int .i64 M.e.a, .int .i64 M.e.b, .int .i64 M.e.c, .int .i64 M.e.d, .slice E M.e.vs.length c, .int .i64 M.s, .int .i64 M.q, .int .i64 M.t] by rw [← hW7]; exact ((((HM6.out.far (p := ⟨w.heap.size + 3, 2, none⟩) q1 _).far (p := ⟨w.heap.size + 3, 3, none⟩) q1 _).far (p := ⟨w.heap.size + 3, 4, none⟩) q1 _).far (p := ⟨w.heap.size + 3, 5, none⟩) q1 _))
    have HZ7 := hide (show Bl W7 (w.heap.size + 2) [.int .i64 0, .int .i64 0, .int .i64 0, .slice none 0 0, .slice none 0 0, .int .i64 0] by rw [← hW7]; exact ((((HZ6.out.far (p := ⟨w.heap.size + 3, 2, none⟩) q2 _).far (p := ⟨w.heap.size + 3, 3, none⟩) q2 _).far (p := ⟨w.heap.size + 3, 4, none⟩) q2 _).far (p := ⟨w.heap.size + 3, 5, none⟩) q2 _))
    have HT7 := hide (show Bl W7 w5.heap.size [.int .i64 y.next, .slice A1 y.beyond.length a1, .slice B1 y.points.length b1, .int .i64 y.mark] by rw [← hW7]; exact ((((HT6.out.far (p := ⟨w.heap.size + 3, 2, none⟩) q3 _).far (p := ⟨w.heap.size + 3, 3, none⟩) q3 _).far (p := ⟨w.heap.size + 3, 4, none⟩) q3 _).far (p := ⟨w.heap.size + 3, 5, none⟩) q3 _))
    have HB7 := hide (show Below w.heap.size w W7 by rw [← hW7]; exact (((HB6.out.setCell (p := ⟨w.heap.size + 3, 2, none⟩) (Nat.le_add_right _ _) _).setCell (p := ⟨w.heap.size + 3, 3, none⟩) (Nat.le_add_right _ _) _).setCell (p := ⟨w.heap.size + 3, 4, none⟩) (Nat.le_add_right _ _) _).setCell (p := ⟨w.heap.size + 3, 5, none⟩) (Nat.le_add_right _ _) _)
    have hs7 : W7.heap.size = W6.heap.size := by rw [← hW7]; simp [World.setCell]
    have HY7 := hide (show TrV W7 (fun k => k < W7.heap.size ∧ (k < B0 ∨ w.heap.size + 4 ≤ k)) A1 a1 B1 b1 y by
      have hz : ∀ k, (k < w5.heap.size ∧ (k < B0 ∨ W4.heap.size ≤ k)) → k ≠ w.heap.size + 3 := fun k hk => by have := HBB0.out; omega
      rw [← hW7]
      exact (HY6.out.keep ((((Kp.set ⟨w.heap.size + 3, 2, none⟩ _ hz).trans (Kp.set ⟨w.heap.size + 3, 3, none⟩ _ hz)).trans (Kp.set ⟨w.heap.size + 3, 4, none⟩ _ hz)).trans (Kp.set ⟨w.heap.size + 3, 5, none⟩ _ hz))).more (fun k hk => by rw [hW7]; omega))
    rw [hW7]
    clear hW7 HN6 HX6 HM6 HZ6 HT6 HB6 HY6 n0 n1 n2 n3 n4 n5 c0 c1 c2 c3 f2 f3 f4 f5 q0 q1 q2 q3
    have HRD := hide (show ∀ (l : List Itm) (v9 : Value) (wn W' : World), Lst wn (fun b => W7.heap.size ≤ b ∧ b < wn.heap.size) 7 (RIt W0) v9 l → Below W7.heap.size W7 wn → l.length ≤ 2 → (∀ i ∈ l, GoodI i) → (SimA s x M → y = ⟨x.next + 1, [], [], x.mark⟩ ∧ l = [⟨0, M.e, 0⟩]) → Off (w.heap.size + 2) 1 wn W' → RetRead W0 B0 s off x M w (.returned (.tuple #[.agg #[.int .i64 s, .int .i64 (off + 1), .int .i64 y.next, .slice A1 y.beyond.length a1, .slice B1 y.points.length b1, .int .i64 y.mark], v9])) W' from fun l v9 wn W' hl hb hl2 hg hsim hO =>
      ⟨y, A1, a1, B1, b1, l, v9, rfl, ((HY7.out.keep (Kp.of_below hb |>.less (fun k hk => hk.1))).keep (hO.kp (fun k hk => by have := HBB0.out; omega))).more (fun k hk => by rw [hO.size]; exact ⟨Nat.lt_of_lt_of_le hk.1 hb.size, by omega⟩), HYO.out, (hl.keep rd_It (hO.kp (fun k hk => by omega))).more rd_It (fun k hk => by rw [hO.size]; omega), hl2, hg, hsim, hO.below (HB7.out.trans (hb.mono HB7.out.size)) (by omega)⟩)
    have HMK := hide (fun (h : x.mark < y.mark) => show 0 ≤ y.mark ∧ y.mark ≤ 1099511627776 from ⟨by have := HOK.out.2.1.1; omega, HYO.out.2.1.2⟩)
    have HNY := hide (show inI y.mark from HY7.out.m)
    have HMI := hide (fun (W : World) (Z : Nat → Prop) => rit_mark (W0 := W0) (w := W) (Z := Z) HNY.out)
    cases f
    · have HNS := hide (show ¬ SimA s x M from fun h => absurd (HSM.out h).2.1 (by decide))
      by_cases hmk : x.mark < y.mark
      · have HBL := hide (below_laid (w := W7) (.cells #[.int .i64 1, .int .i64 0, .int .i64 0, .int .i64 0, .int .i64 0, .slice none 0 0, .int .i64 y.mark] 58)).size
        have n0 := HN7.out.c 0 _ rfl
        have n1 := HN7.out.c 1 _ rfl
        have n2 := HN7.out.c 2 _ rfl
        have n3 := HN7.out.c 3 _ rfl
        have n4 := HN7.out.c 4 _ rfl
        have n5 := HN7.out.c 5 _ rfl
        have z0 := HZ7.out.c 0 _ rfl
        have z1 := HZ7.out.c 1 _ rfl
        have z2 := HZ7.out.c 2 _ rfl
        have z3 := HZ7.out.c 3 _ rfl
        have z4 := HZ7.out.c 4 _ rfl
        have z5 := HZ7.out.c 5 _ rfl
        have g0 := HZ7.out.f 0
        have g1 := HZ7.out.f 1
        have g2 := HZ7.out.f 2
        have g3 := HZ7.out.f 3
        have g4 := HZ7.out.f 4
        have g5 := HZ7.out.f 5
        have c3 := HT7.out.c 3 _ rfl
        have x5 := HX7.out.c 5 _ rfl
        go_wp2_with (at_builtin; go_loud (refine wpList_append_gq rd_It rfl _ _ 43 rfl (fun b => W7.heap.size ≤ b) W7.heap.size 58 i0 _ 7 72 Tryz.underlying43 hi hz0 hz1 hz2 rfl (by decide) (.slice none 0 0) [] rfl Gq.nil W7.heap.size (by simp [Act.eval]) [.int .i64 1, .int .i64 0, .int .i64 0, .int .i64 0, .int .i64 0, .slice none 0 0, .int .i64 y.mark] rfl (cells_lit W7 [.int .i64 1, .int .i64 0, .int .i64 0, .int .i64 0, .int .i64 0, .slice none 0 0, .int .i64 y.mark] 58) (by simp [Value.oneCell']) (markI y.mark) (HMI.out _ _) (fun b hb => Nat.le_trans HBL.out hb) (by simp) (by decide) HBL.out ?_; intro v8 w8 hg8 hgr hbl; have HG8 := hide hg8; have HB8 := hide ((below_laid (w := W7) (.cells #[.int .i64 1, .int .i64 0, .int .i64 0, .int .i64 0, .int .i64 0, .slice none 0 0, .int .i64 y.mark] 58)).trans hbl); clear hg8 hgr hbl; have HN8 := hide (HN7.out.keep HB8.out); have HZ8 := hide (HZ7.out.keep HB8.out); have HT8 := hide (HT7.out.keep HB8.out); have HX8 := hide (HX7.out.keep HB8.out); have n0 := HN8.out.c 0 _ rfl; have n1 := HN8.out.c 1 _ rfl; have n2 := HN8.out.c 2 _ rfl; have n3 := HN8.out.c 3 _ rfl; have n4 := HN8.out.c 4 _ rfl; have n5 := HN8.out.c 5 _ rfl; have z0 := HZ8.out.c 0 _ rfl; have z1 := HZ8.out.c 1 _ rfl; have z2 := HZ8.out.c 2 _ rfl; have z3 := HZ8.out.c 3 _ rfl; have z4 := HZ8.out.c 4 _ rfl; have z5 := HZ8.out.c 5 _ rfl; have g0 := HZ8.out.f 0; have g1 := HZ8.out.f 1; have g2 := HZ8.out.f 2; have g3 := HZ8.out.f 3; have g4 := HZ8.out.f 4; have g5 := HZ8.out.f 5; have c3 := HT8.out.c 3 _ rfl; have x5 := HX8.out.c 5 _ rfl))
        refine bodyPost_ret (v := .tuple #[.agg #[.int .i64 s, .int .i64 (off + 1), .int .i64 y.next, .slice A1 y.beyond.length a1, .slice B1 y.points.length b1, .int .i64 y.mark], v8]) (by rw [results_ct rfl]; go_simp) rfl ?_
        exact HRD.out ([] ++ [markI y.mark]) (v8) w8 _ (HG8.out.lst rd_It (by decide) (by unfold maxLen; simp)) HB8.out (by simp) (fun i hi => by simp at hi; rw [hi]; exact good_mark (HMK.out hmk)) (fun h => absurd h HNS.out) (by repeat (first | refine Off.set ?_ (by constructor <;> (simp; try omega)) | with_reducible exact Off.refl))
      · have n0 := HN7.out.c 0 _ rfl
        have n1 := HN7.out.c 1 _ rfl
        have n2 := HN7.out.c 2 _ rfl
        have n3 := HN7.out.c 3 _ rfl
        have n4 := HN7.out.c 4 _ rfl
        have n5 := HN7.out.c 5 _ rfl
        have z0 := HZ7.out.c 0 _ rfl
        have z1 := HZ7.out.c 1 _ rfl
        have z2 := HZ7.out.c 2 _ rfl
        have z3 := HZ7.out.c 3 _ rfl
        have z4 := HZ7.out.c 4 _ rfl
        have z5 := HZ7.out.c 5 _ rfl
        have g0 := HZ7.out.f 0
        have g1 := HZ7.out.f 1
        have g2 := HZ7.out.f 2
        have g3 := HZ7.out.f 3
        have g4 := HZ7.out.f 4
        have g5 := HZ7.out.f 5
        have c3 := HT7.out.c 3 _ rfl
        have x5 := HX7.out.c 5 _ rfl
        go_wp2
        refine bodyPost_ret (v := .tuple #[.agg #[.int .i64 s, .int .i64 (off + 1), .int .i64 y.next, .slice A1 y.beyond.length a1, .slice B1 y.points.length b1, .int .i64 y.mark], .slice none 0 0]) (by rw [results_ct rfl]; go_simp) rfl ?_
        exact HRD.out [] (.slice none 0 0) W7 _ (Lst.nil) (Below.refl _ _) (by simp) (fun i hi => by cases hi) (fun h => absurd h HNS.out) (by repeat (first | refine Off.set ?_ (by constructor <;> (simp; try omega)) | with_reducible exact Off.refl))
    · have HFE := hide ((HF.out rfl).2)
      have HBL := hide (below_laid (w := W7) (.cells #[.int .i64 0, .int .i64 M.e.a, .int .i64 M.e.b, .int .i64 M.e.c, .int .i64 M.e.d, .slice E M.e.vs.length c, .int .i64 0] 58)).size
      have n0 := HN7.out.c 0 _ rfl
      have n1 := HN7.out.c 1 _ rfl
      have n2 := HN7.out.c 2 _ rfl
      have n3 := HN7.out.c 3 _ rfl
      have n4 := HN7.out.c 4 _ rfl
      have n5 := HN7.out.c 5 _ rfl
      have z0 := HZ7.out.c 0 _ rfl
      have z1 := HZ7.out.c 1 _ rfl
      have z2 := HZ7.out.c 2 _ rfl
      have z3 := HZ7.out.c 3 _ rfl
      have z4 := HZ7.out.c 4 _ rfl
      have z5 := HZ7.out.c 5 _ rfl
      have g0 := HZ7.out.f 0
      have g1 := HZ7.out.f 1
      have g2 := HZ7.out.f 2
      have g3 := HZ7.out.f 3
      have g4 := HZ7.out.f 4
      have g5 := HZ7.out.f 5
      have c3 := HT7.out.c 3 _ rfl
      have x5 := HX7.out.c 5 _ rfl
      have m1 := HM7.out.c 1 _ rfl
      have m2 := HM7.out.c 2 _ rfl
      have m3 := HM7.out.c 3 _ rfl
      have m4 := HM7.out.c 4 _ rfl
      have m5 := HM7.out.c 5 _ rfl
      go_upto_region 10 with (at_builtin; go_loud (refine wpList_append_gq rd_It rfl _ _ 43 rfl (fun b => W7.heap.size ≤ b) W7.heap.size 58 i0 _ 7 72 Tryz.underlying43 hi hz0 hz1 hz2 rfl (by decide) (.slice none 0 0) [] rfl Gq.nil W7.heap.size (by simp [Act.eval]) [.int .i64 0, .int .i64 M.e.a, .int .i64 M.e.b, .int .i64 M.e.c, .int .i64 M.e.d, .slice E M.e.vs.length c, .int .i64 0] rfl (cells_lit W7 [.int .i64 0, .int .i64 M.e.a, .int .i64 M.e.b, .int .i64 M.e.c, .int .i64 M.e.d, .slice E M.e.vs.length c, .int .i64 0] 58) (by simp [Value.oneCell']) (⟨0, M.e, 0⟩) (HEV.out _ _) (fun b hb => Nat.le_trans HBL.out hb) (by simp) (by decide) HBL.out ?_; intro v8 w8 hg8 hgr hbl; have HG8 := hide hg8; have HB8 := hide ((below_laid (w := W7) (.cells #[.int .i64 0, .int .i64 M.e.a, .int .i64 M.e.b, .int .i64 M.e.c, .int .i64 M.e.d, .slice E M.e.vs.length c, .int .i64 0] 58)).trans hbl); clear hg8 hgr hbl; have HN8 := hide (HN7.out.keep HB8.out); have HZ8 := hide (HZ7.out.keep HB8.out); have HT8 := hide (HT7.out.keep HB8.out); have HX8 := hide (HX7.out.keep HB8.out); have n0 := HN8.out.c 0 _ rfl; have n1 := HN8.out.c 1 _ rfl; have n2 := HN8.out.c 2 _ rfl; have n3 := HN8.out.c 3 _ rfl; have n4 := HN8.out.c 4 _ rfl; have n5 := HN8.out.c 5 _ rfl; have z0 := HZ8.out.c 0 _ rfl; have z1 := HZ8.out.c 1 _ rfl; have z2 := HZ8.out.c 2 _ rfl; have z3 := HZ8.out.c 3 _ rfl; have z4 := HZ8.out.c 4 _ rfl; have z5 := HZ8.out.c 5 _ rfl; have g0 := HZ8.out.f 0; have g1 := HZ8.out.f 1; have g2 := HZ8.out.f 2; have g3 := HZ8.out.f 3; have g4 := HZ8.out.f 4; have g5 := HZ8.out.f 5; have c3 := HT8.out.c 3 _ rfl; have x5 := HX8.out.c 5 _ rfl))
      by_cases hmk : x.mark < y.mark
      · have HNS := hide (show ¬ SimA s x M from fun h => by have := (HSM.out h).2.2; rw [this] at hmk; simp at hmk)
        have HBM := hide (below_laid (w := w8) (.cells #[.int .i64 1, .int .i64 0, .int .i64 0, .int .i64 0, .int .i64 0, .slice none 0 0, .int .i64 y.mark] 58))
        have HGM := hide (HG8.out.keep rd_It HBM.out)
        replace HBL := hide (Nat.le_trans HB8.out.size HBM.out.size)
        have hgf := HG8.out
        obtain ⟨A8, c8, e8⟩ := hgf.form
        clear hgf
        subst e8
        go_wp2_with (at_builtin; go_loud (refine wpList_append_gq rd_It rfl _ _ 43 rfl (fun b => W7.heap.size ≤ b) W7.heap.size 58 i0 _ 7 72 Tryz.underlying43 hi hz0 hz1 hz2 rfl (by decide) (.slice A8 ([] ++ [(⟨0, M.e, 0⟩ : Itm)]).length c8) ([] ++ [(⟨0, M.e, 0⟩ : Itm)]) rfl HGM.out w8.heap.size (by simp [Act.eval]) [.int .i64 1, .int .i64 0, .int .i64 0, .int .i64 0, .int .i64 0, .slice none 0 0, .int .i64 y.mark] rfl (cells_lit w8 [.int .i64 1, .int .i64 0, .int .i64 0, .int .i64 0, .int .i64 0, .slice none 0 0, .int .i64 y.mark] 58) (by simp [Value.oneCell']) (markI y.mark) (HMI.out _ _) (fun b hb => Nat.le_trans HBL.out hb) (by simp) (by decide) HBL.out ?_; intro v9 w9 hg9 hgr hbl; have HG9 := hide hg9; have HB9 := hide ((HB8.out.trans (HBM.out.mono HB8.out.size)).trans hbl); clear hg9 hgr hbl; have HN9 := hide (HN7.out.keep HB9.out); have HZ9 := hide (HZ7.out.keep HB9.out); have HT9 := hide (HT7.out.keep HB9.out); have HX9 := hide (HX7.out.keep HB9.out); have n0 := HN9.out.c 0 _ rfl; have n1 := HN9.out.c 1 _ rfl; have n2 := HN9.out.c 2 _ rfl; have n3 := HN9.out.c 3 _ rfl; have n4 := HN9.out.c 4 _ rfl; have n5 := HN9.out.c 5 _ rfl; have z0 := HZ9.out.c 0 _ rfl; have z1 := HZ9.out.c 1 _ rfl; have z2 := HZ9.out.c 2 _ rfl; have z3 := HZ9.out.c 3 _ rfl; have z4 := HZ9.out.c 4 _ rfl; have z5 := HZ9.out.c 5 _ rfl; have g0 := HZ9.out.f 0; have g1 := HZ9.out.f 1; have g2 := HZ9.out.f 2; have g3 := HZ9.out.f 3; have g4 := HZ9.out.f 4; have g5 := HZ9.out.f 5; have c3 := HT9.out.c 3 _ rfl; have x5 := HX9.out.c 5 _ rfl))
        refine bodyPost_ret (v := .tuple #[.agg #[.int .i64 s, .int .i64 (off + 1), .int .i64 y.next, .slice A1 y.beyond.length a1, .slice B1 y.points.length b1, .int .i64 y.mark], v9]) (by rw [results_ct rfl]; go_simp) rfl ?_
        exact HRD.out ([] ++ [⟨0, M.e, 0⟩] ++ [markI y.mark]) (v9) w9 _ (HG9.out.lst rd_It (by decide) (by unfold maxLen; simp)) HB9.out (by simp) (fun i hi => by simp at hi; rcases hi with hi | hi <;> rw [hi] <;> first | exact good_ev HFE.out | exact good_mark (HMK.out hmk)) (fun h => absurd h HNS.out) (by repeat (first | refine Off.set ?_ (by constructor <;> (simp; try omega)) | with_reducible exact Off.refl))
      · go_wp2
        refine bodyPost_ret (v := .tuple #[.agg #[.int .i64 s, .int .i64 (off + 1), .int .i64 y.next, .slice A1 y.beyond.length a1, .slice B1 y.points.length b1, .int .i64 y.mark], v8]) (by rw [results_ct rfl]; go_simp) rfl ?_
        exact HRD.out ([] ++ [⟨0, M.e, 0⟩]) (v8) w8 _ (HG8.out.lst rd_It (by decide) (by unfold maxLen; simp)) HB8.out (by simp) (fun i hi => by simp at hi; rw [hi]; exact good_ev HFE.out) (fun h => ⟨(HSM.out h).2.2, rfl⟩) (by repeat (first | refine Off.set ?_ (by constructor <;> (simp; try omega)) | with_reducible exact Off.refl))
end
end Go.Proofs.YtppaiihcaajkaaaGreat

namespace Go.Proofs.YtppaiihcaajkaaaGreat
open Go.RowKit
set_option linter.unusedVariables false
set_option linter.unusedSimpArgs false
/-- A reader whose lists lie in new memory. -/
def RetOd (s off : Int) (x : Trk) (w : World) (e : Ending) (w' : World) : Prop := ∃ A a B b, e = .returned (.agg #[.int .i64 s, .int .i64 off, .int .i64 x.next, .slice A x.beyond.length a, .slice B x.points.length b, .int .i64 x.mark]) ∧ TrV w' (fun k => w.heap.size ≤ k ∧ k < w'.heap.size) A a B b x ∧ Below w.heap.size w w'
section
variable (w : World)
set_option maxRecDepth 100000 in
set_option maxHeartbeats 16000000 in
theorem rowned_any (s off : Int) (x : Trk) (A B : Option Addr) (a b : Nat) (hx : TrV w (· < w.heap.size) A a B b x) (hm1 : x.beyond.length ≤ 1000) (hm2 : x.points.length ≤ 1000) : Calls Tryz.prog 37 #[.agg #[.int .i64 s, .int .i64 off, .int .i64 x.next, .slice A x.beyond.length a, .slice B x.points.length b, .int .i64 x.mark]] w (RetOd s off x w) := by
  obtain ⟨cu, hcu, hul, hue⟩ := lst_raw one_In hx.u
  obtain ⟨cv, hcv, hvl, hve⟩ := lst_raw one_Pn hx.v
  have HUE := hide hue
  have HVE := hide hve
  have HN := hide (And.intro hx.n hx.m)
  have HCU := hide (fun (w' : World) (h : Below w.heap.size w w') => iclone_any A a cu w' _ (by rw [hul]; exact hcu.keep rd_Wq (Kp.of_below h)) (by omega))
  have HCV := hide (fun (w' : World) (h : Below w.heap.size w w') => pclone_any B b cv w' _ (by rw [hvl]; exact hcv.keep rd_Wq (Kp.of_below h)) (by omega))
  have HUL := hide hul
  have HVL := hide hvl
  rw [hul] at HCU
  rw [hvl] at HCV
  clear hx hcu hcv hue hve hul hvl
  obtain ⟨next, beyond, points, mark⟩ := x
  simp only at *
  obtain ⟨X1, hX1⟩ : ∃ X, X = w.alloc (.cells #[.int .i64 s, .int .i64 off, .int .i64 next, .slice A beyond.length a, .slice B points.length b, .int .i64 mark] 35) := ⟨_, rfl⟩
  have HB1 := hide (show Below w.heap.size w X1 by rw [hX1]; exact below_laid _)
  have HX := hide ((Bl.new w [.int .i64 s, .int .i64 off, .int .i64 next, .slice A beyond.length a, .slice B points.length b, .int .i64 mark] 35).laid (.cells #[.int .i64 0, .int .i64 0, .int .i64 0, .slice none 0 0, .slice none 0 0, .int .i64 0] 35))
  have HZ := hide (Bl.new X1 [.int .i64 0, .int .i64 0, .int .i64 0, .slice none 0 0, .slice none 0 0, .int .i64 0] 35)
  have HB := hide (bthen HB1.out (below_laid (w := X1) (.cells #[.int .i64 0, .int .i64 0, .int .i64 0, .slice none 0 0, .slice none 0 0, .int .i64 0] 35)))
  have HSZ := hide (show X1.heap.size = w.heap.size + 1 by rw [hX1]; simp)
  subst hX1
  obtain ⟨m, hm⟩ : ∃ m, beyond.length = m := ⟨_, rfl⟩
  obtain ⟨n, hn⟩ : ∃ n, points.length = n := ⟨_, rfl⟩
  have HM := hide hm
  have HNN := hide hn
  simp only [hm, hn] at HCU HCV HX HZ HB HB1 HSZ hm1 hm2 ⊢
  clear hm hn
  go_enter Tryz.func37, Tryz.ntmps37
  go_wp2_with fail
  obtain ⟨W2, hW2⟩ : ∃ W2, ((w.alloc (.cells #[.int .i64 s, .int .i64 off, .int .i64 next, .slice A m a, .slice B n b, .int .i64 mark] 35)).alloc (.cells #[.int .i64 0, .int .i64 0, .int .i64 0, .slice none 0 0, .slice none 0 0, .int .i64 0] 35)) = W2 := ⟨_, rfl⟩
  simp only [HSZ.out] at HZ
  rw [hW2] at HX HZ HB ⊢
  clear hW2 HSZ HB1
  have hz2 := HZ.out.lt
  refine wp_region_grow 10 [3, 4, 5, 6, 7, 8, 9, 10, 11, 12] [FixV (.pointer (some ⟨w.heap.size, 2, none⟩)), FixV (.pointer (some ⟨w.heap.size, 3, none⟩)), FixV (.slice A m a), OwnR (w.heap.size + 2) 3 1 cu, FixV (.pointer (some ⟨w.heap.size, 2, none⟩)), FixV (.pointer (some ⟨w.heap.size, 4, none⟩)), FixV (.slice B n b), OwnR (w.heap.size + 2) 84 2 cv, FixV (.pointer (some ⟨w.heap.size, 2, none⟩)), FixV (.pointer (some ⟨w.heap.size, 3, none⟩))] (by kernel_rfl) (by kernel_rfl) (by kernel_rfl) (by kernel_rfl) (by kernel_rfl) ?_ ?_ ?_
  · intro p hp
    simp only [List.mem_cons, List.not_mem_nil, or_false] at hp
    rcases hp with rfl | rfl | rfl | rfl | rfl | rfl | rfl | rfl | rfl | rfl
    all_goals first | exact (fun _ _ _ _ h => h) | exact (fun _ _ _ hb h => own_keep h hb)
  · intro j9 o9 hj9 ho x w5 hb hd
    have hjc : j9 = 0 ∨ j9 = 1 ∨ j9 = 2 ∨ j9 = 3 ∨ j9 = 4 ∨ j9 = 5 ∨ j9 = 6 ∨ j9 = 7 ∨ j9 = 8 ∨ j9 = 9 := by omega
    have hbw := bthen HB.out hb
    have hz5 := hb.size
    have x0 := keep1 hb (HX.out.c 0 _ rfl)
    have x1 := keep1 hb (HX.out.c 1 _ rfl)
    have x2 := keep1 hb (HX.out.c 2 _ rfl)
    have x3 := keep1 hb (HX.out.c 3 _ rfl)
    have x4 := keep1 hb (HX.out.c 4 _ rfl)
    have x5 := keep1 hb (HX.out.c 5 _ rfl)
    rcases hjc with rfl | rfl | rfl | rfl | rfl | rfl | rfl | rfl | rfl | rfl
    all_goals obtain rfl := Option.some.inj ho
    all_goals generalize hK : (fun (a' : Act) (w' : World) => _) = K
    all_goals simp only [puts]
    · go_simp
      rw [← hK]
      exact ⟨.pointer (some ⟨w.heap.size, 2, none⟩), (by simp only [puts]; go_simp), Below.refl _ _, rfl⟩
    · have e3 : x 3 = .pointer (some ⟨w.heap.size, 2, none⟩) := hd 0 (by kernel_rfl)
      go_simp
      rw [← hK]
      exact ⟨.pointer (some ⟨w.heap.size, 3, none⟩), (by simp only [puts]; go_simp), Below.refl _ _, rfl⟩
    · have e4 : x 4 = .pointer (some ⟨w.heap.size, 3, none⟩) := hd 1 (by kernel_rfl)
      go_simp
      rw [← hK]
      exact ⟨.slice A m a, (by simp only [puts]; go_simp), Below.refl _ _, rfl⟩
    · have e5 : x 5 = .slice A m a := hd 2 (by kernel_rfl)
      have HC := hide (HCU.out w5 hbw)
      go_simp
      go_at_call 48
      refine HC.out.mono ?_
      rintro en9 w9 ⟨v9, rfl, hown, hbc⟩
      rw [← hK]
      exact ⟨v9, (by simp only [puts]; go_simp), hbc, own_more hown (by omega)⟩
    · go_simp
      rw [← hK]
      exact ⟨.pointer (some ⟨w.heap.size, 2, none⟩), (by simp only [puts]; go_simp), Below.refl _ _, rfl⟩
    · have e7 : x 7 = .pointer (some ⟨w.heap.size, 2, none⟩) := hd 4 (by kernel_rfl)
      go_simp
      rw [← hK]
      exact ⟨.pointer (some ⟨w.heap.size, 4, none⟩), (by simp only [puts]; go_simp), Below.refl _ _, rfl⟩
    · have e8 : x 8 = .pointer (some ⟨w.heap.size, 4, none⟩) := hd 5 (by kernel_rfl)
      go_simp
      rw [← hK]
      exact ⟨.slice B n b, (by simp only [puts]; go_simp), Below.refl _ _, rfl⟩
    · have e9 : x 9 = .slice B n b := hd 6 (by kernel_rfl)
      have HC := hide (HCV.out w5 hbw)
      go_simp
      go_at_call 49
      refine HC.out.mono ?_
      rintro en9 w9 ⟨v9, rfl, hown, hbc⟩
      rw [← hK]
      exact ⟨v9, (by simp only [puts]; go_simp), hbc, own_more hown (by omega)⟩
    · go_simp
      rw [← hK]
      exact ⟨.pointer (some ⟨w.heap.size, 2, none⟩), (by simp only [puts]; go_simp), Below.refl _ _, rfl⟩
    · have e11 : x 11 = .pointer (some ⟨w.heap.size, 2, none⟩) := hd 8 (by kernel_rfl)
      go_simp
      rw [← hK]
      exact ⟨.pointer (some ⟨w.heap.size, 3, none⟩), (by simp only [puts]; go_simp), Below.refl _ _, rfl⟩
  · intro x w9 hb hP
    have e3 : x 3 = .pointer (some ⟨w.heap.size, 2, none⟩) := hP 0 (by decide)
    have e4 : x 4 = .pointer (some ⟨w.heap.size, 3, none⟩) := hP 1 (by decide)
    have e5 : x 5 = .slice A m a := hP 2 (by decide)
    have p6 : (OwnR (w.heap.size + 2) 3 1 cu) w9 (x 6) := hP 3 (by decide)
    have e7 : x 7 = .pointer (some ⟨w.heap.size, 2, none⟩) := hP 4 (by decide)
    have e8 : x 8 = .pointer (some ⟨w.heap.size, 4, none⟩) := hP 5 (by decide)
    have e9 : x 9 = .slice B n b := hP 6 (by decide)
    have p10 : (OwnR (w.heap.size + 2) 84 2 cv) w9 (x 10) := hP 7 (by decide)
    have e11 : x 11 = .pointer (some ⟨w.heap.size, 2, none⟩) := hP 8 (by decide)
    have e12 : x 12 = .pointer (some ⟨w.heap.size, 3, none⟩) := hP 9 (by decide)
    have hu : w9.ownsRow (w.heap.size + 2) 3 1 (x 6) cu.length cu.flatten := p6
    have hv : w9.ownsRow (w.heap.size + 2) 84 2 (x 10) cv.length cv.flatten := p10
    have hLU := lst_own (R := RIn) (fun h => h) (by decide) hu HUL.out (by have := HM.out; unfold maxLen; omega) HUE.out
    have hLV := lst_own (R := RPn) (fun h => h) (by decide) hv HVL.out (by have := HNN.out; unfold maxLen; omega) HVE.out
    obtain ⟨A1, a1, e6⟩ := hLU.form
    obtain ⟨B1, b1, e10⟩ := hLV.form
    rw [e6] at hLU
    rw [e10] at hLV
    rw [HM.out] at e6
    rw [HNN.out] at e10
    have HLU := hide hLU
    have HLV := hide hLV
    have HX9 := hide (HX.out.keep hb)
    have HZ9 := hide (HZ.out.keep hb)
    have HB9 := hide (bthen HB.out hb)
    have hz9 := hb.size
    clear hP hb hu hv hLU hLV p6 p10
    have x0 := HX9.out.c 0 _ rfl
    have x1 := HX9.out.c 1 _ rfl
    have x2 := HX9.out.c 2 _ rfl
    have x3 := HX9.out.c 3 _ rfl
    have x4 := HX9.out.c 4 _ rfl
    have x5 := HX9.out.c 5 _ rfl
    have f3 := HX9.out.f 3
    have f4 := HX9.out.f 4
    have z0 := HZ9.out.c 0 _ rfl
    have g0 := HZ9.out.f 0
    have z1 := HZ9.out.c 1 _ rfl
    have g1 := HZ9.out.f 1
    have z2 := HZ9.out.c 2 _ rfl
    have g2 := HZ9.out.f 2
    have z3 := HZ9.out.c 3 _ rfl
    have g3 := HZ9.out.f 3
    have z4 := HZ9.out.c 4 _ rfl
    have g4 := HZ9.out.f 4
    have z5 := HZ9.out.c 5 _ rfl
    have g5 := HZ9.out.f 5
    simp only [puts, Act.put, List.setIfInBounds_toArray, List.set_cons_succ, List.set_cons_zero, List.drop]
    go_wp2
    refine bodyPost_ret (v := .agg #[.int .i64 s, .int .i64 off, .int .i64 next, .slice A1 m a1, .slice B1 n b1, .int .i64 mark]) (by rw [results_c rfl]; go_simp) rfl ?_
    have key : ∀ W', Off w.heap.size 2 w9 W' → RetOd s off ⟨next, beyond, points, mark⟩ w (.returned (.agg #[.int .i64 s, .int .i64 off, .int .i64 next, .slice A1 m a1, .slice B1 n b1, .int .i64 mark])) W' := fun W' hO =>
      ⟨A1, a1, B1, b1, by simp only [HM.out, HNN.out], ⟨(HLU.out.keep rd_In (hO.kp (fun k hk => .inr hk.1))).more rd_In (fun k hk => ⟨by omega, by rw [hO.size]; exact hk.2⟩), (HLV.out.keep rd_Pn (hO.kp (fun k hk => .inr hk.1))).more rd_Pn (fun k hk => ⟨by omega, by rw [hO.size]; exact hk.2⟩), HN.out.1, HN.out.2⟩, hO.below HB9.out (Nat.le_refl _)⟩
    exact key _ (by repeat (first | refine Off.set ?_ (by constructor <;> simp) | with_reducible exact Off.refl))
end
end Go.Proofs.YtppaiihcaajkaaaGreat

namespace Go.Proofs.YtppaiihcaajkaaaGreat
open Go.RowKit
set_option linter.unusedVariables false
set_option linter.unusedSimpArgs false
def RetRdr (W0 : World) (s : Int) (o : Nat) (x : Trk) (M : Msg) (w : World) (e : Ending) (w' : World) : Prop := ∃ (y : Trk) (A : Option Addr) (a : Nat) (B : Option Addr) (b : Nat) (l : List Itm) (v : Value), e = .returned (.tuple #[.agg #[.int .i64 s, .int .i64 ((o : Int) + 1), .int .i64 y.next, .slice A y.beyond.length a, .slice B y.points.length b, .int .i64 y.mark], v, .int .i64 0]) ∧
  TrV w' (fun k => w.heap.size ≤ k ∧ k < w'.heap.size) A a B b y ∧ TrkOK y ∧ Lst w' (fun k => w.heap.size ≤ k ∧ k < w'.heap.size) 7 (RIt W0) v l ∧ l.length ≤ 2 ∧ (∀ i ∈ l, GoodI i) ∧ (SimA s x M → y = ⟨x.next + 1, [], [], x.mark⟩ ∧ l = [⟨0, M.e, 0⟩]) ∧ Below w.heap.size w w'
theorem Bl.put6 {w : World} {b : Nat} {z0 z1 z2 z3 z4 z5 : Value} (h : Bl w b [z0, z1, z2, z3, z4, z5]) (u0 u1 u2 u3 u4 u5 : Value) : Bl ((((((w.setCell ⟨b, 0, none⟩ u0).setCell ⟨b, 1, none⟩ u1).setCell ⟨b, 2, none⟩ u2).setCell ⟨b, 3, none⟩ u3).setCell ⟨b, 4, none⟩ u4).setCell ⟨b, 5, none⟩ u5) b [u0, u1, u2, u3, u4, u5] := (((((h.put (k := 0) (by simp) _).put (k := 1) (by simp) _).put (k := 2) (by simp) _).put (k := 3) (by simp) _).put (k := 4) (by simp) _).put (k := 5) (by simp) _
theorem off_put6 {w : World} {b : Nat} (u0 u1 u2 u3 u4 u5 : Value) : Off b 1 w ((((((w.setCell ⟨b, 0, none⟩ u0).setCell ⟨b, 1, none⟩ u1).setCell ⟨b, 2, none⟩ u2).setCell ⟨b, 3, none⟩ u3).setCell ⟨b, 4, none⟩ u4).setCell ⟨b, 5, none⟩ u5) := by
  repeat (first | refine Off.set ?_ (by constructor <;> simp) | with_reducible exact Off.refl)
theorem trv_laid {w : World} {Z : Nat → Prop} {A B : Option Addr} {a b : Nat} {y : Trk} (h : TrV w Z A a B b y) (hz : ∀ k, Z k → k < w.heap.size) (o : Obj) : TrV (w.alloc o) (· < (w.alloc o).heap.size) A a B b y :=
  (h.keep (Kp.of_below (below_laid o) |>.less hz)).more (fun k hk => Nat.lt_of_lt_of_le (hz k hk) (below_laid (w := w) o).size)
theorem lst_laid {α : Type} {R : World → (Nat → Prop) → List Value → α → Prop} (hR : Rd R) {w : World} {Z Y : Nat → Prop} {sz : Nat} {v : Value} {l : List α} (h : Lst w Z sz R v l) (hz : ∀ k, Z k → Y k ∧ k < w.heap.size) (o : Obj) : Lst (w.alloc o) (fun k => Y k ∧ k < (w.alloc o).heap.size) sz R v l :=
  (h.keep hR (Kp.of_below (below_laid o) |>.less (fun k hk => (hz k hk).2))).more hR (fun k hk => ⟨(hz k hk).1, Nat.lt_of_lt_of_le (hz k hk).2 (below_laid (w := w) o).size⟩)
section
variable (w : World)
set_option maxRecDepth 100000 in
set_option maxHeartbeats 32000000 in
theorem rread_any (W0 : World) (hW : Below W0.heap.size W0 w) (v : Value) (hT : There RSc 2 w v TT) (s : Int) (hs : s = 0 ∨ s = 1) (o : Nat) (x : Trk) (A B C : Option Addr) (a b c : Nat) (log : List Msg) (hx : TrV w (· < w.heap.size) A a B b x) (hok : TrkOK x) (hl : Lst w (· < w.heap.size) 9 (RMs W0) (.slice C log.length c) log) (hn : log.length ≤ 4096) (ho : o < log.length) :
    Calls Tryz.prog 22 #[v, .agg #[.int .i64 s, .int .i64 (o : Int), .int .i64 x.next, .slice A x.beyond.length a, .slice B x.points.length b, .int .i64 x.mark], .slice C log.length c] w (RetRdr W0 s o x log[o] w) := by
  have HTY := hide (fun (w1 : World) (hb : Below w.heap.size w w1) => types_any w1 TT v (There.keep rd_Sc hT hb))
  rw [tt_ok] at HTY
  have HCK := hide (fun (w1 : World) (hb : Below w.heap.size w w1) => rchk_any w1 s (o : Int) x A B C a b c log.length 1 (hx.below hb) (by omega) (by omega) (by omega) (by omega) hok (by omega) (by omega) (by omega))
  obtain ⟨M, hM⟩ : ∃ M, log[o] = M := ⟨_, rfl⟩
  obtain ⟨g0, off0, xs, rfl, hg0, hxl, hc, hR⟩ := hl.at_ ho
  rw [hM] at hR ⊢
  obtain ⟨E, cE, rfl, hE, hNM⟩ := hR
  have HRD := hide (fun (w1 : World) (hb : Below w.heap.size w w1) => read_any w1 W0 (hW.trans (hb.mono hW.size)) v (There.keep rd_Sc hT hb) s hs (o : Int) (by omega) (by omega) x A B E a b cE w.heap.size M (hx.keep (Kp.of_below hb)) hb.size hok hNM hE)
  have HOD := hide (fun (w1 : World) (y : Trk) (A B : Option Addr) (a b : Nat) (hy : TrV w1 (· < w1.heap.size) A a B b y) (hyo : TrkOK y) => rowned_any w1 s ((o : Int) + 1) y A B a b hy (Nat.le_trans hyo.1.2.2.1 (by decide)) (Nat.le_trans hyo.2.2.1 (by decide)))
  have HK := hide (fun (w1 : World) (hb : Below w.heap.size w w1) (k : Nat) (u : Value) (hu : [.int .i64 M.k, .int .i64 M.e.a, .int .i64 M.e.b, .int .i64 M.e.c, .int .i64 M.e.d, .slice E M.e.vs.length cE, .int .i64 M.s, .int .i64 M.q, .int .i64 M.t][k]? = some u) => keep1 hb (hc k u hu))
  have HG0 := hide hg0
  obtain ⟨X1, hX1⟩ : ∃ X1, w.alloc (.cells #[.int .i64 s, .int .i64 (o : Int), .int .i64 x.next, .slice A x.beyond.length a, .slice B x.points.length b, .int .i64 x.mark] 35) = X1 := ⟨_, rfl⟩
  obtain ⟨W2, hW2⟩ : ∃ W2, X1.alloc (.cells #[.int .i64 0, .int .i64 0, .int .i64 0, .slice none 0 0, .slice none 0 0, .int .i64 0] 35) = W2 := ⟨_, rfl⟩
  have hs1 : X1.heap.size = w.heap.size + 1 := by rw [← hX1]; simp
  have hs2 : W2.heap.size = w.heap.size + 2 := by rw [← hW2]; simp [hs1]
  have HX := hide (show Bl W2 w.heap.size [.int .i64 s, .int .i64 (o : Int), .int .i64 x.next, .slice A x.beyond.length a, .slice B x.points.length b, .int .i64 x.mark] by rw [← hW2, ← hX1]; exact (Bl.new w _ _).laid _)
  have HZ := hide (show Bl W2 (w.heap.size + 1) [.int .i64 0, .int .i64 0, .int .i64 0, .slice none 0 0, .slice none 0 0, .int .i64 0] by rw [← hW2, ← hs1]; exact Bl.new X1 _ _)
  have HB := hide (show Below w.heap.size w W2 by rw [← hW2, ← hX1]; exact bthen (below_laid _) (below_laid _))
  have HWW := hide (show (w.alloc (.cells #[.int .i64 s, .int .i64 (o : Int), .int .i64 x.next, .slice A x.beyond.length a, .slice B x.points.length b, .int .i64 x.mark] 35)).alloc (.cells #[.int .i64 0, .int .i64 0, .int .i64 0, .slice none 0 0, .slice none 0 0, .int .i64 0] 35) = W2 by rw [hX1, hW2])
  have hi0 : (0 : Int) ≤ (o : Int) := by omega
  obtain ⟨n, hn1⟩ : ∃ n, log.length = n := ⟨_, rfl⟩
  rw [hn1] at HCK ho ⊢
  have hi1 : (o : Int) < (n : Int) := by omega
  have tlen : decide ((n : Int) ≤ (o : Int)) = false := decide_eq_false (by omega)
  clear hs1 hX1 hW2 hT hx hok hl hM hE hNM hW hs hc hxl hg0 hn hn1 ho
  go_enter Tryz.func22, Tryz.ntmps22
  go_upto_region 1 with (fail)
  rw [HWW.out]
  have HTY2 := hide (HTY.out W2 HB.out)
  clear HWW HTY
  go_wp2_with fail
  refine HTY2.out.mono ?_
  rintro e3 w3 ⟨rfl, hb3⟩
  have HX3 := hide (HX.out.keep hb3)
  have HZ3 := hide (HZ.out.keep hb3)
  have HB3 := hide (bthen HB.out hb3)
  have HCK3 := hide (HCK.out w3 HB3.out)
  have hz3 := hb3.size
  clear hb3 HTY2 HCK HX HZ HB
  have x0 := HX3.out.c 0 _ rfl
  have x1 := HX3.out.c 1 _ rfl
  have x2 := HX3.out.c 2 _ rfl
  have x3 := HX3.out.c 3 _ rfl
  have x4 := HX3.out.c 4 _ rfl
  have x5 := HX3.out.c 5 _ rfl
  go_wp2_with fail
  refine HCK3.out.mono ?_
  rintro e4 w4 ⟨rfl, hb4⟩
  have HX4 := hide (HX3.out.keep hb4)
  have HZ4 := hide (HZ3.out.keep hb4)
  have HB4 := hide (bthen HB3.out hb4)
  have hz4 := hb4.size
  clear hb4 HCK3 HX3 HZ3 HB3 x0 x1 x2 x3 x4 x5
  go_upto_region 7 with (fail)
  have x0 := HX4.out.c 0 _ rfl
  have x1 := HX4.out.c 1 _ rfl
  have x2 := HX4.out.c 2 _ rfl
  have x3 := HX4.out.c 3 _ rfl
  have x4 := HX4.out.c 4 _ rfl
  have x5 := HX4.out.c 5 _ rfl
  have k0 := HK.out w4 HB4.out 0 _ rfl
  have k1 := HK.out w4 HB4.out 1 _ rfl
  have k2 := HK.out w4 HB4.out 2 _ rfl
  have k3 := HK.out w4 HB4.out 3 _ rfl
  have k4 := HK.out w4 HB4.out 4 _ rfl
  have k5 := HK.out w4 HB4.out 5 _ rfl
  have k6 := HK.out w4 HB4.out 6 _ rfl
  have k7 := HK.out w4 HB4.out 7 _ rfl
  have k8 := HK.out w4 HB4.out 8 _ rfl
  rw [Nat.add_zero] at k0
  have hg4 : g0 < w4.heap.size := by have := HG0.out; omega
  have hnx : w4.heap.size ≠ w.heap.size := by omega
  have hng : w4.heap.size ≠ g0 := by omega
  go_cut [11, 12] from 26 to 36 (fun p q wx => ∃ (b11 : Nat) (y : Trk) (A1 B1 : Option Addr) (a1 b1 : Nat) (l : List Itm) (v9 : Value), p = .pointer (some ⟨b11, 0, none⟩) ∧ q = v9 ∧ Hid (w4.heap.size ≤ b11 ∧ Bl wx b11 [.int .i64 s, .int .i64 ((o : Int) + 1), .int .i64 y.next, .slice A1 y.beyond.length a1, .slice B1 y.points.length b1, .int .i64 y.mark] ∧ TrV wx (· < wx.heap.size) A1 a1 B1 b1 y ∧ Lst wx (fun k => w4.heap.size ≤ k ∧ k < wx.heap.size) 7 (RIt W0) v9 l ∧ Below w4.heap.size w4 wx) ∧ Hid (TrkOK y ∧ l.length ≤ 2 ∧ (∀ i ∈ l, GoodI i) ∧ (SimA s x M → y = ⟨x.next + 1, [], [], x.mark⟩ ∧ l = [⟨0, M.e, 0⟩])))
  case first =>
    go_region_held3 (fun w' => w'.cell? ⟨w.heap.size, 0, none⟩ = some (.int .i64 s) ∧ w'.cell? ⟨w.heap.size, 1, none⟩ = some (.int .i64 (o : Int)) ∧ w'.cell? ⟨w.heap.size, 2, none⟩ = some (.int .i64 x.next) ∧ w'.cell? ⟨w.heap.size, 3, none⟩ = some (.slice A x.beyond.length a) ∧ w'.cell? ⟨w.heap.size, 4, none⟩ = some (.slice B x.points.length b) ∧ w'.cell? ⟨w.heap.size, 5, none⟩ = some (.int .i64 x.mark) ∧ w'.cell? ⟨g0, off0 + o * 9, none⟩ = some (.int .i64 M.k) ∧ w'.cell? ⟨g0, off0 + o * 9 + 1, none⟩ = some (.int .i64 M.e.a) ∧ w'.cell? ⟨g0, off0 + o * 9 + 2, none⟩ = some (.int .i64 M.e.b) ∧ w'.cell? ⟨g0, off0 + o * 9 + 3, none⟩ = some (.int .i64 M.e.c) ∧ w'.cell? ⟨g0, off0 + o * 9 + 4, none⟩ = some (.int .i64 M.e.d) ∧ w'.cell? ⟨g0, off0 + o * 9 + 5, none⟩ = some (.slice E M.e.vs.length cE) ∧ w'.cell? ⟨g0, off0 + o * 9 + 6, none⟩ = some (.int .i64 M.s) ∧ w'.cell? ⟨g0, off0 + o * 9 + 7, none⟩ = some (.int .i64 M.q) ∧ w'.cell? ⟨g0, off0 + o * 9 + 8, none⟩ = some (.int .i64 M.t))
      (first | with_reducible exact ⟨keep1 hk x0, keep1 hk x1, keep1 hk x2, keep1 hk x3, keep1 hk x4, keep1 hk x5, keep1 hk k0, keep1 hk k1, keep1 hk k2, keep1 hk k3, keep1 hk k4, keep1 hk k5, keep1 hk k6, keep1 hk k7, keep1 hk k8⟩ | with_reducible exact ⟨keep1 (hold_alloc hk _) x0, keep1 (hold_alloc hk _) x1, keep1 (hold_alloc hk _) x2, keep1 (hold_alloc hk _) x3, keep1 (hold_alloc hk _) x4, keep1 (hold_alloc hk _) x5, keep1 (hold_alloc hk _) k0, keep1 (hold_alloc hk _) k1, keep1 (hold_alloc hk _) k2, keep1 (hold_alloc hk _) k3, keep1 (hold_alloc hk _) k4, keep1 (hold_alloc hk _) k5, keep1 (hold_alloc hk _) k6, keep1 (hold_alloc hk _) k7, keep1 (hold_alloc hk _) k8⟩ | (go_keep; done))
      ((go_at_call 36; refine (HRD.out _ (by first | exact HB4.out.drew | exact bthen HB4.out.drew (below_laid _) | exact (bthen HB4.out (below_laid _)).drew | exact bthen HB4.out (below_laid _))).mono ?_; rintro e5 w5 ⟨y, A1, a1, B1, b1, l, v9, rfl, hy, hyo, hl, hl2, hg, hsim, hb5⟩; have hk : Below w4.heap.size w4 w5 := (by first | exact below_undrew hb5 | exact below_undrew (bthen (below_laid _) hb5) | exact bthen (below_laid _) (below_undrew hb5) | exact bthen (below_laid _) hb5); have HY := hide hy; have HL := hide hl; have HP := hide (And.intro hyo (And.intro hl2 (And.intro hg hsim))); have hz5 := hk.size; (try (have HYZ := hide (show TrV w5 (fun k => k < w5.heap.size ∧ k ≠ w4.heap.size) A1 a1 B1 b1 y from HY.out.more (fun k hk => ⟨hk.1, by have := hk.2; simp at this; omega⟩)); have HLZ := hide (show Lst w5 (fun k => w4.heap.size + 1 ≤ k ∧ k < w5.heap.size) 7 (RIt W0) v9 l from HL.out.more rd_It (fun k hk => ⟨by have := hk.1; simp at this; omega, hk.2⟩)))); (try (have HBY : Hid (Bl w5 w4.heap.size [.int .i64 0, .int .i64 0, .int .i64 0, .slice none 0 0, .slice none 0 0, .int .i64 0]) := hide (by first | exact (Bl.new w4.drew [.int .i64 0, .int .i64 0, .int .i64 0, .slice none 0 0, .slice none 0 0, .int .i64 0] 35).keep hb5 | exact (Bl.new w4 [.int .i64 0, .int .i64 0, .int .i64 0, .slice none 0 0, .slice none 0 0, .int .i64 0] 35).drew.keep hb5 | exact (Bl.new w4 [.int .i64 0, .int .i64 0, .int .i64 0, .slice none 0 0, .slice none 0 0, .int .i64 0] 35).keep hb5); have z0 := HBY.out.c 0 _ rfl; have zf0 := HBY.out.f 0; have z1 := HBY.out.c 1 _ rfl; have zf1 := HBY.out.f 1; have z2 := HBY.out.c 2 _ rfl; have zf2 := HBY.out.f 2; have z3 := HBY.out.c 3 _ rfl; have zf3 := HBY.out.f 3; have z4 := HBY.out.c 4 _ rfl; have zf4 := HBY.out.f 4; have z5 := HBY.out.c 5 _ rfl; have zf5 := HBY.out.f 5)); clear hb5 hy hl hyo hl2 hg hsim))
    all_goals
      go_wp2_with fail
      go_meet
      first
        | (have hway := HLZ; clear hway; exact ⟨w4.heap.size, y, A1, B1, a1, b1, l, v9, rfl, rfl, hide ⟨Nat.le_refl _, HBY.out.put6 _ _ _ _ _ _, (HYZ.out.keep ((off_put6 _ _ _ _ _ _).kp (fun k hk => by omega))).more (fun k hk => by rw [(off_put6 _ _ _ _ _ _).size]; exact hk.1), (HLZ.out.keep rd_It ((off_put6 _ _ _ _ _ _).kp (fun k hk => by omega))).more rd_It (fun k hk => by rw [(off_put6 _ _ _ _ _ _).size]; omega), (off_put6 _ _ _ _ _ _).below hk (Nat.le_refl _)⟩, HP⟩)
        | exact ⟨w5.heap.size, y, A1, B1, a1, b1, l, v9, rfl, rfl, hide ⟨hz5, Bl.new w5 _ _, trv_laid HY.out (fun k hk => hk.1) _, lst_laid rd_It HL.out (fun k hk => ⟨hk.1, hk.2⟩) _, hold_alloc hk _⟩, HP⟩
  case rest =>
    obtain ⟨b11, y, A1, B1, a1, b1, l, v9, rfl, rfl, HH, HP⟩ := hcut
    obtain ⟨W5, hW5⟩ : ∃ W5, wc = W5 := ⟨_, rfl⟩
    rw [hW5] at HH ⊢
    have hh := HH.out
    have HBN := hide hh.2.1
    have HL := hide hh.2.2.2.1
    have HB5 := hide (bthen HB4.out hh.2.2.2.2)
    have HZ5 := hide (HZ4.out.keep hh.2.2.2.2)
    have HOD5 := hide (HOD.out W5 y A1 B1 a1 b1 hh.2.2.1 HP.out.1)
    have hz5 := hh.2.2.2.2.size
    clear hh HH hW5 x0 x1 x2 x3 x4 x5 k0 k1 k2 k3 k4 k5 k6 k7 k8
    have n0 := HBN.out.c 0 _ rfl
    have n1 := HBN.out.c 1 _ rfl
    have n2 := HBN.out.c 2 _ rfl
    have n3 := HBN.out.c 3 _ rfl
    have n4 := HBN.out.c 4 _ rfl
    have n5 := HBN.out.c 5 _ rfl
    go_wp2_with fail
    refine HOD5.out.mono ?_
    rintro e6 w6 ⟨A2, a2, B2, b2, rfl, hy2, hb6⟩
    have HY2 := hide hy2
    have HL6 := hide (HL.out.keep rd_It (Kp.of_below hb6 |>.less (fun k hk => hk.2)))
    have HB6 := hide (bthen HB5.out hb6)
    have HZ6 := hide (HZ5.out.keep hb6)
    have hz6 := hb6.size
    clear hy2 hb6 HOD5 HOD HBN HL n0 n1 n2 n3 n4 n5
    have z0 := HZ6.out.c 0 _ rfl
    have g0 := HZ6.out.f 0
    have z1 := HZ6.out.c 1 _ rfl
    have g1 := HZ6.out.f 1
    have z2 := HZ6.out.c 2 _ rfl
    have g2 := HZ6.out.f 2
    have z3 := HZ6.out.c 3 _ rfl
    have g3 := HZ6.out.f 3
    have z4 := HZ6.out.c 4 _ rfl
    have g4 := HZ6.out.f 4
    have z5 := HZ6.out.c 5 _ rfl
    have g5 := HZ6.out.f 5
    go_wp2
    refine bodyPost_ret (v := .tuple #[.agg #[.int .i64 s, .int .i64 ((o : Int) + 1), .int .i64 y.next, .slice A2 y.beyond.length a2, .slice B2 y.points.length b2, .int .i64 y.mark], u12, .int .i64 0]) (by rw [results_ctt rfl]; go_simp) rfl ?_
    have key : ∀ W', Off (w.heap.size + 1) 1 w6 W' → RetRdr W0 s o x M w (.returned (.tuple #[.agg #[.int .i64 s, .int .i64 ((o : Int) + 1), .int .i64 y.next, .slice A2 y.beyond.length a2, .slice B2 y.points.length b2, .int .i64 y.mark], u12, .int .i64 0])) W' := fun W' hO =>
      ⟨y, A2, a2, B2, b2, l, u12, rfl, (HY2.out.keep (hO.kp (fun k hk => by omega))).more (fun k hk => by rw [hO.size]; omega), HP.out.1, (HL6.out.keep rd_It (hO.kp (fun k hk => by omega))).more rd_It (fun k hk => by rw [hO.size]; omega), HP.out.2.1, HP.out.2.2.1, HP.out.2.2.2, hO.below HB6.out (by omega)⟩
    exact key _ (by repeat (first | refine Off.set ?_ (by constructor <;> (simp; try omega)) | with_reducible exact Off.refl))
end
end Go.Proofs.YtppaiihcaajkaaaGreat
