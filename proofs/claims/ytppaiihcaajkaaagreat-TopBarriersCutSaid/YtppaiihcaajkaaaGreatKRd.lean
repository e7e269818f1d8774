/- reader: Begin, Check, check, Left. -/
import Derived.Test.YtppaiihcaajkaaaGreatKChN
import Derived.Test.YtppaiihcaajkaaaGreatKWm8
import Derived.Test.YtppaiihcaajkaaaGreatKEvtM
namespace Go.Proofs.YtppaiihcaajkaaaGreat
open Go.RowKit
set_option linter.unusedVariables false
set_option linter.unusedSimpArgs false
def rdr (s off : Int) (x : Trk) (A : Option Addr) (a : Nat) (B : Option Addr) (b : Nat) : Value := .agg #[.int .i64 s, .int .i64 off, .int .i64 x.next, .slice A x.beyond.length a, .slice B x.points.length b, .int .i64 x.mark]
theorem results_ct {fn : Func} {p q : Tmp} {ty : TypeId} (h : fn.results = #[.cell p ty, .tmp q]) (tmps : Array Value) (P : Program) (w : World) :
    (results fn tmps).run P w = ((asAddr (tmps.getD p undef)).run P w).andThen fun a w₁ => ((loadVar ty a).run P w₁).andThen fun v w₂ => .ok (.tuple #[v, tmps.getD q undef]) w₂ := by
  simp only [results, h]
  simp [Sem.run_bind, Result.andThen]
section
variable (w : World)
set_option maxRecDepth 100000 in
set_option maxHeartbeats 8000000 in
theorem rbegin_any (s : Int) (h0 : 0 ≤ s) (h8 : s < 8) : Calls Tryz.prog 16 #[.int .i64 s] w (Ret (.tuple #[.agg #[.int .i64 s, .int .i64 0, .int .i64 0, .slice none 0 0, .slice none 0 0, .int .i64 (-1)], .int .i64 0]) w) := by
  have HSB := hide (fun (w1 : World) => sbegin_any w1)
  have HX := hide (Bl.new w [.int .i64 0, .int .i64 0, .int .i64 0, .slice none 0 0, .slice none 0 0, .int .i64 0] 35)
  have HB := hide (below_laid (w := w) (.cells #[.int .i64 0, .int .i64 0, .int .i64 0, .slice none 0 0, .slice none 0 0, .int .i64 0] 35))
  go_enter Tryz.func16, Tryz.ntmps16
  go_upto_region 1 with (fail)
  obtain ⟨W1, hW1⟩ : ∃ W1, w.alloc (.cells #[.int .i64 0, .int .i64 0, .int .i64 0, .slice none 0 0, .slice none 0 0, .int .i64 0] 35) = W1 := ⟨_, rfl⟩
  rw [hW1] at HX HB ⊢
  clear hW1
  go_wp2_with (go_at_call 28; refine (HSB.out _).mono ?_; rintro e1 w1 ⟨rfl, hb1⟩; have HX2 := hide (HX.out.keep hb1); have HB1 := hide (bthen HB.out hb1); clear hb1; have x0 := HX2.out.c 0 _ rfl; have x1 := HX2.out.c 1 _ rfl; have x2 := HX2.out.c 2 _ rfl; have x3 := HX2.out.c 3 _ rfl; have x4 := HX2.out.c 4 _ rfl; have x5 := HX2.out.c 5 _ rfl; have f0 := HX2.out.f 0; have f1 := HX2.out.f 1; have f2 := HX2.out.f 2; have f3 := HX2.out.f 3; have f4 := HX2.out.f 4; have f5 := HX2.out.f 5; have lb := HX2.out.lt)
  refine bodyPost_ret (v := .tuple #[.agg #[.int .i64 s, .int .i64 0, .int .i64 0, .slice none 0 0, .slice none 0 0, .int .i64 (-1)], .int .i64 0]) (by rw [results_ct rfl]; go_simp) rfl ?_
  exact ⟨rfl, Below.setCell (Below.setCell (Below.setCell (Below.setCell (Below.setCell (Below.setCell HB1.out (Nat.le_refl _) _) (Nat.le_refl _) _) (Nat.le_refl _) _) (Nat.le_refl _) _) (Nat.le_refl _) _) (Nat.le_refl _) _⟩
set_option maxRecDepth 100000 in
set_option maxHeartbeats 8000000 in
theorem rcheck_any' (s off : Int) (x : Trk) (A B : Option Addr) (a b : Nat) (hx : TrV w (· < w.heap.size) A a B b x) (h0 : 0 ≤ s) (h8 : s < 8) (ho : 0 ≤ off) (hm : off ≤ 4096) (hok : TrkOK x) :
    Calls Tryz.prog 45 #[.agg #[.int .i64 s, .int .i64 off, .int .i64 x.next, .slice A x.beyond.length a, .slice B x.points.length b, .int .i64 x.mark]] w (Ret (.int .i64 0) w) := by
  have HPC := hide (fun (w1 : World) (hb : Below w.heap.size w w1) => pcheck_any w1 x A B a b (hx.below hb))
  have HX := hide (Bl.new w [.int .i64 s, .int .i64 off, .int .i64 x.next, .slice A x.beyond.length a, .slice B x.points.length b, .int .i64 x.mark] 35)
  have HB := hide (below_laid (w := w) (.cells #[.int .i64 s, .int .i64 off, .int .i64 x.next, .slice A x.beyond.length a, .slice B x.points.length b, .int .i64 x.mark] 35))
  have HOK := hide hok
  clear hx
  obtain ⟨OK, hOK⟩ : ∃ OK, TrkOK x = OK := ⟨_, rfl⟩
  rw [hOK] at HPC HOK
  clear hOK hok
  obtain ⟨next, beyond, points, mark⟩ := x
  simp only at HPC HX HB ⊢
  obtain ⟨la, hla⟩ : ∃ n, beyond.length = n := ⟨_, rfl⟩
  obtain ⟨lb, hlb⟩ : ∃ n, points.length = n := ⟨_, rfl⟩
  simp only [hla, hlb] at HPC HX HB ⊢
  clear hla hlb
  go_enter Tryz.func45, Tryz.ntmps45
  go_upto_region 1 with (fail)
  obtain ⟨W1, hW1⟩ : ∃ W1, w.alloc (.cells #[.int .i64 s, .int .i64 off, .int .i64 next, .slice A la a, .slice B lb b, .int .i64 mark] 35) = W1 := ⟨_, rfl⟩
  rw [hW1] at HX HB ⊢
  clear hW1
  have HPC1 := hide (HPC.out W1 HB.out)
  have x0 := HX.out.c 0 _ rfl
  have x1 := HX.out.c 1 _ rfl
  have x2 := HX.out.c 2 _ rfl
  have x3 := HX.out.c 3 _ rfl
  have x4 := HX.out.c 4 _ rfl
  have x5 := HX.out.c 5 _ rfl
  go_wp2_with (go_at_call 64; refine HPC1.out.mono ?_; rintro e2 w2 ⟨e, rfl, he, hb2⟩; obtain rfl : e = 0 := he.2 HOK.out; have HB2 := hide (bthen HB.out hb2); clear he hb2)
  go_ret
  exact ⟨rfl, HB2.out⟩
set_option maxRecDepth 100000 in
set_option maxHeartbeats 8000000 in
theorem rchk_any (s off : Int) (x : Trk) (A B C : Option Addr) (a b c n : Nat) (least : Int) (hx : TrV w (· < w.heap.size) A a B b x) (h0 : 0 ≤ s) (h8 : s < 8) (ho : 0 ≤ off) (hm : off ≤ 4096) (hok : TrkOK x) (hn : n ≤ 4096) (hl : least ≤ n - off) (hl0 : 0 ≤ least) :
    Calls Tryz.prog 34 #[.agg #[.int .i64 s, .int .i64 off, .int .i64 x.next, .slice A x.beyond.length a, .slice B x.points.length b, .int .i64 x.mark], .slice C n c, .int .i64 least] w (Ret (.int .i64 0) w) := by
  have HRC := hide (fun (w1 : World) (hb : Below w.heap.size w w1) => rcheck_any' w1 s off x A B a b (hx.below hb) h0 h8 ho hm hok)
  have HX := hide (Bl.new w [.int .i64 s, .int .i64 off, .int .i64 x.next, .slice A x.beyond.length a, .slice B x.points.length b, .int .i64 x.mark] 35)
  have HB := hide (below_laid (w := w) (.cells #[.int .i64 s, .int .i64 off, .int .i64 x.next, .slice A x.beyond.length a, .slice B x.points.length b, .int .i64 x.mark] 35))
  clear hx hok
  obtain ⟨next, beyond, points, mark⟩ := x
  simp only at HRC HX HB ⊢
  obtain ⟨la, hla⟩ : ∃ n, beyond.length = n := ⟨_, rfl⟩
  obtain ⟨lb, hlb⟩ : ∃ n, points.length = n := ⟨_, rfl⟩
  simp only [hla, hlb] at HRC HX HB ⊢
  clear hla hlb
  go_enter Tryz.func34, Tryz.ntmps34
  go_upto_region 1 with (fail)
  obtain ⟨W1, hW1⟩ : ∃ W1, w.alloc (.cells #[.int .i64 s, .int .i64 off, .int .i64 next, .slice A la a, .slice B lb b, .int .i64 mark] 35) = W1 := ⟨_, rfl⟩
  rw [hW1] at HX HB ⊢
  clear hW1
  have HRC1 := hide (HRC.out W1 HB.out)
  have x0 := HX.out.c 0 _ rfl
  have x1 := HX.out.c 1 _ rfl
  have x2 := HX.out.c 2 _ rfl
  have x3 := HX.out.c 3 _ rfl
  have x4 := HX.out.c 4 _ rfl
  have x5 := HX.out.c 5 _ rfl
  go_wp2_with (go_at_call 45; refine HRC1.out.mono ?_; rintro e2 w2 ⟨rfl, hb2⟩; have HX2 := hide (HX.out.keep hb2); have HB2 := hide (bthen HB.out hb2); clear hb2 x0 x1 x2 x3 x4 x5; have x1 := HX2.out.c 1 _ rfl)
  go_ret
  exact ⟨rfl, HB2.out⟩
set_option maxRecDepth 100000 in
set_option maxHeartbeats 8000000 in
theorem rleft_any (s off : Int) (x : Trk) (A B C : Option Addr) (a b c n : Nat) (hx : TrV w (· < w.heap.size) A a B b x) (h0 : 0 ≤ s) (h8 : s < 8) (ho : 0 ≤ off) (hm : off ≤ n) (hok : TrkOK x) (hn : n ≤ 4096) :
    Calls Tryz.prog 21 #[.agg #[.int .i64 s, .int .i64 off, .int .i64 x.next, .slice A x.beyond.length a, .slice B x.points.length b, .int .i64 x.mark], .slice C n c] w (Ret (.tuple #[.int .i64 ((n : Int) - off), .int .i64 0]) w) := by
  have HRC := hide (fun (w1 : World) (hb : Below w.heap.size w w1) => rchk_any w1 s off x A B C a b c n 0 (hx.below hb) h0 h8 ho (by omega) hok hn (by omega) (by omega))
  have HX := hide (Bl.new w [.int .i64 s, .int .i64 off, .int .i64 x.next, .slice A x.beyond.length a, .slice B x.points.length b, .int .i64 x.mark] 35)
  have HB := hide (below_laid (w := w) (.cells #[.int .i64 s, .int .i64 off, .int .i64 x.next, .slice A x.beyond.length a, .slice B x.points.length b, .int .i64 x.mark] 35))
  clear hx hok
  obtain ⟨next, beyond, points, mark⟩ := x
  simp only at HRC HX HB ⊢
  obtain ⟨la, hla⟩ : ∃ n, beyond.length = n := ⟨_, rfl⟩
  obtain ⟨lb, hlb⟩ : ∃ n, points.length = n := ⟨_, rfl⟩
  simp only [hla, hlb] at HRC HX HB ⊢
  clear hla hlb
  go_enter Tryz.func21, Tryz.ntmps21
  go_upto_region 1 with (fail)
  obtain ⟨W1, hW1⟩ : ∃ W1, w.alloc (.cells #[.int .i64 s, .int .i64 off, .int .i64 next, .slice A la a, .slice B lb b, .int .i64 mark] 35) = W1 := ⟨_, rfl⟩
  rw [hW1] at HX HB ⊢
  clear hW1
  have HRC1 := hide (HRC.out W1 HB.out)
  have x0 := HX.out.c 0 _ rfl
  have x1 := HX.out.c 1 _ rfl
  have x2 := HX.out.c 2 _ rfl
  have x3 := HX.out.c 3 _ rfl
  have x4 := HX.out.c 4 _ rfl
  have x5 := HX.out.c 5 _ rfl
  go_wp2_with (go_at_call 34; refine HRC1.out.mono ?_; rintro e2 w2 ⟨rfl, hb2⟩; have HX2 := hide (HX.out.keep hb2); have HB2 := hide (bthen HB.out hb2); clear hb2 x0 x1 x2 x3 x4 x5; have x1 := HX2.out.c 1 _ rfl)
  go_ret2
  exact ⟨rfl, HB2.out⟩
end
end Go.Proofs.YtppaiihcaajkaaaGreat
