/- watermark.receive: written by genWm7.py. -/
import Derived.Test.YtppaiihcaajkaaaGreatKWmM
import Derived.Deep.CutRange
namespace Go.Proofs.YtppaiihcaajkaaaGreat
open Go.RowKit
set_option linter.unusedVariables false
set_option linter.unusedSimpArgs false
/-- An error, if S is false; or the trackers with one of them turned. -/
def RetRw (S : Prop) (P : Bool → Trk → Prop) (l : List Trk) (i : Nat) (w : World) (e : Ending) (w' : World) : Prop :=
  (∃ n : Int, n ≠ 0 ∧ e = .returned (.tuple #[.slice none 0 0, .bool false, .int .i64 n]) ∧ ¬ S ∧ Below w.heap.size w w') ∨
  (∃ f y g c, e = .returned (.tuple #[.slice (some ⟨g, 0, none⟩) l.length c, .bool f, .int .i64 0]) ∧ Gq w' (fun _ => True) w.heap.size 33 4 RTr (.slice (some ⟨g, 0, none⟩) l.length c) (l.set i y) ∧ P f y ∧ Below w.heap.size w w')
/-- One shape for both outcomes. -/
def OneRc (Z : Nat → Prop) (S : Prop) (P : Bool → Trk → Prop) (w' : World) (n i j : Int) (f : Bool) (A B : Option Addr) (la a lb b : Nat) : Prop :=
  (n ≠ 0 ∧ ¬ S) ∨ (n = 0 ∧ ∃ x : Trk, x.next = i ∧ x.mark = j ∧ x.beyond.length = la ∧ x.points.length = lb ∧ TrV w' Z A a B b x ∧ P f x)
theorem RetRc.one {B0 : Nat} {S : Prop} {P : Bool → Trk → Prop} {w w' : World} {e : Ending} (h : RetRc B0 S P w e w') : ∃ (n i j : Int) (f : Bool) (A B : Option Addr) (la a lb b : Nat), e = .returned (.tuple #[.agg #[.int .i64 i, .slice A la a, .slice B lb b, .int .i64 j], .bool f, .int .i64 n]) ∧ OneRc (fun k => k < w'.heap.size ∧ (k < B0 ∨ w.heap.size ≤ k)) S P w' n i j f A B la a lb b ∧ Below w.heap.size w w' := by
  rcases h with ⟨n, i, j, f, A, B, la, a, lb, b, hn, rfl, hs, hb⟩ | ⟨f, x, A, a, B, b, rfl, hT, hp, hb⟩
  · exact ⟨n, i, j, f, A, B, la, a, lb, b, rfl, .inl ⟨hn, hs⟩, hb⟩
  · exact ⟨0, x.next, x.mark, f, A, B, _, a, _, b, rfl, .inr ⟨rfl, x, rfl, rfl, rfl, rfl, hT, hp⟩, hb⟩
theorem OneRc.turn {Z Z' : Nat → Prop} {S : Prop} {P : Bool → Trk → Prop} {w w' : World} {n i j : Int} {f : Bool} {A B : Option Addr} {la a lb b : Nat} (h : OneRc Z S P w n i j f A B la a lb b) (hk : Kp Z w w') (hz : ∀ k, Z k → Z' k) : OneRc Z' S P w' n i j f A B la a lb b := by
  rcases h with h | ⟨h1, x, h2, h3, h4, h5, h6, h7⟩
  · exact .inl h
  · exact .inr ⟨h1, x, h2, h3, h4, h5, (h6.keep hk).more hz, h7⟩
theorem Bl.put4 {w : World} {b : Nat} {z0 z1 z2 z3 : Value} (h : Bl w b [z0, z1, z2, z3]) (u0 u1 u2 u3 : Value) : Bl ((((w.setCell ⟨b, 0, none⟩ u0).setCell ⟨b, 1, none⟩ u1).setCell ⟨b, 2, none⟩ u2).setCell ⟨b, 3, none⟩ u3) b [u0, u1, u2, u3] := (((h.put (k := 0) (by simp) _).put (k := 1) (by simp) _).put (k := 2) (by simp) _).put (k := 3) (by simp) _
theorem kp_put4 {w : World} {Z : Nat → Prop} {b : Nat} (hz : ∀ k, Z k → k ≠ b) (u0 u1 u2 u3 : Value) : Kp Z w ((((w.setCell ⟨b, 0, none⟩ u0).setCell ⟨b, 1, none⟩ u1).setCell ⟨b, 2, none⟩ u2).setCell ⟨b, 3, none⟩ u3) := (((Kp.set ⟨b, 0, none⟩ _ hz).trans (Kp.set ⟨b, 1, none⟩ _ hz)).trans (Kp.set ⟨b, 2, none⟩ _ hz)).trans (Kp.set ⟨b, 3, none⟩ _ hz)
theorem below_put4 {w a : World} {B b : Nat} (h : Below B a w) (hb : B ≤ b) (u0 u1 u2 u3 : Value) : Below B a ((((w.setCell ⟨b, 0, none⟩ u0).setCell ⟨b, 1, none⟩ u1).setCell ⟨b, 2, none⟩ u2).setCell ⟨b, 3, none⟩ u3) := (((h.setCell (p := ⟨b, 0, none⟩) hb _).setCell (p := ⟨b, 1, none⟩) hb _).setCell (p := ⟨b, 2, none⟩) hb _).setCell (p := ⟨b, 3, none⟩) hb _
theorem below_put4' {w a : World} {B b o : Nat} (h : Below B a w) (hb : B ≤ b) (u0 u1 u2 u3 : Value) : Below B a (storeN w b o [u0, u1, u2, u3]) := (((h.setCell (p := ⟨b, o, none⟩) hb _).setCell (p := ⟨b, o + 1, none⟩) hb _).setCell (p := ⟨b, o + 1 + 1, none⟩) hb _).setCell (p := ⟨b, o + 1 + 1 + 1, none⟩) hb _
theorem list4 {ys : List Value} (h : ys.length = 4) : ∃ a b c d, ys = [a, b, c, d] := by
  rcases ys with _ | ⟨a, _ | ⟨b, _ | ⟨c, _ | ⟨d, _ | ⟨e, r⟩⟩⟩⟩⟩ <;> simp at h
  exact ⟨a, b, c, d, rfl⟩
theorem size_put4 {w : World} {b : Nat} (u0 u1 u2 u3 : Value) : ((((w.setCell ⟨b, 0, none⟩ u0).setCell ⟨b, 1, none⟩ u1).setCell ⟨b, 2, none⟩ u2).setCell ⟨b, 3, none⟩ u3).heap.size = w.heap.size := by simp [World.setCell]
def SimW (x : Trk) (M : Msg) : Prop := M.k = 0 ∧ PassE M ∧ Sim x M
def PosW (x : Trk) (M : Msg) (f : Bool) (y : Trk) : Prop := TrkOK y ∧ (f = true → M.k = 0) ∧ (SimW x M → f = true ∧ y = ⟨x.next + 1, [], [], x.mark⟩)
theorem results_ttt {fn : Func} {p u v : Tmp} (h : fn.results = #[.tmp p, .tmp u, .tmp v]) (tmps : Array Value) (P : Program) (w : World) :
    (results fn tmps).run P w = .ok (.tuple #[tmps.getD p undef, tmps.getD u undef, tmps.getD v undef]) w := by
  simp only [results, h]
  simp [Sem.run_bind, Result.andThen]
theorem hold_alloc {W w2 : World} (hk : Below W.heap.size W w2) (o : Obj) : Below W.heap.size W (w2.alloc o) := hk.alloc hk.size o
section
variable (w : World)
set_option maxRecDepth 100000 in
set_option maxHeartbeats 32000000 in
theorem wreceive_any (l : List Trk) (i : Nat) (M : Msg) (A E : Option Addr) (c cc : Nat) (hl : Lst w (· < w.heap.size) 4 RTr (.slice A l.length c) l) (h8 : l.length ≤ 8) (hok : ∀ x ∈ l, TrkOK x) (hi : i < l.length) (hsrc : (if M.k = 0 then M.e.a else M.s) = (i : Int)) (hM : NumM M) : Calls Tryz.prog 84 #[.slice A l.length c, .agg #[.int .i64 M.k, .int .i64 M.e.a, .int .i64 M.e.b, .int .i64 M.e.c, .int .i64 M.e.d, .slice E M.e.vs.length cc, .int .i64 M.s, .int .i64 M.q, .int .i64 M.t]] w (RetRw (SimW l[i] M) (PosW l[i] M) l i w) := by
  obtain ⟨x, hx⟩ : ∃ x, l[i] = x := ⟨_, rfl⟩
  have hxo : TrkOK x := by rw [← hx]; exact hok _ (List.getElem_mem hi)
  obtain ⟨S, hS⟩ : ∃ S, SimW x M = S := ⟨_, rfl⟩
  obtain ⟨P, hP⟩ : ∃ P, PosW x M = P := ⟨_, rfl⟩
  obtain ⟨g0, off0, xs, hA, hg0, hxl, hc, hR⟩ := hl.at_ hi
  rw [hx] at hR ⊢
  rw [hS, hP]
  obtain ⟨A1, a1, B1, b1, rfl, hT⟩ := hR.tv
  have HREV := hide (fun (w1 : World) (hb : Below w.heap.size w w1) => revent_any w1 x M A1 B1 E a1 b1 cc w.heap.size (hT.keep (Kp.of_below hb)) hb.size hxo hM)
  have HRPT := hide (fun (w1 : World) (hb : Below w.heap.size w w1) => rpoint_any w1 x M A1 B1 E a1 b1 cc w.heap.size (hT.keep (Kp.of_below hb)) hb.size hxo ⟨hM.q, hM.t⟩)
  have HCM := hide (fun (w1 : World) => checkmsg_any w1 M E cc hM)
  have HS1 := hide (fun (w1 : World) => ksrc1_any w1 M E cc)
  have HS2 := hide (fun (w1 : World) => ksrc2_any w1 M E cc)
  have HSP := hide (show S → M.k = 0 ∧ PassE M ∧ Sim x M by rw [← hS]; exact fun h => h)
  have HPP := hide (show ∀ f y, P f y ↔ (TrkOK y ∧ (f = true → M.k = 0) ∧ (S → f = true ∧ y = ⟨x.next + 1, [], [], x.mark⟩)) by intro f y; rw [← hP, ← hS]; exact Iff.rfl)
  have HTE := hide (show ∀ Z w' n' i' j' f' A' B' la a' lb b', M.k = 0 → OneRc Z (Sim x M) (fun f y => TrkOK y ∧ (Sim x M → f = true ∧ y = ⟨x.next + 1, [], [], x.mark⟩)) w' n' i' j' f' A' B' la a' lb b' → OneRc Z S P w' n' i' j' f' A' B' la a' lb b' from fun Z w' n' i' j' f' A' B' la a' lb b' hk h => by
    rcases h with ⟨h1, h2⟩ | ⟨h1, y, h2, h3, h4, h5, h6, h7⟩
    · exact .inl ⟨h1, fun hs => h2 (HSP.out hs).2.2⟩
    · exact .inr ⟨h1, y, h2, h3, h4, h5, h6, (HPP.out f' y).2 ⟨h7.1, fun _ => hk, fun hs => h7.2 (HSP.out hs).2.2⟩⟩)
  have HTP := hide (show ∀ Z w' n' i' j' f' A' B' la a' lb b', M.k = 1 → OneRc Z False (fun f y => f = false ∧ TrkOK y) w' n' i' j' f' A' B' la a' lb b' → OneRc Z S P w' n' i' j' f' A' B' la a' lb b' from fun Z w' n' i' j' f' A' B' la a' lb b' hk h => by
    have hns : ¬ S := fun hs => by have := (HSP.out hs).1; omega
    rcases h with ⟨h1, h2⟩ | ⟨h1, y, h2, h3, h4, h5, h6, h7⟩
    · exact .inl ⟨h1, hns⟩
    · exact .inr ⟨h1, y, h2, h3, h4, h5, h6, (HPP.out f' y).2 ⟨h7.2, fun hf => (by rw [h7.1] at hf; cases hf), fun hs => absurd hs hns⟩⟩)
  obtain ⟨cl, hcl, hcll, hcle⟩ := lst_raw one_Tr hl
  have HCL := hide (fun (w' : World) (h : Below w.heap.size w w') => tclone_any A c cl w' _ (by rw [hcll]; exact hcl.keep rd_Wq (Kp.of_below h)) (by omega))
  have HCE := hide hcle
  have HCA := hide (raw_len_all hcl)
  have HCN := hide hcll
  have HK0 := hide (And.intro (hc 0 _ rfl) (And.intro (hc 1 _ rfl) (And.intro (hc 2 _ rfl) (hc 3 _ rfl))))
  have HG0 := hide hg0
  have HX := hide (Bl.new w [.int .i64 M.k, .int .i64 M.e.a, .int .i64 M.e.b, .int .i64 M.e.c, .int .i64 M.e.d, .slice E M.e.vs.length cc, .int .i64 M.s, .int .i64 M.q, .int .i64 M.t] 54)
  have HB := hide (below_laid (w := w) (.cells #[.int .i64 M.k, .int .i64 M.e.a, .int .i64 M.e.b, .int .i64 M.e.c, .int .i64 M.e.d, .slice E M.e.vs.length cc, .int .i64 M.s, .int .i64 M.q, .int .i64 M.t] 54))
  have HI := hide hi
  rw [hcll] at HCL
  clear hx hxo hS hP hl hok hR hT hc hxl hM hcl hcll hcle hg0
  subst hA
  obtain ⟨m, hm⟩ : ∃ m, l.length = m := ⟨_, rfl⟩
  have HML := hide hm
  obtain ⟨xn, xb, xp, xm⟩ := x
  obtain ⟨k, ⟨ea, eb, ec, ed, vs⟩, s, q, t⟩ := M
  simp only at HREV HRPT HCM HS1 HS2 HSP HPP HTE HTP HK0 HX HB hsrc ⊢
  obtain ⟨bl, hbl⟩ : ∃ bl, xb.length = bl := ⟨_, rfl⟩
  obtain ⟨pl, hpl⟩ : ∃ pl, xp.length = pl := ⟨_, rfl⟩
  obtain ⟨el, hel⟩ : ∃ el, vs.length = el := ⟨_, rfl⟩
  simp only [hm, hbl, hpl, hel] at HREV HRPT HCM HS1 HS2 HCL HK0 HX HB hi h8 ⊢
  clear hm hbl hpl hel
  have hi0 : (0 : Int) ≤ (i : Int) := by omega
  have hi1 : (i : Int) < (m : Int) := by omega
  have tlen : decide ((m : Int) ≤ (i : Int)) = false := decide_eq_false (by omega)
  go_enter Tryz.func84, Tryz.ntmps84
  go_upto_region 1 with (fail)
  obtain ⟨W1, hW1⟩ : ∃ W1, w.alloc (.cells #[.int .i64 k, .int .i64 ea, .int .i64 eb, .int .i64 ec, .int .i64 ed, .slice E el cc, .int .i64 s, .int .i64 q, .int .i64 t] 54) = W1 := ⟨_, rfl⟩
  rw [hW1] at HX HB ⊢
  clear hW1
  have HCM1 := hide (HCM.out W1)
  have x0 := HX.out.c 0 _ rfl
  have x1 := HX.out.c 1 _ rfl
  have x2 := HX.out.c 2 _ rfl
  have x3 := HX.out.c 3 _ rfl
  have x4 := HX.out.c 4 _ rfl
  have x5 := HX.out.c 5 _ rfl
  have x6 := HX.out.c 6 _ rfl
  have x7 := HX.out.c 7 _ rfl
  have x8 := HX.out.c 8 _ rfl
  go_wp2_with fail
  refine HCM1.out.mono ?_
  rintro e1 w1 ⟨n1, rfl, ⟨hn1, hn2⟩, hb1⟩
  have HX1 := hide (HX.out.keep hb1)
  have HB1 := hide (bthen HB.out hb1)
  clear hb1 x0 x1 x2 x3 x4 x5 x6 x7 x8 HCM HCM1 HX HB
  by_cases he : n1 = 0
  · obtain rfl := he
    have HKK := hide (hn1 rfl)
    clear hn1 hn2
    have hkk := HKK.out
    clear HKK
    rcases hkk with rfl | rfl
    · go_wp2_with fail
      refine wp_region_grow 5 [19, 20, 21, 22, 8] [FixV (.agg #[.func (.func 95) #[] #[], .func (.func 96) #[] #[], .func (.func 97) #[] #[], .func (.func 98) #[] #[], .func (.func 99) #[] #[], .func (.func 100) #[] #[]]), FixV (.pointer (some ⟨w.heap.size, 0, none⟩)), FixV (.int .i64 0), FixV (.agg #[.func (.func 95) #[] #[], .func (.func 96) #[] #[], .func (.func 97) #[] #[]]), NewB w1.heap.size [Value.nilFunc, Value.nilFunc, Value.nilFunc]] (by kernel_rfl) (by kernel_rfl) (by kernel_rfl) (by kernel_rfl) (by kernel_rfl) ?_ ?_ ?_
      · intro p hp
        simp only [List.mem_cons, List.not_mem_nil, or_false] at hp
        rcases hp with rfl | rfl | rfl | rfl | rfl
        all_goals first | exact (fun _ _ _ _ h => h) | exact (fun _ _ _ hb h => NewB.keep h hb)
      · intro j9 o9 hj9 ho x w5 hb hd
        have hjc : j9 = 0 ∨ j9 = 1 ∨ j9 = 2 ∨ j9 = 3 ∨ j9 = 4 := by omega
        have hbw := bthen HB1.out hb
        have hz5 := hb.size
        have c0 := keep1 hb (HX1.out.c 0 _ rfl)
        rcases hjc with rfl | rfl | rfl | rfl | rfl
        all_goals obtain rfl := Option.some.inj ho
        all_goals generalize hK : (fun (a' : Act) (w' : World) => _) = K
        all_goals simp only [puts]
        · go_simp
          go_at_call 82
          refine (kinds_any w5).mono ?_
          rintro en9 w10 ⟨rfl, hbc⟩
          rw [← hK]
          exact ⟨.agg #[.func (.func 95) #[] #[], .func (.func 96) #[] #[], .func (.func 97) #[] #[], .func (.func 98) #[] #[], .func (.func 99) #[] #[], .func (.func 100) #[] #[]], (by simp only [puts]; go_simp), hbc, rfl⟩
        · go_simp
          rw [← hK]
          exact ⟨.pointer (some ⟨w.heap.size, 0, none⟩), (by simp only [puts]; go_simp), Below.refl _ _, rfl⟩
        · have e20 : x 20 = .pointer (some ⟨w.heap.size, 0, none⟩) := hd 1 (by kernel_rfl)
          go_simp
          rw [← hK]
          exact ⟨.int .i64 0, (by simp only [puts]; go_simp), Below.refl _ _, rfl⟩
        · have e19 : x 19 = .agg #[.func (.func 95) #[] #[], .func (.func 96) #[] #[], .func (.func 97) #[] #[], .func (.func 98) #[] #[], .func (.func 99) #[] #[], .func (.func 100) #[] #[]] := hd 0 (by kernel_rfl)
          have e21 : x 21 = .int .i64 0 := hd 2 (by kernel_rfl)
          go_simp
          rw [← hK]
          exact ⟨.agg #[.func (.func 95) #[] #[], .func (.func 96) #[] #[], .func (.func 97) #[] #[]], (by simp only [puts]; go_simp; kernel_rfl), Below.refl _ _, rfl⟩
        · go_simp
          rw [← hK]
          exact ⟨.pointer (some ⟨w5.heap.size, 0, none⟩), (by simp only [puts]; go_simp), below_laid _, w5.heap.size, rfl, hz5, Bl.new w5 [Value.nilFunc, Value.nilFunc, Value.nilFunc] 159⟩
      · intro x w9 hb hP
        have e19 : x 19 = .agg #[.func (.func 95) #[] #[], .func (.func 96) #[] #[], .func (.func 97) #[] #[], .func (.func 98) #[] #[], .func (.func 99) #[] #[], .func (.func 100) #[] #[]] := hP 0 (by decide)
        have e20 : x 20 = .pointer (some ⟨w.heap.size, 0, none⟩) := hP 1 (by decide)
        have e21 : x 21 = .int .i64 0 := hP 2 (by decide)
        have e22 : x 22 = .agg #[.func (.func 95) #[] #[], .func (.func 96) #[] #[], .func (.func 97) #[] #[]] := hP 3 (by decide)
        have p8 : (NewB w1.heap.size [Value.nilFunc, Value.nilFunc, Value.nilFunc]) w9 (x 8) := hP 4 (by decide)
        obtain ⟨b8, e8, hb8, hz8⟩ := p8
        have hw1 := HX1.out.lt
        have HX2 := hide (HX1.out.keep hb)
        have HB2 := hide (bthen HB1.out hb)
        have HF2 := hide hz8
        clear hP hb hz8
        have z0 := HF2.out.c 0 _ rfl
        have z1 := HF2.out.c 1 _ rfl
        have z2 := HF2.out.c 2 _ rfl
        have g0' := HF2.out.f 0
        have g1' := HF2.out.f 1
        have g2' := HF2.out.f 2
        simp only [puts, Act.put, List.setIfInBounds_toArray, List.set_cons_succ, List.set_cons_zero, List.drop]
        go_upto_region 5 with (fail)
        obtain ⟨W3, hW3⟩ : ∃ W3, ((w9.setCell ⟨b8, 0, none⟩ (.func (.func 95) #[] #[])).setCell ⟨b8, 1, none⟩ (.func (.func 96) #[] #[])).setCell ⟨b8, 2, none⟩ (.func (.func 97) #[] #[]) = W3 := ⟨_, rfl⟩
        have hne : b8 ≠ w.heap.size := by omega
        have HF3 := hide (show Bl W3 b8 [.func (.func 95) #[] #[], .func (.func 96) #[] #[], .func (.func 97) #[] #[]] by rw [← hW3]; exact ((HF2.out.put (k := 0) (by simp) _).put (k := 1) (by simp) _).put (k := 2) (by simp) _)
        have HX3 := hide (show Bl W3 w.heap.size [.int .i64 0, .int .i64 ea, .int .i64 eb, .int .i64 ec, .int .i64 ed, .slice E el cc, .int .i64 s, .int .i64 q, .int .i64 t] by rw [← hW3]; exact ((HX2.out.far (p := ⟨b8, 0, none⟩) hne _).far (p := ⟨b8, 1, none⟩) hne _).far (p := ⟨b8, 2, none⟩) hne _)
        have HB3 := hide (show Below w.heap.size w W3 by rw [← hW3]; exact ((HB2.out.setCell (p := ⟨b8, 0, none⟩) (by show w.heap.size ≤ b8; omega) _).setCell (p := ⟨b8, 1, none⟩) (by show w.heap.size ≤ b8; omega) _).setCell (p := ⟨b8, 2, none⟩) (by show w.heap.size ≤ b8; omega) _)
        rw [hW3]
        clear hW3 z0 z1 z2 g0' g1' g2' HX1 HB1 HX2 HB2 HF2
        have x0 := HX3.out.c 0 _ rfl
        have x1 := HX3.out.c 1 _ rfl
        have x2 := HX3.out.c 2 _ rfl
        have x3 := HX3.out.c 3 _ rfl
        have x4 := HX3.out.c 4 _ rfl
        have x5 := HX3.out.c 5 _ rfl
        have x6 := HX3.out.c 6 _ rfl
        have x7 := HX3.out.c 7 _ rfl
        have x8 := HX3.out.c 8 _ rfl
        have f1 := HF3.out.c 1 _ rfl
        have HSR := hide (HS1.out W3)
        go_wp2_with fail
        refine HSR.out.mono ?_
        rintro e4 w4 ⟨rfl, hb4⟩
        have HF4 := hide (HF3.out.keep hb4)
        have HX4 := hide (HX3.out.keep hb4)
        have HB4 := hide (bthen HB3.out hb4)
        clear hb4 x0 x1 x2 x3 x4 x5 x6 x7 x8 f1 HSR HX3 HB3 HF3
        have hse : ea = (i : Int) := by simpa using hsrc
        subst hse
        go_upto_region 8 with (fail)
        have x0 := HX4.out.c 0 _ rfl
        have x1 := HX4.out.c 1 _ rfl
        have x2 := HX4.out.c 2 _ rfl
        have x3 := HX4.out.c 3 _ rfl
        have x4 := HX4.out.c 4 _ rfl
        have x5 := HX4.out.c 5 _ rfl
        have x6 := HX4.out.c 6 _ rfl
        have x7 := HX4.out.c 7 _ rfl
        have x8 := HX4.out.c 8 _ rfl
        have f2 := HF4.out.c 2 _ rfl
        have k0 := keep1 HB4.out HK0.out.1
        have k1 := keep1 HB4.out HK0.out.2.1
        have k2 := keep1 HB4.out HK0.out.2.2.1
        have k3 := keep1 HB4.out HK0.out.2.2.2
        rw [Nat.add_zero] at k0
        have hw4 := HX4.out.lt
        have hf4 := HF4.out.lt
        have hg4 : g0 < w4.heap.size := by have := HG0.out; omega
        have hnf : w4.heap.size ≠ b8 := by omega
        have hnx : w4.heap.size ≠ w.heap.size := by omega
        have hng : w4.heap.size ≠ g0 := by omega
        go_cut [10, 11, 12] from 30 to 42 (fun p f n wx => ∃ (b10 : Nat) (i' j' n' : Int) (f' : Bool) (A' B' : Option Addr) (la a' lb b' : Nat), p = .pointer (some ⟨b10, 0, none⟩) ∧ f = .bool f' ∧ n = .int .i64 n' ∧ Hid (w4.heap.size ≤ b10 ∧ Bl wx b10 [.int .i64 i', .slice A' la a', .slice B' lb b', .int .i64 j'] ∧ OneRc (fun k => k < wx.heap.size ∧ k ≠ b10) S P wx n' i' j' f' A' B' la a' lb b' ∧ Below w4.heap.size w4 wx))
        case first =>
          go_region_held3 (fun w' => w'.cell? ⟨b8, 2, none⟩ = some (.func (.func 97) #[] #[]) ∧ w'.cell? ⟨g0, off0 + i * 4, none⟩ = some (.int .i64 xn) ∧ w'.cell? ⟨g0, off0 + i * 4 + 1, none⟩ = some (.slice A1 bl a1) ∧ w'.cell? ⟨g0, off0 + i * 4 + 2, none⟩ = some (.slice B1 pl b1) ∧ w'.cell? ⟨g0, off0 + i * 4 + 3, none⟩ = some (.int .i64 xm) ∧ w'.cell? ⟨w.heap.size, 0, none⟩ = some (.int .i64 0) ∧ w'.cell? ⟨w.heap.size, 1, none⟩ = some (.int .i64 (i : Int)) ∧ w'.cell? ⟨w.heap.size, 2, none⟩ = some (.int .i64 eb) ∧ w'.cell? ⟨w.heap.size, 3, none⟩ = some (.int .i64 ec) ∧ w'.cell? ⟨w.heap.size, 4, none⟩ = some (.int .i64 ed) ∧ w'.cell? ⟨w.heap.size, 5, none⟩ = some (.slice E el cc) ∧ w'.cell? ⟨w.heap.size, 6, none⟩ = some (.int .i64 s) ∧ w'.cell? ⟨w.heap.size, 7, none⟩ = some (.int .i64 q) ∧ w'.cell? ⟨w.heap.size, 8, none⟩ = some (.int .i64 t))
            (first | with_reducible exact ⟨keep1 hk f2, keep1 hk k0, keep1 hk k1, keep1 hk k2, keep1 hk k3, keep1 hk x0, keep1 hk x1, keep1 hk x2, keep1 hk x3, keep1 hk x4, keep1 hk x5, keep1 hk x6, keep1 hk x7, keep1 hk x8⟩ | with_reducible exact ⟨keep1 (hold_alloc hk _) f2, keep1 (hold_alloc hk _) k0, keep1 (hold_alloc hk _) k1, keep1 (hold_alloc hk _) k2, keep1 (hold_alloc hk _) k3, keep1 (hold_alloc hk _) x0, keep1 (hold_alloc hk _) x1, keep1 (hold_alloc hk _) x2, keep1 (hold_alloc hk _) x3, keep1 (hold_alloc hk _) x4, keep1 (hold_alloc hk _) x5, keep1 (hold_alloc hk _) x6, keep1 (hold_alloc hk _) x7, keep1 (hold_alloc hk _) x8⟩ | (go_keep; done))
            ((go_at_call 97; refine (HREV.out _ (by first | exact HB4.out.drew | exact bthen HB4.out.drew (below_laid _) | exact (bthen HB4.out (below_laid _)).drew | exact bthen HB4.out (below_laid _))).mono ?_; rintro e5 w5 hr; obtain ⟨n', i', j', f', A', B', la, a', lb, b', rfl, ho, hb5⟩ := hr.one; have hk : Below w4.heap.size w4 w5 := (by first | exact below_undrew hb5 | exact below_undrew (bthen (below_laid _) hb5) | exact bthen (below_laid _) (below_undrew hb5) | exact bthen (below_laid _) hb5); have HON := hide (HTE.out _ _ _ _ _ _ _ _ _ _ _ _ (by first | trivial | rfl) ho); have hz5 := hk.size; have hl0 : w.heap.size < w5.heap.size := (by omega); have hl1 : b8 < w5.heap.size := (by omega); have hl2 : g0 < w5.heap.size := (by omega); have hn5f : w5.heap.size ≠ b8 := (by omega); have hn5x : w5.heap.size ≠ w.heap.size := (by omega); have hn5g : w5.heap.size ≠ g0 := (by omega); (try (have HBY : Hid (Bl w5 w4.heap.size [.int .i64 0, .slice none 0 0, .slice none 0 0, .int .i64 0]) := hide (by first | exact (Bl.new w4.drew [.int .i64 0, .slice none 0 0, .slice none 0 0, .int .i64 0] 33).keep hb5 | exact (Bl.new w4 [.int .i64 0, .slice none 0 0, .slice none 0 0, .int .i64 0] 33).drew.keep hb5 | exact (Bl.new w4 [.int .i64 0, .slice none 0 0, .slice none 0 0, .int .i64 0] 33).keep hb5); have z0 := HBY.out.c 0 _ rfl; have zf0 := HBY.out.f 0; have z1 := HBY.out.c 1 _ rfl; have zf1 := HBY.out.f 1; have z2 := HBY.out.c 2 _ rfl; have zf2 := HBY.out.f 2; have z3 := HBY.out.c 3 _ rfl; have zf3 := HBY.out.f 3; have hlz := HBY.out.lt)); clear hb5 ho hr))
          all_goals
            go_wp2_with fail
            go_meet
            first
              | exact ⟨_, i', j', n', f', A', B', la, a', lb, b', rfl, rfl, rfl, hide ⟨Nat.le_refl _, HBY.out.put4 _ _ _ _, HON.out.turn (kp_put4 (fun k hk' => by have := hk'.2; (try simp at this); omega) _ _ _ _) (fun k hk' => ⟨by rw [size_put4]; exact hk'.1, by have := hk'.2; (try simp at this); omega⟩), below_put4 hk (Nat.le_refl _) _ _ _ _⟩⟩
              | exact ⟨_, i', j', n', f', A', B', la, a', lb, b', rfl, rfl, rfl, hide ⟨hk.size, Bl.new w5 [.int .i64 i', .slice A' la a', .slice B' lb b', .int .i64 j'] 33, HON.out.turn (Kp.alloc _) (fun k hk' => ⟨by have := hk'.1; simp; omega, by have := hk'.1; omega⟩), hold_alloc hk _⟩⟩
        case rest =>
          obtain ⟨b10, i', j', n', f', A', B', la, a', lb, b', rfl, rfl, rfl, HH⟩ := hcut
          obtain ⟨hb10, hbl, ho, hbw⟩ := HH.out
          have HBL := hide hbl
          have HB5 := hide (bthen HB4.out hbw)
          have hw5 := hbw.size
          have hbl10 := hbl.lt
          clear HH hbl hbw x0 x1 x2 x3 x4 x5 x6 x7 x8 f2 k0 k1 k2 k3
          by_cases hn : n' = 0
          · obtain rfl := hn
            rcases ho with ⟨h, -⟩ | ⟨-, y, rfl, rfl, rfl, rfl, hT, hp⟩
            · exact absurd rfl h
            have HT := hide hT
            have HPY := hide hp
            have HCL5 := hide (HCL.out wc HB5.out)
            clear hT hp
            go_wp2_with fail
            refine HCL5.out.mono ?_
            rintro e6 w6 ⟨v6, rfl, hown, hb6⟩
            have hwc := HB5.out.size
            have hgq := gq_copy (w := w6) (base := wc.heap.size) (Z := (· < w.heap.size)) rd_Tr one_Tr (by decide) HCN.out HCE.out HCA.out (fun b hb => by omega) hb6.size (Kp.of_below (HB5.out.trans (hb6.mono hwc))) hown
            obtain ⟨g, c6, rfl, hg1, hg2, hg3⟩ := hgq.some_ (by have := HI.out; omega)
            obtain ⟨ys, hyl, hyc, -⟩ := hgq.at_ HI.out
            obtain ⟨o0, o1, o2, o3, rfl⟩ := list4 hyl
            have r0 := hyc 0 _ rfl
            have r1 := hyc 1 _ rfl
            have r2 := hyc 2 _ rfl
            have r3 := hyc 3 _ rfl
            rw [Nat.add_zero] at r0
            have q0 := hgq.frozen (i * 4)
            have q1 := hgq.frozen (i * 4 + 1)
            have q2 := hgq.frozen (i * 4 + 2)
            have q3 := hgq.frozen (i * 4 + 3)
            have HGQ := hide hgq
            have HBL6 := hide (HBL.out.keep hb6)
            have HB6 := hide (bthen HB5.out hb6)
            have HT6 := hide ((HT.out.keep (Kp.of_below hb6)).more (Y := fun b => True ∧ b < w6.heap.size ∧ b ≠ g) (fun k hk => ⟨trivial, by omega, by omega⟩))
            have hgb : g ≠ b10 := by omega
            clear hown hb6 hgq hyc hyl
            have y0 := HBL6.out.c 0 _ rfl
            have y1 := HBL6.out.c 1 _ rfl
            have y2 := HBL6.out.c 2 _ rfl
            have y3 := HBL6.out.c 3 _ rfl
            rw [HML.out]
            go_wp2
            refine bodyPost_ret (results_ttt rfl _ _ _) rfl ?_
            have hst := Gq.store rd_Tr (by decide) (i := i) (k := 0) (us := [.int .i64 y.next, .slice A' y.beyond.length a', .slice B' y.points.length b', .int .i64 y.mark]) HGQ.out HI.out (by simp) y (fun ys hl _ _ => by
              rw [setN_all (by simpa using hl)]
              exact HT6.out.rt)
            refine .inr ⟨f', y, g, c6, by rw [HML.out]; rfl, hst.down hwc, HPY.out, ?_⟩
            exact below_put4' HB6.out (by omega) _ _ _ _
          · have t2 : (n' != 0) = true := bne_iff_ne.2 hn
            rcases ho with ⟨-, hns⟩ | ⟨h, -⟩
            · go_wp2
              refine bodyPost_ret (results_ttt rfl _ _ _) rfl ?_
              exact .inl ⟨n', hn, rfl, hns, HB5.out⟩
            · exact absurd h hn

    · go_wp2_with fail
      refine wp_region_grow 5 [19, 20, 21, 22, 8] [FixV (.agg #[.func (.func 95) #[] #[], .func (.func 96) #[] #[], .func (.func 97) #[] #[], .func (.func 98) #[] #[], .func (.func 99) #[] #[], .func (.func 100) #[] #[]]), FixV (.pointer (some ⟨w.heap.size, 0, none⟩)), FixV (.int .i64 1), FixV (.agg #[.func (.func 98) #[] #[], .func (.func 99) #[] #[], .func (.func 100) #[] #[]]), NewB w1.heap.size [Value.nilFunc, Value.nilFunc, Value.nilFunc]] (by kernel_rfl) (by kernel_rfl) (by kernel_rfl) (by kernel_rfl) (by kernel_rfl) ?_ ?_ ?_
      · intro p hp
        simp only [List.mem_cons, List.not_mem_nil, or_false] at hp
        rcases hp with rfl | rfl | rfl | rfl | rfl
        all_goals first | exact (fun _ _ _ _ h => h) | exact (fun _ _ _ hb h => NewB.keep h hb)
      · intro j9 o9 hj9 ho x w5 hb hd
        have hjc : j9 = 0 ∨ j9 = 1 ∨ j9 = 2 ∨ j9 = 3 ∨ j9 = 4 := by omega
        have hbw := bthen HB1.out hb
        have hz5 := hb.size
        have c0 := keep1 hb (HX1.out.c 0 _ rfl)
        rcases hjc with rfl | rfl | rfl | rfl | rfl
        all_goals obtain rfl := Option.some.inj ho
        all_goals generalize hK : (fun (a' : Act) (w' : World) => _) = K
        all_goals simp only [puts]
        · go_simp
          go_at_call 82
          refine (kinds_any w5).mono ?_
          rintro en9 w10 ⟨rfl, hbc⟩
          rw [← hK]
          exact ⟨.agg #[.func (.func 95) #[] #[], .func (.func 96) #[] #[], .func (.func 97) #[] #[], .func (.func 98) #[] #[], .func (.func 99) #[] #[], .func (.func 100) #[] #[]], (by simp only [puts]; go_simp), hbc, rfl⟩
        · go_simp
          rw [← hK]
          exact ⟨.pointer (some ⟨w.heap.size, 0, none⟩), (by simp only [puts]; go_simp), Below.refl _ _, rfl⟩
        · have e20 : x 20 = .pointer (some ⟨w.heap.size, 0, none⟩) := hd 1 (by kernel_rfl)
          go_simp
          rw [← hK]
          exact ⟨.int .i64 1, (by simp only [puts]; go_simp), Below.refl _ _, rfl⟩
        · have e19 : x 19 = .agg #[.func (.func 95) #[] #[], .func (.func 96) #[] #[], .func (.func 97) #[] #[], .func (.func 98) #[] #[], .func (.func 99) #[] #[], .func (.func 100) #[] #[]] := hd 0 (by kernel_rfl)
          have e21 : x 21 = .int .i64 1 := hd 2 (by kernel_rfl)
          go_simp
          rw [← hK]
          exact ⟨.agg #[.func (.func 98) #[] #[], .func (.func 99) #[] #[], .func (.func 100) #[] #[]], (by simp only [puts]; go_simp; kernel_rfl), Below.refl _ _, rfl⟩
        · go_simp
          rw [← hK]
          exact ⟨.pointer (some ⟨w5.heap.size, 0, none⟩), (by simp only [puts]; go_simp), below_laid _, w5.heap.size, rfl, hz5, Bl.new w5 [Value.nilFunc, Value.nilFunc, Value.nilFunc] 159⟩
      · intro x w9 hb hP
        have e19 : x 19 = .agg #[.func (.func 95) #[] #[], .func (.func 96) #[] #[], .func (.func 97) #[] #[], .func (.func 98) #[] #[], .func (.func 99) #[] #[], .func (.func 100) #[] #[]] := hP 0 (by decide)
        have e20 : x 20 = .pointer (some ⟨w.heap.size, 0, none⟩) := hP 1 (by decide)
        have e21 : x 21 = .int .i64 1 := hP 2 (by decide)
        have e22 : x 22 = .agg #[.func (.func 98) #[] #[], .func (.func 99) #[] #[], .func (.func 100) #[] #[]] := hP 3 (by decide)
        have p8 : (NewB w1.heap.size [Value.nilFunc, Value.nilFunc, Value.nilFunc]) w9 (x 8) := hP 4 (by decide)
        obtain ⟨b8, e8, hb8, hz8⟩ := p8
        have hw1 := HX1.out.lt
        have HX2 := hide (HX1.out.keep hb)
        have HB2 := hide (bthen HB1.out hb)
        have HF2 := hide hz8
        clear hP hb hz8
        have z0 := HF2.out.c 0 _ rfl
        have z1 := HF2.out.c 1 _ rfl
        have z2 := HF2.out.c 2 _ rfl
        have g0' := HF2.out.f 0
        have g1' := HF2.out.f 1
        have g2' := HF2.out.f 2
        simp only [puts, Act.put, List.setIfInBounds_toArray, List.set_cons_succ, List.set_cons_zero, List.drop]
        go_upto_region 5 with (fail)
        obtain ⟨W3, hW3⟩ : ∃ W3, ((w9.setCell ⟨b8, 0, none⟩ (.func (.func 98) #[] #[])).setCell ⟨b8, 1, none⟩ (.func (.func 99) #[] #[])).setCell ⟨b8, 2, none⟩ (.func (.func 100) #[] #[]) = W3 := ⟨_, rfl⟩
        have hne : b8 ≠ w.heap.size := by omega
        have HF3 := hide (show Bl W3 b8 [.func (.func 98) #[] #[], .func (.func 99) #[] #[], .func (.func 100) #[] #[]] by rw [← hW3]; exact ((HF2.out.put (k := 0) (by simp) _).put (k := 1) (by simp) _).put (k := 2) (by simp) _)
        have HX3 := hide (show Bl W3 w.heap.size [.int .i64 1, .int .i64 ea, .int .i64 eb, .int .i64 ec, .int .i64 ed, .slice E el cc, .int .i64 s, .int .i64 q, .int .i64 t] by rw [← hW3]; exact ((HX2.out.far (p := ⟨b8, 0, none⟩) hne _).far (p := ⟨b8, 1, none⟩) hne _).far (p := ⟨b8, 2, none⟩) hne _)
        have HB3 := hide (show Below w.heap.size w W3 by rw [← hW3]; exact ((HB2.out.setCell (p := ⟨b8, 0, none⟩) (by show w.heap.size ≤ b8; omega) _).setCell (p := ⟨b8, 1, none⟩) (by show w.heap.size ≤ b8; omega) _).setCell (p := ⟨b8, 2, none⟩) (by show w.heap.size ≤ b8; omega) _)
        rw [hW3]
        clear hW3 z0 z1 z2 g0' g1' g2' HX1 HB1 HX2 HB2 HF2
        have x0 := HX3.out.c 0 _ rfl
        have x1 := HX3.out.c 1 _ rfl
        have x2 := HX3.out.c 2 _ rfl
        have x3 := HX3.out.c 3 _ rfl
        have x4 := HX3.out.c 4 _ rfl
        have x5 := HX3.out.c 5 _ rfl
        have x6 := HX3.out.c 6 _ rfl
        have x7 := HX3.out.c 7 _ rfl
        have x8 := HX3.out.c 8 _ rfl
        have f1 := HF3.out.c 1 _ rfl
        have HSR := hide (HS2.out W3)
        go_wp2_with fail
        refine HSR.out.mono ?_
        rintro e4 w4 ⟨rfl, hb4⟩
        have HF4 := hide (HF3.out.keep hb4)
        have HX4 := hide (HX3.out.keep hb4)
        have HB4 := hide (bthen HB3.out hb4)
        clear hb4 x0 x1 x2 x3 x4 x5 x6 x7 x8 f1 HSR HX3 HB3 HF3
        have hse : s = (i : Int) := by simpa using hsrc
        subst hse
        go_upto_region 8 with (fail)
        have x0 := HX4.out.c 0 _ rfl
        have x1 := HX4.out.c 1 _ rfl
        have x2 := HX4.out.c 2 _ rfl
        have x3 := HX4.out.c 3 _ rfl
        have x4 := HX4.out.c 4 _ rfl
        have x5 := HX4.out.c 5 _ rfl
        have x6 := HX4.out.c 6 _ rfl
        have x7 := HX4.out.c 7 _ rfl
        have x8 := HX4.out.c 8 _ rfl
        have f2 := HF4.out.c 2 _ rfl
        have k0 := keep1 HB4.out HK0.out.1
        have k1 := keep1 HB4.out HK0.out.2.1
        have k2 := keep1 HB4.out HK0.out.2.2.1
        have k3 := keep1 HB4.out HK0.out.2.2.2
        rw [Nat.add_zero] at k0
        have hw4 := HX4.out.lt
        have hf4 := HF4.out.lt
        have hg4 : g0 < w4.heap.size := by have := HG0.out; omega
        have hnf : w4.heap.size ≠ b8 := by omega
        have hnx : w4.heap.size ≠ w.heap.size := by omega
        have hng : w4.heap.size ≠ g0 := by omega
        go_cut [10, 11, 12] from 30 to 42 (fun p f n wx => ∃ (b10 : Nat) (i' j' n' : Int) (f' : Bool) (A' B' : Option Addr) (la a' lb b' : Nat), p = .pointer (some ⟨b10, 0, none⟩) ∧ f = .bool f' ∧ n = .int .i64 n' ∧ Hid (w4.heap.size ≤ b10 ∧ Bl wx b10 [.int .i64 i', .slice A' la a', .slice B' lb b', .int .i64 j'] ∧ OneRc (fun k => k < wx.heap.size ∧ k ≠ b10) S P wx n' i' j' f' A' B' la a' lb b' ∧ Below w4.heap.size w4 wx))
        case first =>
          go_region_held3 (fun w' => w'.cell? ⟨b8, 2, none⟩ = some (.func (.func 100) #[] #[]) ∧ w'.cell? ⟨g0, off0 + i * 4, none⟩ = some (.int .i64 xn) ∧ w'.cell? ⟨g0, off0 + i * 4 + 1, none⟩ = some (.slice A1 bl a1) ∧ w'.cell? ⟨g0, off0 + i * 4 + 2, none⟩ = some (.slice B1 pl b1) ∧ w'.cell? ⟨g0, off0 + i * 4 + 3, none⟩ = some (.int .i64 xm) ∧ w'.cell? ⟨w.heap.size, 0, none⟩ = some (.int .i64 1) ∧ w'.cell? ⟨w.heap.size, 1, none⟩ = some (.int .i64 ea) ∧ w'.cell? ⟨w.heap.size, 2, none⟩ = some (.int .i64 eb) ∧ w'.cell? ⟨w.heap.size, 3, none⟩ = some (.int .i64 ec) ∧ w'.cell? ⟨w.heap.size, 4, none⟩ = some (.int .i64 ed) ∧ w'.cell? ⟨w.heap.size, 5, none⟩ = some (.slice E el cc) ∧ w'.cell? ⟨w.heap.size, 6, none⟩ = some (.int .i64 (i : Int)) ∧ w'.cell? ⟨w.heap.size, 7, none⟩ = some (.int .i64 q) ∧ w'.cell? ⟨w.heap.size, 8, none⟩ = some (.int .i64 t))
            (first | with_reducible exact ⟨keep1 hk f2, keep1 hk k0, keep1 hk k1, keep1 hk k2, keep1 hk k3, keep1 hk x0, keep1 hk x1, keep1 hk x2, keep1 hk x3, keep1 hk x4, keep1 hk x5, keep1 hk x6, keep1 hk x7, keep1 hk x8⟩ | with_reducible exact ⟨keep1 (hold_alloc hk _) f2, keep1 (hold_alloc hk _) k0, keep1 (hold_alloc hk _) k1, keep1 (hold_alloc hk _) k2, keep1 (hold_alloc hk _) k3, keep1 (hold_alloc hk _) x0, keep1 (hold_alloc hk _) x1, keep1 (hold_alloc hk _) x2, keep1 (hold_alloc hk _) x3, keep1 (hold_alloc hk _) x4, keep1 (hold_alloc hk _) x5, keep1 (hold_alloc hk _) x6, keep1 (hold_alloc hk _) x7, keep1 (hold_alloc hk _) x8⟩ | (go_keep; done))
            ((go_at_call 100; refine (HRPT.out _ (by first | exact HB4.out.drew | exact bthen HB4.out.drew (below_laid _) | exact (bthen HB4.out (below_laid _)).drew | exact bthen HB4.out (below_laid _))).mono ?_; rintro e5 w5 hr; obtain ⟨n', i', j', f', A', B', la, a', lb, b', rfl, ho, hb5⟩ := hr.one; have hk : Below w4.heap.size w4 w5 := (by first | exact below_undrew hb5 | exact below_undrew (bthen (below_laid _) hb5) | exact bthen (below_laid _) (below_undrew hb5) | exact bthen (below_laid _) hb5); have HON := hide (HTP.out _ _ _ _ _ _ _ _ _ _ _ _ (by first | trivial | rfl) ho); have hz5 := hk.size; have hl0 : w.heap.size < w5.heap.size := (by omega); have hl1 : b8 < w5.heap.size := (by omega); have hl2 : g0 < w5.heap.size := (by omega); have hn5f : w5.heap.size ≠ b8 := (by omega); have hn5x : w5.heap.size ≠ w.heap.size := (by omega); have hn5g : w5.heap.size ≠ g0 := (by omega); (try (have HBY : Hid (Bl w5 w4.heap.size [.int .i64 0, .slice none 0 0, .slice none 0 0, .int .i64 0]) := hide (by first | exact (Bl.new w4.drew [.int .i64 0, .slice none 0 0, .slice none 0 0, .int .i64 0] 33).keep hb5 | exact (Bl.new w4 [.int .i64 0, .slice none 0 0, .slice none 0 0, .int .i64 0] 33).drew.keep hb5 | exact (Bl.new w4 [.int .i64 0, .slice none 0 0, .slice none 0 0, .int .i64 0] 33).keep hb5); have z0 := HBY.out.c 0 _ rfl; have zf0 := HBY.out.f 0; have z1 := HBY.out.c 1 _ rfl; have zf1 := HBY.out.f 1; have z2 := HBY.out.c 2 _ rfl; have zf2 := HBY.out.f 2; have z3 := HBY.out.c 3 _ rfl; have zf3 := HBY.out.f 3; have hlz := HBY.out.lt)); clear hb5 ho hr))
          all_goals
            go_wp2_with fail
            go_meet
            first
              | exact ⟨_, i', j', n', f', A', B', la, a', lb, b', rfl, rfl, rfl, hide ⟨Nat.le_refl _, HBY.out.put4 _ _ _ _, HON.out.turn (kp_put4 (fun k hk' => by have := hk'.2; (try simp at this); omega) _ _ _ _) (fun k hk' => ⟨by rw [size_put4]; exact hk'.1, by have := hk'.2; (try simp at this); omega⟩), below_put4 hk (Nat.le_refl _) _ _ _ _⟩⟩
              | exact ⟨_, i', j', n', f', A', B', la, a', lb, b', rfl, rfl, rfl, hide ⟨hk.size, Bl.new w5 [.int .i64 i', .slice A' la a', .slice B' lb b', .int .i64 j'] 33, HON.out.turn (Kp.alloc _) (fun k hk' => ⟨by have := hk'.1; simp; omega, by have := hk'.1; omega⟩), hold_alloc hk _⟩⟩
        case rest =>
          obtain ⟨b10, i', j', n', f', A', B', la, a', lb, b', rfl, rfl, rfl, HH⟩ := hcut
          obtain ⟨hb10, hbl, ho, hbw⟩ := HH.out
          have HBL := hide hbl
          have HB5 := hide (bthen HB4.out hbw)
          have hw5 := hbw.size
          have hbl10 := hbl.lt
          clear HH hbl hbw x0 x1 x2 x3 x4 x5 x6 x7 x8 f2 k0 k1 k2 k3
          by_cases hn : n' = 0
          · obtain rfl := hn
            rcases ho with ⟨h, -⟩ | ⟨-, y, rfl, rfl, rfl, rfl, hT, hp⟩
            · exact absurd rfl h
            have HT := hide hT
            have HPY := hide hp
            have HCL5 := hide (HCL.out wc HB5.out)
            clear hT hp
            go_wp2_with fail
            refine HCL5.out.mono ?_
            rintro e6 w6 ⟨v6, rfl, hown, hb6⟩
            have hwc := HB5.out.size
            have hgq := gq_copy (w := w6) (base := wc.heap.size) (Z := (· < w.heap.size)) rd_Tr one_Tr (by decide) HCN.out HCE.out HCA.out (fun b hb => by omega) hb6.size (Kp.of_below (HB5.out.trans (hb6.mono hwc))) hown
            obtain ⟨g, c6, rfl, hg1, hg2, hg3⟩ := hgq.some_ (by have := HI.out; omega)
            obtain ⟨ys, hyl, hyc, -⟩ := hgq.at_ HI.out
            obtain ⟨o0, o1, o2, o3, rfl⟩ := list4 hyl
            have r0 := hyc 0 _ rfl
            have r1 := hyc 1 _ rfl
            have r2 := hyc 2 _ rfl
            have r3 := hyc 3 _ rfl
            rw [Nat.add_zero] at r0
            have q0 := hgq.frozen (i * 4)
            have q1 := hgq.frozen (i * 4 + 1)
            have q2 := hgq.frozen (i * 4 + 2)
            have q3 := hgq.frozen (i * 4 + 3)
            have HGQ := hide hgq
            have HBL6 := hide (HBL.out.keep hb6)
            have HB6 := hide (bthen HB5.out hb6)
            have HT6 := hide ((HT.out.keep (Kp.of_below hb6)).more (Y := fun b => True ∧ b < w6.heap.size ∧ b ≠ g) (fun k hk => ⟨trivial, by omega, by omega⟩))
            have hgb : g ≠ b10 := by omega
            clear hown hb6 hgq hyc hyl
            have y0 := HBL6.out.c 0 _ rfl
            have y1 := HBL6.out.c 1 _ rfl
            have y2 := HBL6.out.c 2 _ rfl
            have y3 := HBL6.out.c 3 _ rfl
            rw [HML.out]
            go_wp2
            refine bodyPost_ret (results_ttt rfl _ _ _) rfl ?_
            have hst := Gq.store rd_Tr (by decide) (i := i) (k := 0) (us := [.int .i64 y.next, .slice A' y.beyond.length a', .slice B' y.points.length b', .int .i64 y.mark]) HGQ.out HI.out (by simp) y (fun ys hl _ _ => by
              rw [setN_all (by simpa using hl)]
              exact HT6.out.rt)
            refine .inr ⟨f', y, g, c6, by rw [HML.out]; rfl, hst.down hwc, HPY.out, ?_⟩
            exact below_put4' HB6.out (by omega) _ _ _ _
          · have t2 : (n' != 0) = true := bne_iff_ne.2 hn
            rcases ho with ⟨-, hns⟩ | ⟨h, -⟩
            · go_wp2
              refine bodyPost_ret (results_ttt rfl _ _ _) rfl ?_
              exact .inl ⟨n', hn, rfl, hns, HB5.out⟩
            · exact absurd h hn

  · have t1 : (n1 != 0) = true := bne_iff_ne.2 he
    have HNS := hide (show ¬ S from fun hs => he (hn2 (HSP.out hs).1 (HSP.out hs).2.1))
    go_wp2
    refine bodyPost_ret (results_ttt rfl _ _ _) rfl ?_
    exact .inl ⟨n1, he, rfl, HNS.out, HB1.out⟩
end
end Go.Proofs.YtppaiihcaajkaaaGreat
