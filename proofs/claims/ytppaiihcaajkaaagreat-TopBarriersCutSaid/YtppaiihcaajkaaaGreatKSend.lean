/- The job's send: written by genSend.py. -/
import Derived.Test.YtppaiihcaajkaaaGreatKJobT
namespace Go.Proofs.YtppaiihcaajkaaaGreat
open Go.RowKit
set_option linter.unusedVariables false
set_option linter.unusedSimpArgs false
theorem JobAt.of_eq {W0 w : World} {L : Nat → List Msg} {b : Nat} {f : Nat → Value} {J J' : Job} (h : JobAt W0 L w b f J) (e : J = J') : JobAt W0 L w b f J' := by rw [← e]; exact h
theorem send_no {JT J11 : Job} {i t : Nat} {x : Itm} (h : ({ JT with q := fset JT.q (2 * i + t) (JT.q (2 * i + t) ++ [x]) } : Job) = J11) (hn : JT.ins i = true ∨ isB x = true) : { J11 with all := (send1 JT i t x).all } = send1 JT i t x := by
  subst h
  unfold send1
  have hc : ¬ (JT.ins i = false ∧ isB x = false) := fun ⟨h1, h2⟩ => by rcases hn with h | h <;> simp_all
  rw [if_neg hc]
theorem send_yes {JT J11 : Job} {i t : Nat} {x : Itm} (h : ({ JT with q := fset JT.q (2 * i + t) (JT.q (2 * i + t) ++ [x]) } : Job) = J11) (hi : JT.ins i = false) (hx : isB x = false) : { ({ J11 with sent := fset J11.sent t (J11.sent t ++ [x]) } : Job) with all := (send1 JT i t x).all } = send1 JT i t x := by
  subst h
  unfold send1
  rw [if_pos ⟨hi, hx⟩]
theorem rowJ_sent {J : Job} {t j : Nat} {x : Itm} (ht : t < 2) (hj : j < 6) : rowJ { J with sent := fset J.sent t (J.sent t ++ [x]) } j = if j = t then rowJ J t ++ [x] else rowJ J j := by
  unfold rowJ
  simp only [fset_at]
  by_cases e : j = t
  · subst e; simp [ht]
  · simp [e]
theorem sendT_sent {J : Job} {i : Nat} {x : Itm} (t : Nat) : ∀ j, ((sendT J i x j).sent t).length ≤ (J.sent t).length + j
  | 0 => Nat.le_refl _
  | j + 1 => by
    have ih := sendT_sent (J := J) (i := i) (x := x) t j
    by_cases hj : j < (routeI x).length
    · obtain ⟨u, hu, -, he⟩ := route_at hj
      rw [sendT_succ he]
      unfold send1
      simp only
      split
      · rw [fset_at]
        split
        · rename_i e; subst e; simp; omega
        · omega
      · omega
    · have he : sendT J i x (j + 1) = sendT J i x j := by
        unfold sendT
        rw [List.take_of_length_le (by unfold routeN; simp; omega), List.take_of_length_le (by unfold routeN; simp; omega)]
      rw [he]; omega
theorem send_call (w : World) (W0 : World) (q : Nat → List Itm) (g c i t : Nat) (x : Itm) (g2 : Nat) (hi : i < 2) (ht : t < 2) (hl : Lst w (· < w.heap.size) 3 (RQu W0) (.slice (some ⟨g, 0, none⟩) 4 c) (qsOf q)) (hok : QsOK (qsOf q)) (hmo : Lst w (· < w.heap.size) 7 (RIt W0) (.slice (some ⟨g2, 0, none⟩) 1 1) [x]) (hx : ItemOK x) (hfew : (q (2 * i + t)).length + 1 ≤ 4000) :
    Calls Tryz.prog 39 #[.slice (some ⟨g, 0, none⟩) 4 c, .int .i64 (i : Int), .int .i64 (t : Int), .slice (some ⟨g2, 0, none⟩) 1 1] w (RetSd W0 (qsOf (fset q (2 * i + t) (q (2 * i + t) ++ [x]))) w) := by
  have hk : 2 * i + t < (qsOf q).length := by simp [qsOf]; omega
  have h := csend_any w W0 (qsOf q) (some ⟨g, 0, none⟩) c (2 * i + t) x g2 hl hok hk hmo hx (by rw [qs_at]; exact hfew)
  rw [qs_at, qs_put (by omega), show (2 * i + t) / 2 = i by omega, show (2 * i + t) % 2 = t by omega] at h
  exact h
section
variable (w : World)
set_option maxRecDepth 100000 in
set_option maxHeartbeats 32000000 in
theorem send_any (W0 : World) (L : Nat → List Msg) (b : Nat) (f : Nat → Value) (J : Job) (hJ : JobAt W0 L w b f J) (i : Nat) (hi : i < 2) (it : Itm) (A : Option Addr) (c : Nat) (hE : VsE W0 A c it.e) (hN : NumI it) (hI : ItemOK it) (hev : it.k = 0 → EvOK it.e) (hgood : ∀ k, k < 4 → ∀ y ∈ J.q k, ItemOK y) (hlen : ∀ k, k < 4 → (J.q k).length ≤ 3000) (hsent : ∀ w, w < 2 → (J.sent w).length ≤ 3000) :
    Calls Tryz.prog 24 #[.pointer (some ⟨b, 0, none⟩), .int .i64 (i : Int), .agg #[.int .i64 it.k, .int .i64 it.e.a, .int .i64 it.e.b, .int .i64 it.e.c, .int .i64 it.e.d, .slice A it.e.vs.length c, .int .i64 it.n]] w (RetJ W0 L b f (sendJ J i it) w) := by
  have HTY := hide (fun (w1 : World) => ttypes_any w1)
  have HB1 := hide (below_laid (w := w) (.cells #[.int .i64 it.k, .int .i64 it.e.a, .int .i64 it.e.b, .int .i64 it.e.c, .int .i64 it.e.d, .slice A it.e.vs.length c, .int .i64 it.n] 58))
  obtain ⟨W1, hW1⟩ : ∃ W1, w.alloc (.cells #[.int .i64 it.k, .int .i64 it.e.a, .int .i64 it.e.b, .int .i64 it.e.c, .int .i64 it.e.d, .slice A it.e.vs.length c, .int .i64 it.n] 58) = W1 := ⟨_, rfl⟩
  rw [hW1] at HB1
  have HRT := hide (fun (w5 : World) (v : Value) (gk gi : Nat) (hb : Below W1.heap.size W1 w5) (hT : There RSc 2 w5 v TT) (h1 : w5.cell? ⟨gk, 0, none⟩ = some (.slice (some ⟨gi, 0, none⟩) 1 1)) (h2 : w5.cell? ⟨gi, 0, none⟩ = some (.int .i64 0)) => route_any w5 W0 (hJ.hw.trans ((bthen HB1.out hb).mono hJ.hw.size)) v hT gk 0 1 gi 0 1 h1 h2 it A c hE hN hI hev)
  have HX := hide (show Bl W1 w.heap.size [.int .i64 it.k, .int .i64 it.e.a, .int .i64 it.e.b, .int .i64 it.e.c, .int .i64 it.e.d, .slice A it.e.vs.length c, .int .i64 it.n] by rw [← hW1]; exact Bl.new w _ _)
  have HW1 := hide hW1
  have HJ := hide (hJ.keep HB1.out)
  obtain ⟨i0, hi0, hz0, hz1, hz2⟩ := info_parts iq_item
  have HRS := hide hsent
  have HJ0 := hide hJ
  have HI := hide hI
  have HGD := hide hgood
  have HLE := hide hlen
  have HRI := hide (show ∀ (W : World) (Z : Nat → Prop), RIt W0 W Z [.int .i64 it.k, .int .i64 it.e.a, .int .i64 it.e.b, .int .i64 it.e.c, .int .i64 it.e.d, .slice A it.e.vs.length c, .int .i64 it.n] it from fun W Z => ⟨A, c, rfl, hE, hN⟩)
  have hbw : b < w.heap.size := hJ.bl.lt
  clear hW1
  go_enter Tryz.func24, Tryz.ntmps24
  go_upto_region 1 with (fail)
  rw [HW1.out]
  refine wp_region_all0 [some 12, some 13, some 14, some 15, some 16, some 11, some 17, some 18, some 6, some 7] [[12], [13], [14], [15], [16], [11], [17], [18], [6], [7]] [Own1 (fun (w5 : World) (u : Value) => There RSc 2 w5 u TT), Own1 (fun (w5 : World) (u : Value) => ∃ g, u = .slice (some ⟨g, 0, none⟩) 1 1 ∧ w5.cell? ⟨g, 0, none⟩ = some (.int .i64 0)), Own1 (fun (w5 : World) (u : Value) => ∃ gk gi, u = .slice (some ⟨gk, 0, none⟩) 1 1 ∧ w5.cell? ⟨gk, 0, none⟩ = some (.slice (some ⟨gi, 0, none⟩) 1 1) ∧ w5.cell? ⟨gi, 0, none⟩ = some (.int .i64 0)), Fix1 (.agg #[.int .i64 it.k, .int .i64 it.e.a, .int .i64 it.e.b, .int .i64 it.e.c, .int .i64 it.e.d, .slice A it.e.vs.length c, .int .i64 it.n]), Own1 (fun (w5 : World) (u : Value) => ∃ v9, u = .tuple #[v9, .int .i64 0] ∧ Lst w5 (fun k => W1.heap.size ≤ k ∧ k < w5.heap.size) 1 RIn v9 (routeI it)), Own1 (fun (w5 : World) (u : Value) => ∃ v9, u = .tuple #[v9, .int .i64 0] ∧ Lst w5 (fun k => W1.heap.size ≤ k ∧ k < w5.heap.size) 1 RIn v9 (routeI it)), Own1 (fun (w5 : World) (u : Value) => Lst w5 (fun k => W1.heap.size ≤ k ∧ k < w5.heap.size) 1 RIn u (routeI it)), Fix1 (.int .i64 0), Own1 (fun (w5 : World) (u : Value) => Lst w5 (fun k => W1.heap.size ≤ k ∧ k < w5.heap.size) 1 RIn u (routeI it)), Fix1 (.int .i64 0)] (by kernel_rfl) (by kernel_rfl) (by kernel_rfl) (fun d w5 => match d with | 0 => (fun w5 => Below W1.heap.size W1 w5) w5 | _ + 1 => True) (fun k => []) (fun k => [0]) (by kernel_rfl) ?_ (fun k w5 w6 => ((True) ∧ Below w5.heap.size w5 w6)) (fun _ => []) ?_ ?_ ?_ ?_ ?_
  · intro d
    match d with
    | 0 => exact (Below.refl _ _).drew
    | _ + 1 => trivial
  · intro j w5 w6 ht
    rcases ht with ⟨-, hb⟩
    · exact hb.size
  · intro j k hj hk hne hsp hwt w5 w6 vs hsz ht hv
    have hkc : k = 0 ∨ k = 1 ∨ k = 2 ∨ k = 3 ∨ k = 4 ∨ k = 5 ∨ k = 6 ∨ k = 7 ∨ k = 8 ∨ k = 9 := by have : k < 10 := hk; omega
    rcases hkc with rfl | rfl | rfl | rfl | rfl | rfl | rfl | rfl | rfl | rfl
    · rcases ht with ⟨-, hb⟩
      · exact Own1.imp (p := (fun (w5 : World) (u : Value) => There RSc 2 w5 u TT : World → Value → Prop)) (q := (fun (w5 : World) (u : Value) => There RSc 2 w5 u TT : World → Value → Prop)) (w := w5) (w' := w6) (fun v h => There.keep rd_Sc h hb) hv
    · rcases ht with ⟨-, hb⟩
      · exact Own1.imp (p := (fun (w5 : World) (u : Value) => ∃ g, u = .slice (some ⟨g, 0, none⟩) 1 1 ∧ w5.cell? ⟨g, 0, none⟩ = some (.int .i64 0) : World → Value → Prop)) (q := (fun (w5 : World) (u : Value) => ∃ g, u = .slice (some ⟨g, 0, none⟩) 1 1 ∧ w5.cell? ⟨g, 0, none⟩ = some (.int .i64 0) : World → Value → Prop)) (w := w5) (w' := w6) (fun v ⟨g, e, h⟩ => ⟨g, e, keep1 hb h⟩) hv
    · rcases ht with ⟨-, hb⟩
      · exact Own1.imp (p := (fun (w5 : World) (u : Value) => ∃ gk gi, u = .slice (some ⟨gk, 0, none⟩) 1 1 ∧ w5.cell? ⟨gk, 0, none⟩ = some (.slice (some ⟨gi, 0, none⟩) 1 1) ∧ w5.cell? ⟨gi, 0, none⟩ = some (.int .i64 0) : World → Value → Prop)) (q := (fun (w5 : World) (u : Value) => ∃ gk gi, u = .slice (some ⟨gk, 0, none⟩) 1 1 ∧ w5.cell? ⟨gk, 0, none⟩ = some (.slice (some ⟨gi, 0, none⟩) 1 1) ∧ w5.cell? ⟨gi, 0, none⟩ = some (.int .i64 0) : World → Value → Prop)) (w := w5) (w' := w6) (fun v ⟨g, g2, e, h, h2⟩ => ⟨g, g2, e, keep1 hb h, keep1 hb h2⟩) hv
    · exact hv
    · rcases ht with ⟨-, hb⟩
      · exact Own1.imp (p := (fun (w5 : World) (u : Value) => ∃ v9, u = .tuple #[v9, .int .i64 0] ∧ Lst w5 (fun k => W1.heap.size ≤ k ∧ k < w5.heap.size) 1 RIn v9 (routeI it) : World → Value → Prop)) (q := (fun (w5 : World) (u : Value) => ∃ v9, u = .tuple #[v9, .int .i64 0] ∧ Lst w5 (fun k => W1.heap.size ≤ k ∧ k < w5.heap.size) 1 RIn v9 (routeI it) : World → Value → Prop)) (w := w5) (w' := w6) (fun v ⟨u, e, hl⟩ => ⟨u, e, (hl.keep rd_In ((Kp.of_below hb).less fun k hk => hk.2)).more rd_In fun k hk => ⟨hk.1, Nat.lt_of_lt_of_le hk.2 hb.size⟩⟩) hv
    · rcases ht with ⟨-, hb⟩
      · exact Own1.imp (p := (fun (w5 : World) (u : Value) => ∃ v9, u = .tuple #[v9, .int .i64 0] ∧ Lst w5 (fun k => W1.heap.size ≤ k ∧ k < w5.heap.size) 1 RIn v9 (routeI it) : World → Value → Prop)) (q := (fun (w5 : World) (u : Value) => ∃ v9, u = .tuple #[v9, .int .i64 0] ∧ Lst w5 (fun k => W1.heap.size ≤ k ∧ k < w5.heap.size) 1 RIn v9 (routeI it) : World → Value → Prop)) (w := w5) (w' := w6) (fun v ⟨u, e, hl⟩ => ⟨u, e, (hl.keep rd_In ((Kp.of_below hb).less fun k hk => hk.2)).more rd_In fun k hk => ⟨hk.1, Nat.lt_of_lt_of_le hk.2 hb.size⟩⟩) hv
    · rcases ht with ⟨-, hb⟩
      · exact Own1.imp (p := (fun (w5 : World) (u : Value) => Lst w5 (fun k => W1.heap.size ≤ k ∧ k < w5.heap.size) 1 RIn u (routeI it) : World → Value → Prop)) (q := (fun (w5 : World) (u : Value) => Lst w5 (fun k => W1.heap.size ≤ k ∧ k < w5.heap.size) 1 RIn u (routeI it) : World → Value → Prop)) (w := w5) (w' := w6) (fun v hl => (hl.keep rd_In ((Kp.of_below hb).less fun k hk => hk.2)).more rd_In fun k hk => ⟨hk.1, Nat.lt_of_lt_of_le hk.2 hb.size⟩) hv
    · exact hv
    · rcases ht with ⟨-, hb⟩
      · exact Own1.imp (p := (fun (w5 : World) (u : Value) => Lst w5 (fun k => W1.heap.size ≤ k ∧ k < w5.heap.size) 1 RIn u (routeI it) : World → Value → Prop)) (q := (fun (w5 : World) (u : Value) => Lst w5 (fun k => W1.heap.size ≤ k ∧ k < w5.heap.size) 1 RIn u (routeI it) : World → Value → Prop)) (w := w5) (w' := w6) (fun v hl => (hl.keep rd_In ((Kp.of_below hb).less fun k hk => hk.2)).more rd_In fun k hk => ⟨hk.1, Nat.lt_of_lt_of_le hk.2 hb.size⟩) hv
    · exact hv
  · intro j d hj hd w5 w6 hsz ht hI
    match d with
    | 0 =>
      rcases ht with ⟨-, hb⟩
      · exact hI.trans (hb.mono hI.size)
    | _ + 1 => trivial
  · intro j9 o9 hj9 ho x w5 hsz hI hd
    have hjc : j9 = 0 ∨ j9 = 1 ∨ j9 = 2 ∨ j9 = 3 ∨ j9 = 4 ∨ j9 = 5 ∨ j9 = 6 ∨ j9 = 7 ∨ j9 = 8 ∨ j9 = 9 := by have : j9 < 10 := hj9; omega
    rcases hjc with rfl | rfl | rfl | rfl | rfl | rfl | rfl | rfl | rfl | rfl
    all_goals obtain rfl := Option.some.inj ho
    all_goals generalize hK : (fun (a' : Act) (w' : World) => _) = K
    all_goals simp only [List.filterMap_cons, List.filterMap_nil, _root_.id, puts]
    · have i0 := hI 0 (by decide)
      have x0 := keep1 i0 (HX.out.c 0 _ rfl)
      have x1 := keep1 i0 (HX.out.c 1 _ rfl)
      have x2 := keep1 i0 (HX.out.c 2 _ rfl)
      have x3 := keep1 i0 (HX.out.c 3 _ rfl)
      have x4 := keep1 i0 (HX.out.c 4 _ rfl)
      have x5 := keep1 i0 (HX.out.c 5 _ rfl)
      have x6 := keep1 i0 (HX.out.c 6 _ rfl)
      clear hI hd
      go_simp
      go_at_call 23
      refine (HTY.out w5).mono ?_
      rintro e1 w1 ⟨v1, rfl, ht, hb1⟩
      go_simp
      rw [← hK]
      exact ⟨v1, (by simp only [List.filterMap_cons, List.filterMap_nil, _root_.id, puts]; go_simp), ⟨trivial, hb1⟩, ⟨_, rfl, ht⟩⟩
    · have i0 := hI 0 (by decide)
      have x0 := keep1 i0 (HX.out.c 0 _ rfl)
      have x1 := keep1 i0 (HX.out.c 1 _ rfl)
      have x2 := keep1 i0 (HX.out.c 2 _ rfl)
      have x3 := keep1 i0 (HX.out.c 3 _ rfl)
      have x4 := keep1 i0 (HX.out.c 4 _ rfl)
      have x5 := keep1 i0 (HX.out.c 5 _ rfl)
      have x6 := keep1 i0 (HX.out.c 6 _ rfl)
      clear hI hd
      go_simp
      rw [← hK]
      exact ⟨.slice (some ⟨w5.heap.size, 0, none⟩) 1 1, (by simp only [List.filterMap_cons, List.filterMap_nil, _root_.id, puts]; go_simp), ⟨trivial, below_laid _⟩, ⟨_, rfl, w5.heap.size, rfl, cells_lit w5 [.int .i64 0] 3 0 _ rfl⟩⟩
    · have i0 := hI 0 (by decide)
      have x0 := keep1 i0 (HX.out.c 0 _ rfl)
      have x1 := keep1 i0 (HX.out.c 1 _ rfl)
      have x2 := keep1 i0 (HX.out.c 2 _ rfl)
      have x3 := keep1 i0 (HX.out.c 3 _ rfl)
      have x4 := keep1 i0 (HX.out.c 4 _ rfl)
      have x5 := keep1 i0 (HX.out.c 5 _ rfl)
      have x6 := keep1 i0 (HX.out.c 6 _ rfl)
      have p13 : (fun (w5 : World) (u : Value) => ∃ g, u = .slice (some ⟨g, 0, none⟩) 1 1 ∧ w5.cell? ⟨g, 0, none⟩ = some (.int .i64 0)) w5 (x 13) := Own1.out (p := (fun (w5 : World) (u : Value) => ∃ g, u = .slice (some ⟨g, 0, none⟩) 1 1 ∧ w5.cell? ⟨g, 0, none⟩ = some (.int .i64 0) : World → Value → Prop)) (w := w5) (v := x 13) (hd 1 (by kernel_rfl) (by kernel_rfl))
      clear hI hd
      with_reducible obtain ⟨g, e13, hc⟩ := p13
      go_simp
      rw [← hK]
      exact ⟨.slice (some ⟨w5.heap.size, 0, none⟩) 1 1, (by simp only [List.filterMap_cons, List.filterMap_nil, _root_.id, puts]; go_simp), ⟨trivial, below_laid _⟩, ⟨_, rfl, w5.heap.size, g, rfl, cells_lit w5 [.slice (some ⟨g, 0, none⟩) 1 1] 30 0 _ rfl, keep1 (below_laid _) hc⟩⟩
    · have i0 := hI 0 (by decide)
      have x0 := keep1 i0 (HX.out.c 0 _ rfl)
      have x1 := keep1 i0 (HX.out.c 1 _ rfl)
      have x2 := keep1 i0 (HX.out.c 2 _ rfl)
      have x3 := keep1 i0 (HX.out.c 3 _ rfl)
      have x4 := keep1 i0 (HX.out.c 4 _ rfl)
      have x5 := keep1 i0 (HX.out.c 5 _ rfl)
      have x6 := keep1 i0 (HX.out.c 6 _ rfl)
      clear hI hd
      go_simp
      rw [← hK]
      exact ⟨.agg #[.int .i64 it.k, .int .i64 it.e.a, .int .i64 it.e.b, .int .i64 it.e.c, .int .i64 it.e.d, .slice A it.e.vs.length c, .int .i64 it.n], (by simp only [List.filterMap_cons, List.filterMap_nil, _root_.id, puts]; go_simp), ⟨trivial, Below.refl _ _⟩, rfl⟩
    · have i0 := hI 0 (by decide)
      have x0 := keep1 i0 (HX.out.c 0 _ rfl)
      have x1 := keep1 i0 (HX.out.c 1 _ rfl)
      have x2 := keep1 i0 (HX.out.c 2 _ rfl)
      have x3 := keep1 i0 (HX.out.c 3 _ rfl)
      have x4 := keep1 i0 (HX.out.c 4 _ rfl)
      have x5 := keep1 i0 (HX.out.c 5 _ rfl)
      have x6 := keep1 i0 (HX.out.c 6 _ rfl)
      have p12 : (fun (w5 : World) (u : Value) => There RSc 2 w5 u TT) w5 (x 12) := Own1.out (p := (fun (w5 : World) (u : Value) => There RSc 2 w5 u TT : World → Value → Prop)) (w := w5) (v := x 12) (hd 0 (by kernel_rfl) (by kernel_rfl))
      have p14 : (fun (w5 : World) (u : Value) => ∃ gk gi, u = .slice (some ⟨gk, 0, none⟩) 1 1 ∧ w5.cell? ⟨gk, 0, none⟩ = some (.slice (some ⟨gi, 0, none⟩) 1 1) ∧ w5.cell? ⟨gi, 0, none⟩ = some (.int .i64 0)) w5 (x 14) := Own1.out (p := (fun (w5 : World) (u : Value) => ∃ gk gi, u = .slice (some ⟨gk, 0, none⟩) 1 1 ∧ w5.cell? ⟨gk, 0, none⟩ = some (.slice (some ⟨gi, 0, none⟩) 1 1) ∧ w5.cell? ⟨gi, 0, none⟩ = some (.int .i64 0) : World → Value → Prop)) (w := w5) (v := x 14) (hd 2 (by kernel_rfl) (by kernel_rfl))
      have e15 : x 15 = .agg #[.int .i64 it.k, .int .i64 it.e.a, .int .i64 it.e.b, .int .i64 it.e.c, .int .i64 it.e.d, .slice A it.e.vs.length c, .int .i64 it.n] := fix1 (hd 3 (by kernel_rfl) (by kernel_rfl))
      have hws := i0.size
      clear hI hd
      with_reducible obtain ⟨gk, gi, e14, hc1, hc2⟩ := p14
      have HR := hide (HRT.out w5 (x 12) gk gi i0 p12 hc1 hc2)
      clear p12 hc1 hc2
      go_simp
      go_at_call 38
      refine HR.out.mono ?_
      rintro e1 w1 ⟨v1, rfl, hl, hb1⟩
      go_simp
      rw [← hK]
      exact ⟨.tuple #[v1, .int .i64 0], (by simp only [List.filterMap_cons, List.filterMap_nil, _root_.id, puts]; go_simp), ⟨trivial, hb1⟩, ⟨_, rfl, v1, rfl, hl.more rd_In fun k hk => ⟨Nat.le_trans hws hk.1, hk.2⟩⟩⟩
    · have i0 := hI 0 (by decide)
      have x0 := keep1 i0 (HX.out.c 0 _ rfl)
      have x1 := keep1 i0 (HX.out.c 1 _ rfl)
      have x2 := keep1 i0 (HX.out.c 2 _ rfl)
      have x3 := keep1 i0 (HX.out.c 3 _ rfl)
      have x4 := keep1 i0 (HX.out.c 4 _ rfl)
      have x5 := keep1 i0 (HX.out.c 5 _ rfl)
      have x6 := keep1 i0 (HX.out.c 6 _ rfl)
      have p16 : (fun (w5 : World) (u : Value) => ∃ v9, u = .tuple #[v9, .int .i64 0] ∧ Lst w5 (fun k => W1.heap.size ≤ k ∧ k < w5.heap.size) 1 RIn v9 (routeI it)) w5 (x 16) := Own1.out (p := (fun (w5 : World) (u : Value) => ∃ v9, u = .tuple #[v9, .int .i64 0] ∧ Lst w5 (fun k => W1.heap.size ≤ k ∧ k < w5.heap.size) 1 RIn v9 (routeI it) : World → Value → Prop)) (w := w5) (v := x 16) (hd 4 (by kernel_rfl) (by kernel_rfl))
      clear hI hd
      with_reducible obtain ⟨v9, e16, hl⟩ := p16
      go_simp
      rw [← hK]
      exact ⟨.tuple #[v9, .int .i64 0], (by simp only [List.filterMap_cons, List.filterMap_nil, _root_.id, puts]; go_simp), ⟨trivial, Below.refl _ _⟩, ⟨_, rfl, v9, rfl, hl⟩⟩
    · have i0 := hI 0 (by decide)
      have x0 := keep1 i0 (HX.out.c 0 _ rfl)
      have x1 := keep1 i0 (HX.out.c 1 _ rfl)
      have x2 := keep1 i0 (HX.out.c 2 _ rfl)
      have x3 := keep1 i0 (HX.out.c 3 _ rfl)
      have x4 := keep1 i0 (HX.out.c 4 _ rfl)
      have x5 := keep1 i0 (HX.out.c 5 _ rfl)
      have x6 := keep1 i0 (HX.out.c 6 _ rfl)
      have p11 : (fun (w5 : World) (u : Value) => ∃ v9, u = .tuple #[v9, .int .i64 0] ∧ Lst w5 (fun k => W1.heap.size ≤ k ∧ k < w5.heap.size) 1 RIn v9 (routeI it)) w5 (x 11) := Own1.out (p := (fun (w5 : World) (u : Value) => ∃ v9, u = .tuple #[v9, .int .i64 0] ∧ Lst w5 (fun k => W1.heap.size ≤ k ∧ k < w5.heap.size) 1 RIn v9 (routeI it) : World → Value → Prop)) (w := w5) (v := x 11) (hd 5 (by kernel_rfl) (by kernel_rfl))
      clear hI hd
      with_reducible obtain ⟨v9, e11, hl⟩ := p11
      go_simp
      rw [← hK]
      exact ⟨v9, (by simp only [List.filterMap_cons, List.filterMap_nil, _root_.id, puts]; go_simp), ⟨trivial, Below.refl _ _⟩, ⟨_, rfl, hl⟩⟩
    · have i0 := hI 0 (by decide)
      have x0 := keep1 i0 (HX.out.c 0 _ rfl)
      have x1 := keep1 i0 (HX.out.c 1 _ rfl)
      have x2 := keep1 i0 (HX.out.c 2 _ rfl)
      have x3 := keep1 i0 (HX.out.c 3 _ rfl)
      have x4 := keep1 i0 (HX.out.c 4 _ rfl)
      have x5 := keep1 i0 (HX.out.c 5 _ rfl)
      have x6 := keep1 i0 (HX.out.c 6 _ rfl)
      have p11 : (fun (w5 : World) (u : Value) => ∃ v9, u = .tuple #[v9, .int .i64 0] ∧ Lst w5 (fun k => W1.heap.size ≤ k ∧ k < w5.heap.size) 1 RIn v9 (routeI it)) w5 (x 11) := Own1.out (p := (fun (w5 : World) (u : Value) => ∃ v9, u = .tuple #[v9, .int .i64 0] ∧ Lst w5 (fun k => W1.heap.size ≤ k ∧ k < w5.heap.size) 1 RIn v9 (routeI it) : World → Value → Prop)) (w := w5) (v := x 11) (hd 5 (by kernel_rfl) (by kernel_rfl))
      clear hI hd
      with_reducible obtain ⟨v9, e11, hl⟩ := p11
      go_simp
      rw [← hK]
      exact ⟨.int .i64 0, (by simp only [List.filterMap_cons, List.filterMap_nil, _root_.id, puts]; go_simp), ⟨trivial, Below.refl _ _⟩, rfl⟩
    · have i0 := hI 0 (by decide)
      have x0 := keep1 i0 (HX.out.c 0 _ rfl)
      have x1 := keep1 i0 (HX.out.c 1 _ rfl)
      have x2 := keep1 i0 (HX.out.c 2 _ rfl)
      have x3 := keep1 i0 (HX.out.c 3 _ rfl)
      have x4 := keep1 i0 (HX.out.c 4 _ rfl)
      have x5 := keep1 i0 (HX.out.c 5 _ rfl)
      have x6 := keep1 i0 (HX.out.c 6 _ rfl)
      have p17 : (fun (w5 : World) (u : Value) => Lst w5 (fun k => W1.heap.size ≤ k ∧ k < w5.heap.size) 1 RIn u (routeI it)) w5 (x 17) := Own1.out (p := (fun (w5 : World) (u : Value) => Lst w5 (fun k => W1.heap.size ≤ k ∧ k < w5.heap.size) 1 RIn u (routeI it) : World → Value → Prop)) (w := w5) (v := x 17) (hd 6 (by kernel_rfl) (by kernel_rfl))
      clear hI hd
      go_simp
      rw [← hK]
      exact ⟨x 17, (by simp only [List.filterMap_cons, List.filterMap_nil, _root_.id, puts]; go_simp), ⟨trivial, Below.refl _ _⟩, ⟨_, rfl, p17⟩⟩
    · have i0 := hI 0 (by decide)
      have x0 := keep1 i0 (HX.out.c 0 _ rfl)
      have x1 := keep1 i0 (HX.out.c 1 _ rfl)
      have x2 := keep1 i0 (HX.out.c 2 _ rfl)
      have x3 := keep1 i0 (HX.out.c 3 _ rfl)
      have x4 := keep1 i0 (HX.out.c 4 _ rfl)
      have x5 := keep1 i0 (HX.out.c 5 _ rfl)
      have x6 := keep1 i0 (HX.out.c 6 _ rfl)
      have e18 : x 18 = .int .i64 0 := fix1 (hd 7 (by kernel_rfl) (by kernel_rfl))
      clear hI hd
      go_simp
      rw [← hK]
      exact ⟨.int .i64 0, (by simp only [List.filterMap_cons, List.filterMap_nil, _root_.id, puts]; go_simp), ⟨trivial, Below.refl _ _⟩, rfl⟩
  · intro x w9 hsz hI hP
    have i0 := hI 0 (fun j _ => by simp)
    have p12 : (fun (w5 : World) (u : Value) => There RSc 2 w5 u TT) w9 (x 12) := Own1.out (p := (fun (w5 : World) (u : Value) => There RSc 2 w5 u TT : World → Value → Prop)) (w := w9) (v := x 12) (hP 0 (by decide) (fun _ _ h => by cases h))
    have p13 : (fun (w5 : World) (u : Value) => ∃ g, u = .slice (some ⟨g, 0, none⟩) 1 1 ∧ w5.cell? ⟨g, 0, none⟩ = some (.int .i64 0)) w9 (x 13) := Own1.out (p := (fun (w5 : World) (u : Value) => ∃ g, u = .slice (some ⟨g, 0, none⟩) 1 1 ∧ w5.cell? ⟨g, 0, none⟩ = some (.int .i64 0) : World → Value → Prop)) (w := w9) (v := x 13) (hP 1 (by decide) (fun _ _ h => by cases h))
    have p14 : (fun (w5 : World) (u : Value) => ∃ gk gi, u = .slice (some ⟨gk, 0, none⟩) 1 1 ∧ w5.cell? ⟨gk, 0, none⟩ = some (.slice (some ⟨gi, 0, none⟩) 1 1) ∧ w5.cell? ⟨gi, 0, none⟩ = some (.int .i64 0)) w9 (x 14) := Own1.out (p := (fun (w5 : World) (u : Value) => ∃ gk gi, u = .slice (some ⟨gk, 0, none⟩) 1 1 ∧ w5.cell? ⟨gk, 0, none⟩ = some (.slice (some ⟨gi, 0, none⟩) 1 1) ∧ w5.cell? ⟨gi, 0, none⟩ = some (.int .i64 0) : World → Value → Prop)) (w := w9) (v := x 14) (hP 2 (by decide) (fun _ _ h => by cases h))
    have e15 : x 15 = .agg #[.int .i64 it.k, .int .i64 it.e.a, .int .i64 it.e.b, .int .i64 it.e.c, .int .i64 it.e.d, .slice A it.e.vs.length c, .int .i64 it.n] := fix1 (hP 3 (by decide) (fun _ _ h => by cases h))
    have p16 : (fun (w5 : World) (u : Value) => ∃ v9, u = .tuple #[v9, .int .i64 0] ∧ Lst w5 (fun k => W1.heap.size ≤ k ∧ k < w5.heap.size) 1 RIn v9 (routeI it)) w9 (x 16) := Own1.out (p := (fun (w5 : World) (u : Value) => ∃ v9, u = .tuple #[v9, .int .i64 0] ∧ Lst w5 (fun k => W1.heap.size ≤ k ∧ k < w5.heap.size) 1 RIn v9 (routeI it) : World → Value → Prop)) (w := w9) (v := x 16) (hP 4 (by decide) (fun _ _ h => by cases h))
    have p11 : (fun (w5 : World) (u : Value) => ∃ v9, u = .tuple #[v9, .int .i64 0] ∧ Lst w5 (fun k => W1.heap.size ≤ k ∧ k < w5.heap.size) 1 RIn v9 (routeI it)) w9 (x 11) := Own1.out (p := (fun (w5 : World) (u : Value) => ∃ v9, u = .tuple #[v9, .int .i64 0] ∧ Lst w5 (fun k => W1.heap.size ≤ k ∧ k < w5.heap.size) 1 RIn v9 (routeI it) : World → Value → Prop)) (w := w9) (v := x 11) (hP 5 (by decide) (fun _ _ h => by cases h))
    have p17 : (fun (w5 : World) (u : Value) => Lst w5 (fun k => W1.heap.size ≤ k ∧ k < w5.heap.size) 1 RIn u (routeI it)) w9 (x 17) := Own1.out (p := (fun (w5 : World) (u : Value) => Lst w5 (fun k => W1.heap.size ≤ k ∧ k < w5.heap.size) 1 RIn u (routeI it) : World → Value → Prop)) (w := w9) (v := x 17) (hP 6 (by decide) (fun _ _ h => by cases h))
    have e18 : x 18 = .int .i64 0 := fix1 (hP 7 (by decide) (fun _ _ h => by cases h))
    have p6 : (fun (w5 : World) (u : Value) => Lst w5 (fun k => W1.heap.size ≤ k ∧ k < w5.heap.size) 1 RIn u (routeI it)) w9 (x 6) := Own1.out (p := (fun (w5 : World) (u : Value) => Lst w5 (fun k => W1.heap.size ≤ k ∧ k < w5.heap.size) 1 RIn u (routeI it) : World → Value → Prop)) (w := w9) (v := x 6) (hP 8 (by decide) (fun _ _ h => by cases h))
    have e7 : x 7 = .int .i64 0 := fix1 (hP 9 (by decide) (fun _ _ h => by cases h))
    clear hI hP
    have hl6 : Lst w9 (fun k => W1.heap.size ≤ k ∧ k < w9.heap.size) 1 RIn (x 6) (routeI it) := p6
    obtain ⟨A6, c6, e6⟩ := hl6.form
    rw [e6] at hl6
    obtain ⟨n, hn⟩ : ∃ n, (routeI it).length = n := ⟨_, rfl⟩
    have HLN := hide hn
    have hn2 : n ≤ 2 := by rw [← hn]; exact route_len it
    rw [hn] at hl6 e6
    have HJ9 := hide (HJ.out.keep i0)
    have HX9 := hide (HX.out.keep i0)
    have HT9 := hide ((jto_below (b := b) (f := f) HB1.out).trans (jto_below i0))
    have HSX := hide (show Sep w9 b f w.heap.size from HJ0.out.new (Nat.le_refl _) HX9.out.lt)
    have HSL := hide (show ∀ k, (W1.heap.size ≤ k ∧ k < w9.heap.size) → Sep w9 b f k from fun k hk => HJ0.out.new (Nat.le_trans HB1.out.size hk.1) hk.2)
    have HL9 := hide hl6
    have k27 : w9.cell? ⟨b, 27, none⟩ = some (.bool true) := by rw [← HJ9.out.ok]; exact HJ9.out.bl.c 27 (by omega)
    have f27 := HJ9.out.bl.fz 27
    have tle : decide ((n : Int) ≤ 2) = true := decide_eq_true (by omega)
    clear hn hl6 p6 p17 p11 p16 p14 p13 p12 i0 hsz
    simp only [List.filterMap_cons, List.filterMap_nil, _root_.id, puts, Act.put, List.setIfInBounds_toArray, List.set_cons_succ, List.set_cons_zero]
    simp only [e6, e7, e15, e18]
    go_upto_region 3 with (fail)
    obtain ⟨W10, hW10⟩ : ∃ W10, w9.setCell ⟨b, 27, none⟩ (.bool true) = W10 := ⟨_, rfl⟩
    have hop := HJ9.out.okput
    rw [hW10] at hop ⊢
    have HJ10 := hide hop.1
    have HT10 := hide (HT9.out.trans hop.2)
    have HX10 := hide (HX9.out.jto HSX.out hop.2)
    have HL10 := hide (Lst.jto rd_In HL9.out HSL.out hop.2)
    have HSX10 := hide (hop.2.sep _ HSX.out)
    have HSL10 := hide (fun k hk => hop.2.sep k (HSL.out k hk))
    clear hop hW10 k27 f27 tle HJ9 HX9 HT9 HSX HSL HL9 HJ HX HB1 HTY HRT
    go_wp2
    go_loopw [8] (fun ix wr => ∃ (j : Nat) (fr : Nat → Value), j ≤ n ∧ ix = .int .i64 j ∧ Hid (JobAt W0 L wr b fr (sendT J i it j)) ∧ Hid (JTo b W10 f wr fr)) (fun ix _ => n - (intOf ix).toNat)
    case atStart => exact ⟨0, f, by omega, rfl, HJ10, hide JTo.refl⟩
    case round =>
      clear HJ10
      obtain ⟨j, fr, hj, rfl, HJR, HTR⟩ := hrel
      have k27 : wr.cell? ⟨b, 27, none⟩ = some (.bool true) := by rw [← HJR.out.ok]; exact HJR.out.bl.c 27 (by omega)
      by_cases hlt : j < n
      · have hu0 : (0 : Int) ≤ (j : Int) := by omega
        have hu1 : (j : Int) < (n : Int) := by omega
        go_upto_region 6 with (fail)
        clear k27
        have hjl : j < (routeI it).length := by rw [HLN.out]; exact hlt
        obtain ⟨t, ht2, hte, htk⟩ := route_at hjl
        have HTK := hide htk
        have HXR := hide (HX10.out.jto HSX10.out HTR.out)
        have HLR := hide (Lst.jto rd_In HL10.out HSL10.out HTR.out)
        obtain ⟨g6, off6, xs6, e6, hg6, hxl6, hc6, hR6⟩ := HLR.out.at_ hjl
        obtain ⟨rfl, -⟩ := hR6
        rw [hte] at hc6
        have hc60 := hc6 0 _ rfl
        rw [Nat.mul_one, Nat.add_zero] at hc60
        have HC6 := hide hc60
        clear hc60
        have HN6 := hide (show inI (t : Int) by unfold inI; omega)
        cases e6
        obtain ⟨gq, cq, eq14, hlq⟩ := HJR.out.qu
        have K14 := hide (show wr.cell? ⟨b, 14, none⟩ = some (.slice (some ⟨gq, 0, none⟩) 4 cq) by rw [← eq14]; exact HJR.out.bl.c 14 (by omega))
        obtain ⟨JT, hJT⟩ : ∃ JT, sendT J i it j = JT := ⟨_, rfl⟩
        have HJT := hide hJT
        rw [hJT] at HJR hlq
        obtain ⟨hq1, hq2⟩ := sendT_q (i := i) HI.out HGD.out hi j
        rw [hJT] at hq1 hq2
        have HSD := hide (fun (w5 : World) (g2 : Nat) (hb : Below wr.heap.size wr w5) (hm : Bl w5 g2 [.int .i64 it.k, .int .i64 it.e.a, .int .i64 it.e.b, .int .i64 it.e.c, .int .i64 it.e.d, .slice A it.e.vs.length c, .int .i64 it.n]) => send_call w5 W0 JT.q gq cq i t it g2 hi ht2 ((hlq.keep rd_Qu ((Kp.of_below hb).less fun k hk => hk.1)).more rd_Qu fun k hk => Nat.lt_of_lt_of_le hk.1 hb.size) (qs_ok hq2 fun k hk => by have := hq1 k; have := HLE.out k hk; omega) (lst_one hm (HRI.out w5 _) hm.lt) HI.out (by have := hq1 (2 * i + t); have := HLE.out (2 * i + t) (by omega); omega))
        have hbr := HJR.out.bl.lt
        have HZ6 := hide hg6
        clear hc6 hxl6 hg6 hte htk hjl hlq hJT hq1 hq2 eq14
        refine wp_region_all0 [some 48, some 49, some 50, some 51, some 52, some 53, some 54, some 55, some 56, some 57, some 58, some 59, some 47, some 60, some 61, some 9, some 10] [[48], [49], [50], [51], [52], [53], [54], [55], [56], [57], [58], [59], [47], [60], [61], [9], [10]] [Fix1 (.pointer (some ⟨b, 0, none⟩)), Fix1 (.pointer (some ⟨b, 0, none⟩)), Fix1 (.pointer (some ⟨b, 14, none⟩)), Fix1 (.slice (some ⟨gq, 0, none⟩) 4 cq), Fix1 (.int .i64 (i : Int)), Fix1 (.slice (some ⟨g6, off6, none⟩) n c6), Fix1 (.int .i64 (j : Int)), Fix1 (.pointer (some ⟨g6, off6 + j, none⟩)), Fix1 (.int .i64 (t : Int)), Fix1 (.agg #[.int .i64 it.k, .int .i64 it.e.a, .int .i64 it.e.b, .int .i64 it.e.c, .int .i64 it.e.d, .slice A it.e.vs.length c, .int .i64 it.n]), Own1 (fun (w5 : World) (u : Value) => ∃ g2, u = .slice (some ⟨g2, 0, none⟩) 1 1 ∧ Bl w5 g2 [.int .i64 it.k, .int .i64 it.e.a, .int .i64 it.e.b, .int .i64 it.e.c, .int .i64 it.e.d, .slice A it.e.vs.length c, .int .i64 it.n]), Own1 (fun (w5 : World) (u : Value) => ∃ g9 c9, u = .tuple #[.slice (some ⟨g9, 0, none⟩) 4 c9, .int .i64 0] ∧ Lst w5 (fun k => wr.heap.size ≤ k ∧ k < w5.heap.size) 3 (RQu W0) (.slice (some ⟨g9, 0, none⟩) 4 c9) (qsOf (fset JT.q (2 * i + t) (JT.q (2 * i + t) ++ [it])))), Own1 (fun (w5 : World) (u : Value) => ∃ g9 c9, u = .tuple #[.slice (some ⟨g9, 0, none⟩) 4 c9, .int .i64 0] ∧ Lst w5 (fun k => wr.heap.size ≤ k ∧ k < w5.heap.size) 3 (RQu W0) (.slice (some ⟨g9, 0, none⟩) 4 c9) (qsOf (fset JT.q (2 * i + t) (JT.q (2 * i + t) ++ [it])))), Own1 (fun (w5 : World) (u : Value) => ∃ g9 c9, u = .slice (some ⟨g9, 0, none⟩) 4 c9 ∧ Lst w5 (fun k => wr.heap.size ≤ k ∧ k < w5.heap.size) 3 (RQu W0) (.slice (some ⟨g9, 0, none⟩) 4 c9) (qsOf (fset JT.q (2 * i + t) (JT.q (2 * i + t) ++ [it])))), Fix1 (.int .i64 0), Own1 (fun (w5 : World) (u : Value) => ∃ g9 c9, u = .slice (some ⟨g9, 0, none⟩) 4 c9 ∧ Lst w5 (fun k => wr.heap.size ≤ k ∧ k < w5.heap.size) 3 (RQu W0) (.slice (some ⟨g9, 0, none⟩) 4 c9) (qsOf (fset JT.q (2 * i + t) (JT.q (2 * i + t) ++ [it])))), Fix1 (.int .i64 0)] (by kernel_rfl) (by kernel_rfl) (by kernel_rfl) (fun d w5 => match d with | 0 => (fun w5 => Below wr.heap.size wr w5) w5 | _ + 1 => True) (fun k => []) (fun k => [0]) (by kernel_rfl) ?_ (fun k w5 w6 => ((True) ∧ Below w5.heap.size w5 w6)) (fun _ => []) ?_ ?_ ?_ ?_ ?_
        · intro d
          match d with
          | 0 => exact (Below.refl _ _).drew
          | _ + 1 => trivial
        · intro j w5 w6 ht
          rcases ht with ⟨-, hb⟩
          · exact hb.size
        · intro j k hj hk hne hsp hwt w5 w6 vs hsz ht hv
          have hkc : k = 0 ∨ k = 1 ∨ k = 2 ∨ k = 3 ∨ k = 4 ∨ k = 5 ∨ k = 6 ∨ k = 7 ∨ k = 8 ∨ k = 9 ∨ k = 10 ∨ k = 11 ∨ k = 12 ∨ k = 13 ∨ k = 14 ∨ k = 15 ∨ k = 16 := by have : k < 17 := hk; omega
          rcases hkc with rfl | rfl | rfl | rfl | rfl | rfl | rfl | rfl | rfl | rfl | rfl | rfl | rfl | rfl | rfl | rfl | rfl
          · exact hv
          · exact hv
          · exact hv
          · exact hv
          · exact hv
          · exact hv
          · exact hv
          · exact hv
          · exact hv
          · exact hv
          · rcases ht with ⟨-, hb⟩
            · exact Own1.imp (p := (fun (w5 : World) (u : Value) => ∃ g2, u = .slice (some ⟨g2, 0, none⟩) 1 1 ∧ Bl w5 g2 [.int .i64 it.k, .int .i64 it.e.a, .int .i64 it.e.b, .int .i64 it.e.c, .int .i64 it.e.d, .slice A it.e.vs.length c, .int .i64 it.n] : World → Value → Prop)) (q := (fun (w5 : World) (u : Value) => ∃ g2, u = .slice (some ⟨g2, 0, none⟩) 1 1 ∧ Bl w5 g2 [.int .i64 it.k, .int .i64 it.e.a, .int .i64 it.e.b, .int .i64 it.e.c, .int .i64 it.e.d, .slice A it.e.vs.length c, .int .i64 it.n] : World → Value → Prop)) (w := w5) (w' := w6) (fun v ⟨g, e, h⟩ => ⟨g, e, h.keep hb⟩) hv
          · rcases ht with ⟨-, hb⟩
            · exact Own1.imp (p := (fun (w5 : World) (u : Value) => ∃ g9 c9, u = .tuple #[.slice (some ⟨g9, 0, none⟩) 4 c9, .int .i64 0] ∧ Lst w5 (fun k => wr.heap.size ≤ k ∧ k < w5.heap.size) 3 (RQu W0) (.slice (some ⟨g9, 0, none⟩) 4 c9) (qsOf (fset JT.q (2 * i + t) (JT.q (2 * i + t) ++ [it]))) : World → Value → Prop)) (q := (fun (w5 : World) (u : Value) => ∃ g9 c9, u = .tuple #[.slice (some ⟨g9, 0, none⟩) 4 c9, .int .i64 0] ∧ Lst w5 (fun k => wr.heap.size ≤ k ∧ k < w5.heap.size) 3 (RQu W0) (.slice (some ⟨g9, 0, none⟩) 4 c9) (qsOf (fset JT.q (2 * i + t) (JT.q (2 * i + t) ++ [it]))) : World → Value → Prop)) (w := w5) (w' := w6) (fun v ⟨g9, c9, e, hl⟩ => ⟨g9, c9, e, (hl.keep rd_Qu ((Kp.of_below hb).less fun k hk => hk.2)).more rd_Qu fun k hk => ⟨hk.1, Nat.lt_of_lt_of_le hk.2 hb.size⟩⟩) hv
          · rcases ht with ⟨-, hb⟩
            · exact Own1.imp (p := (fun (w5 : World) (u : Value) => ∃ g9 c9, u = .tuple #[.slice (some ⟨g9, 0, none⟩) 4 c9, .int .i64 0] ∧ Lst w5 (fun k => wr.heap.size ≤ k ∧ k < w5.heap.size) 3 (RQu W0) (.slice (some ⟨g9, 0, none⟩) 4 c9) (qsOf (fset JT.q (2 * i + t) (JT.q (2 * i + t) ++ [it]))) : World → Value → Prop)) (q := (fun (w5 : World) (u : Value) => ∃ g9 c9, u = .tuple #[.slice (some ⟨g9, 0, none⟩) 4 c9, .int .i64 0] ∧ Lst w5 (fun k => wr.heap.size ≤ k ∧ k < w5.heap.size) 3 (RQu W0) (.slice (some ⟨g9, 0, none⟩) 4 c9) (qsOf (fset JT.q (2 * i + t) (JT.q (2 * i + t) ++ [it]))) : World → Value → Prop)) (w := w5) (w' := w6) (fun v ⟨g9, c9, e, hl⟩ => ⟨g9, c9, e, (hl.keep rd_Qu ((Kp.of_below hb).less fun k hk => hk.2)).more rd_Qu fun k hk => ⟨hk.1, Nat.lt_of_lt_of_le hk.2 hb.size⟩⟩) hv
          · rcases ht with ⟨-, hb⟩
            · exact Own1.imp (p := (fun (w5 : World) (u : Value) => ∃ g9 c9, u = .slice (some ⟨g9, 0, none⟩) 4 c9 ∧ Lst w5 (fun k => wr.heap.size ≤ k ∧ k < w5.heap.size) 3 (RQu W0) (.slice (some ⟨g9, 0, none⟩) 4 c9) (qsOf (fset JT.q (2 * i + t) (JT.q (2 * i + t) ++ [it]))) : World → Value → Prop)) (q := (fun (w5 : World) (u : Value) => ∃ g9 c9, u = .slice (some ⟨g9, 0, none⟩) 4 c9 ∧ Lst w5 (fun k => wr.heap.size ≤ k ∧ k < w5.heap.size) 3 (RQu W0) (.slice (some ⟨g9, 0, none⟩) 4 c9) (qsOf (fset JT.q (2 * i + t) (JT.q (2 * i + t) ++ [it]))) : World → Value → Prop)) (w := w5) (w' := w6) (fun v ⟨g9, c9, e, hl⟩ => ⟨g9, c9, e, (hl.keep rd_Qu ((Kp.of_below hb).less fun k hk => hk.2)).more rd_Qu fun k hk => ⟨hk.1, Nat.lt_of_lt_of_le hk.2 hb.size⟩⟩) hv
          · exact hv
          · rcases ht with ⟨-, hb⟩
            · exact Own1.imp (p := (fun (w5 : World) (u : Value) => ∃ g9 c9, u = .slice (some ⟨g9, 0, none⟩) 4 c9 ∧ Lst w5 (fun k => wr.heap.size ≤ k ∧ k < w5.heap.size) 3 (RQu W0) (.slice (some ⟨g9, 0, none⟩) 4 c9) (qsOf (fset JT.q (2 * i + t) (JT.q (2 * i + t) ++ [it]))) : World → Value → Prop)) (q := (fun (w5 : World) (u : Value) => ∃ g9 c9, u = .slice (some ⟨g9, 0, none⟩) 4 c9 ∧ Lst w5 (fun k => wr.heap.size ≤ k ∧ k < w5.heap.size) 3 (RQu W0) (.slice (some ⟨g9, 0, none⟩) 4 c9) (qsOf (fset JT.q (2 * i + t) (JT.q (2 * i + t) ++ [it]))) : World → Value → Prop)) (w := w5) (w' := w6) (fun v ⟨g9, c9, e, hl⟩ => ⟨g9, c9, e, (hl.keep rd_Qu ((Kp.of_below hb).less fun k hk => hk.2)).more rd_Qu fun k hk => ⟨hk.1, Nat.lt_of_lt_of_le hk.2 hb.size⟩⟩) hv
          · exact hv
        · intro j d hj hd w5 w6 hsz ht hI
          match d with
          | 0 =>
            rcases ht with ⟨-, hb⟩
            · exact hI.trans (hb.mono hI.size)
          | _ + 1 => trivial
        · intro j9 o9 hj9 ho x w5 hsz hI hd
          have hjc : j9 = 0 ∨ j9 = 1 ∨ j9 = 2 ∨ j9 = 3 ∨ j9 = 4 ∨ j9 = 5 ∨ j9 = 6 ∨ j9 = 7 ∨ j9 = 8 ∨ j9 = 9 ∨ j9 = 10 ∨ j9 = 11 ∨ j9 = 12 ∨ j9 = 13 ∨ j9 = 14 ∨ j9 = 15 ∨ j9 = 16 := by have : j9 < 17 := hj9; omega
          rcases hjc with rfl | rfl | rfl | rfl | rfl | rfl | rfl | rfl | rfl | rfl | rfl | rfl | rfl | rfl | rfl | rfl | rfl
          all_goals obtain rfl := Option.some.inj ho
          all_goals generalize hK : (fun (a' : Act) (w' : World) => _) = K
          all_goals simp only [List.filterMap_cons, List.filterMap_nil, _root_.id, puts]
          · have i0 := hI 0 (by decide)
            have x0 := keep1 i0 (HXR.out.c 0 _ rfl)
            have x1 := keep1 i0 (HXR.out.c 1 _ rfl)
            have x2 := keep1 i0 (HXR.out.c 2 _ rfl)
            have x3 := keep1 i0 (HXR.out.c 3 _ rfl)
            have x4 := keep1 i0 (HXR.out.c 4 _ rfl)
            have x5 := keep1 i0 (HXR.out.c 5 _ rfl)
            have x6 := keep1 i0 (HXR.out.c 6 _ rfl)
            have k14 := keep1 i0 K14.out
            have k6 := keep1 i0 HC6.out
            clear hI hd
            go_simp
            rw [← hK]
            exact ⟨.pointer (some ⟨b, 0, none⟩), (by simp only [List.filterMap_cons, List.filterMap_nil, _root_.id, puts]; go_simp), ⟨trivial, Below.refl _ _⟩, rfl⟩
          · have i0 := hI 0 (by decide)
            have x0 := keep1 i0 (HXR.out.c 0 _ rfl)
            have x1 := keep1 i0 (HXR.out.c 1 _ rfl)
            have x2 := keep1 i0 (HXR.out.c 2 _ rfl)
            have x3 := keep1 i0 (HXR.out.c 3 _ rfl)
            have x4 := keep1 i0 (HXR.out.c 4 _ rfl)
            have x5 := keep1 i0 (HXR.out.c 5 _ rfl)
            have x6 := keep1 i0 (HXR.out.c 6 _ rfl)
            have k14 := keep1 i0 K14.out
            have k6 := keep1 i0 HC6.out
            have e48 : x 48 = .pointer (some ⟨b, 0, none⟩) := fix1 (hd 0 (by kernel_rfl) (by kernel_rfl))
            clear hI hd
            go_simp
            rw [← hK]
            exact ⟨.pointer (some ⟨b, 0, none⟩), (by simp only [List.filterMap_cons, List.filterMap_nil, _root_.id, puts]; go_simp), ⟨trivial, Below.refl _ _⟩, rfl⟩
          · have i0 := hI 0 (by decide)
            have x0 := keep1 i0 (HXR.out.c 0 _ rfl)
            have x1 := keep1 i0 (HXR.out.c 1 _ rfl)
            have x2 := keep1 i0 (HXR.out.c 2 _ rfl)
            have x3 := keep1 i0 (HXR.out.c 3 _ rfl)
            have x4 := keep1 i0 (HXR.out.c 4 _ rfl)
            have x5 := keep1 i0 (HXR.out.c 5 _ rfl)
            have x6 := keep1 i0 (HXR.out.c 6 _ rfl)
            have k14 := keep1 i0 K14.out
            have k6 := keep1 i0 HC6.out
            have e49 : x 49 = .pointer (some ⟨b, 0, none⟩) := fix1 (hd 1 (by kernel_rfl) (by kernel_rfl))
            clear hI hd
            go_simp
            rw [← hK]
            exact ⟨.pointer (some ⟨b, 14, none⟩), (by simp only [List.filterMap_cons, List.filterMap_nil, _root_.id, puts]; go_simp), ⟨trivial, Below.refl _ _⟩, rfl⟩
          · have i0 := hI 0 (by decide)
            have x0 := keep1 i0 (HXR.out.c 0 _ rfl)
            have x1 := keep1 i0 (HXR.out.c 1 _ rfl)
            have x2 := keep1 i0 (HXR.out.c 2 _ rfl)
            have x3 := keep1 i0 (HXR.out.c 3 _ rfl)
            have x4 := keep1 i0 (HXR.out.c 4 _ rfl)
            have x5 := keep1 i0 (HXR.out.c 5 _ rfl)
            have x6 := keep1 i0 (HXR.out.c 6 _ rfl)
            have k14 := keep1 i0 K14.out
            have k6 := keep1 i0 HC6.out
            have e50 : x 50 = .pointer (some ⟨b, 14, none⟩) := fix1 (hd 2 (by kernel_rfl) (by kernel_rfl))
            clear hI hd
            go_simp
            rw [← hK]
            exact ⟨.slice (some ⟨gq, 0, none⟩) 4 cq, (by simp only [List.filterMap_cons, List.filterMap_nil, _root_.id, puts]; go_simp), ⟨trivial, Below.refl _ _⟩, rfl⟩
          · have i0 := hI 0 (by decide)
            have x0 := keep1 i0 (HXR.out.c 0 _ rfl)
            have x1 := keep1 i0 (HXR.out.c 1 _ rfl)
            have x2 := keep1 i0 (HXR.out.c 2 _ rfl)
            have x3 := keep1 i0 (HXR.out.c 3 _ rfl)
            have x4 := keep1 i0 (HXR.out.c 4 _ rfl)
            have x5 := keep1 i0 (HXR.out.c 5 _ rfl)
            have x6 := keep1 i0 (HXR.out.c 6 _ rfl)
            have k14 := keep1 i0 K14.out
            have k6 := keep1 i0 HC6.out
            clear hI hd
            go_simp
            rw [← hK]
            exact ⟨.int .i64 (i : Int), (by simp only [List.filterMap_cons, List.filterMap_nil, _root_.id, puts]; go_simp), ⟨trivial, Below.refl _ _⟩, rfl⟩
          · have i0 := hI 0 (by decide)
            have x0 := keep1 i0 (HXR.out.c 0 _ rfl)
            have x1 := keep1 i0 (HXR.out.c 1 _ rfl)
            have x2 := keep1 i0 (HXR.out.c 2 _ rfl)
            have x3 := keep1 i0 (HXR.out.c 3 _ rfl)
            have x4 := keep1 i0 (HXR.out.c 4 _ rfl)
            have x5 := keep1 i0 (HXR.out.c 5 _ rfl)
            have x6 := keep1 i0 (HXR.out.c 6 _ rfl)
            have k14 := keep1 i0 K14.out
            have k6 := keep1 i0 HC6.out
            clear hI hd
            go_simp
            rw [← hK]
            exact ⟨.slice (some ⟨g6, off6, none⟩) n c6, (by simp only [List.filterMap_cons, List.filterMap_nil, _root_.id, puts]; go_simp), ⟨trivial, Below.refl _ _⟩, rfl⟩
          · have i0 := hI 0 (by decide)
            have x0 := keep1 i0 (HXR.out.c 0 _ rfl)
            have x1 := keep1 i0 (HXR.out.c 1 _ rfl)
            have x2 := keep1 i0 (HXR.out.c 2 _ rfl)
            have x3 := keep1 i0 (HXR.out.c 3 _ rfl)
            have x4 := keep1 i0 (HXR.out.c 4 _ rfl)
            have x5 := keep1 i0 (HXR.out.c 5 _ rfl)
            have x6 := keep1 i0 (HXR.out.c 6 _ rfl)
            have k14 := keep1 i0 K14.out
            have k6 := keep1 i0 HC6.out
            clear hI hd
            go_simp
            rw [← hK]
            exact ⟨.int .i64 (j : Int), (by simp only [List.filterMap_cons, List.filterMap_nil, _root_.id, puts]; go_simp), ⟨trivial, Below.refl _ _⟩, rfl⟩
          · have i0 := hI 0 (by decide)
            have x0 := keep1 i0 (HXR.out.c 0 _ rfl)
            have x1 := keep1 i0 (HXR.out.c 1 _ rfl)
            have x2 := keep1 i0 (HXR.out.c 2 _ rfl)
            have x3 := keep1 i0 (HXR.out.c 3 _ rfl)
            have x4 := keep1 i0 (HXR.out.c 4 _ rfl)
            have x5 := keep1 i0 (HXR.out.c 5 _ rfl)
            have x6 := keep1 i0 (HXR.out.c 6 _ rfl)
            have k14 := keep1 i0 K14.out
            have k6 := keep1 i0 HC6.out
            have e53 : x 53 = .slice (some ⟨g6, off6, none⟩) n c6 := fix1 (hd 5 (by kernel_rfl) (by kernel_rfl))
            have e54 : x 54 = .int .i64 (j : Int) := fix1 (hd 6 (by kernel_rfl) (by kernel_rfl))
            clear hI hd
            go_simp
            rw [← hK]
            exact ⟨.pointer (some ⟨g6, off6 + j, none⟩), (by simp only [List.filterMap_cons, List.filterMap_nil, _root_.id, puts]; go_simp), ⟨trivial, Below.refl _ _⟩, rfl⟩
          · have i0 := hI 0 (by decide)
            have x0 := keep1 i0 (HXR.out.c 0 _ rfl)
            have x1 := keep1 i0 (HXR.out.c 1 _ rfl)
            have x2 := keep1 i0 (HXR.out.c 2 _ rfl)
            have x3 := keep1 i0 (HXR.out.c 3 _ rfl)
            have x4 := keep1 i0 (HXR.out.c 4 _ rfl)
            have x5 := keep1 i0 (HXR.out.c 5 _ rfl)
            have x6 := keep1 i0 (HXR.out.c 6 _ rfl)
            have k14 := keep1 i0 K14.out
            have k6 := keep1 i0 HC6.out
            have e55 : x 55 = .pointer (some ⟨g6, off6 + j, none⟩) := fix1 (hd 7 (by kernel_rfl) (by kernel_rfl))
            clear hI hd
            go_simp
            rw [← hK]
            exact ⟨.int .i64 (t : Int), (by simp only [List.filterMap_cons, List.filterMap_nil, _root_.id, puts]; go_simp), ⟨trivial, Below.refl _ _⟩, rfl⟩
          · have i0 := hI 0 (by decide)
            have x0 := keep1 i0 (HXR.out.c 0 _ rfl)
            have x1 := keep1 i0 (HXR.out.c 1 _ rfl)
            have x2 := keep1 i0 (HXR.out.c 2 _ rfl)
            have x3 := keep1 i0 (HXR.out.c 3 _ rfl)
            have x4 := keep1 i0 (HXR.out.c 4 _ rfl)
            have x5 := keep1 i0 (HXR.out.c 5 _ rfl)
            have x6 := keep1 i0 (HXR.out.c 6 _ rfl)
            have k14 := keep1 i0 K14.out
            have k6 := keep1 i0 HC6.out
            clear hI hd
            go_simp
            rw [← hK]
            exact ⟨.agg #[.int .i64 it.k, .int .i64 it.e.a, .int .i64 it.e.b, .int .i64 it.e.c, .int .i64 it.e.d, .slice A it.e.vs.length c, .int .i64 it.n], (by simp only [List.filterMap_cons, List.filterMap_nil, _root_.id, puts]; go_simp), ⟨trivial, Below.refl _ _⟩, rfl⟩
          · have i0 := hI 0 (by decide)
            have x0 := keep1 i0 (HXR.out.c 0 _ rfl)
            have x1 := keep1 i0 (HXR.out.c 1 _ rfl)
            have x2 := keep1 i0 (HXR.out.c 2 _ rfl)
            have x3 := keep1 i0 (HXR.out.c 3 _ rfl)
            have x4 := keep1 i0 (HXR.out.c 4 _ rfl)
            have x5 := keep1 i0 (HXR.out.c 5 _ rfl)
            have x6 := keep1 i0 (HXR.out.c 6 _ rfl)
            have k14 := keep1 i0 K14.out
            have k6 := keep1 i0 HC6.out
            have e57 : x 57 = .agg #[.int .i64 it.k, .int .i64 it.e.a, .int .i64 it.e.b, .int .i64 it.e.c, .int .i64 it.e.d, .slice A it.e.vs.length c, .int .i64 it.n] := fix1 (hd 9 (by kernel_rfl) (by kernel_rfl))
            clear hI hd
            go_simp
            rw [← hK]
            exact ⟨.slice (some ⟨w5.heap.size, 0, none⟩) 1 1, (by simp only [List.filterMap_cons, List.filterMap_nil, _root_.id, puts]; go_simp), ⟨trivial, below_laid _⟩, ⟨_, rfl, w5.heap.size, rfl, Bl.new w5 _ _⟩⟩
          · have i0 := hI 0 (by decide)
            have x0 := keep1 i0 (HXR.out.c 0 _ rfl)
            have x1 := keep1 i0 (HXR.out.c 1 _ rfl)
            have x2 := keep1 i0 (HXR.out.c 2 _ rfl)
            have x3 := keep1 i0 (HXR.out.c 3 _ rfl)
            have x4 := keep1 i0 (HXR.out.c 4 _ rfl)
            have x5 := keep1 i0 (HXR.out.c 5 _ rfl)
            have x6 := keep1 i0 (HXR.out.c 6 _ rfl)
            have k14 := keep1 i0 K14.out
            have k6 := keep1 i0 HC6.out
            have e51 : x 51 = .slice (some ⟨gq, 0, none⟩) 4 cq := fix1 (hd 3 (by kernel_rfl) (by kernel_rfl))
            have e52 : x 52 = .int .i64 (i : Int) := fix1 (hd 4 (by kernel_rfl) (by kernel_rfl))
            have e56 : x 56 = .int .i64 (t : Int) := fix1 (hd 8 (by kernel_rfl) (by kernel_rfl))
            have p58 : (fun (w5 : World) (u : Value) => ∃ g2, u = .slice (some ⟨g2, 0, none⟩) 1 1 ∧ Bl w5 g2 [.int .i64 it.k, .int .i64 it.e.a, .int .i64 it.e.b, .int .i64 it.e.c, .int .i64 it.e.d, .slice A it.e.vs.length c, .int .i64 it.n]) w5 (x 58) := Own1.out (p := (fun (w5 : World) (u : Value) => ∃ g2, u = .slice (some ⟨g2, 0, none⟩) 1 1 ∧ Bl w5 g2 [.int .i64 it.k, .int .i64 it.e.a, .int .i64 it.e.b, .int .i64 it.e.c, .int .i64 it.e.d, .slice A it.e.vs.length c, .int .i64 it.n] : World → Value → Prop)) (w := w5) (v := x 58) (hd 10 (by kernel_rfl) (by kernel_rfl))
            have hws := i0.size
            clear hI hd
            with_reducible obtain ⟨g2, e58, hm⟩ := p58
            have HR := hide (HSD.out w5 g2 i0 hm)
            clear hm
            go_simp
            go_at_call 39
            refine HR.out.mono ?_
            rintro e1 w1 ⟨g9, c9, rfl, hl, hb1⟩
            go_simp
            rw [← hK]
            exact ⟨.tuple #[.slice (some ⟨g9, 0, none⟩) 4 c9, .int .i64 0], (by simp only [List.filterMap_cons, List.filterMap_nil, _root_.id, puts]; go_simp), ⟨trivial, hb1⟩, ⟨_, rfl, g9, c9, rfl, hl.more rd_Qu fun k hk => ⟨Nat.le_trans hws hk.1, hk.2⟩⟩⟩
          · have i0 := hI 0 (by decide)
            have x0 := keep1 i0 (HXR.out.c 0 _ rfl)
            have x1 := keep1 i0 (HXR.out.c 1 _ rfl)
            have x2 := keep1 i0 (HXR.out.c 2 _ rfl)
            have x3 := keep1 i0 (HXR.out.c 3 _ rfl)
            have x4 := keep1 i0 (HXR.out.c 4 _ rfl)
            have x5 := keep1 i0 (HXR.out.c 5 _ rfl)
            have x6 := keep1 i0 (HXR.out.c 6 _ rfl)
            have k14 := keep1 i0 K14.out
            have k6 := keep1 i0 HC6.out
            have p59 : (fun (w5 : World) (u : Value) => ∃ g9 c9, u = .tuple #[.slice (some ⟨g9, 0, none⟩) 4 c9, .int .i64 0] ∧ Lst w5 (fun k => wr.heap.size ≤ k ∧ k < w5.heap.size) 3 (RQu W0) (.slice (some ⟨g9, 0, none⟩) 4 c9) (qsOf (fset JT.q (2 * i + t) (JT.q (2 * i + t) ++ [it])))) w5 (x 59) := Own1.out (p := (fun (w5 : World) (u : Value) => ∃ g9 c9, u = .tuple #[.slice (some ⟨g9, 0, none⟩) 4 c9, .int .i64 0] ∧ Lst w5 (fun k => wr.heap.size ≤ k ∧ k < w5.heap.size) 3 (RQu W0) (.slice (some ⟨g9, 0, none⟩) 4 c9) (qsOf (fset JT.q (2 * i + t) (JT.q (2 * i + t) ++ [it]))) : World → Value → Prop)) (w := w5) (v := x 59) (hd 11 (by kernel_rfl) (by kernel_rfl))
            clear hI hd
            with_reducible obtain ⟨g9, c9, e59, hl⟩ := p59
            go_simp
            rw [← hK]
            exact ⟨.tuple #[.slice (some ⟨g9, 0, none⟩) 4 c9, .int .i64 0], (by simp only [List.filterMap_cons, List.filterMap_nil, _root_.id, puts]; go_simp), ⟨trivial, Below.refl _ _⟩, ⟨_, rfl, g9, c9, rfl, hl⟩⟩
          · have i0 := hI 0 (by decide)
            have x0 := keep1 i0 (HXR.out.c 0 _ rfl)
            have x1 := keep1 i0 (HXR.out.c 1 _ rfl)
            have x2 := keep1 i0 (HXR.out.c 2 _ rfl)
            have x3 := keep1 i0 (HXR.out.c 3 _ rfl)
            have x4 := keep1 i0 (HXR.out.c 4 _ rfl)
            have x5 := keep1 i0 (HXR.out.c 5 _ rfl)
            have x6 := keep1 i0 (HXR.out.c 6 _ rfl)
            have k14 := keep1 i0 K14.out
            have k6 := keep1 i0 HC6.out
            have p47 : (fun (w5 : World) (u : Value) => ∃ g9 c9, u = .tuple #[.slice (some ⟨g9, 0, none⟩) 4 c9, .int .i64 0] ∧ Lst w5 (fun k => wr.heap.size ≤ k ∧ k < w5.heap.size) 3 (RQu W0) (.slice (some ⟨g9, 0, none⟩) 4 c9) (qsOf (fset JT.q (2 * i + t) (JT.q (2 * i + t) ++ [it])))) w5 (x 47) := Own1.out (p := (fun (w5 : World) (u : Value) => ∃ g9 c9, u = .tuple #[.slice (some ⟨g9, 0, none⟩) 4 c9, .int .i64 0] ∧ Lst w5 (fun k => wr.heap.size ≤ k ∧ k < w5.heap.size) 3 (RQu W0) (.slice (some ⟨g9, 0, none⟩) 4 c9) (qsOf (fset JT.q (2 * i + t) (JT.q (2 * i + t) ++ [it]))) : World → Value → Prop)) (w := w5) (v := x 47) (hd 12 (by kernel_rfl) (by kernel_rfl))
            clear hI hd
            with_reducible obtain ⟨g9, c9, e47, hl⟩ := p47
            go_simp
            rw [← hK]
            exact ⟨.slice (some ⟨g9, 0, none⟩) 4 c9, (by simp only [List.filterMap_cons, List.filterMap_nil, _root_.id, puts]; go_simp), ⟨trivial, Below.refl _ _⟩, ⟨_, rfl, g9, c9, rfl, hl⟩⟩
          · have i0 := hI 0 (by decide)
            have x0 := keep1 i0 (HXR.out.c 0 _ rfl)
            have x1 := keep1 i0 (HXR.out.c 1 _ rfl)
            have x2 := keep1 i0 (HXR.out.c 2 _ rfl)
            have x3 := keep1 i0 (HXR.out.c 3 _ rfl)
            have x4 := keep1 i0 (HXR.out.c 4 _ rfl)
            have x5 := keep1 i0 (HXR.out.c 5 _ rfl)
            have x6 := keep1 i0 (HXR.out.c 6 _ rfl)
            have k14 := keep1 i0 K14.out
            have k6 := keep1 i0 HC6.out
            have p47 : (fun (w5 : World) (u : Value) => ∃ g9 c9, u = .tuple #[.slice (some ⟨g9, 0, none⟩) 4 c9, .int .i64 0] ∧ Lst w5 (fun k => wr.heap.size ≤ k ∧ k < w5.heap.size) 3 (RQu W0) (.slice (some ⟨g9, 0, none⟩) 4 c9) (qsOf (fset JT.q (2 * i + t) (JT.q (2 * i + t) ++ [it])))) w5 (x 47) := Own1.out (p := (fun (w5 : World) (u : Value) => ∃ g9 c9, u = .tuple #[.slice (some ⟨g9, 0, none⟩) 4 c9, .int .i64 0] ∧ Lst w5 (fun k => wr.heap.size ≤ k ∧ k < w5.heap.size) 3 (RQu W0) (.slice (some ⟨g9, 0, none⟩) 4 c9) (qsOf (fset JT.q (2 * i + t) (JT.q (2 * i + t) ++ [it]))) : World → Value → Prop)) (w := w5) (v := x 47) (hd 12 (by kernel_rfl) (by kernel_rfl))
            clear hI hd
            with_reducible obtain ⟨g9, c9, e47, hl⟩ := p47
            go_simp
            rw [← hK]
            exact ⟨.int .i64 0, (by simp only [List.filterMap_cons, List.filterMap_nil, _root_.id, puts]; go_simp), ⟨trivial, Below.refl _ _⟩, rfl⟩
          · have i0 := hI 0 (by decide)
            have x0 := keep1 i0 (HXR.out.c 0 _ rfl)
            have x1 := keep1 i0 (HXR.out.c 1 _ rfl)
            have x2 := keep1 i0 (HXR.out.c 2 _ rfl)
            have x3 := keep1 i0 (HXR.out.c 3 _ rfl)
            have x4 := keep1 i0 (HXR.out.c 4 _ rfl)
            have x5 := keep1 i0 (HXR.out.c 5 _ rfl)
            have x6 := keep1 i0 (HXR.out.c 6 _ rfl)
            have k14 := keep1 i0 K14.out
            have k6 := keep1 i0 HC6.out
            have p60 : (fun (w5 : World) (u : Value) => ∃ g9 c9, u = .slice (some ⟨g9, 0, none⟩) 4 c9 ∧ Lst w5 (fun k => wr.heap.size ≤ k ∧ k < w5.heap.size) 3 (RQu W0) (.slice (some ⟨g9, 0, none⟩) 4 c9) (qsOf (fset JT.q (2 * i + t) (JT.q (2 * i + t) ++ [it])))) w5 (x 60) := Own1.out (p := (fun (w5 : World) (u : Value) => ∃ g9 c9, u = .slice (some ⟨g9, 0, none⟩) 4 c9 ∧ Lst w5 (fun k => wr.heap.size ≤ k ∧ k < w5.heap.size) 3 (RQu W0) (.slice (some ⟨g9, 0, none⟩) 4 c9) (qsOf (fset JT.q (2 * i + t) (JT.q (2 * i + t) ++ [it]))) : World → Value → Prop)) (w := w5) (v := x 60) (hd 13 (by kernel_rfl) (by kernel_rfl))
            clear hI hd
            with_reducible obtain ⟨g9, c9, e60, hl⟩ := p60
            go_simp
            rw [← hK]
            exact ⟨.slice (some ⟨g9, 0, none⟩) 4 c9, (by simp only [List.filterMap_cons, List.filterMap_nil, _root_.id, puts]; go_simp), ⟨trivial, Below.refl _ _⟩, ⟨_, rfl, g9, c9, rfl, hl⟩⟩
          · have i0 := hI 0 (by decide)
            have x0 := keep1 i0 (HXR.out.c 0 _ rfl)
            have x1 := keep1 i0 (HXR.out.c 1 _ rfl)
            have x2 := keep1 i0 (HXR.out.c 2 _ rfl)
            have x3 := keep1 i0 (HXR.out.c 3 _ rfl)
            have x4 := keep1 i0 (HXR.out.c 4 _ rfl)
            have x5 := keep1 i0 (HXR.out.c 5 _ rfl)
            have x6 := keep1 i0 (HXR.out.c 6 _ rfl)
            have k14 := keep1 i0 K14.out
            have k6 := keep1 i0 HC6.out
            have e61 : x 61 = .int .i64 0 := fix1 (hd 14 (by kernel_rfl) (by kernel_rfl))
            clear hI hd
            go_simp
            rw [← hK]
            exact ⟨.int .i64 0, (by simp only [List.filterMap_cons, List.filterMap_nil, _root_.id, puts]; go_simp), ⟨trivial, Below.refl _ _⟩, rfl⟩
        · intro x w9 hsz hI hP
          have i0 := hI 0 (fun j _ => by simp)
          have e48 : x 48 = .pointer (some ⟨b, 0, none⟩) := fix1 (hP 0 (by decide) (fun _ _ h => by cases h))
          have e49 : x 49 = .pointer (some ⟨b, 0, none⟩) := fix1 (hP 1 (by decide) (fun _ _ h => by cases h))
          have e50 : x 50 = .pointer (some ⟨b, 14, none⟩) := fix1 (hP 2 (by decide) (fun _ _ h => by cases h))
          have e51 : x 51 = .slice (some ⟨gq, 0, none⟩) 4 cq := fix1 (hP 3 (by decide) (fun _ _ h => by cases h))
          have e52 : x 52 = .int .i64 (i : Int) := fix1 (hP 4 (by decide) (fun _ _ h => by cases h))
          have e53 : x 53 = .slice (some ⟨g6, off6, none⟩) n c6 := fix1 (hP 5 (by decide) (fun _ _ h => by cases h))
          have e54 : x 54 = .int .i64 (j : Int) := fix1 (hP 6 (by decide) (fun _ _ h => by cases h))
          have e55 : x 55 = .pointer (some ⟨g6, off6 + j, none⟩) := fix1 (hP 7 (by decide) (fun _ _ h => by cases h))
          have e56 : x 56 = .int .i64 (t : Int) := fix1 (hP 8 (by decide) (fun _ _ h => by cases h))
          have e57 : x 57 = .agg #[.int .i64 it.k, .int .i64 it.e.a, .int .i64 it.e.b, .int .i64 it.e.c, .int .i64 it.e.d, .slice A it.e.vs.length c, .int .i64 it.n] := fix1 (hP 9 (by decide) (fun _ _ h => by cases h))
          have p58 : (fun (w5 : World) (u : Value) => ∃ g2, u = .slice (some ⟨g2, 0, none⟩) 1 1 ∧ Bl w5 g2 [.int .i64 it.k, .int .i64 it.e.a, .int .i64 it.e.b, .int .i64 it.e.c, .int .i64 it.e.d, .slice A it.e.vs.length c, .int .i64 it.n]) w9 (x 58) := Own1.out (p := (fun (w5 : World) (u : Value) => ∃ g2, u = .slice (some ⟨g2, 0, none⟩) 1 1 ∧ Bl w5 g2 [.int .i64 it.k, .int .i64 it.e.a, .int .i64 it.e.b, .int .i64 it.e.c, .int .i64 it.e.d, .slice A it.e.vs.length c, .int .i64 it.n] : World → Value → Prop)) (w := w9) (v := x 58) (hP 10 (by decide) (fun _ _ h => by cases h))
          have p59 : (fun (w5 : World) (u : Value) => ∃ g9 c9, u = .tuple #[.slice (some ⟨g9, 0, none⟩) 4 c9, .int .i64 0] ∧ Lst w5 (fun k => wr.heap.size ≤ k ∧ k < w5.heap.size) 3 (RQu W0) (.slice (some ⟨g9, 0, none⟩) 4 c9) (qsOf (fset JT.q (2 * i + t) (JT.q (2 * i + t) ++ [it])))) w9 (x 59) := Own1.out (p := (fun (w5 : World) (u : Value) => ∃ g9 c9, u = .tuple #[.slice (some ⟨g9, 0, none⟩) 4 c9, .int .i64 0] ∧ Lst w5 (fun k => wr.heap.size ≤ k ∧ k < w5.heap.size) 3 (RQu W0) (.slice (some ⟨g9, 0, none⟩) 4 c9) (qsOf (fset JT.q (2 * i + t) (JT.q (2 * i + t) ++ [it]))) : World → Value → Prop)) (w := w9) (v := x 59) (hP 11 (by decide) (fun _ _ h => by cases h))
          have p47 : (fun (w5 : World) (u : Value) => ∃ g9 c9, u = .tuple #[.slice (some ⟨g9, 0, none⟩) 4 c9, .int .i64 0] ∧ Lst w5 (fun k => wr.heap.size ≤ k ∧ k < w5.heap.size) 3 (RQu W0) (.slice (some ⟨g9, 0, none⟩) 4 c9) (qsOf (fset JT.q (2 * i + t) (JT.q (2 * i + t) ++ [it])))) w9 (x 47) := Own1.out (p := (fun (w5 : World) (u : Value) => ∃ g9 c9, u = .tuple #[.slice (some ⟨g9, 0, none⟩) 4 c9, .int .i64 0] ∧ Lst w5 (fun k => wr.heap.size ≤ k ∧ k < w5.heap.size) 3 (RQu W0) (.slice (some ⟨g9, 0, none⟩) 4 c9) (qsOf (fset JT.q (2 * i + t) (JT.q (2 * i + t) ++ [it]))) : World → Value → Prop)) (w := w9) (v := x 47) (hP 12 (by decide) (fun _ _ h => by cases h))
          have p60 : (fun (w5 : World) (u : Value) => ∃ g9 c9, u = .slice (some ⟨g9, 0, none⟩) 4 c9 ∧ Lst w5 (fun k => wr.heap.size ≤ k ∧ k < w5.heap.size) 3 (RQu W0) (.slice (some ⟨g9, 0, none⟩) 4 c9) (qsOf (fset JT.q (2 * i + t) (JT.q (2 * i + t) ++ [it])))) w9 (x 60) := Own1.out (p := (fun (w5 : World) (u : Value) => ∃ g9 c9, u = .slice (some ⟨g9, 0, none⟩) 4 c9 ∧ Lst w5 (fun k => wr.heap.size ≤ k ∧ k < w5.heap.size) 3 (RQu W0) (.slice (some ⟨g9, 0, none⟩) 4 c9) (qsOf (fset JT.q (2 * i + t) (JT.q (2 * i + t) ++ [it]))) : World → Value → Prop)) (w := w9) (v := x 60) (hP 13 (by decide) (fun _ _ h => by cases h))
          have e61 : x 61 = .int .i64 0 := fix1 (hP 14 (by decide) (fun _ _ h => by cases h))
          have p9 : (fun (w5 : World) (u : Value) => ∃ g9 c9, u = .slice (some ⟨g9, 0, none⟩) 4 c9 ∧ Lst w5 (fun k => wr.heap.size ≤ k ∧ k < w5.heap.size) 3 (RQu W0) (.slice (some ⟨g9, 0, none⟩) 4 c9) (qsOf (fset JT.q (2 * i + t) (JT.q (2 * i + t) ++ [it])))) w9 (x 9) := Own1.out (p := (fun (w5 : World) (u : Value) => ∃ g9 c9, u = .slice (some ⟨g9, 0, none⟩) 4 c9 ∧ Lst w5 (fun k => wr.heap.size ≤ k ∧ k < w5.heap.size) 3 (RQu W0) (.slice (some ⟨g9, 0, none⟩) 4 c9) (qsOf (fset JT.q (2 * i + t) (JT.q (2 * i + t) ++ [it]))) : World → Value → Prop)) (w := w9) (v := x 9) (hP 15 (by decide) (fun _ _ h => by cases h))
          have e10 : x 10 = .int .i64 0 := fix1 (hP 16 (by decide) (fun _ _ h => by cases h))
          clear hI hP
          with_reducible obtain ⟨g9, c9, e9, hl9⟩ := p9
          have HL9 := hide hl9
          have HJ9 := hide (HJR.out.keep i0)
          have HX9 := hide (HXR.out.keep i0)
          have HT9 := hide (HTR.out.trans (jto_below i0))
          have HI0 := hide i0
          have k6 := keep1 i0 HC6.out
          have ht0 : (0 : Int) ≤ (t : Int) := by omega
          have ht1 : (t : Int) ≤ 1 := by omega
          have ht3 : (t : Int) < 2 := by omega
          have f14 := HJ9.out.bl.fz 14
          have k14 : w9.cell? ⟨b, 14, none⟩ = some (fr 14) := HJ9.out.bl.c 14 (by omega)
          clear p59 p47 p60 p58 hl9 i0 hsz
          simp only [List.filterMap_cons, List.filterMap_nil, _root_.id, puts, Act.put, List.setIfInBounds_toArray, List.set_cons_succ, List.set_cons_zero]
          go_upto_region 10 with (fail)
          obtain ⟨W11, hW11⟩ : ∃ W11, w9.setCell ⟨b, 14, none⟩ (.slice (some ⟨g9, 0, none⟩) 4 c9) = W11 := ⟨_, rfl⟩
          have hqp := HJ9.out.quput HL9.out (HJR.out.sepw (w' := w9) fun k hk => hk)
          rw [hW11] at hqp ⊢
          obtain ⟨f11, hf11⟩ : ∃ f11, fset fr 14 (.slice (some ⟨g9, 0, none⟩) 4 c9) = f11 := ⟨_, rfl⟩
          rw [hf11] at hqp
          obtain ⟨J11, hJ11⟩ : ∃ J11, ({ JT with q := fset JT.q (2 * i + t) (JT.q (2 * i + t) ++ [it]) } : Job) = J11 := ⟨_, rfl⟩
          rw [hJ11] at hqp
          have HJ11 := hide hqp.1
          have HJE := hide hJ11
          have HT11 := hide (HT9.out.trans hqp.2)
          have HSXR := hide (HTR.out.sep _ HSX10.out)
          have HX11 := hide ((HXR.out.keep HI0.out).jto ((jto_below HI0.out).sep _ HSXR.out) hqp.2)
          have HSEP := hide (show Sep W11 b f11 w.heap.size from hqp.2.sep _ ((jto_below HI0.out).sep _ HSXR.out))
          have HG6 := hide (show Sep W11 b f11 g6 from HT11.out.sep _ (HSL10.out _ HZ6.out))
          have HC11 := hide (show W11.cell? ⟨g6, off6 + j, none⟩ = some (.int .i64 (t : Int)) by
            rw [← hW11]
            exact (World.cell?_setCell_other _ _ _ _ (by intro hh; injection hh with hh _ _; exact HG6.out.2.1 hh.symm)).trans k6)
          clear hqp hW11 hf11 hJ11 k6 f14 k14 HJ9 HL9 HX9 HT9 HI0
          obtain ⟨B, hB⟩ : ∃ B, JT.ins i = B := ⟨_, rfl⟩
          have HIB := hide hB
          have kins : W11.cell? ⟨b, 19 + i, none⟩ = some (.bool B) := by
            have h := HJ11.out.bl.c (19 + i) (by omega)
            rw [HJ11.out.ins i hi, ← HJE.out] at h
            rw [← hB]; exact h
          clear hB
          have x0 := HX11.out.c 0 _ rfl
          by_cases hk : it.k = 2
          · have hkb : (it.k != 2) = false := by simp [hk]
            have hkB := hide (show isB it = true from decide_eq_true hk)
            clear hk
            cases B
            · go_wp2
              go_roundw
              case rel => exact ⟨j + 1, _, by omega, by go_num, hide (by rw [sendT_succ HTK.out, HJT.out]; exact (HJ11.out.ghost _).of_eq (send_no HJE.out (.inr hkB.out))), HT11⟩
              case measure => simp [intOf]; omega
            · go_wp2
              go_roundw
              case rel => exact ⟨j + 1, _, by omega, by go_num, hide (by rw [sendT_succ HTK.out, HJT.out]; exact (HJ11.out.ghost _).of_eq (send_no HJE.out (.inr hkB.out))), HT11⟩
              case measure => simp [intOf]; omega
          · have hkb : (it.k != 2) = true := by simp [hk]
            have hkB := hide (show isB it = false from decide_eq_false hk)
            clear hk
            cases B
            · go_upto_region 11 with (fail)
              have HNG := hide (show ∀ vr, f11 (21 + t) = vr → vr.ownBlock ≠ some g6 from fun vr e he => HG6.out.2.2 t (by omega) (by rw [e]; exact he))
              have HRW := hide (show (rowJ J11 t).length ≤ 4000 by
                rw [← HJE.out, ← HJT.out, rowJ, if_pos ht2]
                have := sendT_sent (J := J) (i := i) (x := it) t j
                have := HRS.out t ht2
                show ((sendT J i it j).sent t).length ≤ 4000
                omega)
              have hrow := HJ11.out.rows (t) (by omega)
              have hro := HJ11.out.ne (t) (by omega)
              obtain ⟨vr, hvr⟩ : ∃ vr, f11 (21 + (t)) = vr := ⟨_, rfl⟩
              have HVR := hide hvr
              rw [hvr] at hrow hro
              obtain ⟨As, cs, evr⟩ := hrow.form
              subst evr
              obtain ⟨ns, hns⟩ : ∃ ns, (rowJ J11 (t)).length = ns := ⟨_, rfl⟩
              have HNS := hide hns
              rw [hns] at hrow hro HVR
              have hrl := hrow.low
              have HRL := hide hrl
              have HROW := hide (show RowP W0 (Value.slice As ns cs).ownBlock W11.heap.size (rowJ J11 (t)) W11 (.slice As ns cs) from gq_it hrow (fun k hk => .inl hk))
              have KR := hide (show W11.cell? ⟨b, 21 + t, none⟩ = some (.slice As ns cs) by have h := HJ11.out.bl.c (21 + (t)) (by omega); rw [HVR.out] at h; rwa [show 21 + (t) = 21 + t by omega] at h)
              have HNB := hide hro
              have HNX := hide (show (Value.slice As ns cs).ownBlock ≠ some (w.heap.size) from fun e => HSEP.out.2.2 (t) (by omega) (by rw [HVR.out]; exact e))
              have HWB := hide (HJ11.out.hw.size)
              clear hrow hro hns hvr hrl
              refine wp_region_turn (Value.slice As ns cs).ownBlock W0.heap.size HWB.out (fun k hk => (HRL.out k hk).1) 20 [97, 98, 99, 100, 101, 102, 103, 104, 105, 106, 107, 108, 109, 110, 111, 112, 113, 114, 115, 116] [FixV (.pointer (some ⟨b, 0, none⟩)), FixV (.slice (some ⟨g6, off6, none⟩) n c6), FixV (.int .i64 (j : Int)), FixV (.pointer (some ⟨g6, off6 + j, none⟩)), FixV (.int .i64 (t : Int)), FixV (.pointer (some ⟨b, 0, none⟩)), FixV (.slice (some ⟨g6, off6, none⟩) n c6), FixV (.int .i64 (j : Int)), FixV (.pointer (some ⟨g6, off6 + j, none⟩)), FixV (.int .i64 (t : Int)), FixV (.pointer (some ⟨b, 0, none⟩)), FixV (.pointer (some ⟨b, 21, none⟩)), FixV (.pointer (some ⟨b, 21 + t, none⟩)), FixV (.slice As ns cs), FixV (.agg #[.int .i64 it.k, .int .i64 it.e.a, .int .i64 it.e.b, .int .i64 it.e.c, .int .i64 it.e.d, .slice A it.e.vs.length c, .int .i64 it.n]), ItB W11.heap.size [.int .i64 it.k, .int .i64 it.e.a, .int .i64 it.e.b, .int .i64 it.e.c, .int .i64 it.e.d, .slice A it.e.vs.length c, .int .i64 it.n], RowP W0 (Value.slice As ns cs).ownBlock W11.heap.size (rowJ J11 (t) ++ [it]), FixV (.pointer (some ⟨b, 0, none⟩)), FixV (.pointer (some ⟨b, 21, none⟩)), FixV (.pointer (some ⟨b, 21 + t, none⟩))] 16 (by kernel_rfl) (by kernel_rfl) (by kernel_rfl) (by kernel_rfl) (by kernel_rfl) (by decide) (by simp) (fun w5 => RowP W0 (Value.slice As ns cs).ownBlock W11.heap.size (rowJ J11 (t)) w5 (.slice As ns cs)) (HROW.out.drew rd_It) (fun _ _ hb h => Gq.keep rd_It h hb) ?_ ?_ ?_ ?_
              · intro k hk hkt w5 w6 v hsz hg hv
                have hkc : k = 0 ∨ k = 1 ∨ k = 2 ∨ k = 3 ∨ k = 4 ∨ k = 5 ∨ k = 6 ∨ k = 7 ∨ k = 8 ∨ k = 9 ∨ k = 10 ∨ k = 11 ∨ k = 12 ∨ k = 13 ∨ k = 14 ∨ k = 15 ∨ k = 17 ∨ k = 18 ∨ k = 19 := by omega
                rcases hkc with rfl | rfl | rfl | rfl | rfl | rfl | rfl | rfl | rfl | rfl | rfl | rfl | rfl | rfl | rfl | rfl | rfl | rfl | rfl
                all_goals first | exact hv | exact ItB.grown hv hg (fun k hk => (HRL.out k hk).2)
              · intro w5 w6 v hb hv
                exact Gq.keep rd_It hv hb
              · intro j9 o9 hj9 ho x w5 hb hR hd
                have hz5 := hb.size
                have hX5 := HX11.out.grown hb HNX.out
                have x0 := hX5.c 0 _ rfl
                have x1 := hX5.c 1 _ rfl
                have x2 := hX5.c 2 _ rfl
                have x3 := hX5.c 3 _ rfl
                have x4 := hX5.c 4 _ rfl
                have x5 := hX5.c 5 _ rfl
                have x6 := hX5.c 6 _ rfl
                have kr := cell_grown KR.out hb HNB.out
                have k6 := cell_grown HC11.out hb (HNG.out _ HVR.out)
                have hjc : j9 = 0 ∨ j9 = 1 ∨ j9 = 2 ∨ j9 = 3 ∨ j9 = 4 ∨ j9 = 5 ∨ j9 = 6 ∨ j9 = 7 ∨ j9 = 8 ∨ j9 = 9 ∨ j9 = 10 ∨ j9 = 11 ∨ j9 = 12 ∨ j9 = 13 ∨ j9 = 14 ∨ j9 = 15 ∨ j9 = 16 ∨ j9 = 17 ∨ j9 = 18 ∨ j9 = 19 := by omega
                rcases hjc with rfl | rfl | rfl | rfl | rfl | rfl | rfl | rfl | rfl | rfl | rfl | rfl | rfl | rfl | rfl | rfl | rfl | rfl | rfl | rfl
                all_goals obtain rfl := Option.some.inj ho
                all_goals generalize hK : (fun (a' : Act) (w' : World) => _) = K
                all_goals simp only [puts]
                · clear hR hd
                  go_simp
                  rw [← hK]
                  exact ⟨.pointer (some ⟨b, 0, none⟩), (by simp only [puts]; go_simp), Below.refl _ _, rfl⟩
                · clear hR hd
                  go_simp
                  rw [← hK]
                  exact ⟨.slice (some ⟨g6, off6, none⟩) n c6, (by simp only [puts]; go_simp), Below.refl _ _, rfl⟩
                · clear hR hd
                  go_simp
                  rw [← hK]
                  exact ⟨.int .i64 (j : Int), (by simp only [puts]; go_simp), Below.refl _ _, rfl⟩
                · have e98 : x 98 = .slice (some ⟨g6, off6, none⟩) n c6 := hd 1 (by kernel_rfl)
                  have e99 : x 99 = .int .i64 (j : Int) := hd 2 (by kernel_rfl)
                  clear hR hd
                  go_simp
                  rw [← hK]
                  exact ⟨.pointer (some ⟨g6, off6 + j, none⟩), (by simp only [puts]; go_simp), Below.refl _ _, rfl⟩
                · have e100 : x 100 = .pointer (some ⟨g6, off6 + j, none⟩) := hd 3 (by kernel_rfl)
                  clear hR hd
                  go_simp
                  rw [← hK]
                  exact ⟨.int .i64 (t : Int), (by simp only [puts]; go_simp), Below.refl _ _, rfl⟩
                · clear hR hd
                  go_simp
                  rw [← hK]
                  exact ⟨.pointer (some ⟨b, 0, none⟩), (by simp only [puts]; go_simp), Below.refl _ _, rfl⟩
                · clear hR hd
                  go_simp
                  rw [← hK]
                  exact ⟨.slice (some ⟨g6, off6, none⟩) n c6, (by simp only [puts]; go_simp), Below.refl _ _, rfl⟩
                · clear hR hd
                  go_simp
                  rw [← hK]
                  exact ⟨.int .i64 (j : Int), (by simp only [puts]; go_simp), Below.refl _ _, rfl⟩
                · have e103 : x 103 = .slice (some ⟨g6, off6, none⟩) n c6 := hd 6 (by kernel_rfl)
                  have e104 : x 104 = .int .i64 (j : Int) := hd 7 (by kernel_rfl)
                  clear hR hd
                  go_simp
                  rw [← hK]
                  exact ⟨.pointer (some ⟨g6, off6 + j, none⟩), (by simp only [puts]; go_simp), Below.refl _ _, rfl⟩
                · have e105 : x 105 = .pointer (some ⟨g6, off6 + j, none⟩) := hd 8 (by kernel_rfl)
                  clear hR hd
                  go_simp
                  rw [← hK]
                  exact ⟨.int .i64 (t : Int), (by simp only [puts]; go_simp), Below.refl _ _, rfl⟩
                · have e102 : x 102 = .pointer (some ⟨b, 0, none⟩) := hd 5 (by kernel_rfl)
                  clear hR hd
                  go_simp
                  rw [← hK]
                  exact ⟨.pointer (some ⟨b, 0, none⟩), (by simp only [puts]; go_simp), Below.refl _ _, rfl⟩
                · have e107 : x 107 = .pointer (some ⟨b, 0, none⟩) := hd 10 (by kernel_rfl)
                  clear hR hd
                  go_simp
                  rw [← hK]
                  exact ⟨.pointer (some ⟨b, 21, none⟩), (by simp only [puts]; go_simp), Below.refl _ _, rfl⟩
                · have e108 : x 108 = .pointer (some ⟨b, 21, none⟩) := hd 11 (by kernel_rfl)
                  have e106 : x 106 = .int .i64 (t : Int) := hd 9 (by kernel_rfl)
                  clear hR hd
                  go_simp
                  rw [← hK]
                  exact ⟨.pointer (some ⟨b, 21 + t, none⟩), (by simp only [puts]; go_simp), Below.refl _ _, rfl⟩
                · have e109 : x 109 = .pointer (some ⟨b, 21 + t, none⟩) := hd 12 (by kernel_rfl)
                  clear hR hd
                  go_simp
                  rw [← hK]
                  exact ⟨.slice As ns cs, (by simp only [puts]; go_simp), Below.refl _ _, rfl⟩
                · clear hR hd
                  go_simp
                  rw [← hK]
                  exact ⟨.agg #[.int .i64 it.k, .int .i64 it.e.a, .int .i64 it.e.b, .int .i64 it.e.c, .int .i64 it.e.d, .slice A it.e.vs.length c, .int .i64 it.n], (by simp only [puts]; go_simp), Below.refl _ _, rfl⟩
                · have e111 : x 111 = .agg #[.int .i64 it.k, .int .i64 it.e.a, .int .i64 it.e.b, .int .i64 it.e.c, .int .i64 it.e.d, .slice A it.e.vs.length c, .int .i64 it.n] := hd 14 (by kernel_rfl)
                  clear hR hd
                  go_simp
                  rw [← hK]
                  exact ⟨.slice (some ⟨w5.heap.size, 0, none⟩) 1 1, (by simp only [puts]; go_simp), below_laid _, w5.heap.size, rfl, hz5, Bl.new w5 _ _⟩
                · have e110 : x 110 = .slice As ns cs := hd 13 (by kernel_rfl)
                  have p112 : ∃ g, x 112 = .slice (some ⟨g, 0, none⟩) 1 1 ∧ W11.heap.size ≤ g ∧ Bl w5 g [.int .i64 it.k, .int .i64 it.e.a, .int .i64 it.e.b, .int .i64 it.e.c, .int .i64 it.e.d, .slice A it.e.vs.length c, .int .i64 it.n] := hd 15 (by kernel_rfl)
                  have hR5 : Gq w5 (fun k => (Value.slice As ns cs).ownBlock = some k ∨ W11.heap.size ≤ k) W0.heap.size 58 7 (RIt W0) (.slice As ns cs) (rowJ J11 (t)) := hR (.inl rfl)
                  clear hR hd
                  with_reducible obtain ⟨g2, e112, hg2, hb2⟩ := p112
                  with_reducible refine oper_append_gq rd_It rfl (.tmp 110) (.tmp 112) 43 rfl (fun k => (Value.slice As ns cs).ownBlock = some k ∨ W11.heap.size ≤ k) W0.heap.size 58 i0 _ 7 72 Tryz.underlying43 hi0 hz0 hz1 hz2 rfl (by decide) (.slice As ns cs) (rowJ J11 (t)) ?hs hR5 g2 ?hx [.int .i64 it.k, .int .i64 it.e.a, .int .i64 it.e.b, .int .i64 it.e.c, .int .i64 it.e.d, .slice A it.e.vs.length c, .int .i64 it.n] rfl hb2.c it_one it (HRI.out _ _) (fun k hk => .inr (Nat.le_trans hz5 hk)) ?hn (by decide) (Nat.le_trans HWB.out hz5) ?hk
                  case hs => simp [Act.eval, Act.put, e110]
                  case hx => simp [Act.eval, Act.put, e112]
                  case hn => have := HNS.out; have := HRW.out; omega
                  case hk =>
                    intro v9 w10 hg9 hgr hbl
                    rw [← hK]
                    exact ⟨v9, (by simp only [puts]; (try go_simp)), hgr, hg9⟩
                · have e97 : x 97 = .pointer (some ⟨b, 0, none⟩) := hd 0 (by kernel_rfl)
                  clear hR hd
                  go_simp
                  rw [← hK]
                  exact ⟨.pointer (some ⟨b, 0, none⟩), (by simp only [puts]; go_simp), Below.refl _ _, rfl⟩
                · have e114 : x 114 = .pointer (some ⟨b, 0, none⟩) := hd 17 (by kernel_rfl)
                  clear hR hd
                  go_simp
                  rw [← hK]
                  exact ⟨.pointer (some ⟨b, 21, none⟩), (by simp only [puts]; go_simp), Below.refl _ _, rfl⟩
                · have e115 : x 115 = .pointer (some ⟨b, 21, none⟩) := hd 18 (by kernel_rfl)
                  have e101 : x 101 = .int .i64 (t : Int) := hd 4 (by kernel_rfl)
                  clear hR hd
                  go_simp
                  rw [← hK]
                  exact ⟨.pointer (some ⟨b, 21 + t, none⟩), (by simp only [puts]; go_simp), Below.refl _ _, rfl⟩
              · intro x w4 hb hP
                have e97 : x 97 = .pointer (some ⟨b, 0, none⟩) := hP 0 (by decide)
                have e98 : x 98 = .slice (some ⟨g6, off6, none⟩) n c6 := hP 1 (by decide)
                have e99 : x 99 = .int .i64 (j : Int) := hP 2 (by decide)
                have e100 : x 100 = .pointer (some ⟨g6, off6 + j, none⟩) := hP 3 (by decide)
                have e101 : x 101 = .int .i64 (t : Int) := hP 4 (by decide)
                have e102 : x 102 = .pointer (some ⟨b, 0, none⟩) := hP 5 (by decide)
                have e103 : x 103 = .slice (some ⟨g6, off6, none⟩) n c6 := hP 6 (by decide)
                have e104 : x 104 = .int .i64 (j : Int) := hP 7 (by decide)
                have e105 : x 105 = .pointer (some ⟨g6, off6 + j, none⟩) := hP 8 (by decide)
                have e106 : x 106 = .int .i64 (t : Int) := hP 9 (by decide)
                have e107 : x 107 = .pointer (some ⟨b, 0, none⟩) := hP 10 (by decide)
                have e108 : x 108 = .pointer (some ⟨b, 21, none⟩) := hP 11 (by decide)
                have e109 : x 109 = .pointer (some ⟨b, 21 + t, none⟩) := hP 12 (by decide)
                have e110 : x 110 = .slice As ns cs := hP 13 (by decide)
                have e111 : x 111 = .agg #[.int .i64 it.k, .int .i64 it.e.a, .int .i64 it.e.b, .int .i64 it.e.c, .int .i64 it.e.d, .slice A it.e.vs.length c, .int .i64 it.n] := hP 14 (by decide)
                have e114 : x 114 = .pointer (some ⟨b, 0, none⟩) := hP 17 (by decide)
                have e115 : x 115 = .pointer (some ⟨b, 21, none⟩) := hP 18 (by decide)
                have e116 : x 116 = .pointer (some ⟨b, 21 + t, none⟩) := hP 19 (by decide)
                have hpa : RowP W0 (Value.slice As ns cs).ownBlock W11.heap.size (rowJ J11 (t) ++ [it]) w4 (x 113) := hP 16 (by decide)
                obtain ⟨A4, c4, e4⟩ := hpa.form
                simp only [List.length_append, List.length_singleton] at e4
                rw [e4] at hpa
                have HPA := hide hpa
                have HGB := hide hb
                have hJ4 := hide (HJ11.out.bl.grown hb HNB.out)
                have kr := cell_grown KR.out hb HNB.out
                have fr4 := hJ4.out.fz (21 + t)
                clear hP hpa
                simp only [puts, Act.put, List.setIfInBounds_toArray, List.set_cons_succ, List.set_cons_zero, List.drop]
                have hps := HJ11.out.push (J' := { J11 with sent := fset J11.sent t (J11.sent t ++ [it]) }) (j := t) (by omega) (v := x 113) (x := it) (by rw [HVR.out, e4]; exact HPA.out) (by rw [HVR.out]; exact HGB.out) (fun j' hj' => rowJ_sent ht2 hj') rfl rfl rfl rfl rfl rfl
                have hpj := jto_push (v := x 113) HJ11.out (j := t) (by omega) (by rw [HVR.out, e4]; exact HPA.out.inY) (by rw [HVR.out]; exact HGB.out)
                rw [e4] at hps hpj
                have HPS := hide hps
                have HPJ := hide hpj
                clear hps hpj
                go_wp2
                go_roundw
                case rel => exact ⟨j + 1, _, by omega, by go_num, hide (by rw [sendT_succ HTK.out, HJT.out]; exact (HPS.out.ghost _).of_eq (send_yes HJE.out HIB.out hkB.out)), hide (HT11.out.trans HPJ.out)⟩
                case measure => simp [intOf]; omega
            · go_wp2
              go_roundw
              case rel => exact ⟨j + 1, _, by omega, by go_num, hide (by rw [sendT_succ HTK.out, HJT.out]; exact (HJ11.out.ghost _).of_eq (send_no HJE.out (.inl HIB.out))), HT11⟩
              case measure => simp [intOf]; omega
      · obtain rfl : j = n := by omega
        go_wp2
        go_end0
        exact ⟨rfl, fr, by rw [← sendT_all, HLN.out]; exact HJR.out, HT10.out.trans HTR.out⟩
end
end Go.Proofs.YtppaiihcaajkaaaGreat
