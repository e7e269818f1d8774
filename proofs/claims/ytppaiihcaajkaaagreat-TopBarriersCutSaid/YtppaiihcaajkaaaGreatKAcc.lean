/- reader.accept. -/
import Derived.Test.YtppaiihcaajkaaaGreatKRd
import Derived.Test.YtppaiihcaajkaaaGreatXAll
namespace Go.Proofs.YtppaiihcaajkaaaGreat
open Go.RowKit
set_option linter.unusedVariables false
set_option linter.unusedSimpArgs false
/-- What the play of tryCut's reads keep to. -/
def SimA (s : Int) (x : Trk) (M : Msg) : Prop := SimW x M ∧ EvOK M.e ∧ M.e.a = s
def RetAc (B0 : Nat) (s : Int) (x : Trk) (M : Msg) (w : World) (e : Ending) (w' : World) : Prop := ∃ (y : Trk) (A : Option Addr) (a : Nat) (B : Option Addr) (b : Nat) (f ok : Bool), e = .returned (.tuple #[.agg #[.int .i64 y.next, .slice A y.beyond.length a, .slice B y.points.length b, .int .i64 y.mark], .bool f, .bool ok]) ∧ TrV w' (fun k => k < w'.heap.size ∧ (k < B0 ∨ w.heap.size ≤ k)) A a B b y ∧ TrkOK y ∧
  (f = true → M.k = 0 ∧ EvOK M.e) ∧ (SimA s x M → ok = true ∧ f = true ∧ y = ⟨x.next + 1, [], [], x.mark⟩) ∧ Below w.heap.size w w'
def Imp2 (v : Value) : World → List Value → Prop := fun _ vs => ∀ b, vs = [.bool false, b] → b = v
def Imp2t (v : Value) : World → List Value → Prop := fun _ vs => ∀ b, vs = [.bool true, b] → b = v
def ImpT (p : Value → Prop) : World → List Value → Prop := fun _ vs => ∀ b, vs = [.bool true, b] → p b
theorem stepG_yes {P : Program} {ops : Array Oper} {o : Oper} {a : Act} {w : World} {K : Act → World → Prop} {Q : Exit → Act → World → Prop} {b : Bool} (j d : Nat) (hg : o.guard = some (j, b)) (hd : (ops[j]?).bind (·.dst) = some d) (hv : a.tmps[d]? = some (.bool b)) (h : Oper.wp P o a w K Q) : stepG P ops o a w K Q := by
  unfold stepG
  rw [if_pos (by simp [Region.wanted, hg, yielded, hd, hv])]
  exact h
theorem stepG_no {P : Program} {ops : Array Oper} {o : Oper} {a : Act} {w : World} {K : Act → World → Prop} {Q : Exit → Act → World → Prop} {b : Bool} (j d : Nat) (hg : o.guard = some (j, b)) (hd : (ops[j]?).bind (·.dst) = some d) (hv : a.tmps[d]? = some (.bool (!b))) (h : K (a.put o.dst undef) w) : stepG P ops o a w K Q := by
  unfold stepG
  rw [if_neg (by simp [Region.wanted, hg, yielded, hd, hv])]
  exact h
def zt : List Value := [.int .i64 0, .slice none 0 0, .slice none 0 0, .int .i64 0]
theorem make_trk1 (w : World) : (Instr.makeSlice 143 (.int .i64 1) (.int .i64 1)).run Tryz.prog w = .ok (.slice (some ⟨w.heap.size, 0, none⟩) 1 1) (w.alloc (.cells #[.int .i64 0, .slice none 0 0, .slice none 0 0, .int .i64 0] 33)) := by
  obtain ⟨i0, hi0, hz0, hz1, hz2⟩ := info_parts iq_tracker
  have hr := run_make (P := Tryz.prog) w 143 33 i0 _ Tryz.underlying143 hi0 hz0 .i64 .i64 (1 : Int) (1 : Int) (by omega) (by omega) (by rw [hz2]; omega) (by omega)
  rw [hz1] at hr
  have hm : madeCells (Value.agg #[Value.int IntKind.i64 0, Value.slice none 0 0, Value.slice none 0 0, Value.int IntKind.i64 0]).cells (Int.toNat 1 * 4) = #[.int .i64 0, .slice none 0 0, .slice none 0 0, .int .i64 0] := by simp only [Value.cells]; apply Array.ext <;> simp [madeCells]; intro i h; rcases i with _ | _ | _ | _ | _ | _ | _ | _ | i <;> first | rfl | (exfalso; omega) | simp
  rw [hm] at hr
  exact hr
theorem make_trk2 (w : World) : (Instr.makeSlice 143 (.int .i64 2) (.int .i64 2)).run Tryz.prog w = .ok (.slice (some ⟨w.heap.size, 0, none⟩) 2 2) (w.alloc (.cells #[.int .i64 0, .slice none 0 0, .slice none 0 0, .int .i64 0, .int .i64 0, .slice none 0 0, .slice none 0 0, .int .i64 0] 33)) := by
  obtain ⟨i0, hi0, hz0, hz1, hz2⟩ := info_parts iq_tracker
  have hr := run_make (P := Tryz.prog) w 143 33 i0 _ Tryz.underlying143 hi0 hz0 .i64 .i64 (2 : Int) (2 : Int) (by omega) (by omega) (by rw [hz2]; omega) (by omega)
  rw [hz1] at hr
  have hm : madeCells (Value.agg #[Value.int IntKind.i64 0, Value.slice none 0 0, Value.slice none 0 0, Value.int IntKind.i64 0]).cells (Int.toNat 2 * 4) = #[.int .i64 0, .slice none 0 0, .slice none 0 0, .int .i64 0, .int .i64 0, .slice none 0 0, .slice none 0 0, .int .i64 0] := by simp only [Value.cells]; apply Array.ext <;> simp [madeCells]; intro i h; rcases i with _ | _ | _ | _ | _ | _ | _ | _ | i <;> first | rfl | (exfalso; omega) | simp
  rw [hm] at hr
  exact hr
theorem lst_bl1 {w : World} {G : Nat} {Z : Nat → Prop} {A B : Option Addr} {a b : Nat} {x : Trk} (h : Bl w G [.int .i64 x.next, .slice A x.beyond.length a, .slice B x.points.length b, .int .i64 x.mark]) (hx : TrV w Z A a B b x) (hG : Z G) : Lst w Z 4 RTr (.slice (some ⟨G, 0, none⟩) [x].length 1) [x] := by
  refine ⟨⟨_, _, rfl, Nat.le_refl _, by unfold maxLen; simp⟩, fun j hj => ?_⟩
  obtain rfl : j = 0 := by simp at hj; omega
  exact ⟨G, 0, 1, _, rfl, hG, rfl, fun c u hu => by rw [show 0 + 0 * 4 + c = c by omega]; exact h.c c u hu, hx.rt⟩
theorem lst_bl2 {w : World} {G : Nat} {Z : Nat → Prop} {A B : Option Addr} {a b : Nat} {x : Trk} (h : Bl w G [.int .i64 0, .slice none 0 0, .slice none 0 0, .int .i64 (-1), .int .i64 x.next, .slice A x.beyond.length a, .slice B x.points.length b, .int .i64 x.mark]) (hx : TrV w Z A a B b x) (hG : Z G) : Lst w Z 4 RTr (.slice (some ⟨G, 0, none⟩) [trk0, x].length 2) [trk0, x] := by
  refine ⟨⟨_, _, rfl, Nat.le_refl _, by unfold maxLen; simp⟩, fun j hj => ?_⟩
  have hjc : j = 0 ∨ j = 1 := by simp at hj; omega
  rcases hjc with rfl | rfl
  · exact ⟨G, 0, 2, [.int .i64 0, .slice none 0 0, .slice none 0 0, .int .i64 (-1)], rfl, hG, rfl, fun c u hu => by
      rw [show 0 + 0 * 4 + c = c by omega]
      have hc : c < 4 := (List.getElem?_eq_some_iff.1 hu).1
      refine h.c c u ?_
      rcases c with _ | _ | _ | _ | c <;> first | exact hu | omega, ⟨_, _, rfl, Lst.nil, Lst.nil, (trk0_v w).n, (trk0_v w).m⟩⟩
  · exact ⟨G, 0, 2, _, rfl, hG, rfl, fun c u hu => by
      have hc : c < 4 := (List.getElem?_eq_some_iff.1 hu).1
      rw [show 0 + 1 * 4 + c = c + 4 by omega]
      refine h.c (c + 4) u ?_
      rcases c with _ | _ | _ | _ | c <;> first | exact hu | omega, hx.rt⟩
def tcl (n j : Nat) : List Value := (List.replicate j ([.int .i64 0, .slice none 0 0, .slice none 0 0, .int .i64 (-1)] : List Value) ++ List.replicate (n - j) ([.int .i64 0, .slice none 0 0, .slice none 0 0, .int .i64 0] : List Value)).flatten
theorem trk0_ok : TrkOK trk0 := by
  exact ⟨⟨by simp [trk0], by simp [trk0], by simp [trk0], trivial⟩, by unfold trk0; decide, by simp [trk0], trivial⟩
theorem newl_tv {w : World} {base g c i : Nat} {y : Trk} {l : List Trk} (hg : Gq w (fun _ => True) base 33 4 RTr (.slice (some ⟨g, 0, none⟩) l.length c) (l.set i y)) (hi : i < l.length) (hn : NewL g i y w) :
    base ≤ g ∧ ∃ A a B b, w.cell? ⟨g, i * 4, none⟩ = some (.int .i64 y.next) ∧ w.cell? ⟨g, i * 4 + 1, none⟩ = some (.slice A y.beyond.length a) ∧ w.cell? ⟨g, i * 4 + 2, none⟩ = some (.slice B y.points.length b) ∧ w.cell? ⟨g, i * 4 + 3, none⟩ = some (.int .i64 y.mark) ∧ TrV w (fun k => g + 1 ≤ k ∧ k < w.heap.size) A a B b y := by
  refine ⟨(hg.low g rfl).1, ?_⟩
  obtain ⟨u, v, h1, h2, h3, h4⟩ := hn
  have hl : l.length = (l.set i y).length := by simp
  rw [hl] at hg
  obtain ⟨ys, hyl, hyc, hR⟩ := hg.at_ (j := i) (by simpa using hi)
  rw [List.getElem_set_self] at hR
  obtain ⟨A1, a1, B1, b1, rfl, hT⟩ := hR.tv
  have e1 := hyc 1 _ rfl
  have e2 := hyc 2 _ rfl
  rw [h1] at e1
  rw [h2] at e2
  injection e1 with e1
  injection e2 with e2
  subst e1 e2
  exact ⟨A1, a1, B1, b1, hyc 0 _ rfl, h1, h2, hyc 3 _ rfl, h3, h4, hT.n, hT.m⟩
section
variable (w : World)
set_option maxRecDepth 100000 in
set_option maxHeartbeats 16000000 in
theorem accept_any (v : Value) (hT : There RSc 2 w v TT) (s : Int) (hs : s = 0 ∨ s = 1) (off : Int) (x : Trk) (A B E : Option Addr) (a b c B0 : Nat) (M : Msg) (hx0 : TrV w (· < B0) A a B b x) (hB0 : B0 ≤ w.heap.size) (hok : TrkOK x) (hM : NumM M) (hv : Lst w (· < w.heap.size) 3 RV0 (.slice E M.e.vs.length c) M.e.vs) :
    Calls Tryz.prog 47 #[v, .agg #[.int .i64 s, .int .i64 off, .int .i64 x.next, .slice A x.beyond.length a, .slice B x.points.length b, .int .i64 x.mark], .agg #[.int .i64 M.k, .int .i64 M.e.a, .int .i64 M.e.b, .int .i64 M.e.c, .int .i64 M.e.d, .slice E M.e.vs.length c, .int .i64 M.s, .int .i64 M.q, .int .i64 M.t]] w (RetAc B0 s x M w) := by
  have hx : TrV w (· < w.heap.size) A a B b x := ⟨hx0.u.more rd_In (fun k hk => Nat.lt_of_lt_of_le hk hB0), hx0.v.more rd_Pn (fun k hk => Nat.lt_of_lt_of_le hk hB0), hx0.n, hx0.m⟩
  have HT0 := hide (show ∀ w1, Below w.heap.size w w1 → TrV w1 (fun k => k < w1.heap.size ∧ (k < B0 ∨ w.heap.size ≤ k)) A a B b x from fun w1 hb => ⟨(hx0.u.keep rd_In (Kp.lowBelow hb (fun k hk => Nat.lt_of_lt_of_le hk hB0))).more rd_In (fun k hk => ⟨Nat.lt_of_lt_of_le (Nat.lt_of_lt_of_le hk hB0) hb.size, .inl hk⟩), (hx0.v.keep rd_Pn (Kp.lowBelow hb (fun k hk => Nat.lt_of_lt_of_le hk hB0))).more rd_Pn (fun k hk => ⟨Nat.lt_of_lt_of_le (Nat.lt_of_lt_of_le hk hB0) hb.size, .inl hk⟩), hx0.n, hx0.m⟩)
  obtain ⟨X1, hX1⟩ : ∃ X1, w.alloc (.cells #[.int .i64 s, .int .i64 off, .int .i64 x.next, .slice A x.beyond.length a, .slice B x.points.length b, .int .i64 x.mark] 35) = X1 := ⟨_, rfl⟩
  obtain ⟨X2, hX2⟩ : ∃ X2, X1.alloc (.cells #[.int .i64 M.k, .int .i64 M.e.a, .int .i64 M.e.b, .int .i64 M.e.c, .int .i64 M.e.d, .slice E M.e.vs.length c, .int .i64 M.s, .int .i64 M.q, .int .i64 M.t] 54) = X2 := ⟨_, rfl⟩
  obtain ⟨W3, hW3⟩ : ∃ W3, X2.alloc (.cells #[.int .i64 0, .slice none 0 0, .slice none 0 0, .int .i64 0] 33) = W3 := ⟨_, rfl⟩
  have hs1 : X1.heap.size = w.heap.size + 1 := by rw [← hX1]; simp
  have hs2 : X2.heap.size = w.heap.size + 2 := by rw [← hX2]; simp [hs1]
  have HX := hide (show Bl W3 w.heap.size [.int .i64 s, .int .i64 off, .int .i64 x.next, .slice A x.beyond.length a, .slice B x.points.length b, .int .i64 x.mark] by rw [← hW3, ← hX2, ← hX1]; exact ((Bl.new w _ _).laid _).laid _)
  have HM := hide (show Bl W3 (w.heap.size + 1) [.int .i64 M.k, .int .i64 M.e.a, .int .i64 M.e.b, .int .i64 M.e.c, .int .i64 M.e.d, .slice E M.e.vs.length c, .int .i64 M.s, .int .i64 M.q, .int .i64 M.t] by rw [← hW3, ← hX2, ← hs1]; exact (Bl.new X1 _ _).laid _)
  have HZ := hide (show Bl W3 (w.heap.size + 2) [.int .i64 0, .slice none 0 0, .slice none 0 0, .int .i64 0] by rw [← hW3, ← hs2]; exact Bl.new X2 _ _)
  have HB := hide (show Below w.heap.size w W3 by rw [← hW3, ← hX2, ← hX1]; exact bthen (bthen (below_laid _) (below_laid _)) (below_laid _))
  have HWW := hide (show ((w.alloc (.cells #[.int .i64 s, .int .i64 off, .int .i64 x.next, .slice A x.beyond.length a, .slice B x.points.length b, .int .i64 x.mark] 35)).alloc (.cells #[.int .i64 M.k, .int .i64 M.e.a, .int .i64 M.e.b, .int .i64 M.e.c, .int .i64 M.e.d, .slice E M.e.vs.length c, .int .i64 M.s, .int .i64 M.q, .int .i64 M.t] 54)).alloc (.cells #[.int .i64 0, .slice none 0 0, .slice none 0 0, .int .i64 0] 33) = W3 by rw [hX1, hX2, hW3])
  clear hs1 hs2 hX1 hX2 hW3
  have HCM := hide (fun (w1 : World) => checkmsg_any w1 M E c hM)
  have HOR := hide (fun (w1 : World) => origin_any w1 M E c)
  have HEC := hide (fun (w1 : World) (hb : Below w.heap.size w w1) => evcheck_any w1 v (There.keep rd_Sc hT hb) M.e E c (hv.below rd_V0 hb))
  have HTV := hide (fun (w1 : World) (hb : Below w.heap.size w w1) => hx.below hb)
  obtain ⟨O, hO⟩ : ∃ O : Int, (if M.k = 0 then M.e.a else M.s) = O := ⟨_, rfl⟩
  have HO := hide hO
  rw [hO] at HOR
  have HSIM := hide (show SimA s x M → M.k = 0 ∧ PassE M ∧ O = s from fun h => ⟨h.1.1, h.1.2.1, by rw [← hO, if_pos h.1.1]; exact h.2.2⟩)
  have HSIE := hide (show SimA s x M → EvOK M.e from fun h => h.2.1)
  have HWR := hide (fun (w1 : World) (i : Nat) (l : List Trk) (A : Option Addr) (c1 : Nat) (hl : Lst w1 (· < w1.heap.size) 4 RTr (.slice A l.length c1) l) (h8 : l.length ≤ 8) (ho : ∀ x ∈ l, TrkOK x) (hi : i < l.length) (hsrc : O = (i : Int)) => wrcv_any w1 l i M A E c1 c hl h8 ho hi (hO.trans hsrc) hM)
  have HSW := hide (show SimA s x M → SimW x M from fun h => h.1)
  have HOK := hide hok
  clear hT hx hx0 hB0 hM hv hO hok
  obtain ⟨SM, hSM⟩ : ∃ SM, SimA s x M = SM := ⟨_, rfl⟩
  have HSMD := hide hSM
  rw [hSM] at HSIM HSIE HSW
  obtain ⟨EVK, hEVK⟩ : ∃ p, EvOK M.e = p := ⟨_, rfl⟩
  have HEVD := hide hEVK
  rw [hEVK] at HEC HSIE
  clear hSM hEVK
  go_enter Tryz.func47, Tryz.ntmps47
  go_upto_region 1 with (fail)
  rw [HWW.out]
  clear HWW
  have x0 := HX.out.c 0 _ rfl
  have m0 := HM.out.c 0 _ rfl
  have m1 := HM.out.c 1 _ rfl
  have m2 := HM.out.c 2 _ rfl
  have m3 := HM.out.c 3 _ rfl
  have m4 := HM.out.c 4 _ rfl
  have m5 := HM.out.c 5 _ rfl
  have m6 := HM.out.c 6 _ rfl
  have m7 := HM.out.c 7 _ rfl
  have m8 := HM.out.c 8 _ rfl
  go_cut [23] from 14 to 23 (fun p wx => ∃ d : Bool, p = .bool d ∧ Hid ((d = false → O = s) ∧ (SM → d = false)) ∧ Hid (Below W3.heap.size W3 wx))
  case first =>
    refine wp_region_all [some 14, some 15, some 16, some 17, some 18, some 19, some 20, some 21, some 22, some 23] [[14], [15], [16], [17], [17, 18], [17, 19], [17, 20], [17, 21], [17, 22], [23]] [Fix1 (.agg #[.int .i64 M.k, .int .i64 M.e.a, .int .i64 M.e.b, .int .i64 M.e.c, .int .i64 M.e.d, .slice E M.e.vs.length c, .int .i64 M.s, .int .i64 M.q, .int .i64 M.t]), Own1 (fun (_ : World) (u : Value) => ∃ n : Int, u = .int .i64 n ∧ (SM → n = 0)), Own1 (fun (_ : World) (u : Value) => ∃ d : Bool, u = .bool d ∧ (SM → d = false)), Own1 (fun (_ : World) (u : Value) => ∃ d : Bool, u = .bool d ∧ (SM → d = false)), Imp2 (.agg #[.int .i64 M.k, .int .i64 M.e.a, .int .i64 M.e.b, .int .i64 M.e.c, .int .i64 M.e.d, .slice E M.e.vs.length c, .int .i64 M.s, .int .i64 M.q, .int .i64 M.t]), Imp2 (.int .i64 O), Imp2 (.pointer (some ⟨w.heap.size, 0, none⟩)), Imp2 (.int .i64 s), Imp2 (.bool (O != s)), Own1 (fun (_ : World) (u : Value) => ∃ d : Bool, u = .bool d ∧ (d = false → O = s) ∧ (SM → d = false))] (by kernel_rfl) (by kernel_rfl) (fun d w5 => match d with | 0 => (fun w5 => Below W3.heap.size W3 w5) w5 | _ + 1 => True) (fun k => []) (fun k => [0]) (by kernel_rfl) ?_ (fun k w5 w6 => ((True) ∧ Below w5.heap.size w5 w6)) (fun _ => []) ?_ ?_ ?_ ?_ ?_
    · intro d
      match d with
      | 0 => exact (Below.refl _ _).drew
      | _ + 1 => trivial
    · intro j w5 w6 ht
      rcases ht with ⟨-, hb⟩
      · exact hb.size
    · intro j k hj hk hne hsp hwt w5 w6 vs hsz ht hv
      have hkc : k = 0 ∨ k = 1 ∨ k = 2 ∨ k = 3 ∨ k = 4 ∨ k = 5 ∨ k = 6 ∨ k = 7 ∨ k = 8 ∨ k = 9 := by have : k < 10 := hk; omega
      rcases hkc with rfl | rfl | rfl | rfl | rfl | rfl | rfl | rfl | rfl | rfl
      · exact hv
      · exact hv
      · exact hv
      · exact hv
      · exact hv
      · exact hv
      · exact hv
      · exact hv
      · exact hv
      · exact hv
    · intro j d hj hd w5 w6 hsz ht hI
      match d with
      | 0 =>
        rcases ht with ⟨-, hb⟩
        · exact hI.trans (hb.mono hI.size)
      | _ + 1 => trivial
    · intro j9 o9 hj9 ho x w5 hsz hI hd
      have hjc : j9 = 0 ∨ j9 = 1 ∨ j9 = 2 ∨ j9 = 3 ∨ j9 = 4 ∨ j9 = 5 ∨ j9 = 6 ∨ j9 = 7 ∨ j9 = 8 ∨ j9 = 9 := by have : j9 < 10 := hj9; omega
      rcases hjc with rfl | rfl | rfl | rfl | rfl | rfl | rfl | rfl | rfl | rfl
      all_goals have hoo := Option.some.inj ho
      all_goals clear ho
      all_goals generalize hK : (fun (a' : Act) (w' : World) => _) = K
      all_goals simp only [List.filterMap_cons, List.filterMap_nil, _root_.id, puts]
      · have hg : o9.guard = none := by rw [← hoo]; rfl
        refine stepG_of hg ?_
        clear hg
        subst hoo
        have i0 := hI 0 (by decide)
        have m0 := keep1 i0 (HM.out.c 0 _ rfl)
        have m1 := keep1 i0 (HM.out.c 1 _ rfl)
        have m2 := keep1 i0 (HM.out.c 2 _ rfl)
        have m3 := keep1 i0 (HM.out.c 3 _ rfl)
        have m4 := keep1 i0 (HM.out.c 4 _ rfl)
        have m5 := keep1 i0 (HM.out.c 5 _ rfl)
        have m6 := keep1 i0 (HM.out.c 6 _ rfl)
        have m7 := keep1 i0 (HM.out.c 7 _ rfl)
        have m8 := keep1 i0 (HM.out.c 8 _ rfl)
        have x0 := keep1 i0 (HX.out.c 0 _ rfl)
        clear hI hd
        go_simp
        rw [← hK]
        exact ⟨.agg #[.int .i64 M.k, .int .i64 M.e.a, .int .i64 M.e.b, .int .i64 M.e.c, .int .i64 M.e.d, .slice E M.e.vs.length c, .int .i64 M.s, .int .i64 M.q, .int .i64 M.t], (by simp only [List.filterMap_cons, List.filterMap_nil, _root_.id, puts]; go_simp), ⟨trivial, Below.refl _ _⟩, rfl⟩
      · have hg : o9.guard = none := by rw [← hoo]; rfl
        refine stepG_of hg ?_
        clear hg
        subst hoo
        have i0 := hI 0 (by decide)
        have m0 := keep1 i0 (HM.out.c 0 _ rfl)
        have m1 := keep1 i0 (HM.out.c 1 _ rfl)
        have m2 := keep1 i0 (HM.out.c 2 _ rfl)
        have m3 := keep1 i0 (HM.out.c 3 _ rfl)
        have m4 := keep1 i0 (HM.out.c 4 _ rfl)
        have m5 := keep1 i0 (HM.out.c 5 _ rfl)
        have m6 := keep1 i0 (HM.out.c 6 _ rfl)
        have m7 := keep1 i0 (HM.out.c 7 _ rfl)
        have m8 := keep1 i0 (HM.out.c 8 _ rfl)
        have x0 := keep1 i0 (HX.out.c 0 _ rfl)
        have e14 : x 14 = .agg #[.int .i64 M.k, .int .i64 M.e.a, .int .i64 M.e.b, .int .i64 M.e.c, .int .i64 M.e.d, .slice E M.e.vs.length c, .int .i64 M.s, .int .i64 M.q, .int .i64 M.t] := fix1 (hd 0 (by kernel_rfl) (by kernel_rfl))
        clear hI hd
        go_simp
        go_at_call 67
        refine (HCM.out _).mono ?_
        rintro e1 w1 ⟨n, rfl, hn, hb1⟩
        go_simp
        rw [← hK]
        exact ⟨.int .i64 n, (by simp only [List.filterMap_cons, List.filterMap_nil, _root_.id, puts]; go_simp), ⟨trivial, hb1⟩, ⟨_, rfl, n, rfl, fun h => hn.2 (HSIM.out h).1 (HSIM.out h).2.1⟩⟩
      · have hg : o9.guard = none := by rw [← hoo]; rfl
        refine stepG_of hg ?_
        clear hg
        subst hoo
        have i0 := hI 0 (by decide)
        have m0 := keep1 i0 (HM.out.c 0 _ rfl)
        have m1 := keep1 i0 (HM.out.c 1 _ rfl)
        have m2 := keep1 i0 (HM.out.c 2 _ rfl)
        have m3 := keep1 i0 (HM.out.c 3 _ rfl)
        have m4 := keep1 i0 (HM.out.c 4 _ rfl)
        have m5 := keep1 i0 (HM.out.c 5 _ rfl)
        have m6 := keep1 i0 (HM.out.c 6 _ rfl)
        have m7 := keep1 i0 (HM.out.c 7 _ rfl)
        have m8 := keep1 i0 (HM.out.c 8 _ rfl)
        have x0 := keep1 i0 (HX.out.c 0 _ rfl)
        have p15 : (fun (_ : World) (u : Value) => ∃ n : Int, u = .int .i64 n ∧ (SM → n = 0)) w5 (x 15) := Own1.out (p := (fun (_ : World) (u : Value) => ∃ n : Int, u = .int .i64 n ∧ (SM → n = 0) : World → Value → Prop)) (w := w5) (v := x 15) (hd 1 (by kernel_rfl) (by kernel_rfl))
        clear hI hd
        with_reducible obtain ⟨n, e15, h15⟩ := p15
        go_simp
        rw [← hK]
        exact ⟨.bool (n != 0), (by simp only [List.filterMap_cons, List.filterMap_nil, _root_.id, puts]; go_simp), ⟨trivial, Below.refl _ _⟩, ⟨_, rfl, _, rfl, fun h => by rw [h15 h]; rfl⟩⟩
      · have hg : o9.guard = none := by rw [← hoo]; rfl
        refine stepG_of hg ?_
        clear hg
        subst hoo
        have i0 := hI 0 (by decide)
        have m0 := keep1 i0 (HM.out.c 0 _ rfl)
        have m1 := keep1 i0 (HM.out.c 1 _ rfl)
        have m2 := keep1 i0 (HM.out.c 2 _ rfl)
        have m3 := keep1 i0 (HM.out.c 3 _ rfl)
        have m4 := keep1 i0 (HM.out.c 4 _ rfl)
        have m5 := keep1 i0 (HM.out.c 5 _ rfl)
        have m6 := keep1 i0 (HM.out.c 6 _ rfl)
        have m7 := keep1 i0 (HM.out.c 7 _ rfl)
        have m8 := keep1 i0 (HM.out.c 8 _ rfl)
        have x0 := keep1 i0 (HX.out.c 0 _ rfl)
        have p16 : (fun (_ : World) (u : Value) => ∃ d : Bool, u = .bool d ∧ (SM → d = false)) w5 (x 16) := Own1.out (p := (fun (_ : World) (u : Value) => ∃ d : Bool, u = .bool d ∧ (SM → d = false) : World → Value → Prop)) (w := w5) (v := x 16) (hd 2 (by kernel_rfl) (by kernel_rfl))
        clear hI hd
        with_reducible obtain ⟨d, e16, h16⟩ := p16
        go_simp
        rw [← hK]
        exact ⟨.bool d, (by simp only [List.filterMap_cons, List.filterMap_nil, _root_.id, puts]; go_simp), ⟨trivial, Below.refl _ _⟩, ⟨_, rfl, d, rfl, h16⟩⟩
      · have i0 := hI 0 (by decide)
        have m0 := keep1 i0 (HM.out.c 0 _ rfl)
        have m1 := keep1 i0 (HM.out.c 1 _ rfl)
        have m2 := keep1 i0 (HM.out.c 2 _ rfl)
        have m3 := keep1 i0 (HM.out.c 3 _ rfl)
        have m4 := keep1 i0 (HM.out.c 4 _ rfl)
        have m5 := keep1 i0 (HM.out.c 5 _ rfl)
        have m6 := keep1 i0 (HM.out.c 6 _ rfl)
        have m7 := keep1 i0 (HM.out.c 7 _ rfl)
        have m8 := keep1 i0 (HM.out.c 8 _ rfl)
        have x0 := keep1 i0 (HX.out.c 0 _ rfl)
        have p17 : (fun (_ : World) (u : Value) => ∃ d : Bool, u = .bool d ∧ (SM → d = false)) w5 (x 17) := Own1.out (p := (fun (_ : World) (u : Value) => ∃ d : Bool, u = .bool d ∧ (SM → d = false) : World → Value → Prop)) (w := w5) (v := x 17) (hd 3 (by kernel_rfl) (by kernel_rfl))
        obtain ⟨dg, eg, -⟩ := p17
        have hg : o9.guard = some (3, false) := by rw [← hoo]; rfl
        cases dg
        · refine stepG_yes 3 17 hg (by kernel_rfl) (by go_simp) ?_
          clear hg
          subst hoo
          clear hI hd
          go_simp
          rw [← hK]
          exact ⟨(.agg #[.int .i64 M.k, .int .i64 M.e.a, .int .i64 M.e.b, .int .i64 M.e.c, .int .i64 M.e.d, .slice E M.e.vs.length c, .int .i64 M.s, .int .i64 M.q, .int .i64 M.t]), (by simp only [List.filterMap_cons, List.filterMap_nil, _root_.id, puts]; go_simp), ⟨trivial, Below.refl _ _⟩, (by intro b h; simp [valsL, updO, upd] at h; exact h.2.symm)⟩
        · refine stepG_no 3 17 hg (by kernel_rfl) (by go_simp) ?_
          clear hg
          subst hoo
          rw [← hK]
          exact ⟨undef, rfl, ⟨trivial, Below.refl _ _⟩, (by intro b h; simp [valsL, updO, upd, eg] at h)⟩
      · have i0 := hI 0 (by decide)
        have m0 := keep1 i0 (HM.out.c 0 _ rfl)
        have m1 := keep1 i0 (HM.out.c 1 _ rfl)
        have m2 := keep1 i0 (HM.out.c 2 _ rfl)
        have m3 := keep1 i0 (HM.out.c 3 _ rfl)
        have m4 := keep1 i0 (HM.out.c 4 _ rfl)
        have m5 := keep1 i0 (HM.out.c 5 _ rfl)
        have m6 := keep1 i0 (HM.out.c 6 _ rfl)
        have m7 := keep1 i0 (HM.out.c 7 _ rfl)
        have m8 := keep1 i0 (HM.out.c 8 _ rfl)
        have x0 := keep1 i0 (HX.out.c 0 _ rfl)
        have p18 : (Imp2 (.agg #[.int .i64 M.k, .int .i64 M.e.a, .int .i64 M.e.b, .int .i64 M.e.c, .int .i64 M.e.d, .slice E M.e.vs.length c, .int .i64 M.s, .int .i64 M.q, .int .i64 M.t])) w5 [x 17, x 18] := hd 4 (by kernel_rfl) (by kernel_rfl)
        have p17 : (fun (_ : World) (u : Value) => ∃ d : Bool, u = .bool d ∧ (SM → d = false)) w5 (x 17) := Own1.out (p := (fun (_ : World) (u : Value) => ∃ d : Bool, u = .bool d ∧ (SM → d = false) : World → Value → Prop)) (w := w5) (v := x 17) (hd 3 (by kernel_rfl) (by kernel_rfl))
        obtain ⟨dg, eg, -⟩ := p17
        have hg : o9.guard = some (3, false) := by rw [← hoo]; rfl
        cases dg
        · refine stepG_yes 3 17 hg (by kernel_rfl) (by go_simp) ?_
          clear hg
          subst hoo
          have e18 := p18 _ (by rw [eg])
          clear hI hd
          go_simp
          go_at_call 68
          refine (HOR.out _).mono ?_
          rintro e1 w1 ⟨rfl, hb1⟩
          go_simp
          rw [← hK]
          exact ⟨.int .i64 O, (by simp only [List.filterMap_cons, List.filterMap_nil, _root_.id, puts]; go_simp), ⟨trivial, hb1⟩, (by intro b h; simp [valsL, updO, upd] at h; exact h.2.symm)⟩
        · refine stepG_no 3 17 hg (by kernel_rfl) (by go_simp) ?_
          clear hg
          subst hoo
          rw [← hK]
          exact ⟨undef, rfl, ⟨trivial, Below.refl _ _⟩, (by intro b h; simp [valsL, updO, upd, eg] at h)⟩
      · have i0 := hI 0 (by decide)
        have m0 := keep1 i0 (HM.out.c 0 _ rfl)
        have m1 := keep1 i0 (HM.out.c 1 _ rfl)
        have m2 := keep1 i0 (HM.out.c 2 _ rfl)
        have m3 := keep1 i0 (HM.out.c 3 _ rfl)
        have m4 := keep1 i0 (HM.out.c 4 _ rfl)
        have m5 := keep1 i0 (HM.out.c 5 _ rfl)
        have m6 := keep1 i0 (HM.out.c 6 _ rfl)
        have m7 := keep1 i0 (HM.out.c 7 _ rfl)
        have m8 := keep1 i0 (HM.out.c 8 _ rfl)
        have x0 := keep1 i0 (HX.out.c 0 _ rfl)
        have p17 : (fun (_ : World) (u : Value) => ∃ d : Bool, u = .bool d ∧ (SM → d = false)) w5 (x 17) := Own1.out (p := (fun (_ : World) (u : Value) => ∃ d : Bool, u = .bool d ∧ (SM → d = false) : World → Value → Prop)) (w := w5) (v := x 17) (hd 3 (by kernel_rfl) (by kernel_rfl))
        obtain ⟨dg, eg, -⟩ := p17
        have hg : o9.guard = some (3, false) := by rw [← hoo]; rfl
        cases dg
        · refine stepG_yes 3 17 hg (by kernel_rfl) (by go_simp) ?_
          clear hg
          subst hoo
          clear hI hd
          go_simp
          rw [← hK]
          exact ⟨(.pointer (some ⟨w.heap.size, 0, none⟩)), (by simp only [List.filterMap_cons, List.filterMap_nil, _root_.id, puts]; go_simp), ⟨trivial, Below.refl _ _⟩, (by intro b h; simp [valsL, updO, upd] at h; exact h.2.symm)⟩
        · refine stepG_no 3 17 hg (by kernel_rfl) (by go_simp) ?_
          clear hg
          subst hoo
          rw [← hK]
          exact ⟨undef, rfl, ⟨trivial, Below.refl _ _⟩, (by intro b h; simp [valsL, updO, upd, eg] at h)⟩
      · have i0 := hI 0 (by decide)
        have m0 := keep1 i0 (HM.out.c 0 _ rfl)
        have m1 := keep1 i0 (HM.out.c 1 _ rfl)
        have m2 := keep1 i0 (HM.out.c 2 _ rfl)
        have m3 := keep1 i0 (HM.out.c 3 _ rfl)
        have m4 := keep1 i0 (HM.out.c 4 _ rfl)
        have m5 := keep1 i0 (HM.out.c 5 _ rfl)
        have m6 := keep1 i0 (HM.out.c 6 _ rfl)
        have m7 := keep1 i0 (HM.out.c 7 _ rfl)
        have m8 := keep1 i0 (HM.out.c 8 _ rfl)
        have x0 := keep1 i0 (HX.out.c 0 _ rfl)
        have p20 : (Imp2 (.pointer (some ⟨w.heap.size, 0, none⟩))) w5 [x 17, x 20] := hd 6 (by kernel_rfl) (by kernel_rfl)
        have p17 : (fun (_ : World) (u : Value) => ∃ d : Bool, u = .bool d ∧ (SM → d = false)) w5 (x 17) := Own1.out (p := (fun (_ : World) (u : Value) => ∃ d : Bool, u = .bool d ∧ (SM → d = false) : World → Value → Prop)) (w := w5) (v := x 17) (hd 3 (by kernel_rfl) (by kernel_rfl))
        obtain ⟨dg, eg, -⟩ := p17
        have hg : o9.guard = some (3, false) := by rw [← hoo]; rfl
        cases dg
        · refine stepG_yes 3 17 hg (by kernel_rfl) (by go_simp) ?_
          clear hg
          subst hoo
          have e20 := p20 _ (by rw [eg])
          clear hI hd
          go_simp
          rw [← hK]
          exact ⟨(.int .i64 s), (by simp only [List.filterMap_cons, List.filterMap_nil, _root_.id, puts]; go_simp), ⟨trivial, Below.refl _ _⟩, (by intro b h; simp [valsL, updO, upd] at h; exact h.2.symm)⟩
        · refine stepG_no 3 17 hg (by kernel_rfl) (by go_simp) ?_
          clear hg
          subst hoo
          rw [← hK]
          exact ⟨undef, rfl, ⟨trivial, Below.refl _ _⟩, (by intro b h; simp [valsL, updO, upd, eg] at h)⟩
      · have i0 := hI 0 (by decide)
        have m0 := keep1 i0 (HM.out.c 0 _ rfl)
        have m1 := keep1 i0 (HM.out.c 1 _ rfl)
        have m2 := keep1 i0 (HM.out.c 2 _ rfl)
        have m3 := keep1 i0 (HM.out.c 3 _ rfl)
        have m4 := keep1 i0 (HM.out.c 4 _ rfl)
        have m5 := keep1 i0 (HM.out.c 5 _ rfl)
        have m6 := keep1 i0 (HM.out.c 6 _ rfl)
        have m7 := keep1 i0 (HM.out.c 7 _ rfl)
        have m8 := keep1 i0 (HM.out.c 8 _ rfl)
        have x0 := keep1 i0 (HX.out.c 0 _ rfl)
        have p19 : (Imp2 (.int .i64 O)) w5 [x 17, x 19] := hd 5 (by kernel_rfl) (by kernel_rfl)
        have p21 : (Imp2 (.int .i64 s)) w5 [x 17, x 21] := hd 7 (by kernel_rfl) (by kernel_rfl)
        have p17 : (fun (_ : World) (u : Value) => ∃ d : Bool, u = .bool d ∧ (SM → d = false)) w5 (x 17) := Own1.out (p := (fun (_ : World) (u : Value) => ∃ d : Bool, u = .bool d ∧ (SM → d = false) : World → Value → Prop)) (w := w5) (v := x 17) (hd 3 (by kernel_rfl) (by kernel_rfl))
        obtain ⟨dg, eg, -⟩ := p17
        have hg : o9.guard = some (3, false) := by rw [← hoo]; rfl
        cases dg
        · refine stepG_yes 3 17 hg (by kernel_rfl) (by go_simp) ?_
          clear hg
          subst hoo
          have e19 := p19 _ (by rw [eg])
          have e21 := p21 _ (by rw [eg])
          clear hI hd
          go_simp
          rw [← hK]
          exact ⟨(.bool (O != s)), (by simp only [List.filterMap_cons, List.filterMap_nil, _root_.id, puts]; go_simp), ⟨trivial, Below.refl _ _⟩, (by intro b h; simp [valsL, updO, upd] at h; exact h.2.symm)⟩
        · refine stepG_no 3 17 hg (by kernel_rfl) (by go_simp) ?_
          clear hg
          subst hoo
          rw [← hK]
          exact ⟨undef, rfl, ⟨trivial, Below.refl _ _⟩, (by intro b h; simp [valsL, updO, upd, eg] at h)⟩
      · have hg : o9.guard = none := by rw [← hoo]; rfl
        refine stepG_of hg ?_
        clear hg
        subst hoo
        have i0 := hI 0 (by decide)
        have m0 := keep1 i0 (HM.out.c 0 _ rfl)
        have m1 := keep1 i0 (HM.out.c 1 _ rfl)
        have m2 := keep1 i0 (HM.out.c 2 _ rfl)
        have m3 := keep1 i0 (HM.out.c 3 _ rfl)
        have m4 := keep1 i0 (HM.out.c 4 _ rfl)
        have m5 := keep1 i0 (HM.out.c 5 _ rfl)
        have m6 := keep1 i0 (HM.out.c 6 _ rfl)
        have m7 := keep1 i0 (HM.out.c 7 _ rfl)
        have m8 := keep1 i0 (HM.out.c 8 _ rfl)
        have x0 := keep1 i0 (HX.out.c 0 _ rfl)
        have p17 : (fun (_ : World) (u : Value) => ∃ d : Bool, u = .bool d ∧ (SM → d = false)) w5 (x 17) := Own1.out (p := (fun (_ : World) (u : Value) => ∃ d : Bool, u = .bool d ∧ (SM → d = false) : World → Value → Prop)) (w := w5) (v := x 17) (hd 3 (by kernel_rfl) (by kernel_rfl))
        have p22 : (Imp2 (.bool (O != s))) w5 [x 17, x 22] := hd 8 (by kernel_rfl) (by kernel_rfl)
        clear hI hd
        with_reducible obtain ⟨d, e17, h17⟩ := p17
        cases d
        · have e22 := p22 _ (by rw [e17])
          clear p22
          go_simp
          rw [← hK]
          exact ⟨.bool (O != s), (by simp only [List.filterMap_cons, List.filterMap_nil, _root_.id, puts]; go_simp), ⟨trivial, Below.refl _ _⟩, ⟨_, rfl, _, rfl, fun h => by simpa using h, fun h => by rw [(HSIM.out h).2.2]; simp⟩⟩
        · clear p22
          go_simp
          rw [← hK]
          exact ⟨.bool true, (by simp only [List.filterMap_cons, List.filterMap_nil, _root_.id, puts]; go_simp), ⟨trivial, Below.refl _ _⟩, ⟨_, rfl, true, rfl, fun h => (by cases h), fun h => absurd (h17 h) (by decide)⟩⟩
    · intro x w9 hsz hI hP
      have i0 := hI 0 (fun j _ => by simp)
      have e14 : x 14 = .agg #[.int .i64 M.k, .int .i64 M.e.a, .int .i64 M.e.b, .int .i64 M.e.c, .int .i64 M.e.d, .slice E M.e.vs.length c, .int .i64 M.s, .int .i64 M.q, .int .i64 M.t] := fix1 (hP 0 (by decide) (fun _ _ h => by cases h))
      have p15 : (fun (_ : World) (u : Value) => ∃ n : Int, u = .int .i64 n ∧ (SM → n = 0)) w9 (x 15) := Own1.out (p := (fun (_ : World) (u : Value) => ∃ n : Int, u = .int .i64 n ∧ (SM → n = 0) : World → Value → Prop)) (w := w9) (v := x 15) (hP 1 (by decide) (fun _ _ h => by cases h))
      have p16 : (fun (_ : World) (u : Value) => ∃ d : Bool, u = .bool d ∧ (SM → d = false)) w9 (x 16) := Own1.out (p := (fun (_ : World) (u : Value) => ∃ d : Bool, u = .bool d ∧ (SM → d = false) : World → Value → Prop)) (w := w9) (v := x 16) (hP 2 (by decide) (fun _ _ h => by cases h))
      have p17 : (fun (_ : World) (u : Value) => ∃ d : Bool, u = .bool d ∧ (SM → d = false)) w9 (x 17) := Own1.out (p := (fun (_ : World) (u : Value) => ∃ d : Bool, u = .bool d ∧ (SM → d = false) : World → Value → Prop)) (w := w9) (v := x 17) (hP 3 (by decide) (fun _ _ h => by cases h))
      have p18 : (Imp2 (.agg #[.int .i64 M.k, .int .i64 M.e.a, .int .i64 M.e.b, .int .i64 M.e.c, .int .i64 M.e.d, .slice E M.e.vs.length c, .int .i64 M.s, .int .i64 M.q, .int .i64 M.t])) w9 [x 17, x 18] := hP 4 (by decide) (fun _ _ h => by cases h)
      have p19 : (Imp2 (.int .i64 O)) w9 [x 17, x 19] := hP 5 (by decide) (fun _ _ h => by cases h)
      have p20 : (Imp2 (.pointer (some ⟨w.heap.size, 0, none⟩))) w9 [x 17, x 20] := hP 6 (by decide) (fun _ _ h => by cases h)
      have p21 : (Imp2 (.int .i64 s)) w9 [x 17, x 21] := hP 7 (by decide) (fun _ _ h => by cases h)
      have p22 : (Imp2 (.bool (O != s))) w9 [x 17, x 22] := hP 8 (by decide) (fun _ _ h => by cases h)
      have p23 : (fun (_ : World) (u : Value) => ∃ d : Bool, u = .bool d ∧ (d = false → O = s) ∧ (SM → d = false)) w9 (x 23) := Own1.out (p := (fun (_ : World) (u : Value) => ∃ d : Bool, u = .bool d ∧ (d = false → O = s) ∧ (SM → d = false) : World → Value → Prop)) (w := w9) (v := x 23) (hP 9 (by decide) (fun _ _ h => by cases h))
      clear hI hP
      with_reducible obtain ⟨d, e23, h23⟩ := p23
      simp only [List.filterMap_cons, List.filterMap_nil, _root_.id, puts, Act.put, List.setIfInBounds_toArray, List.set_cons_succ, List.set_cons_zero]
      go_wp2_with fail
      go_meet
      exact ⟨d, (by first | exact e23 | rfl), hide h23, hide i0⟩
  case rest =>
    obtain ⟨d, rfl, hd, hbb⟩ := hcut
    have HBB := hide hbb.out
    obtain ⟨W4, hW4⟩ : ∃ W4, wc = W4 := ⟨_, rfl⟩
    rw [hW4] at HBB ⊢
    have HX4 := hide (HX.out.keep HBB.out)
    have HM4 := hide (HM.out.keep HBB.out)
    have HZ4 := hide (HZ.out.keep HBB.out)
    have HB4 := hide (bthen HB.out HBB.out)
    have hO1 := hd.out.1
    have HD2 := hide hd.out.2
    clear hW4 hd hbb HBB x0 m0 m1 m2 m3 m4 m5 m6 m7 m8 HX HM HZ HB
    cases d
    · have HO1 := hide (hO1 rfl)
      clear hO1 HD2
      go_upto_region 3 with (fail)
      go_cut [35] from 24 to 35 (fun p wx => ∃ d : Bool, p = .bool d ∧ Hid (d = false ↔ (M.k = 0 → EVK)) ∧ Hid (Below W4.heap.size W4 wx))
      case first =>
        have m0 := HM4.out.c 0 _ rfl
        by_cases hk : M.k = 0
        · have hk1 : (M.k == 0) = true := by simp [hk]
          have HK := hide hk
          clear hk
          have m1 := HM4.out.c 1 _ rfl
          have m2 := HM4.out.c 2 _ rfl
          have m3 := HM4.out.c 3 _ rfl
          have m4 := HM4.out.c 4 _ rfl
          have m5 := HM4.out.c 5 _ rfl
          go_wp2_with fail
          refine (HEC.out _ HB4.out).mono ?_
          rintro e5 w5 ⟨n, rfl, hn, hb5⟩
          have HN := hide hn
          have HB5 := hide hb5
          clear hn hb5 m0 m1 m2 m3 m4 m5
          go_wp2_with fail
          go_meet
          exact ⟨n != 0, rfl, hide ⟨fun h _ => HN.out.1 (by simpa using h), fun h => by rw [HN.out.2 (h HK.out)]; rfl⟩, HB5⟩
        · have hk1 : (M.k == 0) = false := by simp [hk]
          go_wp2_with fail
          go_meet
          exact ⟨false, rfl, hide ⟨fun _ h => absurd h hk, fun _ => rfl⟩, hide (Below.refl _ _)⟩
      case rest =>
        obtain ⟨d, rfl, hd, hbb⟩ := hcut
        have HBB := hide hbb.out
        obtain ⟨W5, hW5⟩ : ∃ W5, wc = W5 := ⟨_, rfl⟩
        rw [hW5] at HBB ⊢
        have HX5 := hide (HX4.out.keep HBB.out)
        have HM5 := hide (HM4.out.keep HBB.out)
        have HZ5 := hide (HZ4.out.keep HBB.out)
        have HB5 := hide (bthen HB4.out HBB.out)
        have HD := hide hd.out
        clear hW5 hd hbb HBB HX4 HM4 HZ4 HB4
        cases d
        · have HEV := hide (HD.out.1 rfl)
          clear HD
          rcases hs with rfl | rfl
          ·
            have x0 := HX5.out.c 0 _ rfl
            have hmk := make_trk1 W5
            go_wp2_with (fail)
            obtain ⟨W6, hW6⟩ : ∃ W6, (W5.alloc (.cells #[.int .i64 0, .slice none 0 0, .slice none 0 0, .int .i64 0] 33)) = W6 := ⟨_, rfl⟩
            have HG6 := hide (show Bl W6 W5.heap.size (tcl 1 0) by rw [← hW6]; exact Bl.new W5 _ _)
            have HB6 := hide (show Below W5.heap.size W5 W6 by rw [← hW6]; exact below_laid _)
            rw [hW6]
            clear hW6 hmk x0
            go_loopw [44] (fun ix wr => ∃ j : Nat, j ≤ 1 ∧ ix = .int .i64 j ∧ Hid (Bl wr W5.heap.size (tcl 1 j)) ∧ Hid (Below W5.heap.size W5 wr)) (fun ix _ => 1 - (intOf ix).toNat)
            case atStart => exact ⟨0, by omega, rfl, HG6, HB6⟩
            case round =>
              clear HG6 HB6
              obtain ⟨j, hj, rfl, HG, HB⟩ := hrel
              have hjc : j = 0 ∨ j = 1 := by omega
              rcases hjc with rfl | rfl
              · have HG0 := hide (show Bl wr W5.heap.size [.int .i64 0, .slice none 0 0, .slice none 0 0, .int .i64 0] from HG.out)
                have hgl := HG.out.lt
                clear HG
                skip
                go_wp2_with (go_at_call 28; refine (sbegin_any _).mono ?_; rintro e1 w1 ⟨rfl, hb1⟩; have HG1 := hide (HG0.out.keep hb1); have HB1 := hide (HB.out.trans (hb1.mono HB.out.size)); clear hb1; have c0 := HG1.out.c 0 _ rfl; have c1 := HG1.out.c 1 _ rfl; have c2 := HG1.out.c 2 _ rfl; have c3 := HG1.out.c 3 _ rfl; have f0 := HG1.out.f 0; have f1 := HG1.out.f 1; have f2 := HG1.out.f 2; have f3 := HG1.out.f 3; have hgl1 := HG1.out.lt)
                go_roundw
                case rel => exact ⟨1, by omega, by go_num, hide (show Bl _ W5.heap.size (tcl 1 1) from (((HG1.out.put (k := 0) (by simp) _).put (k := 1) (by simp) _).put (k := 2) (by simp) _).put (k := 3) (by simp) _), hide (Below.setCell (Below.setCell (Below.setCell (Below.setCell HB1.out (Nat.le_refl _) _) (Nat.le_refl _) _) (Nat.le_refl _) _) (Nat.le_refl _) _)⟩
                case measure => simp [intOf]
              · have HG0 := hide (show Bl wr W5.heap.size [.int .i64 0, .slice none 0 0, .slice none 0 0, .int .i64 (-1)] from HG.out)
                have hgl := HG.out.lt
                have HX7 := hide (HX5.out.keep HB.out)
                have hsz := HB.out.size
                have hzl := HZ5.out.lt
                clear HG
                have x0 := HX7.out.c 0 _ rfl
                have x2 := HX7.out.c 2 _ rfl
                have x3 := HX7.out.c 3 _ rfl
                have x4 := HX7.out.c 4 _ rfl
                have x5 := HX7.out.c 5 _ rfl
                have c0 := HG0.out.c 0 _ rfl
                have c1 := HG0.out.c 1 _ rfl
                have c2 := HG0.out.c 2 _ rfl
                have c3 := HG0.out.c 3 _ rfl
                have f0 := HG0.out.f 0
                have f1 := HG0.out.f 1
                have f2 := HG0.out.f 2
                have f3 := HG0.out.f 3
                go_upto_region 12 with (fail)
                obtain ⟨W8, hW8⟩ : ∃ W8, ((((wr.setCell ⟨W5.heap.size, 0, none⟩ (.int .i64 x.next)).setCell ⟨W5.heap.size, 1, none⟩ (.slice A x.beyond.length a)).setCell ⟨W5.heap.size, 2, none⟩ (.slice B x.points.length b)).setCell ⟨W5.heap.size, 3, none⟩ (.int .i64 x.mark)) = W8 := ⟨_, rfl⟩
                have HG8 := hide (show Bl W8 W5.heap.size [.int .i64 x.next, .slice A x.beyond.length a, .slice B x.points.length b, .int .i64 x.mark] by rw [← hW8]; exact (((HG0.out.put (k := 0) (by simp) _).put (k := 1) (by simp) _).put (k := 2) (by simp) _).put (k := 3) (by simp) _)
                have HK8 := hide (show Below W5.heap.size W5 W8 by rw [← hW8]; exact Below.setCell (Below.setCell (Below.setCell (Below.setCell HB.out (Nat.le_refl _) _) (Nat.le_refl _) _) (Nat.le_refl _) _) (Nat.le_refl _) _)
                rw [hW8]
                clear hW8 x0 x2 x3 x4 x5 c0 c1 c2 c3 f0 f1 f2 f3 HX7 HB hsz hgl HG0
                have HX8 := hide (HX5.out.keep HK8.out)
                have HM8 := hide (HM5.out.keep HK8.out)
                have HZ8 := hide (HZ5.out.keep HK8.out)
                have HB8 := hide (bthen HB5.out HK8.out)
                have m0 := HM8.out.c 0 _ rfl
                have m1 := HM8.out.c 1 _ rfl
                have m2 := HM8.out.c 2 _ rfl
                have m3 := HM8.out.c 3 _ rfl
                have m4 := HM8.out.c 4 _ rfl
                have m5 := HM8.out.c 5 _ rfl
                have m6 := HM8.out.c 6 _ rfl
                have m7 := HM8.out.c 7 _ rfl
                have m8 := HM8.out.c 8 _ rfl
                have HC8 := hide (show Calls Tryz.prog 69 #[.slice (some ⟨W5.heap.size, 0, none⟩) 1 1, .agg #[.int .i64 M.k, .int .i64 M.e.a, .int .i64 M.e.b, .int .i64 M.e.c, .int .i64 M.e.d, .slice E M.e.vs.length c, .int .i64 M.s, .int .i64 M.q, .int .i64 M.t]] W8 (RetRx (SimW x M) (PosW x M) [x] 0 W8) from HWR.out W8 0 [x] _ 1 (lst_bl1 HG8.out (HTV.out W8 HB8.out) HG8.out.lt) (by simp) (fun z hz => by simp only [List.mem_cons, List.not_mem_nil, or_false] at hz; rw [hz]; exact HOK.out) (by simp) (by rw [HO1.out]; rfl))
                have hz8 := HZ8.out.lt
                clear HG8 HK8 HWR HO1 HO HCM HOR HEC HX5 HM5 HZ5 HB5
                go_wp2_with fail
                refine HC8.out.mono ?_
                rintro e9 W9 (⟨n9, hn9, rfl, hns, hb9⟩ | ⟨f, y, g, c6, rfl, hg, hp, hb9, hnw⟩)
                · have t9 : (n9 != 0) = true := bne_iff_ne.2 hn9
                  have HNS := hide hns
                  have HX9 := hide (HX8.out.keep hb9)
                  have HZ9 := hide (HZ8.out.keep hb9)
                  have HB9 := hide (bthen HB8.out hb9)
                  clear hb9 hns m0 m1 m2 m3 m4 m5 m6 m7 m8 HC8 HX8 HM8 HZ8 HB8
                  have x2 := HX9.out.c 2 _ rfl
                  have x3 := HX9.out.c 3 _ rfl
                  have x4 := HX9.out.c 4 _ rfl
                  have x5 := HX9.out.c 5 _ rfl
                  have z0 := HZ9.out.c 0 _ rfl
                  have z1 := HZ9.out.c 1 _ rfl
                  have z2 := HZ9.out.c 2 _ rfl
                  have z3 := HZ9.out.c 3 _ rfl
                  have g0 := HZ9.out.f 0
                  have g1 := HZ9.out.f 1
                  have g2 := HZ9.out.f 2
                  have g3 := HZ9.out.f 3
                  go_wp2
                  refine bodyPost_ret (v := .tuple #[.agg #[.int .i64 x.next, .slice A x.beyond.length a, .slice B x.points.length b, .int .i64 x.mark], .bool false, .bool false]) (by rw [results_ctt rfl]; go_simp) rfl ?_
                  have key : ∀ W', Off (w.heap.size + 2) 1 W9 W' → RetAc B0 0 x M w (.returned (.tuple #[.agg #[.int .i64 x.next, .slice A x.beyond.length a, .slice B x.points.length b, .int .i64 x.mark], .bool false, .bool false])) W' := fun W' hO => ⟨x, A, a, B, b, false, false, rfl, HT0.out W' (hO.below HB9.out (by omega)), HOK.out, fun h => (by cases h), fun h => absurd ((fun h => (absurd (HSW.out h) HNS.out : true = false)) (by rw [← HSMD.out]; exact h)) (by decide), hO.below HB9.out (by omega)⟩
                  exact key _ (by repeat (first | refine Off.set ?_ (by constructor <;> (simp; try omega)) | with_reducible exact Off.refl))
                · obtain ⟨hgl, A1, a1, B1, b1, c0, c1, c2, c3, hT⟩ := newl_tv hg (by simp) hnw
                  have HT := hide hT
                  have HP := hide hp
                  have HX9 := hide (HX8.out.keep hb9)
                  have HZ9 := hide (HZ8.out.keep hb9)
                  have HB9 := hide (bthen HB8.out hb9)
                  simp only [Nat.zero_mul, Nat.zero_add, Nat.one_mul, Nat.reduceAdd, List.length_cons, List.length_nil] at c0 c1 c2 c3 ⊢
                  clear hb9 hnw hg hp hT m0 m1 m2 m3 m4 m5 m6 m7 m8 HC8 HX8 HM8 HZ8 HB8
                  have x0 := HX9.out.c 0 _ rfl
                  have z0 := HZ9.out.c 0 _ rfl
                  have z1 := HZ9.out.c 1 _ rfl
                  have z2 := HZ9.out.c 2 _ rfl
                  have z3 := HZ9.out.c 3 _ rfl
                  have g0 := HZ9.out.f 0
                  have g1 := HZ9.out.f 1
                  have g2 := HZ9.out.f 2
                  have g3 := HZ9.out.f 3
                  go_wp2
                  refine bodyPost_ret (v := .tuple #[.agg #[.int .i64 y.next, .slice A1 y.beyond.length a1, .slice B1 y.points.length b1, .int .i64 y.mark], .bool f, .bool true]) (by rw [results_ctt rfl]; go_simp) rfl ?_
                  have key : ∀ W', Off (w.heap.size + 2) 1 W9 W' → RetAc B0 0 x M w (.returned (.tuple #[.agg #[.int .i64 y.next, .slice A1 y.beyond.length a1, .slice B1 y.points.length b1, .int .i64 y.mark], .bool f, .bool true])) W' := fun W' hO => ⟨y, A1, a1, B1, b1, f, true, rfl, (HT.out.keep (hO.kp (fun k hk => .inr (by have := hk.1; omega)))).more (fun k hk => ⟨by rw [hO.size]; exact hk.2, .inr (by have := hk.1; omega)⟩), HP.out.1, fun hf => ⟨HP.out.2.1 hf, by rw [HEVD.out]; exact HEV.out (HP.out.2.1 hf)⟩, fun h => ⟨rfl, HP.out.2.2 h.1⟩, hO.below HB9.out (by omega)⟩
                  exact key _ (by repeat (first | refine Off.set ?_ (by constructor <;> (simp; try omega)) | with_reducible exact Off.refl))
          ·
            have x0 := HX5.out.c 0 _ rfl
            have hmk := make_trk2 W5
            go_wp2_with (fail)
            obtain ⟨W6, hW6⟩ : ∃ W6, (W5.alloc (.cells #[.int .i64 0, .slice none 0 0, .slice none 0 0, .int .i64 0, .int .i64 0, .slice none 0 0, .slice none 0 0, .int .i64 0] 33)) = W6 := ⟨_, rfl⟩
            have HG6 := hide (show Bl W6 W5.heap.size (tcl 2 0) by rw [← hW6]; exact Bl.new W5 _ _)
            have HB6 := hide (show Below W5.heap.size W5 W6 by rw [← hW6]; exact below_laid _)
            rw [hW6]
            clear hW6 hmk x0
            go_loopw [44] (fun ix wr => ∃ j : Nat, j ≤ 2 ∧ ix = .int .i64 j ∧ Hid (Bl wr W5.heap.size (tcl 2 j)) ∧ Hid (Below W5.heap.size W5 wr)) (fun ix _ => 2 - (intOf ix).toNat)
            case atStart => exact ⟨0, by omega, rfl, HG6, HB6⟩
            case round =>
              clear HG6 HB6
              obtain ⟨j, hj, rfl, HG, HB⟩ := hrel
              have hjc : j = 0 ∨ j = 1 ∨ j = 2 := by omega
              rcases hjc with rfl | rfl | rfl
              · have HG0 := hide (show Bl wr W5.heap.size [.int .i64 0, .slice none 0 0, .slice none 0 0, .int .i64 0, .int .i64 0, .slice none 0 0, .slice none 0 0, .int .i64 0] from HG.out)
                have hgl := HG.out.lt
                clear HG
                skip
                go_wp2_with (go_at_call 28; refine (sbegin_any _).mono ?_; rintro e1 w1 ⟨rfl, hb1⟩; have HG1 := hide (HG0.out.keep hb1); have HB1 := hide (HB.out.trans (hb1.mono HB.out.size)); clear hb1; have c0 := HG1.out.c 0 _ rfl; have c1 := HG1.out.c 1 _ rfl; have c2 := HG1.out.c 2 _ rfl; have c3 := HG1.out.c 3 _ rfl; have f0 := HG1.out.f 0; have f1 := HG1.out.f 1; have f2 := HG1.out.f 2; have f3 := HG1.out.f 3; have hgl1 := HG1.out.lt)
                go_roundw
                case rel => exact ⟨1, by omega, by go_num, hide (show Bl _ W5.heap.size (tcl 2 1) from (((HG1.out.put (k := 0) (by simp) _).put (k := 1) (by simp) _).put (k := 2) (by simp) _).put (k := 3) (by simp) _), hide (Below.setCell (Below.setCell (Below.setCell (Below.setCell HB1.out (Nat.le_refl _) _) (Nat.le_refl _) _) (Nat.le_refl _) _) (Nat.le_refl _) _)⟩
                case measure => simp [intOf]
              · have HG0 := hide (show Bl wr W5.heap.size [.int .i64 0, .slice none 0 0, .slice none 0 0, .int .i64 (-1), .int .i64 0, .slice none 0 0, .slice none 0 0, .int .i64 0] from HG.out)
                have hgl := HG.out.lt
                clear HG
                skip
                go_wp2_with (go_at_call 28; refine (sbegin_any _).mono ?_; rintro e1 w1 ⟨rfl, hb1⟩; have HG1 := hide (HG0.out.keep hb1); have HB1 := hide (HB.out.trans (hb1.mono HB.out.size)); clear hb1; have c0 := HG1.out.c 4 _ rfl; have c1 := HG1.out.c 5 _ rfl; have c2 := HG1.out.c 6 _ rfl; have c3 := HG1.out.c 7 _ rfl; have f0 := HG1.out.f 4; have f1 := HG1.out.f 5; have f2 := HG1.out.f 6; have f3 := HG1.out.f 7; have hgl1 := HG1.out.lt)
                go_roundw
                case rel => exact ⟨2, by omega, by go_num, hide (show Bl _ W5.heap.size (tcl 2 2) from (((HG1.out.put (k := 4) (by simp) _).put (k := 5) (by simp) _).put (k := 6) (by simp) _).put (k := 7) (by simp) _), hide (Below.setCell (Below.setCell (Below.setCell (Below.setCell HB1.out (Nat.le_refl _) _) (Nat.le_refl _) _) (Nat.le_refl _) _) (Nat.le_refl _) _)⟩
                case measure => simp [intOf]
              · have HG0 := hide (show Bl wr W5.heap.size [.int .i64 0, .slice none 0 0, .slice none 0 0, .int .i64 (-1), .int .i64 0, .slice none 0 0, .slice none 0 0, .int .i64 (-1)] from HG.out)
                have hgl := HG.out.lt
                have HX7 := hide (HX5.out.keep HB.out)
                have hsz := HB.out.size
                have hzl := HZ5.out.lt
                clear HG
                have x0 := HX7.out.c 0 _ rfl
                have x2 := HX7.out.c 2 _ rfl
                have x3 := HX7.out.c 3 _ rfl
                have x4 := HX7.out.c 4 _ rfl
                have x5 := HX7.out.c 5 _ rfl
                have c0 := HG0.out.c 4 _ rfl
                have c1 := HG0.out.c 5 _ rfl
                have c2 := HG0.out.c 6 _ rfl
                have c3 := HG0.out.c 7 _ rfl
                have f0 := HG0.out.f 4
                have f1 := HG0.out.f 5
                have f2 := HG0.out.f 6
                have f3 := HG0.out.f 7
                go_upto_region 12 with (fail)
                obtain ⟨W8, hW8⟩ : ∃ W8, ((((wr.setCell ⟨W5.heap.size, 4, none⟩ (.int .i64 x.next)).setCell ⟨W5.heap.size, 5, none⟩ (.slice A x.beyond.length a)).setCell ⟨W5.heap.size, 6, none⟩ (.slice B x.points.length b)).setCell ⟨W5.heap.size, 7, none⟩ (.int .i64 x.mark)) = W8 := ⟨_, rfl⟩
                have HG8 := hide (show Bl W8 W5.heap.size [.int .i64 0, .slice none 0 0, .slice none 0 0, .int .i64 (-1), .int .i64 x.next, .slice A x.beyond.length a, .slice B x.points.length b, .int .i64 x.mark] by rw [← hW8]; exact (((HG0.out.put (k := 4) (by simp) _).put (k := 5) (by simp) _).put (k := 6) (by simp) _).put (k := 7) (by simp) _)
                have HK8 := hide (show Below W5.heap.size W5 W8 by rw [← hW8]; exact Below.setCell (Below.setCell (Below.setCell (Below.setCell HB.out (Nat.le_refl _) _) (Nat.le_refl _) _) (Nat.le_refl _) _) (Nat.le_refl _) _)
                rw [hW8]
                clear hW8 x0 x2 x3 x4 x5 c0 c1 c2 c3 f0 f1 f2 f3 HX7 HB hsz hgl HG0
                have HX8 := hide (HX5.out.keep HK8.out)
                have HM8 := hide (HM5.out.keep HK8.out)
                have HZ8 := hide (HZ5.out.keep HK8.out)
                have HB8 := hide (bthen HB5.out HK8.out)
                have m0 := HM8.out.c 0 _ rfl
                have m1 := HM8.out.c 1 _ rfl
                have m2 := HM8.out.c 2 _ rfl
                have m3 := HM8.out.c 3 _ rfl
                have m4 := HM8.out.c 4 _ rfl
                have m5 := HM8.out.c 5 _ rfl
                have m6 := HM8.out.c 6 _ rfl
                have m7 := HM8.out.c 7 _ rfl
                have m8 := HM8.out.c 8 _ rfl
                have HC8 := hide (show Calls Tryz.prog 69 #[.slice (some ⟨W5.heap.size, 0, none⟩) 2 2, .agg #[.int .i64 M.k, .int .i64 M.e.a, .int .i64 M.e.b, .int .i64 M.e.c, .int .i64 M.e.d, .slice E M.e.vs.length c, .int .i64 M.s, .int .i64 M.q, .int .i64 M.t]] W8 (RetRx (SimW x M) (PosW x M) [trk0, x] 1 W8) from HWR.out W8 1 [trk0, x] _ 2 (lst_bl2 HG8.out (HTV.out W8 HB8.out) HG8.out.lt) (by simp) (fun z hz => by simp only [List.mem_cons, List.not_mem_nil, or_false] at hz; rcases hz with hz | hz <;> rw [hz] <;> first | exact trk0_ok | exact HOK.out) (by simp) (by rw [HO1.out]; rfl))
                have hz8 := HZ8.out.lt
                clear HG8 HK8 HWR HO1 HO HCM HOR HEC HX5 HM5 HZ5 HB5
                go_wp2_with fail
                refine HC8.out.mono ?_
                rintro e9 W9 (⟨n9, hn9, rfl, hns, hb9⟩ | ⟨f, y, g, c6, rfl, hg, hp, hb9, hnw⟩)
                · have t9 : (n9 != 0) = true := bne_iff_ne.2 hn9
                  have HNS := hide hns
                  have HX9 := hide (HX8.out.keep hb9)
                  have HZ9 := hide (HZ8.out.keep hb9)
                  have HB9 := hide (bthen HB8.out hb9)
                  clear hb9 hns m0 m1 m2 m3 m4 m5 m6 m7 m8 HC8 HX8 HM8 HZ8 HB8
                  have x2 := HX9.out.c 2 _ rfl
                  have x3 := HX9.out.c 3 _ rfl
                  have x4 := HX9.out.c 4 _ rfl
                  have x5 := HX9.out.c 5 _ rfl
                  have z0 := HZ9.out.c 0 _ rfl
                  have z1 := HZ9.out.c 1 _ rfl
                  have z2 := HZ9.out.c 2 _ rfl
                  have z3 := HZ9.out.c 3 _ rfl
                  have g0 := HZ9.out.f 0
                  have g1 := HZ9.out.f 1
                  have g2 := HZ9.out.f 2
                  have g3 := HZ9.out.f 3
                  go_wp2
                  refine bodyPost_ret (v := .tuple #[.agg #[.int .i64 x.next, .slice A x.beyond.length a, .slice B x.points.length b, .int .i64 x.mark], .bool false, .bool false]) (by rw [results_ctt rfl]; go_simp) rfl ?_
                  have key : ∀ W', Off (w.heap.size + 2) 1 W9 W' → RetAc B0 1 x M w (.returned (.tuple #[.agg #[.int .i64 x.next, .slice A x.beyond.length a, .slice B x.points.length b, .int .i64 x.mark], .bool false, .bool false])) W' := fun W' hO => ⟨x, A, a, B, b, false, false, rfl, HT0.out W' (hO.below HB9.out (by omega)), HOK.out, fun h => (by cases h), fun h => absurd ((fun h => (absurd (HSW.out h) HNS.out : true = false)) (by rw [← HSMD.out]; exact h)) (by decide), hO.below HB9.out (by omega)⟩
                  exact key _ (by repeat (first | refine Off.set ?_ (by constructor <;> (simp; try omega)) | with_reducible exact Off.refl))
                · obtain ⟨hgl, A1, a1, B1, b1, c0, c1, c2, c3, hT⟩ := newl_tv hg (by simp) hnw
                  have HT := hide hT
                  have HP := hide hp
                  have HX9 := hide (HX8.out.keep hb9)
                  have HZ9 := hide (HZ8.out.keep hb9)
                  have HB9 := hide (bthen HB8.out hb9)
                  simp only [Nat.zero_mul, Nat.zero_add, Nat.one_mul, Nat.reduceAdd, List.length_cons, List.length_nil] at c0 c1 c2 c3 ⊢
                  clear hb9 hnw hg hp hT m0 m1 m2 m3 m4 m5 m6 m7 m8 HC8 HX8 HM8 HZ8 HB8
                  have x0 := HX9.out.c 0 _ rfl
                  have z0 := HZ9.out.c 0 _ rfl
                  have z1 := HZ9.out.c 1 _ rfl
                  have z2 := HZ9.out.c 2 _ rfl
                  have z3 := HZ9.out.c 3 _ rfl
                  have g0 := HZ9.out.f 0
                  have g1 := HZ9.out.f 1
                  have g2 := HZ9.out.f 2
                  have g3 := HZ9.out.f 3
                  go_wp2
                  refine bodyPost_ret (v := .tuple #[.agg #[.int .i64 y.next, .slice A1 y.beyond.length a1, .slice B1 y.points.length b1, .int .i64 y.mark], .bool f, .bool true]) (by rw [results_ctt rfl]; go_simp) rfl ?_
                  have key : ∀ W', Off (w.heap.size + 2) 1 W9 W' → RetAc B0 1 x M w (.returned (.tuple #[.agg #[.int .i64 y.next, .slice A1 y.beyond.length a1, .slice B1 y.points.length b1, .int .i64 y.mark], .bool f, .bool true])) W' := fun W' hO => ⟨y, A1, a1, B1, b1, f, true, rfl, (HT.out.keep (hO.kp (fun k hk => .inr (by have := hk.1; omega)))).more (fun k hk => ⟨by rw [hO.size]; exact hk.2, .inr (by have := hk.1; omega)⟩), HP.out.1, fun hf => ⟨HP.out.2.1 hf, by rw [HEVD.out]; exact HEV.out (HP.out.2.1 hf)⟩, fun h => ⟨rfl, HP.out.2.2 h.1⟩, hO.below HB9.out (by omega)⟩
                  exact key _ (by repeat (first | refine Off.set ?_ (by constructor <;> (simp; try omega)) | with_reducible exact Off.refl))
        · clear HCM HOR HEC HO HWR
          have x2 := HX5.out.c 2 _ rfl
          have x3 := HX5.out.c 3 _ rfl
          have x4 := HX5.out.c 4 _ rfl
          have x5 := HX5.out.c 5 _ rfl
          have z0 := HZ5.out.c 0 _ rfl
          have z1 := HZ5.out.c 1 _ rfl
          have z2 := HZ5.out.c 2 _ rfl
          have z3 := HZ5.out.c 3 _ rfl
          have g0 := HZ5.out.f 0
          have g1 := HZ5.out.f 1
          have g2 := HZ5.out.f 2
          have g3 := HZ5.out.f 3
          go_wp2
          refine bodyPost_ret (v := .tuple #[.agg #[.int .i64 x.next, .slice A x.beyond.length a, .slice B x.points.length b, .int .i64 x.mark], .bool false, .bool false]) (by rw [results_ctt rfl]; go_simp) rfl ?_
          have key : ∀ W', Off (w.heap.size + 2) 1 W5 W' → RetAc B0 s x M w (.returned (.tuple #[.agg #[.int .i64 x.next, .slice A x.beyond.length a, .slice B x.points.length b, .int .i64 x.mark], .bool false, .bool false])) W' := fun W' hO => ⟨x, A, a, B, b, false, false, rfl, HT0.out W' (hO.below HB5.out (by omega)), HOK.out, fun h => (by cases h), fun h => absurd ((fun h => HD.out.2 (fun _ => HSIE.out h)) (by rw [← HSMD.out]; exact h)) (by decide), hO.below HB5.out (by omega)⟩
          exact key _ (by repeat (first | refine Off.set ?_ (by constructor <;> (simp; try omega)) | with_reducible exact Off.refl))
    · clear HCM HOR HEC HO HWR
      have x2 := HX4.out.c 2 _ rfl
      have x3 := HX4.out.c 3 _ rfl
      have x4 := HX4.out.c 4 _ rfl
      have x5 := HX4.out.c 5 _ rfl
      have z0 := HZ4.out.c 0 _ rfl
      have z1 := HZ4.out.c 1 _ rfl
      have z2 := HZ4.out.c 2 _ rfl
      have z3 := HZ4.out.c 3 _ rfl
      have g0 := HZ4.out.f 0
      have g1 := HZ4.out.f 1
      have g2 := HZ4.out.f 2
      have g3 := HZ4.out.f 3
      go_wp2
      refine bodyPost_ret (v := .tuple #[.agg #[.int .i64 x.next, .slice A x.beyond.length a, .slice B x.points.length b, .int .i64 x.mark], .bool false, .bool false]) (by rw [results_ctt rfl]; go_simp) rfl ?_
      have key : ∀ W', Off (w.heap.size + 2) 1 W4 W' → RetAc B0 s x M w (.returned (.tuple #[.agg #[.int .i64 x.next, .slice A x.beyond.length a, .slice B x.points.length b, .int .i64 x.mark], .bool false, .bool false])) W' := fun W' hO => ⟨x, A, a, B, b, false, false, rfl, HT0.out W' (hO.below HB4.out (by omega)), HOK.out, fun h => (by cases h), fun h => absurd (HD2.out (by rw [← HSMD.out]; exact h)) (by decide), hO.below HB4.out (by omega)⟩
      exact key _ (by repeat (first | refine Off.set ?_ (by constructor <;> (simp; try omega)) | with_reducible exact Off.refl))
end
end Go.Proofs.YtppaiihcaajkaaaGreat
