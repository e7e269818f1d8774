/- punctuation: valid, ascending, Check. punctuation.filtered, at its closures. -/
import Derived.Test.YtppaiihcaajkaaaGreatKSeqM
import Derived.Deep.CutRange
namespace Go.Proofs.YtppaiihcaajkaaaGreat
open Go.RowKit
set_option linter.unusedVariables false
set_option linter.unusedSimpArgs false
def vldB (q t : Int) : Bool := decide (0 ≤ q) && decide (q ≤ 1099511627777) && decide (0 ≤ t) && decide (t ≤ 1099511627776)
theorem vldB_iff {q t : Int} : vldB q t = true ↔ (0 ≤ q ∧ q ≤ 1099511627777 ∧ 0 ≤ t ∧ t ≤ 1099511627776) := by simp [vldB, and_assoc]
def upP : Int → Int → List Pnt → Prop
  | _, _, [] => True
  | q, t, p :: l => vldB p.s p.t = true ∧ q < p.s ∧ t < p.t ∧ upP p.s p.t l
def AscOK (x : Trk) (q t : Int) : Prop := SeqOK x ∧ (-1 ≤ x.mark ∧ x.mark ≤ 1099511627776) ∧ x.points.length ≤ 256 ∧ upP q t x.points
def TrkOK (x : Trk) : Prop := AscOK x x.next x.mark
/-- e returns v; the world is w0. -/
def RetS (v : Value) (w0 : World) (_ : World) (e : Ending) (w' : World) : Prop := e = .returned v ∧ w' = w0
section
variable (w : World)
set_option maxHeartbeats 4000000 in
theorem pvalid_any (q t : Int) : Calls Tryz.prog 94 #[.agg #[.int .i64 q, .int .i64 t]] w (RetS (.bool (vldB q t)) (w.alloc (.cells #[.int .i64 q, .int .i64 t] 84)) w) := by
  unfold vldB
  cases t1 : decide (0 ≤ q) <;> cases t2 : decide (q ≤ 1099511627777) <;> cases t3 : decide (0 ≤ t) <;> cases t4 : decide (t ≤ 1099511627776)
  all_goals
    go_enter Tryz.func94, Tryz.ntmps94
    go_wp2
    go_ret
    exact ⟨rfl, rfl⟩
set_option maxRecDepth 100000 in
set_option maxHeartbeats 16000000 in
theorem asc_any (x : Trk) (A B : Option Addr) (a b : Nat) (q t : Int) (hx : TrV w (· < w.heap.size) A a B b x) : Calls Tryz.prog 79 #[.agg #[.int .i64 x.next, .slice A x.beyond.length a, .slice B x.points.length b, .int .i64 x.mark], .agg #[.int .i64 q, .int .i64 t]] w (RetZ (AscOK x q t) w) := by
  obtain ⟨X0, hX0⟩ : ∃ X, X = (#[.int .i64 x.next, .slice A x.beyond.length a, .slice B x.points.length b, .int .i64 x.mark] : Array Value) := ⟨_, rfl⟩
  have hB1 := below_laid (w := w) (.cells X0 33)
  have hB2 := bthen hB1 (below_laid (w := w.alloc (.cells X0 33)) (.cells #[.int .i64 q, .int .i64 t] 84))
  have HSC := hide (seqcheck_any _ x A B a b (hx.below hB2))
  have HX := hide (show ∀ j u, [.int .i64 x.next, .slice A x.beyond.length a, .slice B x.points.length b, .int .i64 x.mark][j]? = some u → ((w.alloc (.cells X0 33)).alloc (.cells #[.int .i64 q, .int .i64 t] 84)).cell? ⟨w.heap.size, j, none⟩ = some u from fun j u hj => by
    rw [World.cell?_alloc_lt _ _ _ (by simp), hX0]; exact cells_lit w [.int .i64 x.next, .slice A x.beyond.length a, .slice B x.points.length b, .int .i64 x.mark] 33 j u hj)
  have HBL := hide (show Bl ((w.alloc (.cells X0 33)).alloc (.cells #[.int .i64 q, .int .i64 t] 84)) (w.heap.size + 1) [.int .i64 q, .int .i64 t] by
    have := Bl.new (w.alloc (.cells X0 33)) [.int .i64 q, .int .i64 t] 84
    simpa using this)
  have HB2 := hide hB2
  have HL := hide (fun (w1 : World) (hb : Below w.heap.size w w1) => hx.v.below rd_Pn hb)
  have hlen := hx.v.len
  unfold maxLen at hlen
  obtain ⟨OK, hOK⟩ : ∃ OK, AscOK x q t = OK := ⟨_, rfl⟩
  obtain ⟨SK, hSK⟩ : ∃ SK, SeqOK x = SK := ⟨_, rfl⟩
  obtain ⟨next, beyond, points, mark⟩ := x
  simp only at HX HL HSC hlen hX0 ⊢
  rw [hOK]
  rw [hSK] at HSC
  have HO := hide (show (SK ∧ (-1 ≤ mark ∧ mark ≤ 1099511627776) ∧ points.length ≤ 256 ∧ upP q t points) = OK by rw [← hOK, ← hSK]; rfl)
  obtain ⟨m, hm⟩ : ∃ m, points.length = m := ⟨_, rfl⟩
  rw [hm] at HX HL HSC HO hlen hX0 ⊢
  have HM := hide hm
  subst hX0
  clear hx hB1 hB2 hm hOK hSK
  go_enter Tryz.func79, Tryz.ntmps79
  go_upto_region 1 with (fail)
  obtain ⟨W2, hW2⟩ : ∃ W2, (w.alloc (.cells #[.int .i64 next, .slice A beyond.length a, .slice B m b, .int .i64 mark] 33)).alloc (.cells #[.int .i64 q, .int .i64 t] 84) = W2 := ⟨_, rfl⟩
  rw [hW2] at HX HBL HB2 HSC ⊢
  clear hW2
  have d0 := HX.out 0 _ rfl
  have d1 := HX.out 1 _ rfl
  have d2 := HX.out 2 _ rfl
  have d3 := HX.out 3 _ rfl
  rcases (by omega : mark < -1 ∨ (-1 ≤ mark ∧ 1099511627776 < mark) ∨ ((-1 ≤ mark ∧ mark ≤ 1099511627776) ∧ 256 < m) ∨ ((-1 ≤ mark ∧ mark ≤ 1099511627776) ∧ m ≤ 256)) with hg | ⟨hg, hg2⟩ | ⟨⟨hg, hg2⟩, hg3⟩ | ⟨⟨hg, hg2⟩, hg3⟩
  · have s1 : decide (mark < -1) = true := decide_eq_true hg
    have HF := hide (show ¬ OK by rw [← HO.out]; exact fun h => (by omega : ¬ (-1 ≤ mark)) h.2.1.1)
    go_wp2_with (go_at_call 93; refine HSC.out.mono ?_; rintro e1 w1 ⟨e, rfl, hok, hb1⟩; have c2 := keep1 hb1 (HX.out 2 _ rfl); have c3 := keep1 hb1 (HX.out 3 _ rfl); have HOK := hide hok; have HBL1 := hide (HBL.out.keep hb1); have HB := hide (bthen HB2.out hb1); clear hok hb1 d0 d1 d2 d3; by_cases he : e = 0; all_goals first | obtain rfl := he | have t1 : (e != 0) = true := bne_iff_ne.2 he)
    all_goals (go_ret; first | exact ⟨2, rfl, by simp [HF.out], HB.out⟩ | exact ⟨5, rfl, by simp [HF.out], HB.out⟩ | exact ⟨_, rfl, ⟨fun h => absurd h he, fun h => absurd h HF.out⟩, HB.out⟩)
  · have s1 : decide (mark < -1) = false := decide_eq_false (by omega)
    have s2 : decide (1099511627776 < mark) = true := decide_eq_true hg2
    have HF := hide (show ¬ OK by rw [← HO.out]; exact fun h => (by omega : ¬ (mark ≤ 1099511627776)) h.2.1.2)
    go_wp2_with (go_at_call 93; refine HSC.out.mono ?_; rintro e1 w1 ⟨e, rfl, hok, hb1⟩; have c2 := keep1 hb1 (HX.out 2 _ rfl); have c3 := keep1 hb1 (HX.out 3 _ rfl); have HOK := hide hok; have HBL1 := hide (HBL.out.keep hb1); have HB := hide (bthen HB2.out hb1); clear hok hb1 d0 d1 d2 d3; by_cases he : e = 0; all_goals first | obtain rfl := he | have t1 : (e != 0) = true := bne_iff_ne.2 he)
    all_goals (go_ret; first | exact ⟨2, rfl, by simp [HF.out], HB.out⟩ | exact ⟨5, rfl, by simp [HF.out], HB.out⟩ | exact ⟨_, rfl, ⟨fun h => absurd h he, fun h => absurd h HF.out⟩, HB.out⟩)
  · have s1 : decide (mark < -1) = false := decide_eq_false (by omega)
    have s2 : decide (1099511627776 < mark) = false := decide_eq_false (by omega)
    have s3 : decide ((256 : Int) < (m : Int)) = true := decide_eq_true (by omega)
    have HF := hide (show ¬ OK by rw [← HO.out]; exact fun h => (by omega : ¬ (m ≤ 256)) h.2.2.1)
    go_wp2_with (go_at_call 93; refine HSC.out.mono ?_; rintro e1 w1 ⟨e, rfl, hok, hb1⟩; have c2 := keep1 hb1 (HX.out 2 _ rfl); have c3 := keep1 hb1 (HX.out 3 _ rfl); have HOK := hide hok; have HBL1 := hide (HBL.out.keep hb1); have HB := hide (bthen HB2.out hb1); clear hok hb1 d0 d1 d2 d3; by_cases he : e = 0; all_goals first | obtain rfl := he | have t1 : (e != 0) = true := bne_iff_ne.2 he)
    all_goals (go_ret; first | exact ⟨2, rfl, by simp [HF.out], HB.out⟩ | exact ⟨5, rfl, by simp [HF.out], HB.out⟩ | exact ⟨_, rfl, ⟨fun h => absurd h he, fun h => absurd h HF.out⟩, HB.out⟩)
  · have s1 : decide (mark < -1) = false := decide_eq_false (by omega)
    have s2 : decide (1099511627776 < mark) = false := decide_eq_false (by omega)
    have s3 : decide ((256 : Int) < (m : Int)) = false := decide_eq_false (by omega)
    go_wp2_with (go_at_call 93; refine HSC.out.mono ?_; rintro e1 w1 ⟨e, rfl, hok, hb1⟩; have c2 := keep1 hb1 (HX.out 2 _ rfl); have c3 := keep1 hb1 (HX.out 3 _ rfl); have HOK := hide hok; have HBL1 := hide (HBL.out.keep hb1); have HB := hide (bthen HB2.out hb1); clear hok hb1 d0 d1 d2 d3; by_cases he : e = 0; all_goals first | obtain rfl := he | have t1 : (e != 0) = true := bne_iff_ne.2 he)
    · go_loopw [30] (fun i wr => ∃ (j : Nat) (s' t' : Int), j ≤ m ∧ i = .int .i64 j ∧ Hid (upP q t points ↔ upP s' t' (points.drop j)) ∧ Hid (Bl wr (w.heap.size + 1) [.int .i64 s', .int .i64 t']) ∧ Hid (Below w.heap.size w wr)) (fun i _ => m - (intOf i).toNat)
      case atStart => exact ⟨0, q, t, by omega, rfl, hide (by simp), HBL1, HB⟩
      case round =>
        clear HBL1 HB
        obtain ⟨j, s', t', hj, rfl, HU, HBX, HB⟩ := hrel
        by_cases hlt : j < m
        · have hjl : j < points.length := by rw [HM.out]; exact hlt
          obtain ⟨g, off, xs, e2, hg', hxl, hc, hR⟩ := (HL.out wr HB.out).at_ hjl
          cases e2
          have HD := hide (drop_at hjl)
          obtain ⟨n, hn⟩ : ∃ n, points[j] = n := ⟨_, rfl⟩
          rw [hn] at hR HD
          obtain ⟨ns, nt⟩ := n
          have HU2 := hide (show upP q t points ↔ (vldB ns nt = true ∧ s' < ns ∧ t' < nt ∧ upP ns nt (points.drop (j + 1))) by rw [HU.out, HD.out]; rfl)
          obtain ⟨rfl, -⟩ := hR
          have k0 := hc 0 _ rfl
          have k1 := hc 1 _ rfl
          rw [Nat.add_zero] at k0
          simp only at k0 k1
          have b0 := HBX.out.c 0 _ rfl
          have b1 := HBX.out.c 1 _ rfl
          have f0 := HBX.out.f 0
          have f1 := HBX.out.f 1
          have lb := HBX.out.lt
          have hu0 : (0 : Int) ≤ (j : Int) := by omega
          have hu1 : (j : Int) < (m : Int) := by omega
          have HV := hide (fun w' => pvalid_any w' ns nt)
          clear hn hc hxl
          cases hv : vldB ns nt
          · have HF := hide (show ¬ OK by rw [← HO.out, HU2.out, hv]; exact fun h => by simp at h)
            rw [hv] at HV
            clear hv
            go_wp2_with (go_at_call 94; refine (HV.out _).mono ?_; rintro e2 w2 ⟨rfl, hw2⟩; have HBX2 := hide (show Bl w2 (w.heap.size + 1) [.int .i64 s', .int .i64 t'] by rw [hw2]; exact (HBX.out.laid _).laid _); have HPX := hide (show Bl w2 wr.heap.size [.int .i64 ns, .int .i64 nt] by rw [hw2]; exact (Bl.new wr [.int .i64 ns, .int .i64 nt] 84).laid _); have HB2 := hide (show Below w.heap.size w w2 by rw [hw2]; exact (HB.out.alloc (by have := HB.out.size; omega) _).alloc (by have := HB.out.size; simp; omega) _); clear hw2 b0 b1 f0 f1 lb; have b0 := HBX2.out.c 0 _ rfl; have b1 := HBX2.out.c 1 _ rfl; have f0 := HBX2.out.f 0; have f1 := HBX2.out.f 1; have lb := HBX2.out.lt; have p0 := HPX.out.c 0 _ rfl; have p1 := HPX.out.c 1 _ rfl)
            go_ret
            exact ⟨2, rfl, by simp [HF.out], HB2.out⟩
          · rw [hv] at HV
            have HVV := hide hv
            clear hv
            by_cases h6 : s' < ns ∧ t' < nt
            · obtain ⟨h6, h7⟩ := h6
              have t6 : decide (ns ≤ s') = false := decide_eq_false (by omega)
              have t7 : decide (nt ≤ t') = false := decide_eq_false (by omega)
              have HU3 := hide (show upP q t points ↔ upP ns nt (points.drop (j + 1)) by rw [HU2.out]; exact ⟨fun h => h.2.2.2, fun h => ⟨HVV.out, h6, h7, h⟩⟩)
              go_wp2_with (go_at_call 94; refine (HV.out _).mono ?_; rintro e2 w2 ⟨rfl, hw2⟩; have HBX2 := hide (show Bl w2 (w.heap.size + 1) [.int .i64 s', .int .i64 t'] by rw [hw2]; exact (HBX.out.laid _).laid _); have HPX := hide (show Bl w2 wr.heap.size [.int .i64 ns, .int .i64 nt] by rw [hw2]; exact (Bl.new wr [.int .i64 ns, .int .i64 nt] 84).laid _); have HB2 := hide (show Below w.heap.size w w2 by rw [hw2]; exact (HB.out.alloc (by have := HB.out.size; omega) _).alloc (by have := HB.out.size; simp; omega) _); clear hw2 b0 b1 f0 f1 lb; have b0 := HBX2.out.c 0 _ rfl; have b1 := HBX2.out.c 1 _ rfl; have f0 := HBX2.out.f 0; have f1 := HBX2.out.f 1; have lb := HBX2.out.lt; have p0 := HPX.out.c 0 _ rfl; have p1 := HPX.out.c 1 _ rfl)
              go_roundw
              case rel => exact ⟨j + 1, ns, nt, by omega, by go_num, HU3, hide ((HBX2.out.put (k := 0) (by simp) _).put (k := 1) (by simp) _), hide ((HB2.out.setCell (by show w.heap.size ≤ w.heap.size + 1; omega) _).setCell (by show w.heap.size ≤ w.heap.size + 1; omega) _)⟩
              case measure => simp [intOf]; omega
            · have HF := hide (show ¬ OK by rw [← HO.out, HU2.out]; exact fun h => h6 ⟨h.2.2.2.2.1, h.2.2.2.2.2.1⟩)
              rcases (by omega : ns ≤ s' ∨ (s' < ns ∧ nt ≤ t')) with h7 | ⟨h7, h8⟩
              · have t6 : decide (ns ≤ s') = true := decide_eq_true h7
                go_wp2_with (go_at_call 94; refine (HV.out _).mono ?_; rintro e2 w2 ⟨rfl, hw2⟩; have HBX2 := hide (show Bl w2 (w.heap.size + 1) [.int .i64 s', .int .i64 t'] by rw [hw2]; exact (HBX.out.laid _).laid _); have HPX := hide (show Bl w2 wr.heap.size [.int .i64 ns, .int .i64 nt] by rw [hw2]; exact (Bl.new wr [.int .i64 ns, .int .i64 nt] 84).laid _); have HB2 := hide (show Below w.heap.size w w2 by rw [hw2]; exact (HB.out.alloc (by have := HB.out.size; omega) _).alloc (by have := HB.out.size; simp; omega) _); clear hw2 b0 b1 f0 f1 lb; have b0 := HBX2.out.c 0 _ rfl; have b1 := HBX2.out.c 1 _ rfl; have f0 := HBX2.out.f 0; have f1 := HBX2.out.f 1; have lb := HBX2.out.lt; have p0 := HPX.out.c 0 _ rfl; have p1 := HPX.out.c 1 _ rfl)
                all_goals (go_ret; exact ⟨14, rfl, by simp [HF.out], HB2.out⟩)
              · have t6 : decide (ns ≤ s') = false := decide_eq_false (by omega)
                have t7 : decide (nt ≤ t') = true := decide_eq_true h8
                go_wp2_with (go_at_call 94; refine (HV.out _).mono ?_; rintro e2 w2 ⟨rfl, hw2⟩; have HBX2 := hide (show Bl w2 (w.heap.size + 1) [.int .i64 s', .int .i64 t'] by rw [hw2]; exact (HBX.out.laid _).laid _); have HPX := hide (show Bl w2 wr.heap.size [.int .i64 ns, .int .i64 nt] by rw [hw2]; exact (Bl.new wr [.int .i64 ns, .int .i64 nt] 84).laid _); have HB2 := hide (show Below w.heap.size w w2 by rw [hw2]; exact (HB.out.alloc (by have := HB.out.size; omega) _).alloc (by have := HB.out.size; simp; omega) _); clear hw2 b0 b1 f0 f1 lb; have b0 := HBX2.out.c 0 _ rfl; have b1 := HBX2.out.c 1 _ rfl; have f0 := HBX2.out.f 0; have f1 := HBX2.out.f 1; have lb := HBX2.out.lt; have p0 := HPX.out.c 0 _ rfl; have p1 := HPX.out.c 1 _ rfl)
                all_goals (go_ret; exact ⟨14, rfl, by simp [HF.out], HB2.out⟩)
        · obtain rfl : j = m := by omega
          have HT := hide (show OK by
            rw [← HO.out]
            refine ⟨HOK.out.1 (by first | trivial | rfl), ⟨hg, hg2⟩, hg3, HU.out.2 ?_⟩
            rw [List.drop_eq_nil_of_le (by rw [HM.out]; exact Nat.le_refl _)]
            trivial)
          go_wp2
          go_ret
          exact ⟨0, rfl, by simp [HT.out], HB.out⟩
    · go_ret
      exact ⟨_, rfl, ⟨fun h => absurd h he, fun h => absurd (HOK.out.2 (by rw [← HO.out] at h; exact h.1)) he⟩, HB.out⟩
set_option maxHeartbeats 4000000 in
theorem pcheck_any (x : Trk) (A B : Option Addr) (a b : Nat) (hx : TrV w (· < w.heap.size) A a B b x) : Calls Tryz.prog 64 #[.agg #[.int .i64 x.next, .slice A x.beyond.length a, .slice B x.points.length b, .int .i64 x.mark]] w (RetZ (TrkOK x) w) := by
  have HA := hide (asc_any (w.alloc (.cells #[.int .i64 x.next, .slice A x.beyond.length a, .slice B x.points.length b, .int .i64 x.mark] 33)) x A B a b x.next x.mark (hx.box _))
  have HB := hide (below_laid (w := w) (.cells #[.int .i64 x.next, .slice A x.beyond.length a, .slice B x.points.length b, .int .i64 x.mark] 33))
  unfold TrkOK
  obtain ⟨OK, hOK⟩ : ∃ OK, AscOK x x.next x.mark = OK := ⟨_, rfl⟩
  rw [hOK] at HA ⊢
  clear hOK hx
  obtain ⟨next, beyond, points, mark⟩ := x
  simp only at HA HB ⊢
  go_enter Tryz.func64, Tryz.ntmps64
  go_wp2_with (go_at_call 79; refine HA.out.mono ?_; rintro e1 w1 ⟨e, rfl, hok, hb1⟩)
  go_ret
  exact ⟨e, rfl, hok, bthen HB.out hb1⟩
end
end Go.Proofs.YtppaiihcaajkaaaGreat

namespace Go.Proofs.YtppaiihcaajkaaaGreat
open Go.RowKit
set_option linter.unusedVariables false
set_option linter.unusedSimpArgs false
def RetBV (b : Bool) (w : World) (e : Ending) (w' : World) : Prop := e = .returned (.bool b) ∧ Below w.heap.size w w'
/-- A list in new memory. -/
def RetFl (l : List Pnt) (w : World) (e : Ending) (w' : World) : Prop := ∃ v, e = .returned v ∧ Gq w' (fun b => w.heap.size ≤ b) w.heap.size 84 2 RPn v l ∧ Below w.heap.size w w'
theorem filter_yes {α : Type} {l : List α} {j : Nat} {f : α → Bool} (h : j < l.length) (hf : f l[j] = true) : (l.take (j + 1)).filter f = (l.take j).filter f ++ [l[j]] := by
  rw [List.take_succ_eq_append_getElem h, List.filter_append]; simp [hf]
theorem filter_no {α : Type} {l : List α} {j : Nat} {f : α → Bool} (h : j < l.length) (hf : f l[j] = false) : (l.take (j + 1)).filter f = (l.take j).filter f := by
  rw [List.take_succ_eq_append_getElem h, List.filter_append]; simp [hf]
theorem filter_take_le {α : Type} {l : List α} {j : Nat} {f : α → Bool} : ((l.take j).filter f).length ≤ l.length := Nat.le_trans (List.length_filter_le _ _) (by rw [List.length_take]; omega)
section
variable (w : World)
set_option maxRecDepth 100000 in
set_option maxHeartbeats 8000000 in
theorem filA_any (l : List Pnt) (B : Option Addr) (b c0 : Nat) (f : Pnt → Bool) (hl : Lst w (· < w.heap.size) 2 RPn (.slice B l.length b) l) (hm4 : l.length ≤ 1000)
    (HF : Hid (∀ w1 (p : Pnt), Below w.heap.size w w1 → Calls Tryz.prog 127 #[.agg #[.int .i64 p.s, .int .i64 p.t], .pointer (some ⟨c0, 0, none⟩)] w1 (RetBV (f p) w1))) :
    Calls Tryz.prog 116 #[.slice B l.length b, .func (.func 127) #[] #[.pointer (some ⟨c0, 0, none⟩)]] w (RetFl (l.filter f) w) := by
  obtain ⟨i1, hi1, hz10, hz11, hz12⟩ := info_parts iq_point
  have HL := hide (fun (w1 : World) (hb : Below w.heap.size w w1) => hl.below rd_Pn hb)
  obtain ⟨m, hm⟩ : ∃ m, l.length = m := ⟨_, rfl⟩
  rw [hm] at HL hm4 ⊢
  have HM := hide hm
  clear hl hm
  go_enter Tryz.func116, Tryz.ntmps116
  go_wp2
  go_loopw [5, 10] (fun v i wr => ∃ (j : Nat) (u : Value), j ≤ m ∧ i = .int .i64 j ∧ u = v ∧ Hid (Gq wr (fun b => w.heap.size ≤ b) w.heap.size 84 2 RPn u ((l.take j).filter f)) ∧ Hid (Below w.heap.size w wr)) (fun _ i _ => m - (intOf i).toNat)
  case atStart => exact ⟨0, _, by omega, rfl, rfl, hide Gq.nil, hide (Below.refl _ _)⟩
  case round =>
    obtain ⟨j, u, hj, rfl, rfl, HG, HB⟩ := hrel
    by_cases hlt : j < m
    · have hjl : j < l.length := by rw [HM.out]; exact hlt
      obtain ⟨g, off, xs, e2, hg', hxl, hc, hR⟩ := (HL.out wr HB.out).at_ hjl
      cases e2
      have HYS := hide (fun h => filter_yes (f := f) hjl h)
      have HNO := hide (fun h => filter_no (f := f) hjl h)
      have HLE := hide (show ((l.take j).filter f).length ≤ 1000 from Nat.le_trans filter_take_le (by rw [HM.out]; exact hm4))
      obtain ⟨n, hn⟩ : ∃ n, l[j] = n := ⟨_, rfl⟩
      rw [hn] at hR HYS HNO
      obtain ⟨rfl, hni⟩ := hR
      have HNI := hide hni
      have k0 := hc 0 _ rfl
      have k1 := hc 1 _ rfl
      rw [Nat.add_zero] at k0
      have hu0 : (0 : Int) ≤ (j : Int) := by omega
      have hu1 : (j : Int) < (m : Int) := by omega
      have HBP := hide (HB.out.alloc (by have := HB.out.size; omega) (.cells #[.int .i64 n.s, .int .i64 n.t] 84))
      have HFC := hide (HF.out (wr.alloc (.cells #[.int .i64 n.s, .int .i64 n.t] 84)) n HBP.out)
      have HPX := hide (Bl.new wr [.int .i64 n.s, .int .i64 n.t] 84)
      have HGX := hide (HG.out.keep rd_Pn (below_laid (.cells #[.int .i64 n.s, .int .i64 n.t] 84)))
      clear hn hc hxl hni
      cases hf : f n
      · rw [hf] at HFC
        have HE := hide (HNO.out hf)
        clear hf
        go_wp2_with (go_at_call 127; refine HFC.out.mono ?_; rintro e1 w1 ⟨rfl, hb1⟩; have HB1 := hide hb1; clear hb1)
        go_roundw
        case rel => exact ⟨j + 1, u, by omega, by go_num, rfl, hide (by rw [HE.out]; exact HGX.out.keep rd_Pn HB1.out), hide (HBP.out.trans (HB1.out.mono (by simp; have := HB.out.size; omega)))⟩
        case measure => simp [intOf]; omega
      · rw [hf] at HFC
        have HE := hide (HYS.out hf)
        clear hf
        go_wp2_with (first
          | (go_at_call 127; refine HFC.out.mono ?_; rintro e1 w1 ⟨rfl, hb1⟩; have p0 := HPX.out.keep hb1 |>.c 0 _ rfl; have p1 := HPX.out.keep hb1 |>.c 1 _ rfl; have HB1 := hide hb1; have HG1 := hide ((HGX.out.keep rd_Pn hb1).keep rd_Pn (below_laid (.cells #[.int .i64 n.s, .int .i64 n.t] 84))); have HBB := hide (show Below w.heap.size w w1 from HBP.out.trans (hb1.mono (by simp; have := HB.out.size; omega))); clear hb1)
          | (at_builtin; refine wpList_append_gq rd_Pn rfl _ _ 31 rfl (fun b => w.heap.size ≤ b) w.heap.size 84 i1 _ 2 16 Tryz.underlying31 hi1 hz10 hz11 hz12 (by rfl) (by decide) u _ rfl HG1.out w1.heap.size rfl [.int .i64 n.s, .int .i64 n.t] rfl (cells_lit w1 [.int .i64 n.s, .int .i64 n.t] 84) (by simp [Value.oneCell']) n ⟨rfl, HNI.out⟩ (fun b hb => Nat.le_trans (Nat.le_trans HBB.out.size (below_laid _).size) hb) (Nat.lt_of_le_of_lt HLE.out (by decide)) (by decide) (Nat.le_trans HBB.out.size (below_laid _).size) ?_; intro v4 w4 hg4 hgr4 hb4; have HG4 := hide hg4; have HB4 := hide hb4; clear hg4 hgr4 hb4))
        go_roundw
        case rel => exact ⟨j + 1, _, by omega, by go_num, rfl, hide (by rw [HE.out]; exact HG4.out), hide ((HBB.out.alloc HBB.out.size _).trans HB4.out)⟩
        case measure => simp [intOf]; omega
    · obtain rfl : j = m := by omega
      have HE := hide (show (l.take j).filter f = l.filter f by rw [List.take_of_length_le (by rw [HM.out]; exact Nat.le_refl _)])
      go_wp2
      go_ret
      exact ⟨_, rfl, by rw [← HE.out]; exact HG.out, HB.out⟩
set_option maxRecDepth 100000 in
set_option maxHeartbeats 8000000 in
theorem filB_any (l : List Pnt) (B : Option Addr) (b c0 c1 : Nat) (f : Pnt → Bool) (hl : Lst w (· < w.heap.size) 2 RPn (.slice B l.length b) l) (hm4 : l.length ≤ 1000)
    (HF : Hid (∀ w1 (p : Pnt), Below w.heap.size w w1 → Calls Tryz.prog 117 #[.agg #[.int .i64 p.s, .int .i64 p.t], .pointer (some ⟨c0, 0, none⟩), .pointer (some ⟨c1, 0, none⟩)] w1 (RetBV (f p) w1))) :
    Calls Tryz.prog 116 #[.slice B l.length b, .func (.func 117) #[] #[.pointer (some ⟨c0, 0, none⟩), .pointer (some ⟨c1, 0, none⟩)]] w (RetFl (l.filter f) w) := by
  obtain ⟨i1, hi1, hz10, hz11, hz12⟩ := info_parts iq_point
  have HL := hide (fun (w1 : World) (hb : Below w.heap.size w w1) => hl.below rd_Pn hb)
  obtain ⟨m, hm⟩ : ∃ m, l.length = m := ⟨_, rfl⟩
  rw [hm] at HL hm4 ⊢
  have HM := hide hm
  clear hl hm
  go_enter Tryz.func116, Tryz.ntmps116
  go_wp2
  go_loopw [5, 10] (fun v i wr => ∃ (j : Nat) (u : Value), j ≤ m ∧ i = .int .i64 j ∧ u = v ∧ Hid (Gq wr (fun b => w.heap.size ≤ b) w.heap.size 84 2 RPn u ((l.take j).filter f)) ∧ Hid (Below w.heap.size w wr)) (fun _ i _ => m - (intOf i).toNat)
  case atStart => exact ⟨0, _, by omega, rfl, rfl, hide Gq.nil, hide (Below.refl _ _)⟩
  case round =>
    obtain ⟨j, u, hj, rfl, rfl, HG, HB⟩ := hrel
    by_cases hlt : j < m
    · have hjl : j < l.length := by rw [HM.out]; exact hlt
      obtain ⟨g, off, xs, e2, hg', hxl, hc, hR⟩ := (HL.out wr HB.out).at_ hjl
      cases e2
      have HYS := hide (fun h => filter_yes (f := f) hjl h)
      have HNO := hide (fun h => filter_no (f := f) hjl h)
      have HLE := hide (show ((l.take j).filter f).length ≤ 1000 from Nat.le_trans filter_take_le (by rw [HM.out]; exact hm4))
      obtain ⟨n, hn⟩ : ∃ n, l[j] = n := ⟨_, rfl⟩
      rw [hn] at hR HYS HNO
      obtain ⟨rfl, hni⟩ := hR
      have HNI := hide hni
      have k0 := hc 0 _ rfl
      have k1 := hc 1 _ rfl
      rw [Nat.add_zero] at k0
      have hu0 : (0 : Int) ≤ (j : Int) := by omega
      have hu1 : (j : Int) < (m : Int) := by omega
      have HBP := hide (HB.out.alloc (by have := HB.out.size; omega) (.cells #[.int .i64 n.s, .int .i64 n.t] 84))
      have HFC := hide (HF.out (wr.alloc (.cells #[.int .i64 n.s, .int .i64 n.t] 84)) n HBP.out)
      have HPX := hide (Bl.new wr [.int .i64 n.s, .int .i64 n.t] 84)
      have HGX := hide (HG.out.keep rd_Pn (below_laid (.cells #[.int .i64 n.s, .int .i64 n.t] 84)))
      clear hn hc hxl hni
      cases hf : f n
      · rw [hf] at HFC
        have HE := hide (HNO.out hf)
        clear hf
        go_wp2_with (go_at_call 117; refine HFC.out.mono ?_; rintro e1 w1 ⟨rfl, hb1⟩; have HB1 := hide hb1; clear hb1)
        go_roundw
        case rel => exact ⟨j + 1, u, by omega, by go_num, rfl, hide (by rw [HE.out]; exact HGX.out.keep rd_Pn HB1.out), hide (HBP.out.trans (HB1.out.mono (by simp; have := HB.out.size; omega)))⟩
        case measure => simp [intOf]; omega
      · rw [hf] at HFC
        have HE := hide (HYS.out hf)
        clear hf
        go_wp2_with (first
          | (go_at_call 117; refine HFC.out.mono ?_; rintro e1 w1 ⟨rfl, hb1⟩; have p0 := HPX.out.keep hb1 |>.c 0 _ rfl; have p1 := HPX.out.keep hb1 |>.c 1 _ rfl; have HB1 := hide hb1; have HG1 := hide ((HGX.out.keep rd_Pn hb1).keep rd_Pn (below_laid (.cells #[.int .i64 n.s, .int .i64 n.t] 84))); have HBB := hide (show Below w.heap.size w w1 from HBP.out.trans (hb1.mono (by simp; have := HB.out.size; omega))); clear hb1)
          | (at_builtin; refine wpList_append_gq rd_Pn rfl _ _ 31 rfl (fun b => w.heap.size ≤ b) w.heap.size 84 i1 _ 2 16 Tryz.underlying31 hi1 hz10 hz11 hz12 (by rfl) (by decide) u _ rfl HG1.out w1.heap.size rfl [.int .i64 n.s, .int .i64 n.t] rfl (cells_lit w1 [.int .i64 n.s, .int .i64 n.t] 84) (by simp [Value.oneCell']) n ⟨rfl, HNI.out⟩ (fun b hb => Nat.le_trans (Nat.le_trans HBB.out.size (below_laid _).size) hb) (Nat.lt_of_le_of_lt HLE.out (by decide)) (by decide) (Nat.le_trans HBB.out.size (below_laid _).size) ?_; intro v4 w4 hg4 hgr4 hb4; have HG4 := hide hg4; have HB4 := hide hb4; clear hg4 hgr4 hb4))
        go_roundw
        case rel => exact ⟨j + 1, _, by omega, by go_num, rfl, hide (by rw [HE.out]; exact HG4.out), hide ((HBB.out.alloc HBB.out.size _).trans HB4.out)⟩
        case measure => simp [intOf]; omega
    · obtain rfl : j = m := by omega
      have HE := hide (show (l.take j).filter f = l.filter f by rw [List.take_of_length_le (by rw [HM.out]; exact Nat.le_refl _)])
      go_wp2
      go_ret
      exact ⟨_, rfl, by rw [← HE.out]; exact HG.out, HB.out⟩
set_option maxRecDepth 100000 in
set_option maxHeartbeats 8000000 in
theorem filC_any (l : List Pnt) (B : Option Addr) (b c0 : Nat) (f : Pnt → Bool) (hl : Lst w (· < w.heap.size) 2 RPn (.slice B l.length b) l) (hm4 : l.length ≤ 1000)
    (HF : Hid (∀ w1 (p : Pnt), Below w.heap.size w w1 → Calls Tryz.prog 121 #[.agg #[.int .i64 p.s, .int .i64 p.t], .pointer (some ⟨c0, 0, none⟩)] w1 (RetBV (f p) w1))) :
    Calls Tryz.prog 116 #[.slice B l.length b, .func (.func 121) #[] #[.pointer (some ⟨c0, 0, none⟩)]] w (RetFl (l.filter f) w) := by
  obtain ⟨i1, hi1, hz10, hz11, hz12⟩ := info_parts iq_point
  have HL := hide (fun (w1 : World) (hb : Below w.heap.size w w1) => hl.below rd_Pn hb)
  obtain ⟨m, hm⟩ : ∃ m, l.length = m := ⟨_, rfl⟩
  rw [hm] at HL hm4 ⊢
  have HM := hide hm
  clear hl hm
  go_enter Tryz.func116, Tryz.ntmps116
  go_wp2
  go_loopw [5, 10] (fun v i wr => ∃ (j : Nat) (u : Value), j ≤ m ∧ i = .int .i64 j ∧ u = v ∧ Hid (Gq wr (fun b => w.heap.size ≤ b) w.heap.size 84 2 RPn u ((l.take j).filter f)) ∧ Hid (Below w.heap.size w wr)) (fun _ i _ => m - (intOf i).toNat)
  case atStart => exact ⟨0, _, by omega, rfl, rfl, hide Gq.nil, hide (Below.refl _ _)⟩
  case round =>
    obtain ⟨j, u, hj, rfl, rfl, HG, HB⟩ := hrel
    by_cases hlt : j < m
    · have hjl : j < l.length := by rw [HM.out]; exact hlt
      obtain ⟨g, off, xs, e2, hg', hxl, hc, hR⟩ := (HL.out wr HB.out).at_ hjl
      cases e2
      have HYS := hide (fun h => filter_yes (f := f) hjl h)
      have HNO := hide (fun h => filter_no (f := f) hjl h)
      have HLE := hide (show ((l.take j).filter f).length ≤ 1000 from Nat.le_trans filter_take_le (by rw [HM.out]; exact hm4))
      obtain ⟨n, hn⟩ : ∃ n, l[j] = n := ⟨_, rfl⟩
      rw [hn] at hR HYS HNO
      obtain ⟨rfl, hni⟩ := hR
      have HNI := hide hni
      have k0 := hc 0 _ rfl
      have k1 := hc 1 _ rfl
      rw [Nat.add_zero] at k0
      have hu0 : (0 : Int) ≤ (j : Int) := by omega
      have hu1 : (j : Int) < (m : Int) := by omega
      have HBP := hide (HB.out.alloc (by have := HB.out.size; omega) (.cells #[.int .i64 n.s, .int .i64 n.t] 84))
      have HFC := hide (HF.out (wr.alloc (.cells #[.int .i64 n.s, .int .i64 n.t] 84)) n HBP.out)
      have HPX := hide (Bl.new wr [.int .i64 n.s, .int .i64 n.t] 84)
      have HGX := hide (HG.out.keep rd_Pn (below_laid (.cells #[.int .i64 n.s, .int .i64 n.t] 84)))
      clear hn hc hxl hni
      cases hf : f n
      · rw [hf] at HFC
        have HE := hide (HNO.out hf)
        clear hf
        go_wp2_with (go_at_call 121; refine HFC.out.mono ?_; rintro e1 w1 ⟨rfl, hb1⟩; have HB1 := hide hb1; clear hb1)
        go_roundw
        case rel => exact ⟨j + 1, u, by omega, by go_num, rfl, hide (by rw [HE.out]; exact HGX.out.keep rd_Pn HB1.out), hide (HBP.out.trans (HB1.out.mono (by simp; have := HB.out.size; omega)))⟩
        case measure => simp [intOf]; omega
      · rw [hf] at HFC
        have HE := hide (HYS.out hf)
        clear hf
        go_wp2_with (first
          | (go_at_call 121; refine HFC.out.mono ?_; rintro e1 w1 ⟨rfl, hb1⟩; have p0 := HPX.out.keep hb1 |>.c 0 _ rfl; have p1 := HPX.out.keep hb1 |>.c 1 _ rfl; have HB1 := hide hb1; have HG1 := hide ((HGX.out.keep rd_Pn hb1).keep rd_Pn (below_laid (.cells #[.int .i64 n.s, .int .i64 n.t] 84))); have HBB := hide (show Below w.heap.size w w1 from HBP.out.trans (hb1.mono (by simp; have := HB.out.size; omega))); clear hb1)
          | (at_builtin; refine wpList_append_gq rd_Pn rfl _ _ 31 rfl (fun b => w.heap.size ≤ b) w.heap.size 84 i1 _ 2 16 Tryz.underlying31 hi1 hz10 hz11 hz12 (by rfl) (by decide) u _ rfl HG1.out w1.heap.size rfl [.int .i64 n.s, .int .i64 n.t] rfl (cells_lit w1 [.int .i64 n.s, .int .i64 n.t] 84) (by simp [Value.oneCell']) n ⟨rfl, HNI.out⟩ (fun b hb => Nat.le_trans (Nat.le_trans HBB.out.size (below_laid _).size) hb) (Nat.lt_of_le_of_lt HLE.out (by decide)) (by decide) (Nat.le_trans HBB.out.size (below_laid _).size) ?_; intro v4 w4 hg4 hgr4 hb4; have HG4 := hide hg4; have HB4 := hide hb4; clear hg4 hgr4 hb4))
        go_roundw
        case rel => exact ⟨j + 1, _, by omega, by go_num, rfl, hide (by rw [HE.out]; exact HG4.out), hide ((HBB.out.alloc HBB.out.size _).trans HB4.out)⟩
        case measure => simp [intOf]; omega
    · obtain rfl : j = m := by omega
      have HE := hide (show (l.take j).filter f = l.filter f by rw [List.take_of_length_le (by rw [HM.out]; exact Nat.le_refl _)])
      go_wp2
      go_ret
      exact ⟨_, rfl, by rw [← HE.out]; exact HG.out, HB.out⟩
end
end Go.Proofs.YtppaiihcaajkaaaGreat
