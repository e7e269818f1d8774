/- tryStart. -/
import Derived.Test.YtppaiihcaajkaaaGreatKInsM
namespace Go.Proofs.YtppaiihcaajkaaaGreat
open Go.RowKit
set_option linter.unusedVariables false
set_option linter.unusedSimpArgs false
def RetSt (W0 : World) (L : Nat → List Msg) (w : World) (e : Ending) (w' : World) : Prop := ∃ b f, e = .returned (.pointer (some ⟨b, 0, none⟩)) ∧ JobAt W0 L w' b f job0 ∧ Below w.heap.size w w'
def jb0 (va vb : Value) : List Value := [va, vb, .int .i64 0, .int .i64 0, .int .i64 0, .slice none 0 0, .slice none 0 0, .int .i64 0, .int .i64 0, .int .i64 0, .int .i64 0, .slice none 0 0, .slice none 0 0, .int .i64 0, .slice none 0 0, .int .i64 0, .slice none 0 0, .int .i64 0, .slice none 0 0, .bool false, .bool false, .slice none 0 0, .slice none 0 0, .slice none 0 0, .slice none 0 0, .slice none 0 0, .slice none 0 0, .bool true]
structure StAt (w0 w : World) (b : Nat) (i : Nat) (va vb : Value) (f : Nat → Value) : Prop where
  bl : JBlk w b f
  hb : Below w0.heap.size w0 w
  l0 : f 0 = va
  l1 : f 1 = vb
  rd : ∀ k, k < i → f (2 + k * 6) = .int .i64 (k : Int) ∧ f (2 + k * 6 + 1) = .int .i64 0 ∧ f (2 + k * 6 + 2) = .int .i64 0 ∧ f (2 + k * 6 + 3) = .slice none 0 0 ∧ f (2 + k * 6 + 4) = .slice none 0 0 ∧ f (2 + k * 6 + 5) = .int .i64 (-1)
  al : ∀ k, k < i → f (15 + k * 2) = .int .i64 0 ∧ Lst w (fun z => b < z ∧ z < w.heap.size) 1 RBo (f (15 + k * 2 + 1)) [false, false]
  ins : ∀ k, k < 2 → f (19 + k) = .bool false
  rows : ∀ j, j < 6 → f (21 + j) = .slice none 0 0
  ok : f 27 = .bool true
theorem st_begin (w : World) (va vb : Value) (t : TypeId) : StAt w (w.alloc (.cells (jb0 va vb).toArray t)) w.heap.size 0 va vb fun k => (jb0 va vb).getD k undef := by
  have hX := Bl.new w (jb0 va vb) t
  refine ⟨⟨fun k hk => hX.c k _ ?_, hX.f, hX.lt⟩, below_laid _, rfl, rfl, fun k hk => absurd hk (Nat.not_lt_zero _), fun k hk => absurd hk (Nat.not_lt_zero _), fun k hk => ?_, fun j hj => ?_, rfl⟩
  · have hl : k < (jb0 va vb).length := hk
    rw [List.getElem?_eq_getElem hl, List.getD_eq_getElem?_getD, List.getElem?_eq_getElem hl]
    rfl
  · have : k = 0 ∨ k = 1 := by omega
    rcases this with rfl | rfl <;> rfl
  · have : j = 0 ∨ j = 1 ∨ j = 2 ∨ j = 3 ∨ j = 4 ∨ j = 5 := by omega
    rcases this with rfl | rfl | rfl | rfl | rfl | rfl <;> rfl
theorem StAt.keep {w0 w w' : World} {b i : Nat} {va vb : Value} {f : Nat → Value} (h : StAt w0 w b i va vb f) (hb : Below w.heap.size w w') : StAt w0 w' b i va vb f :=
  ⟨h.bl.keep hb, bthen h.hb hb, h.l0, h.l1, h.rd, fun k hk => ⟨(h.al k hk).1, ((h.al k hk).2.keep rd_Bo ((Kp.of_below hb).less fun z hz => hz.2)).more rd_Bo fun z hz => ⟨hz.1, Nat.lt_of_lt_of_le hz.2 hb.size⟩⟩, h.ins, h.rows, h.ok⟩
/-- A reader and an aligner are stored. -/
theorem StAt.next {w0 w w' : World} {b i : Nat} {va vb v : Value} {f f' : Nat → Value} (h : StAt w0 w b i va vb f) (hw0 : w0.heap.size ≤ b) (hi : i < 2) (hO : Off b 1 w w') (hB : JBlk w' b f') (hv : Lst w (fun z => b < z ∧ z < w.heap.size) 1 RBo v [false, false])
    (g : f' (2 + i * 6) = .int .i64 (i : Int) ∧ f' (2 + i * 6 + 1) = .int .i64 0 ∧ f' (2 + i * 6 + 2) = .int .i64 0 ∧ f' (2 + i * 6 + 3) = .slice none 0 0 ∧ f' (2 + i * 6 + 4) = .slice none 0 0 ∧ f' (2 + i * 6 + 5) = .int .i64 (-1) ∧ f' (15 + i * 2) = .int .i64 0 ∧ f' (15 + i * 2 + 1) = v ∧ f' 27 = .bool true)
    (hf : ∀ k, (k < 2 + i * 6 ∨ 2 + i * 6 + 6 ≤ k) → (k < 15 + i * 2 ∨ 15 + i * 2 + 2 ≤ k) → k ≠ 27 → f' k = f k) : StAt w0 w' b (i + 1) va vb f' := by
  obtain ⟨g0, g1, g2, g3, g4, g5, g6, g7, g8⟩ := g
  have hk : Kp (fun z => b < z ∧ z < w.heap.size) w w' := hO.kp fun k hk => by have := hk.1; omega
  have hl : ∀ v l, Lst w (fun z => b < z ∧ z < w.heap.size) 1 RBo v l → Lst w' (fun z => b < z ∧ z < w'.heap.size) 1 RBo v l := fun v l h1 => (h1.keep rd_Bo hk).more rd_Bo fun z hz => by rw [hO.size]; exact hz
  refine ⟨hB, h.hb.trans (off_below hO hw0), by rw [hf _ (by omega) (by omega) (by omega)]; exact h.l0, by rw [hf _ (by omega) (by omega) (by omega)]; exact h.l1, fun k hk => ?_, fun k hk => ?_, fun k hk => by rw [hf _ (by omega) (by omega) (by omega)]; exact h.ins k hk, fun j hj => by rw [hf _ (by omega) (by omega) (by omega)]; exact h.rows j hj, g8⟩
  · by_cases e : k = i
    · subst e
      exact ⟨g0, g1, g2, g3, g4, g5⟩
    · have := h.rd k (by omega)
      rw [hf _ (by omega) (by omega) (by omega), hf _ (by omega) (by omega) (by omega), hf _ (by omega) (by omega) (by omega), hf _ (by omega) (by omega) (by omega), hf _ (by omega) (by omega) (by omega), hf _ (by omega) (by omega) (by omega)]
      exact this
  · by_cases e : k = i
    · subst e
      exact ⟨g6, by rw [g7]; exact hl _ _ hv⟩
    · have := h.al k (by omega)
      rw [hf _ (by omega) (by omega) (by omega), hf _ (by omega) (by omega) (by omega)]
      exact ⟨this.1, hl _ _ this.2⟩
theorem st_put8 {w : World} {b i : Nat} {f : Nat → Value} (h : JBlk w b f) (hi : i < 2) (v : Value) : ∃ f', JBlk ((((((((w.setCell ⟨b, 2 + i * 6, none⟩ (.int .i64 (i : Int))).setCell ⟨b, 2 + i * 6 + 1, none⟩ (.int .i64 0)).setCell ⟨b, 2 + i * 6 + 2, none⟩ (.int .i64 0)).setCell ⟨b, 2 + i * 6 + 3, none⟩ (.slice none 0 0)).setCell ⟨b, 2 + i * 6 + 4, none⟩ (.slice none 0 0)).setCell ⟨b, 2 + i * 6 + 5, none⟩ (.int .i64 (-1))).setCell ⟨b, 15 + i * 2, none⟩ (.int .i64 0)).setCell ⟨b, 15 + i * 2 + 1, none⟩ (v)) b f' ∧ Off b 1 w ((((((((w.setCell ⟨b, 2 + i * 6, none⟩ (.int .i64 (i : Int))).setCell ⟨b, 2 + i * 6 + 1, none⟩ (.int .i64 0)).setCell ⟨b, 2 + i * 6 + 2, none⟩ (.int .i64 0)).setCell ⟨b, 2 + i * 6 + 3, none⟩ (.slice none 0 0)).setCell ⟨b, 2 + i * 6 + 4, none⟩ (.slice none 0 0)).setCell ⟨b, 2 + i * 6 + 5, none⟩ (.int .i64 (-1))).setCell ⟨b, 15 + i * 2, none⟩ (.int .i64 0)).setCell ⟨b, 15 + i * 2 + 1, none⟩ (v)) ∧
    (f' (2 + i * 6) = .int .i64 (i : Int) ∧ f' (2 + i * 6 + 1) = .int .i64 0 ∧ f' (2 + i * 6 + 2) = .int .i64 0 ∧ f' (2 + i * 6 + 3) = .slice none 0 0 ∧ f' (2 + i * 6 + 4) = .slice none 0 0 ∧ f' (2 + i * 6 + 5) = .int .i64 (-1) ∧ f' (15 + i * 2) = .int .i64 0 ∧ f' (15 + i * 2 + 1) = v ∧ f' 27 = f 27) ∧
    ∀ k, (k < 2 + i * 6 ∨ 2 + i * 6 + 6 ≤ k) → (k < 15 + i * 2 ∨ 15 + i * 2 + 2 ≤ k) → f' k = f k := by
  refine ⟨_, (((((((h.put (k := 2 + i * 6) (by omega) _).put (k := 2 + i * 6 + 1) (by omega) _).put (k := 2 + i * 6 + 2) (by omega) _).put (k := 2 + i * 6 + 3) (by omega) _).put (k := 2 + i * 6 + 4) (by omega) _).put (k := 2 + i * 6 + 5) (by omega) _).put (k := 15 + i * 2) (by omega) _).put (k := 15 + i * 2 + 1) (by omega) _, ?_, ?_, fun k h1 h2 => ?_⟩
  · repeat (first | refine Off.set ?_ (by constructor <;> simp) | with_reducible exact Off.refl)
  · refine ⟨?_, ?_, ?_, ?_, ?_, ?_, ?_, ?_, ?_⟩ <;> repeat (first | rw [fset_same] | rw [fset_ne (by omega)])
  · repeat rw [fset_ne (by omega)]
/-- The job at its beginning. -/
theorem StAt.job {W0 w0 w w' : World} {L : Nat → List Msg} {b g c : Nat} {va vb : Value} {f f' : Nat → Value} (h : StAt w0 w b 2 va vb f) (hW : Below W0.heap.size W0 w0) (hb : b = w0.heap.size) (ha : Lst W0 (· < W0.heap.size) 9 (RMs W0) va (L 0)) (hb' : Lst W0 (· < W0.heap.size) 9 (RMs W0) vb (L 1))
    (hO : Off b 1 w w') (hB : JBlk w' b f') (hq : Lst w (fun z => b < z ∧ z < w.heap.size) 3 (RQu W0) (.slice (some ⟨g, 0, none⟩) 4 c) qs0) (h14 : f' 14 = .slice (some ⟨g, 0, none⟩) 4 c) (h27 : f' 27 = .bool true) (hf : ∀ k, k ≠ 14 → k ≠ 27 → f' k = f k) : JobAt W0 L w' b f' job0 ∧ Below w0.heap.size w0 w' := by
  have hWw : Below W0.heap.size W0 w := hW.trans (h.hb.mono hW.size)
  have hbW : W0.heap.size ≤ b := by rw [hb]; exact hW.size
  have hrow : ∀ j, j < 6 → f' (21 + j) = .slice none 0 0 := fun j hj => by rw [hf _ (by omega) (by omega)]; exact h.rows j hj
  have hz : ∀ z, (b < z ∧ z < w.heap.size) → Sep w' b f' z := fun z hz => ⟨by rw [hO.size]; exact hz.2, by omega, fun j hj => by rw [hrow j hj]; intro hh; cases hh⟩
  have hk : Kp (fun z => b < z ∧ z < w.heap.size) w w' := hO.kp fun k hk => by have := hk.1; omega
  refine ⟨⟨hB, hWw.trans (off_below hO hbW), hbW, fun i hi => ?_, fun i hi => ?_, ⟨g, c, h14, (hq.keep rd_Qu hk).more rd_Qu hz⟩, fun i hi => ?_, fun i hi => by rw [hf _ (by omega) (by omega)]; exact h.ins i hi, fun j hj => ?_, fun j hj => (by rw [hrow j hj]; intro hh; cases hh), fun j j' hj hj' _ k hk => (by rw [hrow j hj] at hk; cases hk), h27⟩, h.hb.trans (off_below hO (by omega))⟩
  · have hc : i = 0 ∨ i = 1 := by omega
    rcases hc with rfl | rfl
    · rw [hf _ (by omega) (by omega), h.l0]; exact ha
    · rw [hf _ (by omega) (by omega), h.l1]; exact hb'
  · obtain ⟨g0, g1, g2, g3, g4, g5⟩ := h.rd i hi
    refine ⟨none, 0, none, 0, ?_, ?_, ?_, ?_, ?_, ?_, ⟨Lst.nil, Lst.nil, (trk0_v w').n, (trk0_v w').m⟩⟩ <;> rw [hf _ (by omega) (by omega)] <;> assumption
  · obtain ⟨g0, g1⟩ := h.al i hi
    exact ⟨by rw [hf _ (by omega) (by omega)]; exact g0, by rw [hf _ (by omega) (by omega)]; exact (g1.keep rd_Bo hk).more rd_Bo hz⟩
  · rw [hrow j hj]
    have : rowJ job0 j = [] := by unfold rowJ job0; simp
    rw [this]
    exact Gq.nil
section
variable (w : World)
set_option maxRecDepth 100000 in
set_option maxHeartbeats 16000000 in
theorem tstart_any (W0 : World) (hW : Below W0.heap.size W0 w) (L : Nat → List Msg) (va vb : Value) (ha : Lst W0 (· < W0.heap.size) 9 (RMs W0) va (L 0)) (hb : Lst W0 (· < W0.heap.size) 9 (RMs W0) vb (L 1)) :
    Calls Tryz.prog 6 #[va, vb] w (RetSt W0 L w) := by
  obtain ⟨A, c, ea⟩ := ha.form
  obtain ⟨B, d, eb⟩ := hb.form
  have HA := hide ha
  have HB := hide hb
  have HS0 := hide (st_begin w va vb 46)
  have HRB := hide (fun (w1 : World) (i : Nat) (hi : i < 2) => rbegin_any w1 (i : Int) (by omega) (by omega))
  have hab := fun (w1 : World) => Bar.begin_any 2 w1
  rw [show Bar.begE 2 = 0 by decide] at hab
  have HAB := hide hab
  clear hab
  have HCB := hide (fun (w1 : World) => cbegin_any w1 W0)
  have HW := hide hW
  obtain ⟨n, hn⟩ : ∃ n, (L 0).length = n := ⟨_, rfl⟩
  obtain ⟨m, hm⟩ : ∃ m, (L 1).length = m := ⟨_, rfl⟩
  rw [hn] at ea
  rw [hm] at eb
  have HEA := hide ea
  have HEB := hide eb
  rw [ea, eb] at HS0 ⊢
  clear ha hb hW hn hm ea eb
  go_enter Tryz.func6, Tryz.ntmps6
  go_upto_region 2 with (fail)
  obtain ⟨W1, hW1⟩ : ∃ W1, w.alloc (.cells (jb0 (.slice A n c) (.slice B m d)).toArray 46) = W1 := ⟨_, rfl⟩
  rw [hW1] at HS0
  have hW1' : w.alloc (.cells #[.slice A n c, .slice B m d, .int .i64 0, .int .i64 0, .int .i64 0, .slice none 0 0, .slice none 0 0, .int .i64 0, .int .i64 0, .int .i64 0, .int .i64 0, .slice none 0 0, .slice none 0 0, .int .i64 0, .slice none 0 0, .int .i64 0, .slice none 0 0, .int .i64 0, .slice none 0 0, .bool false, .bool false, .slice none 0 0, .slice none 0 0, .slice none 0 0, .slice none 0 0, .slice none 0 0, .slice none 0 0, .bool true] 46) = W1 := hW1
  rw [hW1']
  clear hW1 hW1'
  go_wp2
  go_loopw [18] (fun ix wr => ∃ (i : Nat) (fr : Nat → Value), i ≤ 2 ∧ ix = .int .i64 i ∧ Hid (StAt w wr w.heap.size i (.slice A n c) (.slice B m d) fr)) (fun ix _ => 2 - (intOf ix).toNat)
  case atStart => exact ⟨0, _, by omega, rfl, HS0⟩
  case round =>
    clear HS0
    obtain ⟨i, fr, hi, rfl, HSR⟩ := hrel
    by_cases hlt : i < 2
    · have hi0 : (0 : Int) ≤ (i : Int) := by omega
      have hi1 : (i : Int) < 2 := by omega
      have HRB1 := hide (HRB.out wr i hlt)
      go_wp2_with fail
      refine HRB1.out.mono ?_
      rintro e3 w3 ⟨rfl, hb3⟩
      have HX3 := hide (Bl.new w3 [.int .i64 (i : Int), .int .i64 0, .int .i64 0, .slice none 0 0, .slice none 0 0, .int .i64 (-1)] 35)
      obtain ⟨W3, hW3⟩ : ∃ W3, w3.alloc (.cells #[.int .i64 (i : Int), .int .i64 0, .int .i64 0, .slice none 0 0, .slice none 0 0, .int .i64 (-1)] 35) = W3 := ⟨_, rfl⟩
      have HB3 := hide (show Below wr.heap.size wr W3 by rw [← hW3]; exact bthen hb3 (below_laid _))
      have HX3' := hide (show Bl W3 w3.heap.size [.int .i64 (i : Int), .int .i64 0, .int .i64 0, .slice none 0 0, .slice none 0 0, .int .i64 (-1)] by rw [← hW3]; exact HX3.out)
      have hz3 := hb3.size
      clear hb3 HX3 HRB1
      go_upto_region 6 with (fail)
      try rw [hW3]
      clear hW3
      have HAB1 := hide (HAB.out W3)
      go_wp2_with fail
      refine HAB1.out.mono ?_
      rintro e4 w4 ⟨v4, rfl, hr4, hb4, hn4⟩
      have hlst : Lst w4 (fun z => W3.heap.size ≤ z ∧ z < w4.heap.size) 1 RBo v4 [false, false] := lst_of_row hr4 (by decide) fun k hk hk' => ⟨hn4 k hk, hk'⟩
      obtain ⟨A4, c4, e4⟩ := hlst.form
      rw [show ([false, false] : List Bool).length = 2 from rfl] at e4
      subst e4
      have hz4 := hb4.size
      have hz3' : w3.heap.size < W3.heap.size := HX3'.out.lt
      obtain ⟨W5, hW5⟩ : ∃ W5, w4.alloc (.cells #[.int .i64 0, .slice A4 2 c4] 40) = W5 := ⟨_, rfl⟩
      have hs5 : W5.heap.size = w4.heap.size + 1 := by rw [← hW5]; simp
      have HY5 := hide (show Bl W5 w4.heap.size [.int .i64 0, .slice A4 2 c4] by rw [← hW5]; exact Bl.new w4 _ _)
      have HX5 := hide (show Bl W5 w3.heap.size [.int .i64 (i : Int), .int .i64 0, .int .i64 0, .slice none 0 0, .slice none 0 0, .int .i64 (-1)] by rw [← hW5]; exact (HX3'.out.keep hb4).laid _)
      have hb45 : Below w4.heap.size w4 W5 := by rw [← hW5]; exact below_laid _
      have HS5 := hide (HSR.out.keep (bthen (bthen HB3.out hb4) hb45))
      have hbr := HSR.out.bl.lt
      have hzr := HB3.out.size
      have HL5 := hide (show Lst W5 (fun z => w.heap.size < z ∧ z < W5.heap.size) 1 RBo (.slice A4 2 c4) [false, false] from (hlst.keep rd_Bo ((Kp.of_below hb45).less fun z hz => hz.2)).more rd_Bo fun z hz => ⟨by omega, by omega⟩)
      clear hlst hr4 hn4 hb4 hb45 HAB1 HB3 HX3'
      go_upto_region 7 with (fail)
      try rw [hW5]
      clear hW5
      have x0 := HX5.out.c 0 _ rfl
      have x1 := HX5.out.c 1 _ rfl
      have x2 := HX5.out.c 2 _ rfl
      have x3 := HX5.out.c 3 _ rfl
      have x4 := HX5.out.c 4 _ rfl
      have x5 := HX5.out.c 5 _ rfl
      have y0 := HY5.out.c 0 _ rfl
      have y1 := HY5.out.c 1 _ rfl
      have r0 := HS5.out.bl.c (2 + i * 6) (by omega)
      have r1 := HS5.out.bl.c (2 + i * 6 + 1) (by omega)
      have r2 := HS5.out.bl.c (2 + i * 6 + 2) (by omega)
      have r3 := HS5.out.bl.c (2 + i * 6 + 3) (by omega)
      have r4 := HS5.out.bl.c (2 + i * 6 + 4) (by omega)
      have r5 := HS5.out.bl.c (2 + i * 6 + 5) (by omega)
      have a0 := HS5.out.bl.c (15 + i * 2) (by omega)
      have a1 := HS5.out.bl.c (15 + i * 2 + 1) (by omega)
      have gf0 := HS5.out.bl.fz (2 + i * 6)
      have gf1 := HS5.out.bl.fz (2 + i * 6 + 1)
      have gf2 := HS5.out.bl.fz (2 + i * 6 + 2)
      have gf3 := HS5.out.bl.fz (2 + i * 6 + 3)
      have gf4 := HS5.out.bl.fz (2 + i * 6 + 4)
      have gf5 := HS5.out.bl.fz (2 + i * 6 + 5)
      have gf6 := HS5.out.bl.fz (15 + i * 2)
      have gf7 := HS5.out.bl.fz (15 + i * 2 + 1)
      have hne3 : w.heap.size ≠ w3.heap.size := by omega
      have hne4 : w.heap.size ≠ w4.heap.size := by omega
      go_region
      obtain ⟨f6, hB6, hO6, hv6, hf6⟩ := st_put8 HS5.out.bl hlt (.slice A4 2 c4)
      obtain ⟨W6, hW6⟩ : ∃ W6, ((((((((W5.setCell ⟨w.heap.size, 2 + i * 6, none⟩ (.int .i64 (i : Int))).setCell ⟨w.heap.size, 2 + i * 6 + 1, none⟩ (.int .i64 0)).setCell ⟨w.heap.size, 2 + i * 6 + 2, none⟩ (.int .i64 0)).setCell ⟨w.heap.size, 2 + i * 6 + 3, none⟩ (.slice none 0 0)).setCell ⟨w.heap.size, 2 + i * 6 + 4, none⟩ (.slice none 0 0)).setCell ⟨w.heap.size, 2 + i * 6 + 5, none⟩ (.int .i64 (-1))).setCell ⟨w.heap.size, 15 + i * 2, none⟩ (.int .i64 0)).setCell ⟨w.heap.size, 15 + i * 2 + 1, none⟩ (.slice A4 2 c4)).drew = W6 := ⟨_, rfl⟩
      have HO6 := hide (show Off w.heap.size 1 W5 W6 by rw [← hW6]; exact hO6.drew)
      have HB6 := hide (show JBlk W6 w.heap.size f6 by rw [← hW6]; exact hB6.keep (Below.refl _ _).drew)
      have HV6 := hide hv6
      have HF6 := hide hf6
      rw [hW6]
      clear hW6 hB6 hO6 hv6 hf6 x0 x1 x2 x3 x4 x5 y0 y1 r0 r1 r2 r3 r4 r5 a0 a1 gf0 gf1 gf2 gf3 gf4 gf5 gf6 gf7
      have k27 : W6.cell? ⟨w.heap.size, 27, none⟩ = some (.bool true) := by rw [HB6.out.c 27 (by omega), HV6.out.2.2.2.2.2.2.2.2, HS5.out.ok]
      have g27 := HB6.out.fz 27
      go_wp2
      go_roundw
      case rel =>
        have hlast := HS5.out.next (f' := fset f6 27 (.bool true)) (w' := W6.setCell ⟨w.heap.size, 27, none⟩ (.bool true)) (Nat.le_refl _) hlt (Off.set HO6.out (by constructor <;> simp)) (HB6.out.put (by omega) _) HL5.out
          (by
            obtain ⟨g0, g1, g2, g3, g4, g5, g6, g7, -⟩ := HV6.out
            refine ⟨?_, ?_, ?_, ?_, ?_, ?_, ?_, ?_, fset_same⟩ <;> rw [fset_ne (by omega)] <;> assumption)
          (fun k h1 h2 h3 => by rw [fset_ne h3]; exact HF6.out k h1 h2)
        exact ⟨i + 1, _, by omega, by go_num, hide hlast⟩
      case measure => simp [intOf]; omega
    · obtain rfl : i = 2 := by omega
      have HCB1 := hide (HCB.out wr)
      go_wp2_with fail
      refine HCB1.out.mono ?_
      rintro e9 w9 ⟨g9, c9, rfl, hl9, hb9⟩
      have HS9 := hide (HSR.out.keep hb9)
      have hbr := HSR.out.bl.lt
      have HL9 := hide (show Lst w9 (fun z => w.heap.size < z ∧ z < w9.heap.size) 3 (RQu W0) (.slice (some ⟨g9, 0, none⟩) 4 c9) qs0 from hl9.more rd_Qu fun z hz => ⟨by omega, hz.2⟩)
      clear hb9 hl9 HCB1
      have k27 : w9.cell? ⟨w.heap.size, 27, none⟩ = some (.bool true) := by rw [HS9.out.bl.c 27 (by omega), HS9.out.ok]
      have g27 := HS9.out.bl.fz 27
      have k14 := HS9.out.bl.c 14 (by omega)
      have g14 := HS9.out.bl.fz 14
      go_wp2
      go_ret
      have hj := HS9.out.job (L := L) HW.out rfl (by rw [← HEA.out]; exact HA.out) (by rw [← HEB.out]; exact HB.out) (Off.set (Off.set Off.refl (by constructor <;> simp)) (by constructor <;> simp)) ((HS9.out.bl.put (k := 14) (by omega) (.slice (some ⟨g9, 0, none⟩) 4 c9)).put (k := 27) (by omega) (.bool true)) HL9.out (by rw [fset_ne (by omega), fset_same]) fset_same (fun k h1 h2 => by rw [fset_ne h2, fset_ne h1])
      exact ⟨_, _, rfl, hj.1, hj.2⟩
end
end Go.Proofs.YtppaiihcaajkaaaGreat
