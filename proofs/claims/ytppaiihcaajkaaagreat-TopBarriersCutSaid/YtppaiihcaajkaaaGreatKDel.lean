/- The job's deliver: written by genDel.py. -/
import Derived.Test.YtppaiihcaajkaaaGreatKInsM
namespace Go.Proofs.YtppaiihcaajkaaaGreat
open Go.RowKit
set_option linter.unusedVariables false
set_option linter.unusedSimpArgs false
theorem al_call (w : World) {n : Int} {bl : List Bool} {i0 i1 : Bool} {q0 q1 se ta : List Itm} (h : AlP n bl i0 i1 q0 q1 se ta) {f : Nat} (hf : f < 2) (v : Value) {Z : Nat → Prop} (hl : Lst w Z 1 RBo v bl) (hz : ∀ k, Z k → k < w.heap.size) : Calls Tryz.prog 30 #[.agg #[.int .i64 n, v], .int .i64 (f : Int)] w (Ret (.tuple #[.bool (bl.getD f false), .int .i64 0]) w) := by
  have h2 : bl.length = 2 := h.blk
  have hc := Bar.blocked_any n v bl (f : Int) w (by omega) (row_of_lst hl (by omega) hz)
  rw [(al_free h hf).1, (al_free h hf).2] at hc
  exact hc
theorem peek_call (w W0 : World) (q : Nat → List Itm) (g c i t : Nat) (hi : i < 2) (ht : t < 2) (hl : Lst w (· < w.heap.size) 3 (RQu W0) (.slice (some ⟨g, 0, none⟩) 4 c) (qsOf q)) (hok : QsOK (qsOf q)) :
    Calls Tryz.prog 31 #[.slice (some ⟨g, 0, none⟩) 4 c, .int .i64 (i : Int), .int .i64 (t : Int)] w (RetPk (decide (0 < (q (2 * i + t)).length)) w) := by
  have hk : 2 * i + t < (qsOf q).length := by simp [qsOf]; omega
  have h := cpeek_any w W0 (qsOf q) (some ⟨g, 0, none⟩) c (2 * i + t) hl hok hk
  rw [qs_at, show (2 * i + t) / 2 = i by omega, show (2 * i + t) % 2 = t by omega] at h
  exact h
theorem recv_call (w W0 : World) (q : Nat → List Itm) (g c i t : Nat) (x : Itm) (r : List Itm) (hi : i < 2) (ht : t < 2) (hl : Lst w (· < w.heap.size) 3 (RQu W0) (.slice (some ⟨g, 0, none⟩) 4 c) (qsOf q)) (hok : QsOK (qsOf q)) (hx : q (2 * i + t) = x :: r) :
    Calls Tryz.prog 32 #[.slice (some ⟨g, 0, none⟩) 4 c, .int .i64 (i : Int), .int .i64 (t : Int)] w (RetRv W0 (qsOf (fset q (2 * i + t) r)) x w) := by
  have hk : 2 * i + t < (qsOf q).length := by simp [qsOf]; omega
  have h := creceive_any w W0 (qsOf q) (some ⟨g, 0, none⟩) c (2 * i + t) x r hl hok hk (by rw [qs_at]; exact hx)
  rw [qs_put (by omega), show (2 * i + t) / 2 = i by omega, show (2 * i + t) % 2 = t by omega] at h
  exact h
theorem JInv.qsok {N sl : Nat → Nat} {J : Job} (h : JInv N sl J) : QsOK (qsOf J.q) := by
  refine qs_ok (fun k hk x hx => ?_) fun k hk => ?_
  · rcases h.good k hk x hx with h1 | rfl
    · exact h1.1
    · exact .inr (.inr ⟨rfl, ⟨by decide, by decide⟩, rfl, rfl, rfl, rfl, rfl⟩)
  · have h1 := h.len (k / 2) (k % 2) (by omega) (by omega)
    rw [show 2 * (k / 2) + k % 2 = k by omega] at h1
    have h2 := h.off (k / 2) (by omega)
    have h3 := h.n8 (k / 2) (by omega)
    split at h1 <;> omega
theorem rowJ_taken {J : Job} {k j : Nat} {x : Itm} (hk : k < 2) (hj : j < 6) : rowJ { J with taken := fset J.taken k (J.taken k ++ [x]) } j = if j = 2 + k then rowJ J (2 + k) ++ [x] else rowJ J j := by
  have hc : j = 0 ∨ j = 1 ∨ j = 2 ∨ j = 3 ∨ j = 4 ∨ j = 5 := by omega
  have hkc : k = 0 ∨ k = 1 := by omega
  rcases hkc with rfl | rfl <;> rcases hc with rfl | rfl | rfl | rfl | rfl | rfl <;> simp [rowJ, fset_at]
theorem rowJ_later {J : Job} {k j : Nat} {x : Itm} (hk : k < 2) (hj : j < 6) : rowJ { J with later := fset J.later k (J.later k ++ [x]) } j = if j = 4 + k then rowJ J (4 + k) ++ [x] else rowJ J j := by
  have hc : j = 0 ∨ j = 1 ∨ j = 2 ∨ j = 3 ∨ j = 4 ∨ j = 5 := by omega
  have hkc : k = 0 ∨ k = 1 := by omega
  rcases hkc with rfl | rfl <;> rcases hc with rfl | rfl | rfl | rfl | rfl | rfl <;> simp [rowJ, fset_at]
theorem bar_facts {N : Nat → Nat} {J : Job} {k i : Nat} {it : Itm} {r : List Itm} (h : JInv N sl0 J) (hk : k < 2) (hi : i < 2) (hb : (J.blk k).getD i false = false) (hq : J.q (2 * i + k) = it :: r) (hx : isB it = true) :
    J.num k = 0 ∧ it.n = 1 ∧ ∃ b0 b1, J.blk k = [b0, b1] ∧ ¬ (b0 = true ∧ b1 = true) := by
  have h1 := h.al k hk
  unfold AlInv at h1
  have hit : it = barI := by
    rcases h.good (2 * i + k) (by omega) it (by rw [hq]; exact List.mem_cons_self ..) with hg | hg
    · rw [good_isB hg] at hx; cases hx
    · exact hg
  refine ⟨?_, by rw [hit]; rfl, ?_⟩
  all_goals
    have hic : i = 0 ∨ i = 1 := by omega
    rcases hic with rfl | rfl
    · rw [show 2 * 0 + k = k by omega] at hq
      rw [hq] at h1
      obtain ⟨h2, ⟨c, h3⟩, -⟩ := alp_bar0 h1 hb hx
      first | exact h2 | exact ⟨false, c, h3, by simp⟩
    · rw [show 2 * 1 + k = 2 + k by omega] at hq
      rw [hq] at h1
      obtain ⟨h2, ⟨c, h3⟩, -⟩ := alp_bar1 h1 hb hx
      first | exact h2 | exact ⟨c, false, h3, by simp⟩
def RetTk (n : Int) (l : List Bool) (t : Bool) (w : World) (e : Ending) (w' : World) : Prop := ∃ A c, e = .returned (.tuple #[.agg #[.int .i64 n, .slice A 2 c], .bool t, .int .i64 0]) ∧ Lst w' (fun z => w.heap.size ≤ z ∧ z < w'.heap.size) 1 RBo (.slice A 2 c) l ∧ Below w.heap.size w w'
theorem take_call (w : World) {bl : List Bool} (h : ∃ b0 b1, bl = [b0, b1] ∧ ¬ (b0 = true ∧ b1 = true)) {i : Nat} (hi : i < 2) (hb : bl.getD i false = false) (v : Value) (hl : Lst w (· < w.heap.size) 1 RBo v bl) :
    Calls Tryz.prog 33 #[.agg #[.int .i64 0, v], .int .i64 (i : Int), .int .i64 1] w (RetTk (barN 0 bl i) (barB bl i) (Bar.takA 0 bl i 1) w) := by
  obtain ⟨b0, b1, rfl, hne⟩ := h
  obtain ⟨h1, h2, h3⟩ := tak_bar hi hne hb
  have hc := Bar.take_any 0 v [b0, b1] (i : Int) 1 w (by simp) (row_of_lst hl (by simp) fun _ h => h)
  unfold Bar.RetTak at hc
  rw [h1, h2, h3] at hc
  refine hc.mono ?_
  rintro e w' ⟨v9, rfl, hr, hb9, hn9⟩
  have h2l : (barB [b0, b1] i).length = 2 := by unfold barB; split <;> simp
  have hl9 := lst_of_row hr (by rw [h2l]; unfold maxLen; decide) fun k hk hk' => (show w.heap.size ≤ k ∧ k < w'.heap.size from ⟨hn9 k hk, hk'⟩)
  obtain ⟨A9, c9, rfl⟩ := hl9.form
  rw [h2l] at hl9
  exact ⟨A9, c9, by rw [h2l]; rfl, hl9, hb9⟩
theorem del_taken {J : Job} {k i : Nat} {it : Itm} {r : List Itm} (hb : (J.blk k).getD i false = false) (hq : J.q (2 * i + k) = it :: r) (hx : isB it = false) (hn : J.num k = 0) :
    delJ J k i = (let J6 : Job := { J with q := fset J.q (2 * i + k) r }; { J6 with taken := fset J6.taken k (J6.taken k ++ [it]) }) := by
  rw [delJ_item hb hq hx, if_pos hn, if_pos hn]
theorem del_later {J : Job} {k i : Nat} {it : Itm} {r : List Itm} (hb : (J.blk k).getD i false = false) (hq : J.q (2 * i + k) = it :: r) (hx : isB it = false) (hn : ¬ J.num k = 0) :
    delJ J k i = (let J6 : Job := { J with q := fset J.q (2 * i + k) r }; { J6 with later := fset J6.later k (J6.later k ++ [it]) }) := by
  rw [delJ_item hb hq hx, if_neg hn, if_neg hn]
theorem del_barr {J : Job} {k i : Nat} {it : Itm} {r : List Itm} {n : Int} {l : List Bool} (hb : (J.blk k).getD i false = false) (hq : J.q (2 * i + k) = it :: r) (hx : isB it = true) (h0 : J.num k = 0) (hn : barN 0 (J.blk k) i = n) (hl : barB (J.blk k) i = l) :
    delJ J k i = (let J6 : Job := { J with q := fset J.q (2 * i + k) r }; { J6 with num := fset J6.num k n, blk := fset J6.blk k l }) := by
  rw [delJ_bar hb hq hx, h0, hn, hl]
section
variable {W0 w w' w1 : World} {L : Nat → List Msg} {b : Nat} {f f' : Nat → Value} {J J' : Job}
/-- An aligner is stored. -/
theorem JobAt.alput (h : JobAt W0 L w b f J) {k : Nat} (hk : k < 2) (n : Int) {v : Value} {l : List Bool} {Z : Nat → Prop} (hl : Lst w Z 1 RBo v l) (hz : ∀ z, Z z → Sep w b f z) : ∃ f', JobAt W0 L ((((w.setCell ⟨b, 15 + k * 2, none⟩ (.int .i64 n)).setCell ⟨b, 15 + k * 2 + 1, none⟩ v).setCell ⟨b, 27, none⟩ (.bool true)).drew) b f' { J with num := fset J.num k n, blk := fset J.blk k l } ∧ JTo b w f ((((w.setCell ⟨b, 15 + k * 2, none⟩ (.int .i64 n)).setCell ⟨b, 15 + k * 2 + 1, none⟩ v).setCell ⟨b, 27, none⟩ (.bool true)).drew) f' := by
  have hO : Off b 1 w ((((w.setCell ⟨b, 15 + k * 2, none⟩ (.int .i64 n)).setCell ⟨b, 15 + k * 2 + 1, none⟩ v).setCell ⟨b, 27, none⟩ (.bool true)).drew) := by
    refine Off.drew ?_
    repeat (first | refine Off.set ?_ (by constructor <;> simp) | with_reducible exact Off.refl)
  have hB := (((h.bl.put (k := 15 + k * 2) (by omega) (.int .i64 n)).put (k := 15 + k * 2 + 1) (by omega) v).put (k := 27) (by omega) (.bool true)).keep (Below.refl _ _).drew
  obtain ⟨f', hf'⟩ : ∃ f', fset (fset (fset f (15 + k * 2) (.int .i64 n)) (15 + k * 2 + 1) v) 27 (.bool true) = f' := ⟨_, rfl⟩
  rw [hf'] at hB
  have e0 : f' (15 + k * 2) = .int .i64 n := by rw [← hf', fset_ne (by omega), fset_ne (by omega), fset_same]
  have e1 : f' (15 + k * 2 + 1) = v := by rw [← hf', fset_ne (by omega), fset_same]
  have e2 : f' 27 = .bool true := by rw [← hf', fset_same]
  have hf : ∀ j, j ≠ 15 + k * 2 → j ≠ 15 + k * 2 + 1 → j ≠ 27 → f' j = f j := fun j h1 h2 h3 => by rw [← hf', fset_ne h3, fset_ne h2, fset_ne h1]
  refine ⟨f', h.turn hO hB (fun j hj => hf _ (by omega) (by omega) (by omega)) (fun j hj => hf _ (by omega) (by omega) (by omega)) (fun _ _ => rfl) (fun j hj => ?_) ?_ (fun j hj => ?_) (fun j hj => by rw [hf _ (by omega) (by omega) (by omega)]; exact h.ins j hj) e2, jto_off hO fun j hj => hf _ (by omega) (by omega) (by omega)⟩
  · obtain ⟨A, a, B, c, g0, g1, g2, g3, g4, g5, g6⟩ := h.rd j hj
    refine ⟨A, a, B, c, ?_, ?_, ?_, ?_, ?_, ?_, g6⟩ <;> rw [hf _ (by omega) (by omega) (by omega)] <;> assumption
  · obtain ⟨g, c, g0, g1⟩ := h.qu
    exact ⟨g, c, by rw [hf _ (by omega) (by omega) (by omega)]; exact g0, g1⟩
  · by_cases e : j = k
    · subst e
      refine ⟨?_, ?_⟩
      · show f' (15 + j * 2) = .int .i64 (fset J.num j n j)
        rw [fset_same]; exact e0
      · show Lst w (Sep w b f) 1 RBo (f' (15 + j * 2 + 1)) (fset J.blk j l j)
        rw [fset_same, e1]; exact hl.more rd_Bo hz
    · obtain ⟨g0, g1⟩ := h.al j hj
      refine ⟨?_, ?_⟩
      · show f' (15 + j * 2) = .int .i64 (fset J.num k n j)
        rw [fset_ne e, hf _ (by omega) (by omega) (by omega)]; exact g0
      · show Lst w (Sep w b f) 1 RBo (f' (15 + j * 2 + 1)) (fset J.blk k l j)
        rw [fset_ne e, hf _ (by omega) (by omega) (by omega)]; exact g1
end
section
variable (w : World)
set_option maxRecDepth 100000 in
set_option maxHeartbeats 32000000 in
theorem del_any (W0 : World) (L : Nat → List Msg) (b : Nat) (f : Nat → Value) (J : Job) {N : Nat → Nat} (hJ : JobAt W0 L w b f J) (hI : JInv N sl0 J) (k i : Nat) (hk : k < 2) (hi : i < 2) :
    Calls Tryz.prog 19 #[.pointer (some ⟨b, 0, none⟩), .int .i64 (k : Int), .int .i64 (i : Int)] w (RetJ W0 L b f (delJ J k i) w) := by
  have hal := hI.al k hk
  unfold AlInv at hal
  obtain ⟨h15, hlb⟩ := hJ.al k hk
  obtain ⟨gq, cq, h14, hlq⟩ := hJ.qu
  obtain ⟨A2, c2, h16⟩ := hlb.form
  have hb2 : (J.blk k).length = 2 := hal.blk
  rw [hb2] at h16
  have HCB := hide (al_call w hal hi _ hlb fun _ h => h.1)
  have HQ := hide (fun (w1 : World) (hb : Below w.heap.size w w1) => (hlq.keep rd_Qu ((Kp.of_below hb).less fun k hk => hk.1)).more rd_Qu fun k (hk : Sep w b f k) => Nat.lt_of_lt_of_le hk.1 hb.size)
  have HPK := hide (fun (w1 : World) (hb : Below w.heap.size w w1) => peek_call w1 W0 J.q gq cq i k hi hk (HQ.out w1 hb) hI.qsok)
  have HRV := hide (fun (w1 : World) (hb : Below w.heap.size w w1) (x : Itm) (r : List Itm) (h : J.q (2 * i + k) = x :: r) => recv_call w1 W0 J.q gq cq i k x r hi hk (HQ.out w1 hb) hI.qsok h)
  rw [h16] at HCB
  obtain ⟨i0, hi0, hz0, hz1, hz2⟩ := info_parts iq_item
  have HF16 := hide h16
  have HAL := hide (fun (w1 : World) (hb : Below w.heap.size w w1) => show Lst w1 (· < w1.heap.size) 1 RBo (.slice A2 2 c2) (J.blk k) by rw [← h16]; exact (hlb.keep rd_Bo ((Kp.of_below hb).less fun k hk => hk.1)).more rd_Bo fun k (hk : Sep w b f k) => Nat.lt_of_lt_of_le hk.1 hb.size)
  have HJ := hide hJ
  have HI := hide hI
  have hk0 : (0 : Int) ≤ (k : Int) := by omega
  have hk1 : (k : Int) < 2 := by omega
  have k15 : w.cell? ⟨b, 15 + k * 2, none⟩ = some (.int .i64 (J.num k)) := by rw [← h15]; exact hJ.bl.c _ (by omega)
  have k16 : w.cell? ⟨b, 15 + k * 2 + 1, none⟩ = some (.slice A2 2 c2) := by rw [← h16]; exact hJ.bl.c _ (by omega)
  have K14 := hide (show w.cell? ⟨b, 14, none⟩ = some (.slice (some ⟨gq, 0, none⟩) 4 cq) by rw [← h14]; exact hJ.bl.c 14 (by omega))
  have K27 := hide (show w.cell? ⟨b, 27, none⟩ = some (.bool true) by rw [← hJ.ok]; exact hJ.bl.c 27 (by omega))
  have hbw := hJ.bl.lt
  obtain ⟨BL, hBL⟩ : ∃ BL, (J.blk k).getD i false = BL := ⟨_, rfl⟩
  have HBL := hide hBL
  rw [hBL] at HCB
  clear hal hlb hlq h14 h15 h16 hb2 hBL hJ hI
  go_enter Tryz.func19, Tryz.ntmps19
  go_wp2_with fail
  refine HCB.out.mono ?_
  rintro e1 w1 ⟨rfl, hb1⟩
  have HB1 := hide hb1
  have k14 := keep1 hb1 K14.out
  have HPK1 := hide (HPK.out w1 hb1)
  clear hb1 k15 k16 HCB
  go_wp2_with fail
  refine HPK1.out.mono ?_
  rintro e2 w2 ⟨pk, pa, pb, pc, pd, pn, PA, pm, pq, rfl, hb2⟩
  obtain ⟨QE, hQE⟩ : ∃ QE, decide (0 < (J.q (2 * i + k)).length) = QE := ⟨_, rfl⟩
  have HQE := hide hQE
  rw [hQE]
  have HB2 := hide (bthen HB1.out hb2)
  have k27 := keep1 (bthen HB2.out (below_laid (.cells #[.int .i64 pk, .int .i64 pa, .int .i64 pb, .int .i64 pc, .int .i64 pd, .slice PA pm pq, .int .i64 pn] 58))) K27.out
  clear hb2 hQE HPK1 HPK k14
  obtain ⟨W3, hW3⟩ : ∃ W3, w2.alloc (.cells #[.int .i64 pk, .int .i64 pa, .int .i64 pb, .int .i64 pc, .int .i64 pd, .slice PA pm pq, .int .i64 pn] 58) = W3 := ⟨_, rfl⟩
  have HB3 := hide (show Below w.heap.size w W3 by rw [← hW3]; exact bthen HB2.out (below_laid _))
  rw [hW3] at k27
  go_upto_region 4 with (fail)
  try rw [hW3]
  clear hW3
  have HEND := hide (show ((J.blk k).getD i false = true ∨ J.q (2 * i + k) = []) → RetJ W0 L b f (delJ J k i) w (.returned (.tuple #[])) W3 from fun h => ⟨rfl, f, by rw [delJ_none h]; exact HJ.out.keep HB3.out, jto_below HB3.out⟩)
  cases BL
  · cases QE
    · go_wp2
      go_end0
      exact HEND.out (.inr (by have := HQE.out; simpa using this))
    · obtain ⟨it, r, hqx⟩ : ∃ it r, J.q (2 * i + k) = it :: r := by
        have h := HQE.out
        cases hc : J.q (2 * i + k) with
        | nil => rw [hc] at h; simp at h
        | cons it r => exact ⟨it, r, rfl⟩
      have HQX := hide hqx
      have HRV3 := hide (HRV.out W3 HB3.out it r hqx)
      have k14 := keep1 HB3.out K14.out
      clear hqx HRV HQ HEND HQE
      go_wp2_with fail
      refine HRV3.out.mono ?_
      rintro e4 w4 ⟨g4, c4, A4, m4, rfl, hl4, hE4, hN4, hb4⟩
      have HRI := hide (show ∀ (W : World) (Z : Nat → Prop), RIt W0 W Z [.int .i64 it.k, .int .i64 it.e.a, .int .i64 it.e.b, .int .i64 it.e.c, .int .i64 it.e.d, .slice A4 it.e.vs.length m4, .int .i64 it.n] it from fun W Z => ⟨A4, m4, rfl, hE4, hN4⟩)
      obtain ⟨W5, hW5⟩ : ∃ W5, w4.alloc (.cells #[.int .i64 it.k, .int .i64 it.e.a, .int .i64 it.e.b, .int .i64 it.e.c, .int .i64 it.e.d, .slice A4 it.e.vs.length m4, .int .i64 it.n] 58) = W5 := ⟨_, rfl⟩
      have HB5 := hide (show Below w.heap.size w W5 by rw [← hW5]; exact bthen (bthen HB3.out hb4) (below_laid _))
      have HL5 := hide (show Lst W5 (fun k => W3.heap.size ≤ k ∧ k < W5.heap.size) 3 (RQu W0) (.slice (some ⟨g4, 0, none⟩) 4 c4) (qsOf (fset J.q (2 * i + k) r)) by rw [← hW5]; exact lst_laid rd_Qu hl4 (fun _ h => h) _)
      have HX5 := hide (show Bl W5 w4.heap.size [.int .i64 it.k, .int .i64 it.e.a, .int .i64 it.e.b, .int .i64 it.e.c, .int .i64 it.e.d, .slice A4 it.e.vs.length m4, .int .i64 it.n] by rw [← hW5]; exact Bl.new w4 _ _)
      have hs5 : W5.heap.size = w4.heap.size + 1 := by rw [← hW5]; simp
      have hz3 := HB3.out.size
      have hz4 := hb4.size
      have HJ5 := hide (HJ.out.keep HB5.out)
      have K145 := hide (show W5.cell? ⟨b, 14, none⟩ = some (f 14) from HJ5.out.bl.c 14 (by omega))
      have k14' := K145.out
      have f14 := HJ5.out.bl.fz 14
      clear hl4 hE4 hN4 hb4 k14 HRV3
      go_upto_region 10 with (fail)
      try rw [hW5]
      clear hW5 k14' f14 k27
      obtain ⟨W6, hW6⟩ : ∃ W6, W5.setCell ⟨b, 14, none⟩ (.slice (some ⟨g4, 0, none⟩) 4 c4) = W6 := ⟨_, rfl⟩
      obtain ⟨f6, hf6⟩ : ∃ f6, fset f 14 (.slice (some ⟨g4, 0, none⟩) 4 c4) = f6 := ⟨_, rfl⟩
      obtain ⟨J6, hJ6⟩ : ∃ J6, ({ J with q := fset J.q (2 * i + k) r } : Job) = J6 := ⟨_, rfl⟩
      have hqp := HJ5.out.quput HL5.out (HJ.out.sepw fun k hk => ⟨Nat.le_trans hz3 hk.1, hk.2⟩)
      rw [hW6, hf6, hJ6] at hqp
      have HJ6 := hide hqp.1
      have HJE := hide hJ6
      have HT6 := hide ((jto_below HB5.out).trans hqp.2)
      have HF6 := hide (show f6 (15 + k * 2 + 1) = f (15 + k * 2 + 1) by rw [← hf6]; exact fset_ne (by omega))
      have HAL6 := hide (show ∀ w1, Below W6.heap.size W6 w1 → Lst w1 (· < w1.heap.size) 1 RBo (.slice A2 2 c2) (J.blk k) from fun w1 hb => by
        have h := (hqp.1.al k hk).2
        rw [HF6.out, HF16.out, ← hJ6] at h
        exact (h.keep rd_Bo ((Kp.of_below hb).less fun k hk => hk.1)).more rd_Bo fun k (hk : Sep W6 b f6 k) => Nat.lt_of_lt_of_le hk.1 hb.size)
      have HSEP := hide (hqp.2.sep _ (HJ.out.new (w' := W5) (k := w4.heap.size) (by omega) (by omega)))
      have HX6 := hide (HX5.out.jto (HJ.out.new (w' := W5) (k := w4.heap.size) (by omega) (by omega)) hqp.2)
      have HS6 := hide (show ∀ k, w.heap.size ≤ k → k < W5.heap.size → Sep W6 b f6 k from fun k h1 h2 => hqp.2.sep _ (HJ.out.new h1 h2))
      have hs6 : W6.heap.size = W5.heap.size := by rw [← hW6]; simp [World.setCell]
      rw [hW6]
      clear hqp hW6 hf6 hJ6 HL5 HX5 HJ5 K145 K14 K27 HB5
      have x0 := HX6.out.c 0 _ rfl
      have kn : W6.cell? ⟨b, 15 + k * 2, none⟩ = some (.int .i64 (J.num k)) := by
        have h := HJ6.out.bl.c (15 + k * 2) (by omega)
        rw [(HJ6.out.al k hk).1, ← HJE.out] at h
        exact h
      by_cases hk2 : it.k = 2
      · have hkb : (it.k == 2) = true := by simp [hk2]
        have HISB := hide (show isB it = true from decide_eq_true hk2)
        clear hk2
        have HB9 := hide (bar_facts HI.out hk hi HBL.out HQX.out HISB.out)
        obtain ⟨hn0, hn1, -⟩ := HB9.out
        rw [hn0] at kn
        have x6 := HX6.out.c 6 _ rfl
        rw [hn1] at x6
        have kv : W6.cell? ⟨b, 15 + k * 2 + 1, none⟩ = some (.slice A2 2 c2) := by
          have h := HJ6.out.bl.c (15 + k * 2 + 1) (by omega)
          rw [h]
          rw [HF6.out, HF16.out]
        have HTA := hide (show ∀ w1, Below W6.heap.size W6 w1 → Calls Tryz.prog 33 #[.agg #[.int .i64 0, .slice A2 2 c2], .int .i64 (i : Int), .int .i64 1] w1 (RetTk (barN 0 (J.blk k) i) (barB (J.blk k) i) (Bar.takA 0 (J.blk k) i 1) w1) from fun w1 hb => take_call w1 HB9.out.2.2 hi HBL.out _ (HAL6.out w1 hb))
        obtain ⟨nB, hnB⟩ : ∃ nB, barN 0 (J.blk k) i = nB := ⟨_, rfl⟩
        obtain ⟨lB, hlB⟩ : ∃ lB, barB (J.blk k) i = lB := ⟨_, rfl⟩
        obtain ⟨tB, htB⟩ : ∃ tB, Bar.takA 0 (J.blk k) i 1 = tB := ⟨_, rfl⟩
        have HNB9 := hide hnB
        have HLB9 := hide hlB
        rw [hnB, hlB, htB] at HTA
        clear hn0 hn1 hnB hlB htB
        go_upto_region 11 with (fail)
        have hnx : W6.heap.size ≠ b := by omega
        have hnw : W6.heap.size ≠ w4.heap.size := by omega
        have hlb : b < W6.heap.size := by omega
        have hlw : w4.heap.size < W6.heap.size := by omega
        clear hs5 hs6
        go_cut [13, 14, 15] from 95 to 108 (fun p q s wx => ∃ (b13 : Nat) (A9 : Option Addr) (c9 : Nat), p = .pointer (some ⟨b13, 0, none⟩) ∧ q = .bool tB ∧ s = .int .i64 0 ∧ Hid (W6.heap.size ≤ b13 ∧ Bl wx b13 [.int .i64 nB, .slice A9 2 c9] ∧ Lst wx (fun z => W6.heap.size ≤ z ∧ z < wx.heap.size) 1 RBo (.slice A9 2 c9) lB ∧ Below W6.heap.size W6 wx))
        case first =>
          go_region_held3 (fun w' => w'.cell? ⟨b, 15 + k * 2, none⟩ = some (.int .i64 0) ∧ w'.cell? ⟨b, 15 + k * 2 + 1, none⟩ = some (.slice A2 2 c2) ∧ w'.cell? ⟨w4.heap.size, 6, none⟩ = some (.int .i64 1))
            (first | with_reducible exact ⟨keep1 hk9 kn, keep1 hk9 kv, keep1 hk9 x6⟩ | with_reducible exact ⟨keep1 (hold_alloc hk9 _) kn, keep1 (hold_alloc hk9 _) kv, keep1 (hold_alloc hk9 _) x6⟩ | (go_keep; done))
            ((go_at_call 33; refine (HTA.out _ (by first | exact (Below.refl _ _).drew | exact below_laid _ | exact (below_laid _).drew | exact bthen (Below.refl _ _).drew (below_laid _))).mono ?_; rintro e7 w7 ⟨A9, c9, rfl, hl9, hb7⟩; have hk9 : Below W6.heap.size W6 w7 := (by first | exact below_undrew hb7 | exact below_undrew (bthen (below_laid _) hb7) | exact bthen (below_laid _) (below_undrew hb7) | exact bthen (below_laid _) hb7); have HL9 := hide hl9; have hz7 := hk9.size; (try (have HBY : Hid (Bl w7 W6.heap.size [.int .i64 0, .slice none 0 0]) := hide (by first | exact (Bl.new W6.drew [.int .i64 0, .slice none 0 0] 40).keep hb7 | exact (Bl.new W6 [.int .i64 0, .slice none 0 0] 40).drew.keep hb7 | exact (Bl.new W6 [.int .i64 0, .slice none 0 0] 40).keep hb7); have HLZ := hide (show Lst w7 (fun z => W6.heap.size < z ∧ z < w7.heap.size) 1 RBo (.slice A9 2 c9) lB from HL9.out.more rd_Bo (fun k hk => ⟨(by have := hk.1; (try simp at this); omega), hk.2⟩)); have z0 := HBY.out.c 0 _ rfl; have zf0 := HBY.out.f 0; have z1 := HBY.out.c 1 _ rfl; have zf1 := HBY.out.f 1)); clear hb7 hl9))
          all_goals
            go_wp2_with fail
            go_meet
            first
              | (have hway := HLZ; clear hway; exact ⟨W6.heap.size, A9, c9, rfl, rfl, rfl, hide ⟨Nat.le_refl _, (HBY.out.put (k := 0) (by simp) _).put (k := 1) (by simp) _, (HLZ.out.keep rd_Bo (Off.kp (s := W6.heap.size) (d := 1) (Off.set (Off.set Off.refl (by constructor <;> simp)) (by constructor <;> simp)) (fun z hz => by omega))).more rd_Bo (fun z hz => ⟨by omega, by have := hz.2; simpa [World.setCell] using this⟩), Off.below (s := W6.heap.size) (d := 1) (Off.set (Off.set Off.refl (by constructor <;> simp)) (by constructor <;> simp)) hk9 (Nat.le_refl _)⟩⟩)
              | exact ⟨w7.heap.size, A9, c9, rfl, rfl, rfl, hide ⟨hz7, Bl.new w7 _ _, lst_laid rd_Bo HL9.out (fun z hz => ⟨hz.1, hz.2⟩) _, hold_alloc hk9 _⟩⟩
        case rest =>
          obtain ⟨b13, A9, c9, rfl, rfl, rfl, HH⟩ := hcut
          obtain ⟨W8, hW8⟩ : ∃ W8, wc = W8 := ⟨_, rfl⟩
          rw [hW8] at HH ⊢
          have hh := HH.out
          have HY8 := hide hh.2.1
          have HL8 := hide hh.2.2.1
          have HJ8 := hide (HJ6.out.keep hh.2.2.2)
          have HT8 := hide (HT6.out.trans (jto_below hh.2.2.2))
          have HS8 := hide (show ∀ z, (W6.heap.size ≤ z ∧ z < W8.heap.size) → Sep W8 b f6 z from fun z hz => HJ6.out.new hz.1 hz.2)
          have hnb : b13 ≠ b := by have := hh.1; omega
          clear hh HH hW8 kn kv x6 x0 HTA
          have y0 := HY8.out.c 0 _ rfl
          have y1 := HY8.out.c 1 _ rfl
          have r0 := HJ8.out.bl.c (15 + k * 2) (by omega)
          have r1 := HJ8.out.bl.c (15 + k * 2 + 1) (by omega)
          have r2 := HJ8.out.bl.c 27 (by omega)
          have g0 := HJ8.out.bl.fz (15 + k * 2)
          have g1 := HJ8.out.bl.fz (15 + k * 2 + 1)
          have g2 := HJ8.out.bl.fz 27
          go_upto_region 12 with (fail)
          go_region
          all_goals
            obtain ⟨f9, hJ9, hT9⟩ := HJ8.out.alput hk nB HL8.out HS8.out
            have HJ9 := hide hJ9
            have HT9 := hide (HT8.out.trans hT9)
            clear hJ9 hT9
            go_wp2
            go_end0
            exact ⟨rfl, f9, HJ9.out.of_eq (by rw [← HJE.out]; exact (del_barr HBL.out HQX.out HISB.out HB9.out.1 HNB9.out HLB9.out).symm), HT9.out⟩
      · have hkb : (it.k == 2) = false := by simp [hk2]
        have HISB := hide (show isB it = false from decide_eq_false hk2)
        clear hk2
        have HRL9 := hide (rows_le HI.out hk)
        by_cases hn : J.num k = 0
        · have hnb : (J.num k == 0) = true := by simp [hn]
          have HNUM := hide hn
          clear hn
          go_upto_region 14 with (fail)
          have HRW := hide (show (rowJ J6 (2 + k)).length ≤ 4000 by rw [← HJE.out, rowJ, if_neg (by omega), if_pos (by omega), show 2 + k - 2 = k by omega]; have := HRL9.out.1; show (J.taken k).length ≤ 4000; omega)
          have hrow := HJ6.out.rows (2 + k) (by omega)
          have hro := HJ6.out.ne (2 + k) (by omega)
          obtain ⟨vr, hvr⟩ : ∃ vr, f6 (21 + (2 + k)) = vr := ⟨_, rfl⟩
          have HVR := hide hvr
          rw [hvr] at hrow hro
          obtain ⟨As, cs, evr⟩ := hrow.form
          subst evr
          obtain ⟨ns, hns⟩ : ∃ ns, (rowJ J6 (2 + k)).length = ns := ⟨_, rfl⟩
          have HNS := hide hns
          rw [hns] at hrow hro HVR
          have hrl := hrow.low
          have HRL := hide hrl
          have HROW := hide (show RowP W0 (Value.slice As ns cs).ownBlock W6.heap.size (rowJ J6 (2 + k)) W6 (.slice As ns cs) from gq_it hrow (fun k hk => .inl hk))
          have KR := hide (show W6.cell? ⟨b, 23 + k, none⟩ = some (.slice As ns cs) by have h := HJ6.out.bl.c (21 + (2 + k)) (by omega); rw [HVR.out] at h; rwa [show 21 + (2 + k) = 23 + k by omega] at h)
          have HNB := hide hro
          have HNX := hide (show (Value.slice As ns cs).ownBlock ≠ some (w4.heap.size) from fun e => HSEP.out.2.2 (2 + k) (by omega) (by rw [HVR.out]; exact e))
          have HWB := hide (HJ6.out.hw.size)
          clear hrow hro hns hvr hrl
          refine wp_region_turn (Value.slice As ns cs).ownBlock W0.heap.size HWB.out (fun k hk => (HRL.out k hk).1) 14 [129, 130, 131, 132, 133, 134, 135, 136, 137, 138, 139, 140, 141, 142] [FixV (.pointer (some ⟨b, 0, none⟩)), FixV (.int .i64 (k : Int)), FixV (.pointer (some ⟨b, 0, none⟩)), FixV (.int .i64 (k : Int)), FixV (.pointer (some ⟨b, 0, none⟩)), FixV (.pointer (some ⟨b, 23, none⟩)), FixV (.pointer (some ⟨b, 23 + k, none⟩)), FixV (.slice As ns cs), FixV (.agg #[.int .i64 it.k, .int .i64 it.e.a, .int .i64 it.e.b, .int .i64 it.e.c, .int .i64 it.e.d, .slice A4 it.e.vs.length m4, .int .i64 it.n]), ItB W6.heap.size [.int .i64 it.k, .int .i64 it.e.a, .int .i64 it.e.b, .int .i64 it.e.c, .int .i64 it.e.d, .slice A4 it.e.vs.length m4, .int .i64 it.n], RowP W0 (Value.slice As ns cs).ownBlock W6.heap.size (rowJ J6 (2 + k) ++ [it]), FixV (.pointer (some ⟨b, 0, none⟩)), FixV (.pointer (some ⟨b, 23, none⟩)), FixV (.pointer (some ⟨b, 23 + k, none⟩))] 10 (by kernel_rfl) (by kernel_rfl) (by kernel_rfl) (by kernel_rfl) (by kernel_rfl) (by decide) (by simp) (fun w5 => RowP W0 (Value.slice As ns cs).ownBlock W6.heap.size (rowJ J6 (2 + k)) w5 (.slice As ns cs)) (HROW.out.drew rd_It) (fun _ _ hb h => Gq.keep rd_It h hb) ?_ ?_ ?_ ?_
          · intro k hk hkt w5 w6 v hsz hg hv
            have hkc : k = 0 ∨ k = 1 ∨ k = 2 ∨ k = 3 ∨ k = 4 ∨ k = 5 ∨ k = 6 ∨ k = 7 ∨ k = 8 ∨ k = 9 ∨ k = 11 ∨ k = 12 ∨ k = 13 := by omega
            rcases hkc with rfl | rfl | rfl | rfl | rfl | rfl | rfl | rfl | rfl | rfl | rfl | rfl | rfl
            all_goals first | exact hv | exact ItB.grown hv hg (fun k hk => (HRL.out k hk).2)
          · intro w5 w6 v hb hv
            exact Gq.keep rd_It hv hb
          · intro j9 o9 hj9 ho x w5 hb hR hd
            have hz5 := hb.size
            have hX5 := HX6.out.grown hb HNX.out
            have x0 := hX5.c 0 _ rfl
            have x1 := hX5.c 1 _ rfl
            have x2 := hX5.c 2 _ rfl
            have x3 := hX5.c 3 _ rfl
            have x4 := hX5.c 4 _ rfl
            have x5 := hX5.c 5 _ rfl
            have x6 := hX5.c 6 _ rfl
            have kr := cell_grown KR.out hb HNB.out
            have hjc : j9 = 0 ∨ j9 = 1 ∨ j9 = 2 ∨ j9 = 3 ∨ j9 = 4 ∨ j9 = 5 ∨ j9 = 6 ∨ j9 = 7 ∨ j9 = 8 ∨ j9 = 9 ∨ j9 = 10 ∨ j9 = 11 ∨ j9 = 12 ∨ j9 = 13 := by omega
            rcases hjc with rfl | rfl | rfl | rfl | rfl | rfl | rfl | rfl | rfl | rfl | rfl | rfl | rfl | rfl
            all_goals obtain rfl := Option.some.inj ho
            all_goals generalize hK : (fun (a' : Act) (w' : World) => _) = K
            all_goals simp only [puts]
            · clear hR hd
              go_simp
              rw [← hK]
              exact ⟨.pointer (some ⟨b, 0, none⟩), (by simp only [puts]; go_simp), Below.refl _ _, rfl⟩
            · clear hR hd
              go_simp
              rw [← hK]
              exact ⟨.int .i64 (k : Int), (by simp only [puts]; go_simp), Below.refl _ _, rfl⟩
            · clear hR hd
              go_simp
              rw [← hK]
              exact ⟨.pointer (some ⟨b, 0, none⟩), (by simp only [puts]; go_simp), Below.refl _ _, rfl⟩
            · clear hR hd
              go_simp
              rw [← hK]
              exact ⟨.int .i64 (k : Int), (by simp only [puts]; go_simp), Below.refl _ _, rfl⟩
            · have e131 : x 131 = .pointer (some ⟨b, 0, none⟩) := hd 2 (by kernel_rfl)
              clear hR hd
              go_simp
              rw [← hK]
              exact ⟨.pointer (some ⟨b, 0, none⟩), (by simp only [puts]; go_simp), Below.refl _ _, rfl⟩
            · have e133 : x 133 = .pointer (some ⟨b, 0, none⟩) := hd 4 (by kernel_rfl)
              clear hR hd
              go_simp
              rw [← hK]
              exact ⟨.pointer (some ⟨b, 23, none⟩), (by simp only [puts]; go_simp), Below.refl _ _, rfl⟩
            · have e134 : x 134 = .pointer (some ⟨b, 23, none⟩) := hd 5 (by kernel_rfl)
              have e132 : x 132 = .int .i64 (k : Int) := hd 3 (by kernel_rfl)
              clear hR hd
              go_simp
              rw [← hK]
              exact ⟨.pointer (some ⟨b, 23 + k, none⟩), (by simp only [puts]; go_simp), Below.refl _ _, rfl⟩
            · have e135 : x 135 = .pointer (some ⟨b, 23 + k, none⟩) := hd 6 (by kernel_rfl)
              clear hR hd
              go_simp
              rw [← hK]
              exact ⟨.slice As ns cs, (by simp only [puts]; go_simp), Below.refl _ _, rfl⟩
            · clear hR hd
              go_simp
              rw [← hK]
              exact ⟨.agg #[.int .i64 it.k, .int .i64 it.e.a, .int .i64 it.e.b, .int .i64 it.e.c, .int .i64 it.e.d, .slice A4 it.e.vs.length m4, .int .i64 it.n], (by simp only [puts]; go_simp), Below.refl _ _, rfl⟩
            · have e137 : x 137 = .agg #[.int .i64 it.k, .int .i64 it.e.a, .int .i64 it.e.b, .int .i64 it.e.c, .int .i64 it.e.d, .slice A4 it.e.vs.length m4, .int .i64 it.n] := hd 8 (by kernel_rfl)
              clear hR hd
              go_simp
              rw [← hK]
              exact ⟨.slice (some ⟨w5.heap.size, 0, none⟩) 1 1, (by simp only [puts]; go_simp), below_laid _, w5.heap.size, rfl, hz5, Bl.new w5 _ _⟩
            · have e136 : x 136 = .slice As ns cs := hd 7 (by kernel_rfl)
              have p138 : ∃ g, x 138 = .slice (some ⟨g, 0, none⟩) 1 1 ∧ W6.heap.size ≤ g ∧ Bl w5 g [.int .i64 it.k, .int .i64 it.e.a, .int .i64 it.e.b, .int .i64 it.e.c, .int .i64 it.e.d, .slice A4 it.e.vs.length m4, .int .i64 it.n] := hd 9 (by kernel_rfl)
              have hR5 : Gq w5 (fun k => (Value.slice As ns cs).ownBlock = some k ∨ W6.heap.size ≤ k) W0.heap.size 58 7 (RIt W0) (.slice As ns cs) (rowJ J6 (2 + k)) := hR (.inl rfl)
              clear hR hd
              with_reducible obtain ⟨g2, e138, hg2, hb2⟩ := p138
              with_reducible refine oper_append_gq rd_It rfl (.tmp 136) (.tmp 138) 43 rfl (fun k => (Value.slice As ns cs).ownBlock = some k ∨ W6.heap.size ≤ k) W0.heap.size 58 i0 _ 7 72 Tryz.underlying43 hi0 hz0 hz1 hz2 rfl (by decide) (.slice As ns cs) (rowJ J6 (2 + k)) ?hs hR5 g2 ?hx [.int .i64 it.k, .int .i64 it.e.a, .int .i64 it.e.b, .int .i64 it.e.c, .int .i64 it.e.d, .slice A4 it.e.vs.length m4, .int .i64 it.n] rfl hb2.c it_one it (HRI.out _ _) (fun k hk => .inr (Nat.le_trans hz5 hk)) ?hn (by decide) (Nat.le_trans HWB.out hz5) ?hk
              case hs => simp [Act.eval, Act.put, e136]
              case hx => simp [Act.eval, Act.put, e138]
              case hn => have := HNS.out; have := HRW.out; omega
              case hk =>
                intro v9 w10 hg9 hgr hbl
                rw [← hK]
                exact ⟨v9, (by simp only [puts]; (try go_simp)), hgr, hg9⟩
            · have e129 : x 129 = .pointer (some ⟨b, 0, none⟩) := hd 0 (by kernel_rfl)
              clear hR hd
              go_simp
              rw [← hK]
              exact ⟨.pointer (some ⟨b, 0, none⟩), (by simp only [puts]; go_simp), Below.refl _ _, rfl⟩
            · have e140 : x 140 = .pointer (some ⟨b, 0, none⟩) := hd 11 (by kernel_rfl)
              clear hR hd
              go_simp
              rw [← hK]
              exact ⟨.pointer (some ⟨b, 23, none⟩), (by simp only [puts]; go_simp), Below.refl _ _, rfl⟩
            · have e141 : x 141 = .pointer (some ⟨b, 23, none⟩) := hd 12 (by kernel_rfl)
              have e130 : x 130 = .int .i64 (k : Int) := hd 1 (by kernel_rfl)
              clear hR hd
              go_simp
              rw [← hK]
              exact ⟨.pointer (some ⟨b, 23 + k, none⟩), (by simp only [puts]; go_simp), Below.refl _ _, rfl⟩
          · intro x w4 hb hP
            have e129 : x 129 = .pointer (some ⟨b, 0, none⟩) := hP 0 (by decide)
            have e130 : x 130 = .int .i64 (k : Int) := hP 1 (by decide)
            have e131 : x 131 = .pointer (some ⟨b, 0, none⟩) := hP 2 (by decide)
            have e132 : x 132 = .int .i64 (k : Int) := hP 3 (by decide)
            have e133 : x 133 = .pointer (some ⟨b, 0, none⟩) := hP 4 (by decide)
            have e134 : x 134 = .pointer (some ⟨b, 23, none⟩) := hP 5 (by decide)
            have e135 : x 135 = .pointer (some ⟨b, 23 + k, none⟩) := hP 6 (by decide)
            have e136 : x 136 = .slice As ns cs := hP 7 (by decide)
            have e137 : x 137 = .agg #[.int .i64 it.k, .int .i64 it.e.a, .int .i64 it.e.b, .int .i64 it.e.c, .int .i64 it.e.d, .slice A4 it.e.vs.length m4, .int .i64 it.n] := hP 8 (by decide)
            have e140 : x 140 = .pointer (some ⟨b, 0, none⟩) := hP 11 (by decide)
            have e141 : x 141 = .pointer (some ⟨b, 23, none⟩) := hP 12 (by decide)
            have e142 : x 142 = .pointer (some ⟨b, 23 + k, none⟩) := hP 13 (by decide)
            have hpa : RowP W0 (Value.slice As ns cs).ownBlock W6.heap.size (rowJ J6 (2 + k) ++ [it]) w4 (x 139) := hP 10 (by decide)
            obtain ⟨A4, c4, e4⟩ := hpa.form
            simp only [List.length_append, List.length_singleton] at e4
            rw [e4] at hpa
            have HPA := hide hpa
            have HGB := hide hb
            have hJ4 := hide (HJ6.out.bl.grown hb HNB.out)
            have kr := cell_grown KR.out hb HNB.out
            have fr4 := hJ4.out.fz (23 + k)
            clear hP hpa
            simp only [puts, Act.put, List.setIfInBounds_toArray, List.set_cons_succ, List.set_cons_zero, List.drop]
            have hps := HJ6.out.push (J' := { J6 with taken := fset J6.taken k (J6.taken k ++ [it]) }) (j := 2 + k) (by omega) (v := x 139) (x := it) (by rw [HVR.out, e4]; exact HPA.out) (by rw [HVR.out]; exact HGB.out) (fun j' hj' => rowJ_taken hk hj') rfl rfl rfl rfl rfl rfl
            have hpj := jto_push (v := x 139) HJ6.out (j := 2 + k) (by omega) (by rw [HVR.out, e4]; exact HPA.out.inY) (by rw [HVR.out]; exact HGB.out)
            rw [e4] at hps hpj
            rw [show 21 + (2 + k) = 23 + k by omega] at hps hpj
            have HPS := hide hps
            have HPJ := hide hpj
            clear hps hpj
            go_wp2
            go_end0
            exact ⟨rfl, _, HPS.out.of_eq (by rw [← HJE.out]; exact (del_taken HBL.out HQX.out HISB.out HNUM.out).symm), HT6.out.trans HPJ.out⟩
        · have hnb : (J.num k == 0) = false := by simp [hn]
          have HNUM := hide hn
          clear hn
          go_upto_region 9 with (fail)
          have HRW := hide (show (rowJ J6 (4 + k)).length ≤ 4000 by rw [← HJE.out, rowJ, if_neg (by omega), if_neg (by omega), show 4 + k - 4 = k by omega]; have := HRL9.out.2.1; show (J.later k).length ≤ 4000; omega)
          have hrow := HJ6.out.rows (4 + k) (by omega)
          have hro := HJ6.out.ne (4 + k) (by omega)
          obtain ⟨vr, hvr⟩ : ∃ vr, f6 (21 + (4 + k)) = vr := ⟨_, rfl⟩
          have HVR := hide hvr
          rw [hvr] at hrow hro
          obtain ⟨As, cs, evr⟩ := hrow.form
          subst evr
          obtain ⟨ns, hns⟩ : ∃ ns, (rowJ J6 (4 + k)).length = ns := ⟨_, rfl⟩
          have HNS := hide hns
          rw [hns] at hrow hro HVR
          have hrl := hrow.low
          have HRL := hide hrl
          have HROW := hide (show RowP W0 (Value.slice As ns cs).ownBlock W6.heap.size (rowJ J6 (4 + k)) W6 (.slice As ns cs) from gq_it hrow (fun k hk => .inl hk))
          have KR := hide (show W6.cell? ⟨b, 25 + k, none⟩ = some (.slice As ns cs) by have h := HJ6.out.bl.c (21 + (4 + k)) (by omega); rw [HVR.out] at h; rwa [show 21 + (4 + k) = 25 + k by omega] at h)
          have HNB := hide hro
          have HNX := hide (show (Value.slice As ns cs).ownBlock ≠ some (w4.heap.size) from fun e => HSEP.out.2.2 (4 + k) (by omega) (by rw [HVR.out]; exact e))
          have HWB := hide (HJ6.out.hw.size)
          clear hrow hro hns hvr hrl
          refine wp_region_turn (Value.slice As ns cs).ownBlock W0.heap.size HWB.out (fun k hk => (HRL.out k hk).1) 14 [77, 78, 79, 80, 81, 82, 83, 84, 85, 86, 87, 88, 89, 90] [FixV (.pointer (some ⟨b, 0, none⟩)), FixV (.int .i64 (k : Int)), FixV (.pointer (some ⟨b, 0, none⟩)), FixV (.int .i64 (k : Int)), FixV (.pointer (some ⟨b, 0, none⟩)), FixV (.pointer (some ⟨b, 25, none⟩)), FixV (.pointer (some ⟨b, 25 + k, none⟩)), FixV (.slice As ns cs), FixV (.agg #[.int .i64 it.k, .int .i64 it.e.a, .int .i64 it.e.b, .int .i64 it.e.c, .int .i64 it.e.d, .slice A4 it.e.vs.length m4, .int .i64 it.n]), ItB W6.heap.size [.int .i64 it.k, .int .i64 it.e.a, .int .i64 it.e.b, .int .i64 it.e.c, .int .i64 it.e.d, .slice A4 it.e.vs.length m4, .int .i64 it.n], RowP W0 (Value.slice As ns cs).ownBlock W6.heap.size (rowJ J6 (4 + k) ++ [it]), FixV (.pointer (some ⟨b, 0, none⟩)), FixV (.pointer (some ⟨b, 25, none⟩)), FixV (.pointer (some ⟨b, 25 + k, none⟩))] 10 (by kernel_rfl) (by kernel_rfl) (by kernel_rfl) (by kernel_rfl) (by kernel_rfl) (by decide) (by simp) (fun w5 => RowP W0 (Value.slice As ns cs).ownBlock W6.heap.size (rowJ J6 (4 + k)) w5 (.slice As ns cs)) (HROW.out.drew rd_It) (fun _ _ hb h => Gq.keep rd_It h hb) ?_ ?_ ?_ ?_
          · intro k hk hkt w5 w6 v hsz hg hv
            have hkc : k = 0 ∨ k = 1 ∨ k = 2 ∨ k = 3 ∨ k = 4 ∨ k = 5 ∨ k = 6 ∨ k = 7 ∨ k = 8 ∨ k = 9 ∨ k = 11 ∨ k = 12 ∨ k = 13 := by omega
            rcases hkc with rfl | rfl | rfl | rfl | rfl | rfl | rfl | rfl | rfl | rfl | rfl | rfl | rfl
            all_goals first | exact hv | exact ItB.grown hv hg (fun k hk => (HRL.out k hk).2)
          · intro w5 w6 v hb hv
            exact Gq.keep rd_It hv hb
          · intro j9 o9 hj9 ho x w5 hb hR hd
            have hz5 := hb.size
            have hX5 := HX6.out.grown hb HNX.out
            have x0 := hX5.c 0 _ rfl
            have x1 := hX5.c 1 _ rfl
            have x2 := hX5.c 2 _ rfl
            have x3 := hX5.c 3 _ rfl
            have x4 := hX5.c 4 _ rfl
            have x5 := hX5.c 5 _ rfl
            have x6 := hX5.c 6 _ rfl
            have kr := cell_grown KR.out hb HNB.out
            have hjc : j9 = 0 ∨ j9 = 1 ∨ j9 = 2 ∨ j9 = 3 ∨ j9 = 4 ∨ j9 = 5 ∨ j9 = 6 ∨ j9 = 7 ∨ j9 = 8 ∨ j9 = 9 ∨ j9 = 10 ∨ j9 = 11 ∨ j9 = 12 ∨ j9 = 13 := by omega
            rcases hjc with rfl | rfl | rfl | rfl | rfl | rfl | rfl | rfl | rfl | rfl | rfl | rfl | rfl | rfl
            all_goals obtain rfl := Option.some.inj ho
            all_goals generalize hK : (fun (a' : Act) (w' : World) => _) = K
            all_goals simp only [puts]
            · clear hR hd
              go_simp
              rw [← hK]
              exact ⟨.pointer (some ⟨b, 0, none⟩), (by simp only [puts]; go_simp), Below.refl _ _, rfl⟩
            · clear hR hd
              go_simp
              rw [← hK]
              exact ⟨.int .i64 (k : Int), (by simp only [puts]; go_simp), Below.refl _ _, rfl⟩
            · clear hR hd
              go_simp
              rw [← hK]
              exact ⟨.pointer (some ⟨b, 0, none⟩), (by simp only [puts]; go_simp), Below.refl _ _, rfl⟩
            · clear hR hd
              go_simp
              rw [← hK]
              exact ⟨.int .i64 (k : Int), (by simp only [puts]; go_simp), Below.refl _ _, rfl⟩
            · have e79 : x 79 = .pointer (some ⟨b, 0, none⟩) := hd 2 (by kernel_rfl)
              clear hR hd
              go_simp
              rw [← hK]
              exact ⟨.pointer (some ⟨b, 0, none⟩), (by simp only [puts]; go_simp), Below.refl _ _, rfl⟩
            · have e81 : x 81 = .pointer (some ⟨b, 0, none⟩) := hd 4 (by kernel_rfl)
              clear hR hd
              go_simp
              rw [← hK]
              exact ⟨.pointer (some ⟨b, 25, none⟩), (by simp only [puts]; go_simp), Below.refl _ _, rfl⟩
            · have e82 : x 82 = .pointer (some ⟨b, 25, none⟩) := hd 5 (by kernel_rfl)
              have e80 : x 80 = .int .i64 (k : Int) := hd 3 (by kernel_rfl)
              clear hR hd
              go_simp
              rw [← hK]
              exact ⟨.pointer (some ⟨b, 25 + k, none⟩), (by simp only [puts]; go_simp), Below.refl _ _, rfl⟩
            · have e83 : x 83 = .pointer (some ⟨b, 25 + k, none⟩) := hd 6 (by kernel_rfl)
              clear hR hd
              go_simp
              rw [← hK]
              exact ⟨.slice As ns cs, (by simp only [puts]; go_simp), Below.refl _ _, rfl⟩
            · clear hR hd
              go_simp
              rw [← hK]
              exact ⟨.agg #[.int .i64 it.k, .int .i64 it.e.a, .int .i64 it.e.b, .int .i64 it.e.c, .int .i64 it.e.d, .slice A4 it.e.vs.length m4, .int .i64 it.n], (by simp only [puts]; go_simp), Below.refl _ _, rfl⟩
            · have e85 : x 85 = .agg #[.int .i64 it.k, .int .i64 it.e.a, .int .i64 it.e.b, .int .i64 it.e.c, .int .i64 it.e.d, .slice A4 it.e.vs.length m4, .int .i64 it.n] := hd 8 (by kernel_rfl)
              clear hR hd
              go_simp
              rw [← hK]
              exact ⟨.slice (some ⟨w5.heap.size, 0, none⟩) 1 1, (by simp only [puts]; go_simp), below_laid _, w5.heap.size, rfl, hz5, Bl.new w5 _ _⟩
            · have e84 : x 84 = .slice As ns cs := hd 7 (by kernel_rfl)
              have p86 : ∃ g, x 86 = .slice (some ⟨g, 0, none⟩) 1 1 ∧ W6.heap.size ≤ g ∧ Bl w5 g [.int .i64 it.k, .int .i64 it.e.a, .int .i64 it.e.b, .int .i64 it.e.c, .int .i64 it.e.d, .slice A4 it.e.vs.length m4, .int .i64 it.n] := hd 9 (by kernel_rfl)
              have hR5 : Gq w5 (fun k => (Value.slice As ns cs).ownBlock = some k ∨ W6.heap.size ≤ k) W0.heap.size 58 7 (RIt W0) (.slice As ns cs) (rowJ J6 (4 + k)) := hR (.inl rfl)
              clear hR hd
              with_reducible obtain ⟨g2, e86, hg2, hb2⟩ := p86
              with_reducible refine oper_append_gq rd_It rfl (.tmp 84) (.tmp 86) 43 rfl (fun k => (Value.slice As ns cs).ownBlock = some k ∨ W6.heap.size ≤ k) W0.heap.size 58 i0 _ 7 72 Tryz.underlying43 hi0 hz0 hz1 hz2 rfl (by decide) (.slice As ns cs) (rowJ J6 (4 + k)) ?hs hR5 g2 ?hx [.int .i64 it.k, .int .i64 it.e.a, .int .i64 it.e.b, .int .i64 it.e.c, .int .i64 it.e.d, .slice A4 it.e.vs.length m4, .int .i64 it.n] rfl hb2.c it_one it (HRI.out _ _) (fun k hk => .inr (Nat.le_trans hz5 hk)) ?hn (by decide) (Nat.le_trans HWB.out hz5) ?hk
              case hs => simp [Act.eval, Act.put, e84]
              case hx => simp [Act.eval, Act.put, e86]
              case hn => have := HNS.out; have := HRW.out; omega
              case hk =>
                intro v9 w10 hg9 hgr hbl
                rw [← hK]
                exact ⟨v9, (by simp only [puts]; (try go_simp)), hgr, hg9⟩
            · have e77 : x 77 = .pointer (some ⟨b, 0, none⟩) := hd 0 (by kernel_rfl)
              clear hR hd
              go_simp
              rw [← hK]
              exact ⟨.pointer (some ⟨b, 0, none⟩), (by simp only [puts]; go_simp), Below.refl _ _, rfl⟩
            · have e88 : x 88 = .pointer (some ⟨b, 0, none⟩) := hd 11 (by kernel_rfl)
              clear hR hd
              go_simp
              rw [← hK]
              exact ⟨.pointer (some ⟨b, 25, none⟩), (by simp only [puts]; go_simp), Below.refl _ _, rfl⟩
            · have e89 : x 89 = .pointer (some ⟨b, 25, none⟩) := hd 12 (by kernel_rfl)
              have e78 : x 78 = .int .i64 (k : Int) := hd 1 (by kernel_rfl)
              clear hR hd
              go_simp
              rw [← hK]
              exact ⟨.pointer (some ⟨b, 25 + k, none⟩), (by simp only [puts]; go_simp), Below.refl _ _, rfl⟩
          · intro x w4 hb hP
            have e77 : x 77 = .pointer (some ⟨b, 0, none⟩) := hP 0 (by decide)
            have e78 : x 78 = .int .i64 (k : Int) := hP 1 (by decide)
            have e79 : x 79 = .pointer (some ⟨b, 0, none⟩) := hP 2 (by decide)
            have e80 : x 80 = .int .i64 (k : Int) := hP 3 (by decide)
            have e81 : x 81 = .pointer (some ⟨b, 0, none⟩) := hP 4 (by decide)
            have e82 : x 82 = .pointer (some ⟨b, 25, none⟩) := hP 5 (by decide)
            have e83 : x 83 = .pointer (some ⟨b, 25 + k, none⟩) := hP 6 (by decide)
            have e84 : x 84 = .slice As ns cs := hP 7 (by decide)
            have e85 : x 85 = .agg #[.int .i64 it.k, .int .i64 it.e.a, .int .i64 it.e.b, .int .i64 it.e.c, .int .i64 it.e.d, .slice A4 it.e.vs.length m4, .int .i64 it.n] := hP 8 (by decide)
            have e88 : x 88 = .pointer (some ⟨b, 0, none⟩) := hP 11 (by decide)
            have e89 : x 89 = .pointer (some ⟨b, 25, none⟩) := hP 12 (by decide)
            have e90 : x 90 = .pointer (some ⟨b, 25 + k, none⟩) := hP 13 (by decide)
            have hpa : RowP W0 (Value.slice As ns cs).ownBlock W6.heap.size (rowJ J6 (4 + k) ++ [it]) w4 (x 87) := hP 10 (by decide)
            obtain ⟨A4, c4, e4⟩ := hpa.form
            simp only [List.length_append, List.length_singleton] at e4
            rw [e4] at hpa
            have HPA := hide hpa
            have HGB := hide hb
            have hJ4 := hide (HJ6.out.bl.grown hb HNB.out)
            have kr := cell_grown KR.out hb HNB.out
            have fr4 := hJ4.out.fz (25 + k)
            clear hP hpa
            simp only [puts, Act.put, List.setIfInBounds_toArray, List.set_cons_succ, List.set_cons_zero, List.drop]
            have hps := HJ6.out.push (J' := { J6 with later := fset J6.later k (J6.later k ++ [it]) }) (j := 4 + k) (by omega) (v := x 87) (x := it) (by rw [HVR.out, e4]; exact HPA.out) (by rw [HVR.out]; exact HGB.out) (fun j' hj' => rowJ_later hk hj') rfl rfl rfl rfl rfl rfl
            have hpj := jto_push (v := x 87) HJ6.out (j := 4 + k) (by omega) (by rw [HVR.out, e4]; exact HPA.out.inY) (by rw [HVR.out]; exact HGB.out)
            rw [e4] at hps hpj
            rw [show 21 + (4 + k) = 25 + k by omega] at hps hpj
            have HPS := hide hps
            have HPJ := hide hpj
            clear hps hpj
            go_wp2
            go_end0
            exact ⟨rfl, _, HPS.out.of_eq (by rw [← HJE.out]; exact (del_later HBL.out HQX.out HISB.out HNUM.out).symm), HT6.out.trans HPJ.out⟩
  · go_wp2
    go_end0
    exact HEND.out (.inl HBL.out)
end
end Go.Proofs.YtppaiihcaajkaaaGreat
