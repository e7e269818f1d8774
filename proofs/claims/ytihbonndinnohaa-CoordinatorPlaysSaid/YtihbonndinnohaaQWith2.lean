/- coordinator.with: the walk. -/
import Derived.Test.YtihbonndinnohaaQWith
namespace Go.Proofs.Ytihbonndinnohaa
open Go.RowKit
set_option linter.unusedVariables false
set_option linter.unusedSimpArgs false
def RetWth (w : World) (B : Nat → Prop) (c : Cq) (e : Ending) (w' : World) : Prop := ∃ (V : Value) (xs : List Value) (s : Nat → Nat), e = .returned (.agg #[.int .i64 c.next, V, .int .i64 c.dur]) ∧ WthV w B w' c V xs s
/-- The two boxes of 'with'. -/
def BxW (w wr : World) (c : Cq) (V : Value) : Prop := (wr.cell? ⟨w.heap.size, 0, none⟩ = some (.int .i64 c.next) ∧ wr.cell? ⟨w.heap.size, 1, none⟩ = some V ∧ wr.cell? ⟨w.heap.size, 2, none⟩ = some (.int .i64 c.dur)) ∧
  (wr.cell? ⟨w.heap.size + 1, 0, none⟩ = some (.int .i64 0) ∧ wr.cell? ⟨w.heap.size + 1, 1, none⟩ = some (.slice none 0 0) ∧ wr.cell? ⟨w.heap.size + 1, 2, none⟩ = some (.int .i64 0)) ∧ ∀ j, wr.frozen? ⟨w.heap.size + 1, j, none⟩ = false
section
variable {w wr wo : World} {c : Cq} {V : Value}
theorem BxW.keep (h : BxW w wr c V) (hb : Below wr.heap.size wr wo) : BxW w wo c V := by
  obtain ⟨⟨h1, h2, h3⟩, ⟨h4, h5, h6⟩, h7⟩ := h
  exact ⟨⟨keep1 hb h1, keep1 hb h2, keep1 hb h3⟩, ⟨keep1 hb h4, keep1 hb h5, keep1 hb h6⟩, fun j => ((bcell hb).2 _ j (World.block_lt_of_cell? wr _ h4)).trans (h7 j)⟩
theorem BxW.set (h : BxW w wr c V) {p : Addr} (hp : w.heap.size + 2 ≤ p.block) (x : Value) : BxW w (wr.setCell p x) c V := by
  obtain ⟨⟨h1, h2, h3⟩, ⟨h4, h5, h6⟩, h7⟩ := h
  have ne : ∀ b j, b < w.heap.size + 2 → (wr.setCell p x).cell? ⟨b, j, none⟩ = wr.cell? ⟨b, j, none⟩ := fun b j hb => World.cell?_setCell_other _ _ _ _ (by rintro rfl; simp only at hp; omega)
  refine ⟨⟨(ne _ _ (by omega)).trans h1, (ne _ _ (by omega)).trans h2, (ne _ _ (by omega)).trans h3⟩, ⟨(ne _ _ (by omega)).trans h4, (ne _ _ (by omega)).trans h5, (ne _ _ (by omega)).trans h6⟩, fun j => ?_⟩
  rw [← h7 j]
  exact World.frozen?_of_block (w := wr) (a := ⟨w.heap.size + 1, j, none⟩) (Below.heap_setCell wr p x _ (by show w.heap.size + 1 ≠ p.block; omega))
theorem WI.fin {B : Nat → Prop} (hBw : ∀ b, B b → b < w.heap.size) {orig : List Value} (h : WI w B c V orig c.atts.length wr) (hV : ∀ k, V.ownBlock = some k → w.heap.size + 2 ≤ k) (x0 x1 x2 : Value) :
    ∃ xs s, WthV w B (((wr.setCell ⟨w.heap.size + 1, 0, none⟩ x0).setCell ⟨w.heap.size + 1, 1, none⟩ x1).setCell ⟨w.heap.size + 1, 2, none⟩ x2) c V xs s := by
  obtain ⟨xs, s, h1, h2, h3, h4, h5, h6, h7, h8⟩ := h
  have hsz : ∀ (W : World) (p : Addr) (x : Value), (W.setCell p x).heap.size = W.heap.size := by intro W p x; simp [World.setCell]
  have ne : V.ownBlock ≠ some (w.heap.size + 1) := fun e => by have := hV _ e; omega
  refine ⟨xs, s, own_set (p := ⟨w.heap.size + 1, 2, none⟩) (own_set (p := ⟨w.heap.size + 1, 1, none⟩) (own_set (p := ⟨w.heap.size + 1, 0, none⟩) h1 ne _) ne _) ne _, h3, fun i hi => ?_, by simp only [hsz]; exact h5, h6, ((h8.setCell (p := ⟨w.heap.size + 1, 0, none⟩) (Nat.le_succ _) _).setCell (p := ⟨w.heap.size + 1, 1, none⟩) (Nat.le_succ _) _).setCell (p := ⟨w.heap.size + 1, 2, none⟩) (Nat.le_succ _) _⟩
  obtain ⟨k1, k2⟩ := h4 i hi hi
  refine ⟨k1, ?_⟩
  have hs : ∀ m, m ≤ i → s 0 ≤ s m := by
    intro m
    induction m with
    | zero => intro _; exact Nat.le_refl _
    | succ m ih => intro hm; exact Nat.le_trans (ih (by omega)) (h4 m (by omega) (by omega)).1
  have hg : w.heap.size + 1 < s i := by
    have := hs i (Nat.le_refl _)
    rcases h1.2 with ⟨e, h0⟩ | ⟨g, cap, cur, rfl, -⟩
    · omega
    · have := h3 g rfl
      have := hV g rfl
      omega
  exact ((k2.set (p := ⟨w.heap.size + 1, 0, none⟩) hg (fun h => by have := hBw _ h; simp only at this; omega) _).set (p := ⟨w.heap.size + 1, 1, none⟩) hg (fun h => by have := hBw _ h; simp only at this; omega) _).set (p := ⟨w.heap.size + 1, 2, none⟩) hg (fun h => by have := hBw _ h; simp only at this; omega) _
end
section
variable (w : World) (L : Nat → Prop) (c : Cq) (A : Option Addr) (cap : Nat)
set_option maxRecDepth 100000 in
set_option maxHeartbeats 8000000 in
theorem with_any (hLw : ∀ b, L b → b < w.heap.size) (h : Lst w L 4 RAq (.slice A c.atts.length cap) c.atts) (hn : c.atts.length ≤ 256) (h8 : ∀ a ∈ c.atts, a.rds.length ≤ 8 ∧ a.ops.length ≤ 8 ∧ a.hv.length ≤ 8) :
    Calls Try.prog 33 #[.agg #[.int .i64 c.next, .slice A c.atts.length cap, .int .i64 c.dur]] w (RetWth w L c) := by
  obtain ⟨cells, hraw, hlen, hel⟩ := lst_raw one_Aq h
  have HEL := hide hel
  obtain ⟨n, hnn⟩ : ∃ n, c.atts.length = n := ⟨_, rfl⟩
  have HN := hide hnn
  have HC := hide (fun (w' : World) (hb : Below w.heap.size w w') => show Calls Try.prog 49 #[.slice A n cap] w' (RetCp w' 51 4 cells) by
    have := copied_attempt A cap cells w' (· < w'.heap.size) (by rw [hlen]; exact (Lst.keep rd_Wq (Kp.of_below hb) hraw).more rd_Wq fun b hz => Nat.lt_of_lt_of_le (hLw b hz) hb.size) (by omega)
    rwa [hlen, hnn] at this)
  have HLEN := hide (hlen.trans hnn)
  have H8 := hide h8
  rw [hnn] at hn ⊢
  clear h hel hraw hlen h8 hnn
  go_enter Try.func33, Try.ntmps33
  have HB0 := hide (show Below w.heap.size w ((w.alloc (.cells #[.int .i64 c.next, .slice A n cap, .int .i64 c.dur] 24)).alloc (.cells #[.int .i64 0, .slice none 0 0, .int .i64 0] 24)) from (below_laid _).alloc (by simp) _)
  go_wp2_with fail
  refine (HC.out _ HB0.out).mono ?_
  rintro e wa ⟨V, rfl, hown, hb⟩
  obtain ⟨B, q, rfl⟩ := own_form hown
  rw [HLEN.out] at hown ⊢
  obtain ⟨W0, hW⟩ : ∃ W0, (w.alloc (.cells #[.int .i64 c.next, .slice A n cap, .int .i64 c.dur] 24)).alloc (.cells #[.int .i64 0, .slice none 0 0, .int .i64 0] 24) = W0 := ⟨_, rfl⟩
  have hz0 : W0.heap.size = w.heap.size + 2 := by rw [← hW]; simp
  have x0 : ∀ j u, ([.int .i64 c.next, .slice A n cap, .int .i64 c.dur] : List Value)[j]? = some u → W0.cell? ⟨w.heap.size, j, none⟩ = some u := by
    intro j u hj
    rw [← hW, World.cell?_alloc_lt _ _ _ (by simp)]
    exact cells_lit w [.int .i64 c.next, .slice A n cap, .int .i64 c.dur] _ j u hj
  have z0 : ∀ j u, ([.int .i64 0, .slice none 0 0, .int .i64 0] : List Value)[j]? = some u → W0.cell? ⟨w.heap.size + 1, j, none⟩ = some u := by
    intro j u hj
    rw [← hW]
    have := cells_lit (w.alloc (.cells #[.int .i64 c.next, .slice A n cap, .int .i64 c.dur] 24)) [.int .i64 0, .slice none 0 0, .int .i64 0] 24 j u hj
    simpa using this
  have fx : ∀ j, W0.frozen? ⟨w.heap.size, j, none⟩ = false := by intro j; rw [← hW]; clear x0 z0 HB0 hz0 hW hown hb; go_simp
  have fz : ∀ j, W0.frozen? ⟨w.heap.size + 1, j, none⟩ = false := by intro j; rw [← hW]; clear x0 z0 HB0 hz0 fx hW hown hb; go_simp
  rw [hW] at hb hown HB0
  clear hW
  have hV : ∀ k, (Value.slice B n q).ownBlock = some k → w.heap.size + 2 ≤ k := fun k hk => by have := (hown.lt k hk).1; omega
  have a1 := keep1 hb (x0 1 _ rfl)
  have f1 := ((bcell hb).2 _ 1 (by omega)).trans (fx 1)
  have hBa := HB0.out.trans (hb.mono (by omega))
  have HV := hide hV
  have HBX : Hid (BxW w (wa.setCell ⟨w.heap.size, 1, none⟩ (.slice B n q)) c (.slice B n q)) := hide (by
    have ne : ∀ b j, (b ≠ w.heap.size ∨ j ≠ 1) → (wa.setCell ⟨w.heap.size, 1, none⟩ (.slice B n q)).cell? ⟨b, j, none⟩ = wa.cell? ⟨b, j, none⟩ := fun b j hb => World.cell?_setCell_other _ _ _ _ (by intro e; injection e with e e' _; omega)
    refine ⟨⟨(ne _ _ (by omega)).trans (keep1 hb (x0 0 _ rfl)), World.cell?_setCell_same' _ _ _ (by rw [a1]; rfl), (ne _ _ (by omega)).trans (keep1 hb (x0 2 _ rfl))⟩, ⟨(ne _ _ (by omega)).trans (keep1 hb (z0 0 _ rfl)), (ne _ _ (by omega)).trans (keep1 hb (z0 1 _ rfl)), (ne _ _ (by omega)).trans (keep1 hb (z0 2 _ rfl))⟩, fun j => ?_⟩
    refine (World.frozen?_of_block (w := wa) (a := ⟨w.heap.size + 1, j, none⟩) (Below.heap_setCell wa ⟨w.heap.size, 1, none⟩ _ _ (by show w.heap.size + 1 ≠ w.heap.size; omega))).trans ?_
    exact ((bcell hb).2 _ j (by omega)).trans (fz j))
  have HI0 : Hid (WI w L c (.slice B n q) cells.flatten 0 (wa.setCell ⟨w.heap.size, 1, none⟩ (.slice B n q))) := hide (by
    refine ⟨cells.flatten, fun _ => wa.heap.size, ?_, fun _ _ => rfl, fun k hk => (hown.lt k hk).2, fun i _ h => absurd h (Nat.not_lt_zero _), by simp [World.setCell], hBa.size, Nat.le_refl _, hBa.setCell (p := ⟨w.heap.size, 1, none⟩) (Nat.le_refl _) _⟩
    rw [HN.out]
    exact own_more (own_set_lt hown (p := ⟨w.heap.size, 1, none⟩) (by show w.heap.size < W0.heap.size; omega) _) (by omega))
  clear hown hb hBa x0 z0 fx fz hV HC
  go_wp2
  obtain ⟨W1, hW1⟩ : ∃ W1, wa.setCell ⟨w.heap.size, 1, none⟩ (.slice B n q) = W1 := ⟨_, rfl⟩
  rw [hW1] at HBX HI0 ⊢
  clear hW1 a1 f1
  go_loopw [12] (fun i wr => ∃ j : Nat, j ≤ n ∧ i = .int .i64 j ∧ Hid (WI w L c (.slice B n q) cells.flatten j wr) ∧ Hid (BxW w wr c (.slice B n q))) (fun i _ => n - (intOf i).toNat)
  case atStart => exact ⟨0, Nat.zero_le _, rfl, HI0, HBX⟩
  case round =>
    clear HI0 HBX
    obtain ⟨j, hj, rfl, HI, HX⟩ := hrel
    obtain ⟨⟨b0, b1, b2⟩, ⟨e0, e1, e2⟩, ef⟩ := HX.out
    by_cases hlt : j < n
    · have hjl : j < c.atts.length := by rw [HN.out]; exact hlt
      have hw2 : w.heap.size + 2 ≤ wr.heap.size := by have := World.block_lt_of_cell? wr _ e0; simp only at this; omega
      obtain ⟨ys, y1, y2, v0, u0, t0, rfl, l1, l2, l3, hq⟩ := HEL.out j hjl
      obtain ⟨A1, c1, rfl⟩ := l1.form
      obtain ⟨A2, c2, rfl⟩ := l2.form
      obtain ⟨A3, c3, rfl⟩ := l3.form
      have h888 := H8.out _ (List.getElem_mem hjl)
      obtain ⟨a, ha⟩ : ∃ a, c.atts[j] = a := ⟨_, rfl⟩
      rw [ha] at l1 l2 l3 hq y1 h888
      obtain ⟨cr, r1, d1, el1⟩ := lst_raw one_Rq l1
      obtain ⟨co, r2, d2, el2⟩ := lst_raw one_Oq l2
      obtain ⟨ch, r3, d3, el3⟩ := lst_raw one_Bq l3
      obtain ⟨g, hBg⟩ : ∃ g, B = some ⟨g, 0, none⟩ := by
        obtain ⟨xs, s, h1, -⟩ := HI.out
        rcases h1.2 with ⟨e, h0⟩ | ⟨g, cap', cur, e, -⟩
        · rw [HN.out] at h0; omega
        · injection e with e; exact ⟨g, e⟩
      subst hBg
      have hall : ∀ x ∈ cells, x.length = 4 := by
        intro x hx
        obtain ⟨i, hi, rfl⟩ := List.getElem_of_mem hx
        obtain ⟨zs, e1, e2, -⟩ := HEL.out i (by rw [HN.out, ← HLEN.out]; exact hi)
        rw [List.getElem?_eq_getElem hi] at e1; cases e1; exact e2
      have hcell : ∀ k u, ([.int .i64 a.num, .slice A1 a.rds.length c1, .slice A2 a.ops.length c2, .slice A3 a.hv.length c3] : List Value)[k]? = some u → wr.cell? ⟨g, j * 4 + k, none⟩ = some u := by
        intro k u hu
        obtain ⟨xs, s, h1, h2, -⟩ := HI.out
        rw [HN.out] at h1
        exact own_cell h1 ((h2 _ (by omega)).trans (flat_at hall y1 k u hu))
      have hfree : ∀ k, wr.frozen? ⟨g, k, none⟩ = false := by
        intro k
        obtain ⟨xs, s, h1, -⟩ := HI.out
        rw [HN.out] at h1
        exact own_free h1 k
      have hbw : Below w.heap.size w wr := by obtain ⟨xs, s, -, -, -, -, -, -, -, h8⟩ := HI.out; exact h8
      have HBT := hide hbw
      have hg := HV.out g rfl
      have HOWN := hide (fun (w' : World) (hb : Below w.heap.size w w') => own_any w' a.num A1 A2 A3 a.rds.length a.ops.length a.hv.length c1 c2 c3 cr co ch ((Lst.keep rd_Wq (Kp.of_below hb) r1).more rd_Wq fun b hz => Nat.lt_of_lt_of_le (hLw b hz) hb.size) ((Lst.keep rd_Wq (Kp.of_below hb) r2).more rd_Wq fun b hz => Nat.lt_of_lt_of_le (hLw b hz) hb.size) ((Lst.keep rd_Wq (Kp.of_below hb) r3).more rd_Wq fun b hz => Nat.lt_of_lt_of_le (hLw b hz) hb.size) d1 d2 d3 (by omega) (by omega) (by omega))
      have HSTEP := hide (fun (wo : World) (ob : Obj) (v u t : Value) (s1 s2 : Nat) q1 q2 q3 o1 l1 o2 l2 o3 hb => WI.step hLw (wo := wo) (v := v) (u := u) (t := t) (s1 := s1) (s2 := s2) (show WI w L c (.slice (some ⟨g, 0, none⟩) c.atts.length q) cells.flatten j wr by rw [HN.out]; exact HI.out) hjl ha ob q1 q2 q3 o1 l1 o2 l2 o3 hb d1 d2 d3 el1 el2 el3 hq)
      rw [HN.out] at HSTEP
      obtain ⟨n1, hn1⟩ : ∃ n, a.rds.length = n := ⟨_, rfl⟩
      obtain ⟨n2, hn2⟩ : ∃ n, a.ops.length = n := ⟨_, rfl⟩
      obtain ⟨n3, hn3⟩ : ∃ n, a.hv.length = n := ⟨_, rfl⟩
      obtain ⟨num, hnum⟩ : ∃ n, a.num = n := ⟨_, rfl⟩
      rw [hnum] at HSTEP
      rw [hn1, hn2, hn3, hnum] at hcell HOWN
      clear hn1 hn2 hn3 hnum l1 l2 l3 r1 r2 r3 d1 d2 d3 el1 el2 el3 hq y1 y2 h888 ha hall hbw
      have k0 := hcell 0 _ rfl
      have k1 := hcell 1 _ rfl
      have k2 := hcell 2 _ rfl
      have k3 := hcell 3 _ rfl
      rw [Nat.add_zero] at k0
      have gr : g < wr.heap.size := World.block_lt_of_cell? wr _ k0
      have HK0 := hide k0
      have hfr := fun k => hfree k
      have HFR := hide hfr
      have ju0 : (0 : Int) ≤ (j : Int) := by omega
      have ju1 : (j : Int) < (n : Int) := by omega
      have HEX := hide (show w.heap.size + 2 ≤ g by exact hg)
      have HNE := hide (show ∀ (wo : World) (x0 x1 x2 x3 : Value), BxW w wo c (.slice (some ⟨g, 0, none⟩) n q) → BxW w ((((wo.setCell ⟨g, j * 4, none⟩ x0).setCell ⟨g, j * 4 + 1, none⟩ x1).setCell ⟨g, j * 4 + 2, none⟩ x2).setCell ⟨g, j * 4 + 3, none⟩ x3) c (.slice (some ⟨g, 0, none⟩) n q) from fun wo x0 x1 x2 x3 h => (((h.set (p := ⟨g, j * 4, none⟩) hg x0).set (p := ⟨g, j * 4 + 1, none⟩) hg x1).set (p := ⟨g, j * 4 + 2, none⟩) hg x2).set (p := ⟨g, j * 4 + 3, none⟩) hg x3)
      clear hcell hfree hfr ef
      go_wp2_with fail
      have hlw : w.heap.size < wr.heap.size := by omega
      have HBX2 := hide (bthen HBT.out (below_laid (.cells #[.int .i64 num, .slice A1 n1 c1, .slice A2 n2 c2, .slice A3 n3 c3] 51)))
      have hds : ((wr.alloc (.cells #[.int .i64 num, .slice A1 n1 c1, .slice A2 n2 c2, .slice A3 n3 c3] 51)).drewN 1).heap.size = wr.heap.size + 1 := World.size_alloc wr (.cells #[.int .i64 num, .slice A1 n1 c1, .slice A2 n2 c2, .slice A3 n3 c3] 51)
      go_region_law (go_simp; go_at_call 45; refine (HOWN.out _ (below_drewN HBX2.out 1)).mono ?_; rintro e wo ⟨v, u, t, s1, s2, rfl, q1, q2, q3, o1, l1, o2, l2, o3, hbo'⟩; rw [hds] at q1 o1; obtain ⟨P1, p1, rfl⟩ := own_form o1; obtain ⟨P2, p2, rfl⟩ := own_form o2; obtain ⟨P3, p3, rfl⟩ := own_form o3; have hbo : Below (wr.alloc (.cells #[.int .i64 num, .slice A1 n1 c1, .slice A2 n2 c2, .slice A3 n3 c3] 51)).heap.size (wr.alloc (.cells #[.int .i64 num, .slice A1 n1 c1, .slice A2 n2 c2, .slice A3 n3 c3] 51)) wo := below_undrew hbo'; have hbo2 : Below wr.heap.size wr wo := bthen (below_laid (.cells #[.int .i64 num, .slice A1 n1 c1, .slice A2 n2 c2, .slice A3 n3 c3] 51)) hbo; have HST := hide (HSTEP.out wo (.cells #[.int .i64 num, .slice A1 n1 c1, .slice A2 n2 c2, .slice A3 n3 c3] 51) _ _ _ _ _ q1 q2 q3 o1 l1 o2 l2 o3 hbo); have HNX := hide (HNE.out wo (.int .i64 num) (.slice P1 cr.length p1) (.slice P2 co.length p2) (.slice P3 ch.length p3) (HX.out.keep hbo2)); have m1 := keep1 hbo2 b1; have n0' := keep1 hbo2 k0; have n1' := keep1 hbo2 k1; have n2' := keep1 hbo2 k2; have n3' := keep1 hbo2 k3; have g0' := ((bcell hbo2).2 g (j * 4) gr).trans (HFR.out _); have g1' := ((bcell hbo2).2 g (j * 4 + 1) gr).trans (HFR.out _); have g2' := ((bcell hbo2).2 g (j * 4 + 2) gr).trans (HFR.out _); have g3' := ((bcell hbo2).2 g (j * 4 + 3) gr).trans (HFR.out _); clear q1 q2 q3 o1 l1 o2 l2 o3 hbo' hbo hbo2)
      all_goals
        clear m1 n0' n1' n2' n3' g0' g1' g2' g3'
        go_wp2
        go_roundw
        case rel => exact ⟨j + 1, by omega, by go_num, HST, HNX⟩
        case measure => simp [intOf]; omega
    · obtain rfl : j = n := by omega
      have ef0 := ef 0
      have ef1 := ef 1
      have ef2 := ef 2
      have HF := hide (WI.fin hLw (c := c) (V := .slice B j q) (by rw [HN.out]; exact HI.out) HV.out (.int .i64 c.next) (.slice B j q) (.int .i64 c.dur))
      clear ef
      go_wp2
      refine bodyPost_ret (v := .agg #[.int .i64 c.next, .slice B j q, .int .i64 c.dur]) (by rw [results_c rfl]; go_simp) rfl ?_
      obtain ⟨xs, s, hF⟩ := HF.out
      exact ⟨_, xs, s, rfl, hF⟩
end
end Go.Proofs.Ytihbonndinnohaa
