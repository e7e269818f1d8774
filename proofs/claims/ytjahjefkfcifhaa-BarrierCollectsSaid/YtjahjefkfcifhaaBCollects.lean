/- The law of the barriers of all inputs. -/
import Derived.Test.YtjahjefkfcifhaaBRemains
namespace Go.Proofs.Ytjahjefkfcifhaa
open Go.RowKit
set_option linter.unusedVariables false
set_option linter.unusedSimpArgs false
def u8s (l : List Int) : List Value := l.map (Value.int .u8)
/-- A list of bytes that has come in. -/
def InB (w : World) (v : Value) (lo : List Int) : Prop := lo.length ≤ 9223372036854775807 ∧ (∀ b ∈ lo, 0 ≤ b ∧ b < 256) ∧ Row w w.heap.size 1 v lo.length (u8s lo)
/-- The aligner before round k. -/
def St (m k : Nat) (num : Int) (l : List Bool) : Prop := l.length = m + 1 ∧ (if k = m + 1 then num = 1 ∧ l = falses (m + 1) else num = 0 ∧ (selI l l.length).length + k = m + 1)
theorem st_chk {m k : Nat} {num : Int} {l : List Bool} (h : St m k num l) (hm : m < 8) (hk : k ≤ m + 1) : chk num l = 0 := by
  obtain ⟨h1, h2⟩ := h
  by_cases hkm : k = m + 1
  · rw [if_pos hkm] at h2
    obtain ⟨rfl, rfl⟩ := h2
    have hq := sel_falses (m + 1) (List.mem_range.2 (by omega))
    exact chk_ok (by rw [falses_len]; omega) (by omega) (hq.2.2 (by omega))
  · rw [if_neg hkm] at h2
    obtain ⟨rfl, h3⟩ := h2
    have hp := sel_pos l (by omega)
    exact chk_ok (by omega) (by omega) (by rw [hp]; exact decide_eq_true (by omega))

/-- What a round does: any of the free inputs is taken. -/
theorem st_step {m k : Nat} {num : Int} {l : List Bool} (h : St m k num l) (hm : m < 8) (hk : k < m + 1) {q : Nat} (hq : q < (selI l l.length).length) :
    num = 0 ∧ (selI l l.length).length + k = m + 1 ∧ insL num l = selI l l.length ∧ chk num l = 0 ∧ ∃ i : Nat, (selI l l.length)[q] = (i : Int) ∧ i < l.length ∧ takE num l i 1 = 0 ∧ chk (takN num l i 1) (takL num l i 1) = 0 ∧ takA num l i 1 = decide (k = m) ∧ St m (k + 1) (takN num l i 1) (takL num l i 1) := by
  have hc := st_chk h hm (by omega)
  obtain ⟨h1, h2⟩ := h
  rw [if_neg (by omega)] at h2
  obtain ⟨rfl, h3⟩ := h2
  have hmem := List.getElem_mem hq
  obtain ⟨y0, y1⟩ := sel_bounds l (by omega) _ hmem
  have hf := sel_free l (by omega) _ hmem
  obtain ⟨i, hi⟩ := Int.eq_ofNat_of_zero_le y0
  rw [hi, Int.toNat_natCast] at hf
  rw [hi] at y1
  have hil : i < l.length := by omega
  have hf2 : l.getD i false = false := by
    rw [List.getD_eq_getElem?_getD, List.getElem?_eq_getElem hil] at hf ⊢
    exact hf
  obtain ⟨hE, hq2, hql, hA, hone, hmore⟩ := take_free hc (by omega) hil hf2
  rw [show (0 : Int) + 1 = 1 from rfl] at hE hq2 hql hA hone hmore
  refine ⟨rfl, h3, if_pos hc, hc, i, hi, hil, hE, hq2, by rw [hA]; exact decide_eq_decide.2 (by omega), ?_⟩
  by_cases hs : (selI l l.length).length = 1
  · obtain ⟨e1, e2⟩ := hone hs
    rw [e1, e2]
    refine ⟨by rw [falses_len, h1], ?_⟩
    rw [if_pos (by omega)]
    exact ⟨rfl, by rw [h1]⟩
  · obtain ⟨e1, e2, e3⟩ := hmore hs
    rw [e1, e2]
    refine ⟨by rw [List.length_set, h1], ?_⟩
    rw [if_neg (by omega), List.length_set]
    exact ⟨rfl, by omega⟩

theorem BoxA.far {w : World} {F N : Nat} {n : Int} {l : List Bool} {A : Option Addr} {cap : Nat} (h : BoxA w F n l A cap) (hne : N ≠ F) (hA : ∀ x, A = some x → x.block ≠ N) (u v : Value) : BoxA ((w.setCell ⟨N, 0, none⟩ u).setCell ⟨N, 1, none⟩ v) F n l A cap := by
  have hl := h.lt
  obtain ⟨⟨t, h1⟩, hr⟩ := h
  refine ⟨⟨t, by rw [Below.heap_setCell _ _ _ _ (by exact hne.symm), Below.heap_setCell _ _ _ _ (by exact hne.symm)]; exact h1⟩, ?_⟩
  have hsz : ((w.setCell ⟨N, 0, none⟩ u).setCell ⟨N, 1, none⟩ v).heap.size = w.heap.size := by simp [World.setCell]
  rw [hsz]
  cases A with
  | none =>
    refine ⟨hr.1, ?_⟩
    rcases hr.2 with h0 | ⟨g, off, c, e, _⟩
    · exact .inl h0
    · cases e
  | some x =>
    obtain ⟨hx1, hx2⟩ := hr
    refine ⟨hx1, ?_⟩
    rcases hx2 with h0 | ⟨g, off, c, e, hg, hn, hc⟩
    · exact .inl h0
    · cases e
      have hF := hA _ rfl
      refine .inr ⟨g, off, _, rfl, hg, hn, fun j u hj => ?_⟩
      rw [World.cell?_setCell_far _ _ _ _ (fun e => hF e.symm), World.cell?_setCell_far _ _ _ _ (fun e => hF e.symm)]
      exact hc j u hj
theorem row_below {w : World} {B n cap : Nat} {A : Option Addr} {xs : List Value} (h : Row w B 1 (.slice A n cap) n xs) : ∀ x, A = some x → x.block < B := by
  rintro x rfl
  rcases h.2 with ⟨h0, _⟩ | ⟨g, off, c, e, hg, _⟩
  · cases h0
  · cases e; exact hg

theorem below_undrew {B : Nat} {a w : World} (h : Below B a.drew w) : Below B a w := ⟨h.os, h.tape, h.output, h.size, h.block⟩
theorem row_laid_drew {w : World} {n : Nat} {v : Value} {xs : List Value} {o : Obj} (h : Row w w.heap.size 1 v n xs) : Row (w.alloc o).drew (w.alloc o).drew.heap.size 1 v n xs := row_drew (h.laid o)
theorem set2_far {w : World} {N : Nat} {u v x : Value} {p : Addr} (hne : N ≠ p.block) (h : w.cell? p = some x) : ((w.setCell ⟨N, 0, none⟩ u).setCell ⟨N, 1, none⟩ v).cell? p = some x := by
  rw [World.cell?_setCell_far _ _ _ _ hne, World.cell?_setCell_far _ _ _ _ hne]; exact h

set_option maxRecDepth 100000 in
set_option maxHeartbeats 4000000 in
theorem collects_law (a : Int) (m : Nat) (ov : Value) (lo : List Int) (w : World) (hn : a.tmod 8 = (m : Int)) (hm : m < 8) (ho : InB w ov lo) :
    Calls Try.prog 6 #[.int .u8 a, ov] w (Ret (.bool true) w) := by
  obtain ⟨hol, hob, hor⟩ := ho
  have HOR := hide hor
  have HOB := hide hob
  obtain ⟨OA, oc, rfl⟩ := hor.form
  clear hor hob
  have hbg := begin_any ((m : Int) + 1)
  rw [show begL ((m : Int) + 1) = falses (m + 1) by unfold begL; rw [if_pos (cntd_iff.2 (by omega))]; rfl, show begE ((m : Int) + 1) = 0 by unfold begE; rw [if_pos (cntd_iff.2 (by omega))]] at hbg
  have HBG := hide hbg
  have HL0 := hide (falses_len (m + 1))
  clear hbg
  go_enter Try.func6, Try.ntmps6
  go_wp2_with fail
  refine (HBG.out _).mono ?_
  rintro e w1 ⟨va, rfl, hRa, hB1⟩
  simp only [List.append_toArray, List.cons_append, List.nil_append]
  obtain ⟨A, cap, rfl⟩ := hRa.form
  have hX0 := BoxA.new (n := 0) hRa 24
  have hq := sel_falses (m + 1) (List.mem_range.2 (by omega))
  have hS0 : St m 0 0 (falses (m + 1)) := ⟨falses_len _, by rw [if_neg (by omega), HL0.out]; exact ⟨rfl, by omega⟩⟩
  have HX0' := hide (⟨A, cap, 0, falses (m + 1), hX0, hS0⟩ : ∃ A' cap' num l, BoxA (w1.alloc (.cells #[.int .i64 0, .slice A (falses (m + 1)).length cap] 24)) w1.heap.size num l A' cap' ∧ St m 0 num l)
  have HB1 := hide (bthen hB1 (below_laid (.cells #[.int .i64 0, .slice A (falses (m + 1)).length cap] 24)))
  have hzw := hB1.size
  clear hRa hB1 hX0 hq hS0
  go_wp2_with fail
  go_loopw [29] (fun i wr => ∃ k : Nat, k ≤ m + 1 ∧ i = .int .i64 k ∧ Hid (∃ A cap num l, BoxA wr w1.heap.size num l A cap ∧ St m k num l) ∧ Hid (Below w.heap.size w wr)) (fun i _ => m + 1 - (intOf i).toNat)
  case atStart => exact ⟨0, by omega, rfl, HX0', HB1⟩
  case round =>
    obtain ⟨k, hk, rfl, HX, HB⟩ := hrel
    obtain ⟨A, cap, num, l, hX, hst⟩ := HX.out
    have hF := hX.lt
    have HX := hide hX
    obtain ⟨⟨a0, a1⟩, -⟩ := hX.cells
    clear hX
    by_cases hlt : k < m + 1
    · have HST := hide hst
      obtain ⟨hst1, hst2⟩ := hst
      rw [if_neg (by omega)] at hst2
      obtain ⟨rfl, h3⟩ := hst2
      have hck := st_chk HST.out hm hk
      have HI := hide (inputs_any 0 (.slice A l.length cap) l)
      rw [show insL 0 l = selI l l.length from if_pos hck, hck] at HI
      have HSTEP := hide (fun (q : Nat) (hq : q < (selI l l.length).length) => st_step HST.out hm hlt hq)
      obtain ⟨S, hS⟩ : ∃ S, selI l l.length = S := ⟨_, rfl⟩
      rw [hS] at HI h3
      have HSS := hide hS
      have t1 : (((S.length : Nat) : Int) != (m : Int) + 1 - (k : Int)) = false := bne_eq_false_iff_eq.2 (by omega)
      have hll : l.length ≤ 1000 := by omega
      have H3 := hide h3
      have hspos : 0 < S.length := by omega
      have hs8 : S.length ≤ 8 := by omega
      clear hck hS hst1 h3
      go_wp2_with fail
      refine (HI.out _ hll HX.out.2).mono ?_
      rintro e w3 ⟨vl, rfl, hRl, hb⟩
      obtain ⟨SA, sc, rfl⟩ := hRl.form
      obtain ⟨sg, so, sc', e', hsg, -, hsc⟩ := hRl.at_ hspos
      cases e'
      have HX := hide (HX.out.keep hb)
      have HL := hide hsc
      have HB := hide (bthen HB.out hb)
      obtain ⟨⟨b0, b1⟩, -⟩ := (HX.out).cells
      clear hb hsc hRl a0 a1
      by_cases hko : k < lo.length
      · obtain ⟨g, off, oc', e', hg, -, hoc⟩ := HOR.out.at_ (by omega)
        cases e'
        have hbb := HOB.out lo[k] (List.getElem_mem hko)
        have c0 := (HB.out.cell (p := ⟨g, off + k, none⟩) hg).trans (hoc k (.int .u8 lo[k]) (by simp [u8s, hko]))
        obtain ⟨y, hy⟩ : ∃ y, lo[k] = y := ⟨_, rfl⟩
        rw [hy] at hbb c0
        obtain ⟨hb0, hb1⟩ := hbb
        obtain ⟨q, hq⟩ : ∃ q : Nat, y.tmod ((S.length : Nat) : Int) = (q : Int) := ⟨(y.tmod ((S.length : Nat) : Int)).toNat, by rw [Int.tmod_eq_emod_of_nonneg hb0]; have := Int.emod_nonneg y (b := (S.length : Int)) (by omega); omega⟩
        have hql : q < S.length := by rw [Int.tmod_eq_emod_of_nonneg hb0] at hq; have := Int.emod_lt_of_pos y (b := (S.length : Int)) (by omega); omega
        clear hy hoc
        have hQ := HSTEP.out q (by rw [HSS.out]; exact hql)
        obtain ⟨-, -, -, -, i, hi, hil, hE, hq2, hA, hstN⟩ := hQ
        have hi' : (selI l l.length)[q]? = some ((i : Nat) : Int) := by rw [List.getElem?_eq_getElem (by rw [HSS.out]; exact hql), hi]
        rw [HSS.out] at hi'
        have s0 : w3.cell? ⟨sg, so + q, none⟩ = some (.int .i64 i) := HL.out q _ (by simp [ints, hi'])
        have HT := hide (take_any 0 (.slice A l.length cap) l i 1)
        unfold RetTak at HT
        rw [hE, hA] at HT
        have HQ := hide hq2
        have HSN := hide hstN
        clear hi hi' hil hE hA hq2 hstN
        generalize takN 0 l i 1 = tn at *
        generalize takL 0 l i 1 = tl at *
        have hF3 := HX.out.lt
        go_wp2_with fail
        go_region_held3 (fun w' => w'.cell? ⟨w1.heap.size, 0, none⟩ = some (.int .i64 0) ∧ w'.cell? ⟨w1.heap.size, 1, none⟩ = some (.slice A l.length cap) ∧ w'.cell? ⟨sg, so + q, none⟩ = some (.int .i64 i))
          (first
            | with_reducible exact ⟨keep1 hb b0, keep1 hb b1, keep1 hb s0⟩
            | with_reducible exact ⟨set2_far (p := ⟨w1.heap.size, 0, none⟩) (Nat.ne_of_gt hF3) (keep1 hb b0), set2_far (p := ⟨w1.heap.size, 1, none⟩) (Nat.ne_of_gt hF3) (keep1 hb b1), set2_far (p := ⟨sg, so + q, none⟩) (Nat.ne_of_gt hsg) (keep1 hb s0)⟩
            | with_reducible exact ⟨keep1 (bthen hb (below_laid _)) b0, keep1 (bthen hb (below_laid _)) b1, keep1 (bthen hb (below_laid _)) s0⟩
            | (go_keep; done))
          (first
            | (go_at_call 16; refine (HT.out _ hll (row_laid_drew HX.out.2)).mono ?_; rintro e w4 ⟨vx, rfl, hRx, hb'⟩; have hb0 : Below (w3.alloc (.cells #[.int .i64 0, .slice none 0 0] 24)).heap.size (w3.alloc (.cells #[.int .i64 0, .slice none 0 0] 24)) w4 := below_undrew hb'; have hb : Below w3.heap.size w3 w4 := bthen (below_laid _) hb0; obtain ⟨XA, xc, rfl⟩ := hRx.form; simp only [List.append_toArray, List.cons_append, List.nil_append]; obtain ⟨-, -, hx⟩ := step_box [.int .i64 0, .slice none 0 0] hb0; have y0 := hx 0 _ rfl; have y1 := hx 1 _ rfl; have z0 := step_frozen [.int .i64 0, .slice none 0 0] hb0 0; have z1 := step_frozen [.int .i64 0, .slice none 0 0] hb0 1; clear hx)
            | (go_at_call 16; refine (HT.out _ hll (row_drew HX.out.2)).mono ?_; rintro e w4 ⟨vx, rfl, hRx, hb'⟩; have hb : Below w3.heap.size w3 w4 := below_undrew hb'; obtain ⟨XA, xc, rfl⟩ := hRx.form; simp only [List.append_toArray, List.cons_append, List.nil_append]))
        · have hN : BoxA (w4.alloc (.cells #[.int .i64 tn, .slice XA tl.length xc] 24)) w4.heap.size tn tl XA xc := BoxA.new hRx _
          have hX5 : BoxA (w4.alloc (.cells #[.int .i64 tn, .slice XA tl.length xc] 24)) w1.heap.size 0 l A cap := (HX.out.keep hb).keep (below_laid _)
          have hB5 : Below w.heap.size w (w4.alloc (.cells #[.int .i64 tn, .slice XA tl.length xc] 24)) := bthen (bthen HB.out hb) (below_laid _)
          obtain ⟨w5, hw5⟩ : ∃ w5, (w4.alloc (.cells #[.int .i64 tn, .slice XA tl.length xc] 24)) = w5 := ⟨_, rfl⟩
          rw [hw5] at hN hX5 hB5
          have HN := hide hN
          have HX5 := hide hX5
          have HB5 := hide hB5
          obtain ⟨⟨e0, e1⟩, -⟩ := hN.cells
          have htl1 := HSN.out.1
          have htl : tl.length ≤ 1000 := by omega
          have htp : 0 < tl.length := by omega
          have HCK := hide (@check_any tn (.slice XA tl.length xc) tl)
          rw [HQ.out] at HCK
          clear htl1 hN hX5 hB5 b0 b1 s0 hb hb' hRx
          obtain ⟨bb, d1, d2, d3⟩ : ∃ bb : Bool, decide (k = m) = bb ∧ ((k : Int) == (m : Int)) = bb ∧ (k == m) = bb := ⟨decide (k = m), rfl, by rw [Bool.eq_iff_iff, beq_iff_eq, decide_eq_true_eq]; omega, by rw [Bool.eq_iff_iff, beq_iff_eq, decide_eq_true_eq]⟩
          cases bb
          all_goals
            go_wp2_with fail
            refine (HCK.out _ htl HN.out.2).mono ?_
            rintro e w6 ⟨rfl, hb6⟩
            have HX6 := hide (HX5.out.keep hb6)
            have HN6 := hide (HN.out.keep hb6)
            have HB6 := hide (bthen HB5.out hb6)
            obtain ⟨⟨f0, f1⟩, f2, f3⟩ := HX6.out.cells
            obtain ⟨⟨g0, g1⟩, -⟩ := HN6.out.cells
            clear hb6 e0 e1
            go_wp2
            go_roundw
            case rel => exact ⟨k + 1, by omega, by go_num, hide ⟨XA, xc, tn, tl, HX6.out.set HN6.out.2 (HX6.out.apart HN6.out.2 htp), HSN.out⟩, hide ((HB6.out.setCell (p := ⟨w1.heap.size, 0, none⟩) hzw _).setCell (p := ⟨w1.heap.size, 1, none⟩) hzw _)⟩
            case measure => simp [intOf]; omega
        · have hN : BoxA ((w4.setCell ⟨w3.heap.size, 0, none⟩ (.int .i64 tn)).setCell ⟨w3.heap.size, 1, none⟩ (.slice XA tl.length xc)) w3.heap.size tn tl XA xc := ((BoxA.new (l := []) (n := 0) (A := none) (cap := 0) (w := w3) ⟨rfl, .inl ⟨rfl, rfl⟩⟩ 24).keep hb0).set hRx (((BoxA.new (l := []) (n := 0) (A := none) (cap := 0) (w := w3) ⟨rfl, .inl ⟨rfl, rfl⟩⟩ 24).keep hb0).apart hRx (by have := HSN.out.1; omega))
          have hX5 : BoxA ((w4.setCell ⟨w3.heap.size, 0, none⟩ (.int .i64 tn)).setCell ⟨w3.heap.size, 1, none⟩ (.slice XA tl.length xc)) w1.heap.size 0 l A cap := (HX.out.keep hb).far (by omega) (fun x hx => by have := row_below HX.out.2 x hx; omega) _ _
          have hB5 : Below w.heap.size w ((w4.setCell ⟨w3.heap.size, 0, none⟩ (.int .i64 tn)).setCell ⟨w3.heap.size, 1, none⟩ (.slice XA tl.length xc)) := ((bthen HB.out hb).setCell (p := ⟨w3.heap.size, 0, none⟩) (by have := HB.out.size; exact this) _).setCell (p := ⟨w3.heap.size, 1, none⟩) (by have := HB.out.size; exact this) _
          obtain ⟨w5, hw5⟩ : ∃ w5, ((w4.setCell ⟨w3.heap.size, 0, none⟩ (.int .i64 tn)).setCell ⟨w3.heap.size, 1, none⟩ (.slice XA tl.length xc)) = w5 := ⟨_, rfl⟩
          rw [hw5] at hN hX5 hB5
          have HN := hide hN
          have HX5 := hide hX5
          have HB5 := hide hB5
          obtain ⟨⟨e0, e1⟩, -⟩ := hN.cells
          have htl1 := HSN.out.1
          have htl : tl.length ≤ 1000 := by omega
          have htp : 0 < tl.length := by omega
          have HCK := hide (@check_any tn (.slice XA tl.length xc) tl)
          rw [HQ.out] at HCK
          clear htl1 hN hX5 hB5 b0 b1 s0 hb hb' hRx
          obtain ⟨bb, d1, d2, d3⟩ : ∃ bb : Bool, decide (k = m) = bb ∧ ((k : Int) == (m : Int)) = bb ∧ (k == m) = bb := ⟨decide (k = m), rfl, by rw [Bool.eq_iff_iff, beq_iff_eq, decide_eq_true_eq]; omega, by rw [Bool.eq_iff_iff, beq_iff_eq, decide_eq_true_eq]⟩
          cases bb
          all_goals
            go_wp2_with fail
            refine (HCK.out _ htl HN.out.2).mono ?_
            rintro e w6 ⟨rfl, hb6⟩
            have HX6 := hide (HX5.out.keep hb6)
            have HN6 := hide (HN.out.keep hb6)
            have HB6 := hide (bthen HB5.out hb6)
            obtain ⟨⟨f0, f1⟩, f2, f3⟩ := HX6.out.cells
            obtain ⟨⟨g0, g1⟩, -⟩ := HN6.out.cells
            clear hb6 e0 e1
            go_wp2
            go_roundw
            case rel => exact ⟨k + 1, by omega, by go_num, hide ⟨XA, xc, tn, tl, HX6.out.set HN6.out.2 (HX6.out.apart HN6.out.2 htp), HSN.out⟩, hide ((HB6.out.setCell (p := ⟨w1.heap.size, 0, none⟩) hzw _).setCell (p := ⟨w1.heap.size, 1, none⟩) hzw _)⟩
            case measure => simp [intOf]; omega
      · have hQ := HSTEP.out 0 (by rw [HSS.out]; exact hspos)
        obtain ⟨-, -, -, -, i, hi, hil, hE, hq2, hA, hstN⟩ := hQ
        have hi' : (selI l l.length)[0]? = some ((i : Nat) : Int) := by rw [List.getElem?_eq_getElem (by rw [HSS.out]; exact hspos), hi]
        rw [HSS.out] at hi'
        have s0 : w3.cell? ⟨sg, so, none⟩ = some (.int .i64 i) := HL.out 0 _ (by simp [ints, hi'])
        have HT := hide (take_any 0 (.slice A l.length cap) l i 1)
        unfold RetTak at HT
        rw [hE, hA] at HT
        have HQ := hide hq2
        have HSN := hide hstN
        clear hi hi' hil hE hA hq2 hstN
        generalize takN 0 l i 1 = tn at *
        generalize takL 0 l i 1 = tl at *
        have hF3 := HX.out.lt
        go_wp2_with fail
        go_region_held3 (fun w' => w'.cell? ⟨w1.heap.size, 0, none⟩ = some (.int .i64 0) ∧ w'.cell? ⟨w1.heap.size, 1, none⟩ = some (.slice A l.length cap) ∧ w'.cell? ⟨sg, so, none⟩ = some (.int .i64 i))
          (first
            | with_reducible exact ⟨keep1 hb b0, keep1 hb b1, keep1 hb s0⟩
            | with_reducible exact ⟨set2_far (p := ⟨w1.heap.size, 0, none⟩) (Nat.ne_of_gt hF3) (keep1 hb b0), set2_far (p := ⟨w1.heap.size, 1, none⟩) (Nat.ne_of_gt hF3) (keep1 hb b1), set2_far (p := ⟨sg, so, none⟩) (Nat.ne_of_gt hsg) (keep1 hb s0)⟩
            | with_reducible exact ⟨keep1 (bthen hb (below_laid _)) b0, keep1 (bthen hb (below_laid _)) b1, keep1 (bthen hb (below_laid _)) s0⟩
            | (go_keep; done))
          (first
            | (go_at_call 16; refine (HT.out _ hll (row_laid_drew HX.out.2)).mono ?_; rintro e w4 ⟨vx, rfl, hRx, hb'⟩; have hb0 : Below (w3.alloc (.cells #[.int .i64 0, .slice none 0 0] 24)).heap.size (w3.alloc (.cells #[.int .i64 0, .slice none 0 0] 24)) w4 := below_undrew hb'; have hb : Below w3.heap.size w3 w4 := bthen (below_laid _) hb0; obtain ⟨XA, xc, rfl⟩ := hRx.form; simp only [List.append_toArray, List.cons_append, List.nil_append]; obtain ⟨-, -, hx⟩ := step_box [.int .i64 0, .slice none 0 0] hb0; have y0 := hx 0 _ rfl; have y1 := hx 1 _ rfl; have z0 := step_frozen [.int .i64 0, .slice none 0 0] hb0 0; have z1 := step_frozen [.int .i64 0, .slice none 0 0] hb0 1; clear hx)
            | (go_at_call 16; refine (HT.out _ hll (row_drew HX.out.2)).mono ?_; rintro e w4 ⟨vx, rfl, hRx, hb'⟩; have hb : Below w3.heap.size w3 w4 := below_undrew hb'; obtain ⟨XA, xc, rfl⟩ := hRx.form; simp only [List.append_toArray, List.cons_append, List.nil_append]))
        · have hN : BoxA (w4.alloc (.cells #[.int .i64 tn, .slice XA tl.length xc] 24)) w4.heap.size tn tl XA xc := BoxA.new hRx _
          have hX5 : BoxA (w4.alloc (.cells #[.int .i64 tn, .slice XA tl.length xc] 24)) w1.heap.size 0 l A cap := (HX.out.keep hb).keep (below_laid _)
          have hB5 : Below w.heap.size w (w4.alloc (.cells #[.int .i64 tn, .slice XA tl.length xc] 24)) := bthen (bthen HB.out hb) (below_laid _)
          obtain ⟨w5, hw5⟩ : ∃ w5, (w4.alloc (.cells #[.int .i64 tn, .slice XA tl.length xc] 24)) = w5 := ⟨_, rfl⟩
          rw [hw5] at hN hX5 hB5
          have HN := hide hN
          have HX5 := hide hX5
          have HB5 := hide hB5
          obtain ⟨⟨e0, e1⟩, -⟩ := hN.cells
          have htl1 := HSN.out.1
          have htl : tl.length ≤ 1000 := by omega
          have htp : 0 < tl.length := by omega
          have HCK := hide (@check_any tn (.slice XA tl.length xc) tl)
          rw [HQ.out] at HCK
          clear htl1 hN hX5 hB5 b0 b1 s0 hb hb' hRx
          obtain ⟨bb, d1, d2, d3⟩ : ∃ bb : Bool, decide (k = m) = bb ∧ ((k : Int) == (m : Int)) = bb ∧ (k == m) = bb := ⟨decide (k = m), rfl, by rw [Bool.eq_iff_iff, beq_iff_eq, decide_eq_true_eq]; omega, by rw [Bool.eq_iff_iff, beq_iff_eq, decide_eq_true_eq]⟩
          cases bb
          all_goals
            go_wp2_with fail
            refine (HCK.out _ htl HN.out.2).mono ?_
            rintro e w6 ⟨rfl, hb6⟩
            have HX6 := hide (HX5.out.keep hb6)
            have HN6 := hide (HN.out.keep hb6)
            have HB6 := hide (bthen HB5.out hb6)
            obtain ⟨⟨f0, f1⟩, f2, f3⟩ := HX6.out.cells
            obtain ⟨⟨g0, g1⟩, -⟩ := HN6.out.cells
            clear hb6 e0 e1
            go_wp2
            go_roundw
            case rel => exact ⟨k + 1, by omega, by go_num, hide ⟨XA, xc, tn, tl, HX6.out.set HN6.out.2 (HX6.out.apart HN6.out.2 htp), HSN.out⟩, hide ((HB6.out.setCell (p := ⟨w1.heap.size, 0, none⟩) hzw _).setCell (p := ⟨w1.heap.size, 1, none⟩) hzw _)⟩
            case measure => simp [intOf]; omega
        · have hN : BoxA ((w4.setCell ⟨w3.heap.size, 0, none⟩ (.int .i64 tn)).setCell ⟨w3.heap.size, 1, none⟩ (.slice XA tl.length xc)) w3.heap.size tn tl XA xc := ((BoxA.new (l := []) (n := 0) (A := none) (cap := 0) (w := w3) ⟨rfl, .inl ⟨rfl, rfl⟩⟩ 24).keep hb0).set hRx (((BoxA.new (l := []) (n := 0) (A := none) (cap := 0) (w := w3) ⟨rfl, .inl ⟨rfl, rfl⟩⟩ 24).keep hb0).apart hRx (by have := HSN.out.1; omega))
          have hX5 : BoxA ((w4.setCell ⟨w3.heap.size, 0, none⟩ (.int .i64 tn)).setCell ⟨w3.heap.size, 1, none⟩ (.slice XA tl.length xc)) w1.heap.size 0 l A cap := (HX.out.keep hb).far (by omega) (fun x hx => by have := row_below HX.out.2 x hx; omega) _ _
          have hB5 : Below w.heap.size w ((w4.setCell ⟨w3.heap.size, 0, none⟩ (.int .i64 tn)).setCell ⟨w3.heap.size, 1, none⟩ (.slice XA tl.length xc)) := ((bthen HB.out hb).setCell (p := ⟨w3.heap.size, 0, none⟩) (by have := HB.out.size; exact this) _).setCell (p := ⟨w3.heap.size, 1, none⟩) (by have := HB.out.size; exact this) _
          obtain ⟨w5, hw5⟩ : ∃ w5, ((w4.setCell ⟨w3.heap.size, 0, none⟩ (.int .i64 tn)).setCell ⟨w3.heap.size, 1, none⟩ (.slice XA tl.length xc)) = w5 := ⟨_, rfl⟩
          rw [hw5] at hN hX5 hB5
          have HN := hide hN
          have HX5 := hide hX5
          have HB5 := hide hB5
          obtain ⟨⟨e0, e1⟩, -⟩ := hN.cells
          have htl1 := HSN.out.1
          have htl : tl.length ≤ 1000 := by omega
          have htp : 0 < tl.length := by omega
          have HCK := hide (@check_any tn (.slice XA tl.length xc) tl)
          rw [HQ.out] at HCK
          clear htl1 hN hX5 hB5 b0 b1 s0 hb hb' hRx
          obtain ⟨bb, d1, d2, d3⟩ : ∃ bb : Bool, decide (k = m) = bb ∧ ((k : Int) == (m : Int)) = bb ∧ (k == m) = bb := ⟨decide (k = m), rfl, by rw [Bool.eq_iff_iff, beq_iff_eq, decide_eq_true_eq]; omega, by rw [Bool.eq_iff_iff, beq_iff_eq, decide_eq_true_eq]⟩
          cases bb
          all_goals
            go_wp2_with fail
            refine (HCK.out _ htl HN.out.2).mono ?_
            rintro e w6 ⟨rfl, hb6⟩
            have HX6 := hide (HX5.out.keep hb6)
            have HN6 := hide (HN.out.keep hb6)
            have HB6 := hide (bthen HB5.out hb6)
            obtain ⟨⟨f0, f1⟩, f2, f3⟩ := HX6.out.cells
            obtain ⟨⟨g0, g1⟩, -⟩ := HN6.out.cells
            clear hb6 e0 e1
            go_wp2
            go_roundw
            case rel => exact ⟨k + 1, by omega, by go_num, hide ⟨XA, xc, tn, tl, HX6.out.set HN6.out.2 (HX6.out.apart HN6.out.2 htp), HSN.out⟩, hide ((HB6.out.setCell (p := ⟨w1.heap.size, 0, none⟩) hzw _).setCell (p := ⟨w1.heap.size, 1, none⟩) hzw _)⟩
            case measure => simp [intOf]; omega
    · obtain rfl : k = m + 1 := by omega
      obtain ⟨hst1, hst2⟩ := hst
      rw [if_pos rfl] at hst2
      obtain ⟨rfl, hl⟩ := hst2
      have HQ := hide (show chk 1 l = 0 from st_chk (m := m) (k := m + 1) ⟨hst1, by rw [if_pos rfl]; exact ⟨rfl, hl⟩⟩ hm (by omega))
      have hav : algV 1 l = true := by
        unfold algV
        rw [if_pos HQ.out, hl, (sel_falses (m + 1) (List.mem_range.2 (by omega))).2.1]; rfl
      have HA := hide (aligned_any 1 (.slice A l.length cap) l)
      rw [hav, HQ.out] at HA
      have t1 : (((l.length : Nat) : Int) == (m : Int) + 1) = true := beq_iff_eq.2 (by omega)
      have hll : l.length ≤ 1000 := by omega
      have HST := hide hst1
      clear hav hl hst1
      go_wp2_with fail
      refine (HA.out _ hll HX.out.2).mono ?_
      rintro e w5 ⟨rfl, hb⟩
      have HX := hide (HX.out.keep hb)
      have HB := hide (bthen HB.out hb)
      obtain ⟨⟨b0, b1⟩, -⟩ := (HX.out).cells
      clear hb a0 a1
      go_wp2_with fail
      refine (awake_any _).mono ?_
      rintro e w6 ⟨rfl, hb⟩
      go_wp2
      go_ret
      exact Ret.bool rfl (bthen HB.out hb)
end Go.Proofs.Ytjahjefkfcifhaa
