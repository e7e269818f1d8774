/- The law of what remains behind a barrier. -/
import Derived.Test.YtjahjefkfcifhaaBPlain
namespace Go.Proofs.Ytjahjefkfcifhaa
open Go.RowKit
set_option linter.unusedVariables false
set_option linter.unusedSimpArgs false
set_option maxRecDepth 100000 in
set_option maxHeartbeats 2000000 in
theorem remains_few (n : Int) (A : Option Addr) (cap : Nat) (l : List Bool) (i : Int) (w : World) (hm : l.length ≤ 12) (hrow : Row w w.heap.size 1 (.slice A l.length cap) l.length (bools l)) (hno : ¬ chk n l = 0 ∨ ¬ n < 1099511627776) :
    Calls Try.prog 7 #[.agg #[.int .i64 n, .slice A l.length cap], .int .i64 i] w (Ret (.bool true) w) := by
  have t1 : decide ((l.length : Int) ≤ 12) = true := decide_eq_true (by omega)
  have HF := hide (few_any n A l.length cap)
  rw [t1] at HF
  clear t1
  have hX0 := BoxA.new (n := n) hrow 24
  have hlx : l.length ≤ 1000 := by omega
  have HC := hide (@check_any n (.slice A l.length cap) l)
  have HNO := hide hno
  clear hrow hno
  go_enter Try.func7, Try.ntmps7
  go_wp2_with fail
  refine (HF.out _).mono ?_
  rintro e w1 ⟨rfl, hb1⟩
  have HX := hide (hX0.keep hb1)
  have HB := hide (bthen (below_laid _) hb1)
  obtain ⟨⟨a0, a1⟩, -⟩ := (HX.out).cells
  clear hb1 hX0
  by_cases hc : chk n l = 0
  · have hn : 1099511627776 ≤ n := by
      rcases HNO.out with h | h
      · exact absurd hc h
      · exact h
    have t2 : decide (1099511627776 ≤ n) = true := decide_eq_true (by omega)
    rw [hc] at HC
    clear hc hn
    go_wp2_with fail
    refine (HC.out _ hlx HX.out.2).mono ?_
    rintro e w2 ⟨rfl, hb⟩
    have HX := hide (HX.out.keep hb)
    have HB := hide (bthen HB.out hb)
    obtain ⟨⟨b0, b1⟩, -⟩ := (HX.out).cells
    clear hb a0 a1
    go_wp2_with fail
    refine (awake_any _).mono ?_
    rintro e w3 ⟨rfl, hb⟩
    go_wp2
    go_ret
    exact Ret.bool rfl (bthen HB.out hb)
  · have t2 : (chk n l != 0) = true := by rw [bne_iff_ne]; exact hc
    clear hc HNO
    generalize chk n l = c at *
    go_wp2_with fail
    refine (HC.out _ hlx HX.out.2).mono ?_
    rintro e w2 ⟨rfl, hb⟩
    have HB := hide (bthen HB.out hb)
    clear hb
    go_wp2_with fail
    refine (awake_any _).mono ?_
    rintro e w3 ⟨rfl, hb⟩
    go_wp2
    go_ret
    exact Ret.bool rfl (bthen HB.out hb)

set_option maxRecDepth 100000 in
set_option maxHeartbeats 2000000 in
theorem remains_out (n : Int) (A : Option Addr) (cap : Nat) (l : List Bool) (i : Int) (w : World) (hrow : Row w w.heap.size 1 (.slice A l.length cap) l.length (bools l)) (hm : l.length ≤ 12) (hc : chk n l = 0) (hn : n < 1099511627776) (hi : ¬ (0 ≤ i ∧ i < (l.length : Int))) :
    Calls Try.prog 7 #[.agg #[.int .i64 n, .slice A l.length cap], .int .i64 i] w (Ret (.bool true) w) := by
  have HK := hide (blocked_any n (.slice A l.length cap) l i)
  rw [show inp n l i = 32 by unfold inp; rw [if_pos hc, if_neg hi], show blkV n l i = false by unfold blkV inp; rw [if_pos hc, if_neg hi]; rfl] at HK
  have HO := hide (has_out (chk_zero hc).1.2 hi)
  clear hi
  have t1 : decide ((l.length : Int) ≤ 12) = true := decide_eq_true (by omega)
  have HF := hide (few_any n A l.length cap)
  rw [t1] at HF
  clear t1
  have hX0 := BoxA.new (n := n) hrow 24
  have hlx : l.length ≤ 1000 := by omega
  have HC := hide (@check_any n (.slice A l.length cap) l)
  rw [hc] at HC
  obtain ⟨h8, hr, hh⟩ := chk_zero hc
  have HI := hide (inputs_any n (.slice A l.length cap) l)
  rw [show insL n l = selI l l.length from if_pos hc, hc] at HI
  have t2 : decide (1099511627776 ≤ n) = false := decide_eq_false (by omega)
  have t3 : decide (n < 0) = false := decide_eq_false (by omega)
  have hpos := of_decide_eq_true ((sel_pos l h8.2).symm.trans hh)
  have HHC := hide hc
  have HSL := hide (selI_len l l.length)
  clear hrow hc hh
  obtain ⟨S, hS⟩ : ∃ S, selI l l.length = S := ⟨_, rfl⟩
  rw [hS] at HI hpos HSL
  have HS := hide hS
  clear hS
  have t4 : (S.length == 0) = false := by rw [beq_eq_false_iff_ne]; omega
  have t5 : (((S.length : Nat) : Int) == 0) = false := by rw [beq_eq_false_iff_ne]; omega
  go_enter Try.func7, Try.ntmps7
  go_wp2_with fail
  refine (HF.out _).mono ?_
  rintro e w1 ⟨rfl, hb1⟩
  have HX := hide (hX0.keep hb1)
  have HB := hide (bthen (below_laid _) hb1)
  obtain ⟨⟨a0, a1⟩, -⟩ := (HX.out).cells
  clear hb1 hX0
  go_wp2_with fail
  refine (HC.out _ hlx HX.out.2).mono ?_
  rintro e w2 ⟨rfl, hb⟩
  have HX := hide (HX.out.keep hb)
  have HB := hide (bthen HB.out hb)
  obtain ⟨⟨b0, b1⟩, -⟩ := (HX.out).cells
  clear hb a0 a1
  go_wp2_with fail
  refine (HI.out _ hlx HX.out.2).mono ?_
  rintro e w3 ⟨vl, rfl, hRl, hb⟩
  obtain ⟨SA, sc, rfl⟩ := hRl.form
  have HX := hide (HX.out.keep hb)
  have HL := hide hRl
  have HB := hide (bthen HB.out hb)
  obtain ⟨⟨c0, c1⟩, -⟩ := (HX.out).cells
  clear hb b0 b1 hRl
  go_wp2_with fail
  rw [HS.out] at HO
  refine (HK.out _ hlx HX.out.2).mono ?_
  rintro e w4 ⟨rfl, hb⟩
  have HL := hide (HL.out.grow hb)
  have HB := hide (bthen HB.out hb)
  clear hb c0 c1
  go_wp2_with fail
  refine (contains_int _ i S _ (by have := HSL.out; omega) HL.out).mono ?_
  rw [HO.out]
  rintro e w5 ⟨rfl, rfl⟩
  go_wp2_with fail
  refine (awake_any _).mono ?_
  rintro e w6 ⟨rfl, hb⟩
  go_wp2
  go_ret
  exact Ret.bool rfl (bthen HB.out hb)

set_option maxRecDepth 100000 in
set_option maxHeartbeats 4000000 in
theorem remains_blk (n : Int) (A : Option Addr) (cap : Nat) (l : List Bool) (k : Nat) (w : World) (hrow : Row w w.heap.size 1 (.slice A l.length cap) l.length (bools l)) (hm : l.length ≤ 12) (hc : chk n l = 0) (hn : n < 1099511627776) (hk : k < l.length) (hf : l.getD k false = true) :
    Calls Try.prog 7 #[.agg #[.int .i64 n, .slice A l.length cap], .int .i64 (k : Int)] w (Ret (.bool true) w) := by
  have HK := hide (blocked_any n (.slice A l.length cap) l k)
  rw [inp_eq hc (by omega), show blkV n l k = true by unfold blkV; rw [if_pos (inp_eq hc (by omega)), Int.toNat_natCast, hf]] at HK
  have hE := take_blocked (n := n) (num := n + 1) hc hk hf
  have hbad := tak_bad (show ¬ takE n l k (n + 1) = 0 by rw [hE]; decide)
  have HT := hide (take_any n (.slice A l.length cap) l k (n + 1))
  unfold RetTak at HT
  rw [hE, hbad.1, hbad.2.1, hbad.2.2] at HT
  have HO := hide (sel_has' l (chk_zero hc).1.2 k (List.mem_range.2 hk))
  rw [hf] at HO
  clear hf hE hbad hk
  have t1 : decide ((l.length : Int) ≤ 12) = true := decide_eq_true (by omega)
  have HF := hide (few_any n A l.length cap)
  rw [t1] at HF
  clear t1
  have hX0 := BoxA.new (n := n) hrow 24
  have hlx : l.length ≤ 1000 := by omega
  have HC := hide (@check_any n (.slice A l.length cap) l)
  rw [hc] at HC
  obtain ⟨h8, hr, hh⟩ := chk_zero hc
  have HI := hide (inputs_any n (.slice A l.length cap) l)
  rw [show insL n l = selI l l.length from if_pos hc, hc] at HI
  have t2 : decide (1099511627776 ≤ n) = false := decide_eq_false (by omega)
  have t3 : decide (n < 0) = false := decide_eq_false (by omega)
  have hpos := of_decide_eq_true ((sel_pos l h8.2).symm.trans hh)
  have HHC := hide hc
  have HSL := hide (selI_len l l.length)
  clear hrow hc hh
  obtain ⟨S, hS⟩ : ∃ S, selI l l.length = S := ⟨_, rfl⟩
  rw [hS] at HI hpos HSL
  have HS := hide hS
  clear hS
  have t4 : (S.length == 0) = false := by rw [beq_eq_false_iff_ne]; omega
  have t5 : (((S.length : Nat) : Int) == 0) = false := by rw [beq_eq_false_iff_ne]; omega
  go_enter Try.func7, Try.ntmps7
  go_wp2_with fail
  refine (HF.out _).mono ?_
  rintro e w1 ⟨rfl, hb1⟩
  have HX := hide (hX0.keep hb1)
  have HB := hide (bthen (below_laid _) hb1)
  obtain ⟨⟨a0, a1⟩, -⟩ := (HX.out).cells
  clear hb1 hX0
  go_wp2_with fail
  refine (HC.out _ hlx HX.out.2).mono ?_
  rintro e w2 ⟨rfl, hb⟩
  have HX := hide (HX.out.keep hb)
  have HB := hide (bthen HB.out hb)
  obtain ⟨⟨b0, b1⟩, -⟩ := (HX.out).cells
  clear hb a0 a1
  go_wp2_with fail
  refine (HI.out _ hlx HX.out.2).mono ?_
  rintro e w3 ⟨vl, rfl, hRl, hb⟩
  obtain ⟨SA, sc, rfl⟩ := hRl.form
  have HX := hide (HX.out.keep hb)
  have HL := hide hRl
  have HB := hide (bthen HB.out hb)
  obtain ⟨⟨c0, c1⟩, -⟩ := (HX.out).cells
  clear hb b0 b1 hRl
  go_wp2_with fail
  rw [HS.out] at HO
  refine (HK.out _ hlx HX.out.2).mono ?_
  rintro e w4 ⟨rfl, hb⟩
  have HX := hide (HX.out.keep hb)
  have HL := hide (HL.out.grow hb)
  have HB := hide (bthen HB.out hb)
  obtain ⟨⟨d0, d1⟩, -⟩ := (HX.out).cells
  clear hb c0 c1
  go_wp2_with fail
  refine (HT.out _ hlx HX.out.2).mono ?_
  rintro e w5 ⟨vx, rfl, hRx, hb⟩
  simp only [List.append_toArray, List.cons_append, List.nil_append]
  obtain ⟨XA, xc, rfl⟩ := hRx.form
  have hb9 := bthen hb (below_laid (.cells #[.int .i64 0, .slice XA 0 xc] 24))
  have HL := hide (HL.out.grow hb9)
  have HB := hide (bthen HB.out hb9)
  clear hb hb9 hRx d0 d1
  go_wp2_with fail
  refine (contains_int _ k S _ (by have := HSL.out; omega) HL.out).mono ?_
  rw [HO.out]
  rintro e w6 ⟨rfl, rfl⟩
  go_wp2_with fail
  refine (awake_any _).mono ?_
  rintro e w7 ⟨rfl, hb⟩
  go_wp2
  go_ret
  exact Ret.bool rfl (bthen HB.out hb)

set_option maxRecDepth 100000 in
set_option maxHeartbeats 4000000 in
theorem remains_one (n : Int) (A : Option Addr) (cap : Nat) (l : List Bool) (k : Nat) (w : World) (hrow : Row w w.heap.size 1 (.slice A l.length cap) l.length (bools l)) (hm : l.length ≤ 12) (hc : chk n l = 0) (hn : n < 1099511627776) (hk : k < l.length) (hf : l.getD k false = false) (h1 : (selI l l.length).length = 1) :
    Calls Try.prog 7 #[.agg #[.int .i64 n, .slice A l.length cap], .int .i64 (k : Int)] w (Ret (.bool true) w) := by
  have HK := hide (blocked_any n (.slice A l.length cap) l k)
  rw [inp_eq hc (by omega), show blkV n l k = false by unfold blkV; rw [if_pos (inp_eq hc (by omega)), Int.toNat_natCast, hf]] at HK
  obtain ⟨hE, hq, hql, hA, hone, hmore⟩ := take_free hc hn hk hf
  have HT := hide (take_any n (.slice A l.length cap) l k (n + 1))
  unfold RetTak at HT
  rw [hE, hA] at HT
  have HO := hide (sel_has' l (chk_zero hc).1.2 k (List.mem_range.2 hk))
  rw [hf] at HO
  have HHF := hide hf
  rw [(hone h1).1, (hone h1).2, decide_eq_true h1] at HT
  rw [(hone h1).1, (hone h1).2] at hq
  have HQ := hide hq
  have hfl : (falses l.length).length ≤ 1000 := by simp [falses]; omega
  have HFL := hide (falses_len l.length)
  clear hf hE hA hone hmore hq hql hk
  have t1 : decide ((l.length : Int) ≤ 12) = true := decide_eq_true (by omega)
  have HF := hide (few_any n A l.length cap)
  rw [t1] at HF
  clear t1
  have hX0 := BoxA.new (n := n) hrow 24
  have hlx : l.length ≤ 1000 := by omega
  have HC := hide (@check_any n (.slice A l.length cap) l)
  rw [hc] at HC
  obtain ⟨h8, hr, hh⟩ := chk_zero hc
  have HI := hide (inputs_any n (.slice A l.length cap) l)
  rw [show insL n l = selI l l.length from if_pos hc, hc] at HI
  have t2 : decide (1099511627776 ≤ n) = false := decide_eq_false (by omega)
  have t3 : decide (n < 0) = false := decide_eq_false (by omega)
  have hpos := of_decide_eq_true ((sel_pos l h8.2).symm.trans hh)
  have HHC := hide hc
  have HSL := hide (selI_len l l.length)
  clear hrow hc hh
  obtain ⟨S, hS⟩ : ∃ S, selI l l.length = S := ⟨_, rfl⟩
  rw [hS] at HI hpos HSL
  have HS := hide hS
  clear hS
  have t4 : (S.length == 0) = false := by rw [beq_eq_false_iff_ne]; omega
  have t5 : (((S.length : Nat) : Int) == 0) = false := by rw [beq_eq_false_iff_ne]; omega
  go_enter Try.func7, Try.ntmps7
  go_wp2_with fail
  refine (HF.out _).mono ?_
  rintro e w1 ⟨rfl, hb1⟩
  have HX := hide (hX0.keep hb1)
  have HB := hide (bthen (below_laid _) hb1)
  obtain ⟨⟨a0, a1⟩, -⟩ := (HX.out).cells
  clear hb1 hX0
  go_wp2_with fail
  refine (HC.out _ hlx HX.out.2).mono ?_
  rintro e w2 ⟨rfl, hb⟩
  have HX := hide (HX.out.keep hb)
  have HB := hide (bthen HB.out hb)
  obtain ⟨⟨b0, b1⟩, -⟩ := (HX.out).cells
  clear hb a0 a1
  go_wp2_with fail
  refine (HI.out _ hlx HX.out.2).mono ?_
  rintro e w3 ⟨vl, rfl, hRl, hb⟩
  obtain ⟨SA, sc, rfl⟩ := hRl.form
  have HX := hide (HX.out.keep hb)
  have HL := hide hRl
  have HB := hide (bthen HB.out hb)
  obtain ⟨⟨c0, c1⟩, -⟩ := (HX.out).cells
  clear hb b0 b1 hRl
  go_wp2_with fail
  rw [HS.out] at HO h1
  have HS1 := hide h1
  have t6 : (S.length == 1) = true := (beq_iff_eq.2 h1); have t7 : (((S.length : Nat) : Int) == 1) = true := (beq_iff_eq.2 (by omega))
  clear h1
  refine (HK.out _ hlx HX.out.2).mono ?_
  rintro e w4 ⟨rfl, hb⟩
  have HX := hide (HX.out.keep hb)
  have HL := hide (HL.out.grow hb)
  have HB := hide (bthen HB.out hb)
  obtain ⟨⟨d0, d1⟩, -⟩ := (HX.out).cells
  clear hb c0 c1
  go_wp2_with fail
  refine (HT.out _ hlx HX.out.2).mono ?_
  rintro e w5 ⟨vx, rfl, hRx, hb⟩
  simp only [List.append_toArray, List.cons_append, List.nil_append]
  obtain ⟨XA, xc, rfl⟩ := hRx.form
  have hb9 := @below_laid w5 (.cells #[.int .i64 (n + 1), .slice XA (falses l.length).length xc] 24)
  have HX := hide (HX.out.keep (bthen hb hb9))
  have HN := hide (BoxA.new (n := n + 1) hRx 24)
  have HL := hide (HL.out.grow (bthen hb hb9))
  have HB := hide (bthen HB.out (bthen hb hb9))
  obtain ⟨⟨e0, e1⟩, -⟩ := (HX.out).cells
  clear hb hb9 hRx d0 d1
  have HCK := hide (@check_any (n + 1) (.slice XA (falses l.length).length xc) (falses l.length))
  rw [HQ.out] at HCK
  go_wp2_with fail
  refine (HCK.out _ hfl HN.out.2).mono ?_
  rintro e w6 ⟨rfl, hb⟩
  have HX := hide (HX.out.keep hb)
  have HN := hide (HN.out.keep hb)
  have HL := hide (HL.out.grow hb)
  have HB := hide (bthen HB.out hb)
  obtain ⟨⟨f0, f1⟩, -⟩ := (HX.out).cells
  obtain ⟨⟨g0, g1⟩, -⟩ := (HN.out).cells
  clear hb e0 e1
  go_wp2_with fail
  refine (contains_int _ k S _ (by have := HSL.out; omega) HL.out).mono ?_
  rw [HO.out]
  rintro e w7 ⟨rfl, rfl⟩
  go_wp2_with fail
  have HI2 := hide (inputs_any (n + 1) (.slice XA (falses l.length).length xc) (falses l.length))
  have hq := sel_falses l.length (List.mem_range.2 (by omega))
  rw [show insL (n + 1) (falses l.length) = selI (falses l.length) l.length by rw [insL, if_pos HQ.out, HFL.out], HQ.out] at HI2
  obtain ⟨S2, hS2⟩ : ∃ S2, selI (falses l.length) l.length = S2 := ⟨_, rfl⟩
  rw [hS2] at HI2 hq
  have hq1 := hq.1
  have t8 : (S2.length == l.length) = true := beq_iff_eq.2 hq1
  have t9 : (((S2.length : Nat) : Int) == ((l.length : Nat) : Int)) = true := beq_iff_eq.2 (by omega)
  clear hq hS2 hq1
  refine (HI2.out _ hfl HN.out.2).mono ?_
  rintro e w8 ⟨vl, rfl, hRl, hb⟩
  obtain ⟨SB, sb, rfl⟩ := hRl.form
  have HX := hide (HX.out.keep hb)
  have HN := hide (HN.out.keep hb)
  have HB := hide (bthen HB.out hb)
  obtain ⟨⟨p0, p1⟩, -⟩ := (HX.out).cells
  obtain ⟨⟨q0, q1⟩, -⟩ := (HN.out).cells
  clear hb hRl f0 f1 g0 g1
  go_wp2_with fail
  refine (awake_any _).mono ?_
  rintro e w9 ⟨rfl, hb⟩
  go_wp2
  go_ret
  exact Ret.bool rfl (bthen HB.out hb)

set_option maxRecDepth 100000 in
set_option maxHeartbeats 4000000 in
theorem remains_more (n : Int) (A : Option Addr) (cap : Nat) (l : List Bool) (k : Nat) (w : World) (hrow : Row w w.heap.size 1 (.slice A l.length cap) l.length (bools l)) (hm : l.length ≤ 12) (hc : chk n l = 0) (hn : n < 1099511627776) (hk : k < l.length) (hf : l.getD k false = false) (h1 : ¬ (selI l l.length).length = 1) :
    Calls Try.prog 7 #[.agg #[.int .i64 n, .slice A l.length cap], .int .i64 (k : Int)] w (Ret (.bool true) w) := by
  have HK := hide (blocked_any n (.slice A l.length cap) l k)
  rw [inp_eq hc (by omega), show blkV n l k = false by unfold blkV; rw [if_pos (inp_eq hc (by omega)), Int.toNat_natCast, hf]] at HK
  obtain ⟨hE, hq, hql, hA, hone, hmore⟩ := take_free hc hn hk hf
  have HT := hide (take_any n (.slice A l.length cap) l k (n + 1))
  unfold RetTak at HT
  rw [hE, hA] at HT
  have HO := hide (sel_has' l (chk_zero hc).1.2 k (List.mem_range.2 hk))
  rw [hf] at HO
  have HHF := hide hf
  obtain ⟨m1, m2, m3⟩ := hmore h1
  rw [m1, m2, decide_eq_false h1] at HT
  rw [m1, m2] at hq
  have HQ := hide hq
  have hfl : (l.set k true).length ≤ 1000 := by simp; omega
  have HK2 := hide (fun (XA : Option Addr) (xc : Nat) => blocked_any n (.slice XA (l.set k true).length xc) (l.set k true) k)
  rw [inp_eq hq (by simp; omega), show blkV n (l.set k true) k = true by unfold blkV; rw [if_pos (inp_eq hq (by simp; omega)), Int.toNat_natCast]; simp [hk]] at HK2
  clear hf hE hA hone hmore hq hql hk m1 m2 m3
  generalize l.set k true = tl at *
  have t1 : decide ((l.length : Int) ≤ 12) = true := decide_eq_true (by omega)
  have HF := hide (few_any n A l.length cap)
  rw [t1] at HF
  clear t1
  have hX0 := BoxA.new (n := n) hrow 24
  have hlx : l.length ≤ 1000 := by omega
  have HC := hide (@check_any n (.slice A l.length cap) l)
  rw [hc] at HC
  obtain ⟨h8, hr, hh⟩ := chk_zero hc
  have HI := hide (inputs_any n (.slice A l.length cap) l)
  rw [show insL n l = selI l l.length from if_pos hc, hc] at HI
  have t2 : decide (1099511627776 ≤ n) = false := decide_eq_false (by omega)
  have t3 : decide (n < 0) = false := decide_eq_false (by omega)
  have hpos := of_decide_eq_true ((sel_pos l h8.2).symm.trans hh)
  have HHC := hide hc
  have HSL := hide (selI_len l l.length)
  clear hrow hc hh
  obtain ⟨S, hS⟩ : ∃ S, selI l l.length = S := ⟨_, rfl⟩
  rw [hS] at HI hpos HSL
  have HS := hide hS
  clear hS
  have t4 : (S.length == 0) = false := by rw [beq_eq_false_iff_ne]; omega
  have t5 : (((S.length : Nat) : Int) == 0) = false := by rw [beq_eq_false_iff_ne]; omega
  go_enter Try.func7, Try.ntmps7
  go_wp2_with fail
  refine (HF.out _).mono ?_
  rintro e w1 ⟨rfl, hb1⟩
  have HX := hide (hX0.keep hb1)
  have HB := hide (bthen (below_laid _) hb1)
  obtain ⟨⟨a0, a1⟩, -⟩ := (HX.out).cells
  clear hb1 hX0
  go_wp2_with fail
  refine (HC.out _ hlx HX.out.2).mono ?_
  rintro e w2 ⟨rfl, hb⟩
  have HX := hide (HX.out.keep hb)
  have HB := hide (bthen HB.out hb)
  obtain ⟨⟨b0, b1⟩, -⟩ := (HX.out).cells
  clear hb a0 a1
  go_wp2_with fail
  refine (HI.out _ hlx HX.out.2).mono ?_
  rintro e w3 ⟨vl, rfl, hRl, hb⟩
  obtain ⟨SA, sc, rfl⟩ := hRl.form
  have HX := hide (HX.out.keep hb)
  have HL := hide hRl
  have HB := hide (bthen HB.out hb)
  obtain ⟨⟨c0, c1⟩, -⟩ := (HX.out).cells
  clear hb b0 b1 hRl
  go_wp2_with fail
  rw [HS.out] at HO h1
  have HS1 := hide h1
  have t6 : (S.length == 1) = false := (beq_eq_false_iff_ne.2 h1); have t7 : (((S.length : Nat) : Int) == 1) = false := (beq_eq_false_iff_ne.2 (by omega))
  clear h1
  refine (HK.out _ hlx HX.out.2).mono ?_
  rintro e w4 ⟨rfl, hb⟩
  have HX := hide (HX.out.keep hb)
  have HL := hide (HL.out.grow hb)
  have HB := hide (bthen HB.out hb)
  obtain ⟨⟨d0, d1⟩, -⟩ := (HX.out).cells
  clear hb c0 c1
  go_wp2_with fail
  refine (HT.out _ hlx HX.out.2).mono ?_
  rintro e w5 ⟨vx, rfl, hRx, hb⟩
  simp only [List.append_toArray, List.cons_append, List.nil_append]
  obtain ⟨XA, xc, rfl⟩ := hRx.form
  have hb9 := @below_laid w5 (.cells #[.int .i64 (n), .slice XA tl.length xc] 24)
  have HX := hide (HX.out.keep (bthen hb hb9))
  have HN := hide (BoxA.new (n := n) hRx 24)
  have HL := hide (HL.out.grow (bthen hb hb9))
  have HB := hide (bthen HB.out (bthen hb hb9))
  obtain ⟨⟨e0, e1⟩, -⟩ := (HX.out).cells
  clear hb hb9 hRx d0 d1
  have HCK := hide (@check_any (n) (.slice XA tl.length xc) tl)
  rw [HQ.out] at HCK
  go_wp2_with fail
  refine (HCK.out _ hfl HN.out.2).mono ?_
  rintro e w6 ⟨rfl, hb⟩
  have HX := hide (HX.out.keep hb)
  have HN := hide (HN.out.keep hb)
  have HL := hide (HL.out.grow hb)
  have HB := hide (bthen HB.out hb)
  obtain ⟨⟨f0, f1⟩, -⟩ := (HX.out).cells
  obtain ⟨⟨g0, g1⟩, -⟩ := (HN.out).cells
  clear hb e0 e1
  go_wp2_with fail
  refine (contains_int _ k S _ (by have := HSL.out; omega) HL.out).mono ?_
  rw [HO.out]
  rintro e w7 ⟨rfl, rfl⟩
  go_wp2_with fail
  refine (HK2.out XA xc _ hfl HN.out.2).mono ?_
  rintro e w8 ⟨rfl, hb⟩
  have HX := hide (HX.out.keep hb)
  have HN := hide (HN.out.keep hb)
  have HB := hide (bthen HB.out hb)
  obtain ⟨⟨p0, p1⟩, -⟩ := (HX.out).cells
  obtain ⟨⟨q0, q1⟩, -⟩ := (HN.out).cells
  clear hb f0 f1 g0 g1
  go_wp2_with fail
  refine (awake_any _).mono ?_
  rintro e w9 ⟨rfl, hb⟩
  go_wp2
  go_ret
  exact Ret.bool rfl (bthen HB.out hb)

theorem remains_law (n : Int) (A : Option Addr) (m cap : Nat) (i : Int) (w : World) (hv : Inn w A m cap) :
    Calls Try.prog 7 #[.agg #[.int .i64 n, .slice A m cap], .int .i64 i] w (Ret (.bool true) w) := by
  by_cases hm : 12 < m
  · have t1 : decide ((m : Int) ≤ 12) = false := decide_eq_false (by omega)
    have HF := hide (few_any n A m cap)
    rw [t1] at HF
    clear t1
    go_enter Try.func7, Try.ntmps7
    go_wp2_with fail
    refine (HF.out _).mono ?_
    rintro e w1 ⟨rfl, hb1⟩
    go_wp2_with fail
    refine (awake_any _).mono ?_
    rintro e w2 ⟨rfl, hb2⟩
    go_wp2
    go_ret
    exact Ret.bool rfl (bthen (step_box [.int .i64 n, .slice A m cap] hb1).1 hb2)
  · obtain ⟨l, rfl, hrow⟩ := hv (by omega)
    by_cases hc : chk n l = 0
    · by_cases hn : n < 1099511627776
      · by_cases hi : 0 ≤ i ∧ i < (l.length : Int)
        · obtain ⟨k, rfl⟩ := Int.eq_ofNat_of_zero_le hi.1
          cases hf : l.getD k false
          · by_cases h1 : (selI l l.length).length = 1
            · exact remains_one n A cap l k w hrow (by omega) hc hn (by omega) hf h1
            · exact remains_more n A cap l k w hrow (by omega) hc hn (by omega) hf h1
          · exact remains_blk n A cap l k w hrow (by omega) hc hn (by omega) hf
        · exact remains_out n A cap l i w hrow (by omega) hc hn hi
      · exact remains_few n A cap l i w (by omega) hrow (.inr hn)
    · exact remains_few n A cap l i w (by omega) hrow (.inl hc)
end Go.Proofs.Ytjahjefkfcifhaa
