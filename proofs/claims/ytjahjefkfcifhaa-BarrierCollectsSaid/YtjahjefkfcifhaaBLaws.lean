/- The walks of three laws of layer 48: they return true. -/
import Derived.Test.YtjahjefkfcifhaaBAwake
import Derived.Deep.RegionHeld3
namespace Go.Proofs.Ytjahjefkfcifhaa
open Go.RowKit
set_option linter.unusedVariables false
set_option linter.unusedSimpArgs false

/-- An aligner that has come in: its flags are a row, unless they are more than twelve. -/
def Inn (w : World) (A : Option Addr) (m cap : Nat) : Prop := m ≤ 12 → ∃ l : List Bool, l.length = m ∧ Row w w.heap.size 1 (.slice A m cap) m (bools l)

set_option maxRecDepth 100000 in
set_option maxHeartbeats 1000000 in
theorem takes_law (n : Int) (A : Option Addr) (m cap : Nat) (i num : Int) (w : World) (hv : Inn w A m cap) :
    Calls Try.prog 4 #[.agg #[.int .i64 n, .slice A m cap], .int .i64 i, .int .i64 num] w (Ret (.bool true) w) := by
  by_cases hm : 12 < m
  · have t1 : decide ((m : Int) ≤ 12) = false := decide_eq_false (by omega)
    have HF := hide (few_any n A m cap)
    rw [t1] at HF
    clear t1
    go_enter Try.func4, Try.ntmps4
    go_wp2_with fail
    refine (HF.out _).mono ?_
    rintro e w1 ⟨rfl, hb1⟩
    go_wp2_with fail
    refine (awake_any _).mono ?_
    rintro e w2 ⟨rfl, hb2⟩
    go_wp2
    go_ret
    exact Ret.bool rfl (bthen (step_box [.int .i64 n, .slice A m cap] hb1).1 hb2)
  · have t1 : decide ((m : Int) ≤ 12) = true := decide_eq_true (by omega)
    have HF := hide (few_any n A m cap)
    rw [t1] at HF
    clear t1
    obtain ⟨l, rfl, hrow⟩ := hv (by omega)
    have HR := hide (hrow.laid (.cells #[.int .i64 n, .slice A l.length cap] 24))
    clear hrow hv
    go_enter Try.func4, Try.ntmps4
    go_wp2_with fail
    refine (HF.out _).mono ?_
    rintro e w1 ⟨rfl, hb1⟩
    obtain ⟨hb1', hz1, hx1⟩ := step_box [.int .i64 n, .slice A l.length cap] hb1
    have a0 := hx1 0 _ rfl
    have a1 := hx1 1 _ rfl
    have HR1 := hide (HR.out.grow hb1)
    have HB1 := hide hb1'
    clear hx1 hb1 hb1' HF HR
    have hl : l.length ≤ 12 := by omega
    have hlx : l.length ≤ 1000 := by omega
    have HT1 := hide (take_any n (.slice A l.length cap) l i num)
    have HT2 := hide (rtake_any n (.slice A l.length cap) l i num)
    have HL : Hid ((takL n l i num).length ≤ 1000) := hide (by
      unfold takL
      split
      · split
        · simp [setT]; omega
        · simp [falses]; omega
      · simp)
    unfold RetTak at HT1 HT2
    generalize takE n l i num = te at *
    generalize takA n l i num = ta at *
    generalize takN n l i num = tn at *
    generalize takL n l i num = tl at *
    go_wp2_with fail
    refine (HT1.out _ hlx HR1.out).mono ?_
    rintro e w2 ⟨vx, rfl, hRx, hB2⟩
    simp only [List.append_toArray, List.cons_append, List.nil_append]
    obtain ⟨X, capx, rfl⟩ := hRx.form
    have b0 := ((bcell hB2).1 _ 0 hz1).trans a0
    have b1 := ((bcell hB2).1 _ 1 hz1).trans a1
    have hz2 : w.heap.size < w2.heap.size := by have := hB2.size; omega
    have HB2 := hide (bthen HB1.out hB2)
    have HR2 := hide ((HR1.out.grow hB2).laid (.cells #[.int .i64 tn, .slice X tl.length capx] 24))
    have HX2 := hide (hRx.laid (.cells #[.int .i64 tn, .slice X tl.length capx] 24))
    clear hB2 a0 a1 HR1 hRx
    go_wp2_with fail
    refine (HT2.out _ hlx HR2.out).mono ?_
    rintro e w3 ⟨vy, rfl, hRy, hB3⟩
    simp only [List.append_toArray, List.cons_append, List.nil_append]
    obtain ⟨Y, capy, rfl⟩ := hRy.form
    obtain ⟨hb3, hz3, hx3⟩ := step_box [.int .i64 tn, .slice X tl.length capx] hB3
    have c0 := hx3 0 _ rfl
    have c1 := hx3 1 _ rfl
    have HB3 := hide (bthen HB2.out hb3)
    have HX3 := hide ((HX2.out.grow hB3).laid (.cells #[.int .i64 tn, .slice Y tl.length capy] 24))
    have HY3 := hide (hRy.laid (.cells #[.int .i64 tn, .slice Y tl.length capy] 24))
    clear hB3 hb3 hx3 hRy b0 b1 HR2 HX2
    go_wp2_with fail
    refine (same_any tn _ _ tl _ HL.out HX3.out HY3.out).mono ?_
    rintro e w4 ⟨rfl, hB4⟩
    have HB4 := hide (bthen HB3.out (step_box [.int .i64 tn, .slice Y tl.length capy] hB4).1)
    clear hB4
    go_wp2_with fail
    refine (awake_any _).mono ?_
    rintro e w5 ⟨rfl, hB5⟩
    go_wp2
    go_ret
    exact Ret.bool rfl (bthen HB4.out hB5)

theorem row_drew {W : World} {B sz n : Nat} {v : Value} {xs : List Value} (h : Row W B sz v n xs) : Row W.drew B sz v n xs := h
theorem keep1 {W w' : World} (hB : Below W.heap.size W w') {p : Addr} {v : Value} (h : W.cell? p = some v) : w'.cell? p = some v := (hB.cell (World.block_lt_of_cell? W _ h)).trans h
theorem keep6 {W w' : World} (hB : Below W.heap.size W w') {p1 p2 p3 p4 p5 p6 : Addr} {v1 v2 v3 v4 v5 v6 : Value}
    (h : W.cell? p1 = some v1 ∧ W.cell? p2 = some v2 ∧ W.cell? p3 = some v3 ∧ W.cell? p4 = some v4 ∧ W.cell? p5 = some v5 ∧ W.cell? p6 = some v6) :
    w'.cell? p1 = some v1 ∧ w'.cell? p2 = some v2 ∧ w'.cell? p3 = some v3 ∧ w'.cell? p4 = some v4 ∧ w'.cell? p5 = some v5 ∧ w'.cell? p6 = some v6 :=
  ⟨keep1 hB h.1, keep1 hB h.2.1, keep1 hB h.2.2.1, keep1 hB h.2.2.2.1, keep1 hB h.2.2.2.2.1, keep1 hB h.2.2.2.2.2⟩
theorem begL_len (n : Int) : (begL n).length ≤ 1000 := by
  unfold begL
  split
  · rename_i h; have := cntd_iff.1 h; simp [falses]; omega
  · simp

set_option maxRecDepth 100000 in
set_option maxHeartbeats 1000000 in
theorem checks_law (n : Int) (A : Option Addr) (m cap : Nat) (i : Int) (w : World) (hv : Inn w A m cap) :
    Calls Try.prog 3 #[.agg #[.int .i64 n, .slice A m cap], .int .i64 i] w (Ret (.bool true) w) := by
  by_cases hm : 12 < m
  · have t1 : decide ((m : Int) ≤ 12) = false := decide_eq_false (by omega)
    have HF := hide (few_any n A m cap)
    rw [t1] at HF
    clear t1
    go_enter Try.func3, Try.ntmps3
    go_wp2_with fail
    refine (HF.out _).mono ?_
    rintro e w1 ⟨rfl, hb1⟩
    go_wp2_with fail
    refine (awake_any _).mono ?_
    rintro e w2 ⟨rfl, hb2⟩
    go_wp2
    go_ret
    exact Ret.bool rfl (bthen (step_box [.int .i64 n, .slice A m cap] hb1).1 hb2)
  · have t1 : decide ((m : Int) ≤ 12) = true := decide_eq_true (by omega)
    have HF := hide (few_any n A m cap)
    rw [t1] at HF
    clear t1
    obtain ⟨l, rfl, hrow⟩ := hv (by omega)
    have HR := hide (hrow.laid (.cells #[.int .i64 n, .slice A l.length cap] 24))
    clear hrow hv
    go_enter Try.func3, Try.ntmps3
    go_wp2_with fail
    refine (HF.out _).mono ?_
    rintro e w1 ⟨rfl, hb1⟩
    obtain ⟨hb1', hz1, hx1⟩ := step_box [.int .i64 n, .slice A l.length cap] hb1
    have a0 := hx1 0 _ rfl
    have a1 := hx1 1 _ rfl
    have HR1 := hide (HR.out.grow hb1)
    have HB1 := hide hb1'
    clear hx1 hb1 hb1' HF HR
    have hlx : l.length ≤ 1000 := by omega
    have HT1 := hide (begin_any i)
    have HT2 := hide (rbegin_any i)
    have HL := hide (begL_len i)
    have HC1 := hide (@check_any n (.slice A l.length cap) l)
    have HC2 := hide (@rcheck_any n (.slice A l.length cap) l)
    generalize chk n l = c at *
    generalize begE i = te at *
    generalize begL i = tl at *
    go_wp2_with fail
    refine (HT1.out _).mono ?_
    rintro e w2 ⟨vx, rfl, hRx, hB2⟩
    simp only [List.append_toArray, List.cons_append, List.nil_append]
    obtain ⟨X, capx, rfl⟩ := hRx.form
    have b0 := ((bcell hB2).1 _ 0 hz1).trans a0
    have b1 := ((bcell hB2).1 _ 1 hz1).trans a1
    have hz2 : w.heap.size < w2.heap.size := by have := hB2.size; omega
    have HB2 := hide (bthen HB1.out hB2)
    have HR2 := hide ((HR1.out.grow hB2).laid (.cells #[.int .i64 0, .slice X tl.length capx] 24))
    have HX2 := hide (hRx.laid (.cells #[.int .i64 0, .slice X tl.length capx] 24))
    clear hB2 a0 a1 HR1 hRx
    go_wp2_with fail
    refine (HT2.out _).mono ?_
    rintro e w3 ⟨vy, rfl, hRy, hB3⟩
    simp only [List.append_toArray, List.cons_append, List.nil_append]
    obtain ⟨Y, capy, rfl⟩ := hRy.form
    obtain ⟨hb3, hz3, hx3⟩ := step_box [.int .i64 0, .slice X tl.length capx] hB3
    have c0 := hx3 0 _ rfl
    have c1 := hx3 1 _ rfl
    have d0 := ((bcell hb3).1 _ 0 hz2).trans b0
    have d1 := ((bcell hb3).1 _ 1 hz2).trans b1
    have hz23 : w.heap.size < w3.heap.size := by omega
    have HB3 := hide (bthen HB2.out hb3)
    have HR3 := hide ((HR2.out.grow hB3).laid (.cells #[.int .i64 0, .slice Y tl.length capy] 24))
    have HX3 := hide ((HX2.out.grow hB3).laid (.cells #[.int .i64 0, .slice Y tl.length capy] 24))
    have HY3 := hide (hRy.laid (.cells #[.int .i64 0, .slice Y tl.length capy] 24))
    clear hB3 hb3 hx3 hRy b0 b1 HR2 HX2
    obtain ⟨W, hW⟩ : ∃ W, w3.alloc (.cells #[.int .i64 0, .slice Y tl.length capy] 24) = W := ⟨_, rfl⟩
    have hBW : Below w3.heap.size w3 W := by rw [← hW]; exact (Below.refl _ _).alloc (Nat.le_refl _) _
    have hcy := cells_lit w3 [.int .i64 0, .slice Y tl.length capy] 24
    rw [hW] at hcy
    have y0 := hcy 0 _ rfl
    have y1 := hcy 1 _ rfl
    have x0 := ((bcell hBW).1 _ 0 hz3).trans c0
    have x1 := ((bcell hBW).1 _ 1 hz3).trans c1
    have z0 := ((bcell hBW).1 _ 0 hz23).trans d0
    have z1 := ((bcell hBW).1 _ 1 hz23).trans d1
    have HBW := hide (bthen HB3.out hBW)
    go_wp2_with fail
    rw [hW] at HR3 HX3 HY3
    clear hW hBW c0 c1 d0 d1 hcy
    go_region_held3 (fun w' => w'.cell? ⟨w.heap.size, 0, none⟩ = some (.int .i64 n) ∧ w'.cell? ⟨w.heap.size, 1, none⟩ = some (.slice A l.length cap) ∧ w'.cell? ⟨w2.heap.size, 0, none⟩ = some (.int .i64 0) ∧ w'.cell? ⟨w2.heap.size, 1, none⟩ = some (.slice X tl.length capx) ∧ w'.cell? ⟨w3.heap.size, 0, none⟩ = some (.int .i64 0) ∧ w'.cell? ⟨w3.heap.size, 1, none⟩ = some (.slice Y tl.length capy))
      (first | go_keep | exact keep6 hB4 ⟨z0, z1, x0, x1, y0, y1⟩ | exact keep6 hB5 (keep6 hB4 ⟨z0, z1, x0, x1, y0, y1⟩) | exact keep6 hB6 (keep6 hB5 (keep6 hB4 ⟨z0, z1, x0, x1, y0, y1⟩)) | exact keep6 hB7 (keep6 hB6 (keep6 hB5 (keep6 hB4 ⟨z0, z1, x0, x1, y0, y1⟩))))
      (first
        | (go_at_call 13; refine (HC1.out _ hlx (row_drew HR3.out)).mono ?_; rintro e w4 ⟨rfl, hB4⟩)
        | (go_at_call 14; refine (HC2.out _ hlx ((row_drew HR3.out).grow hB4)).mono ?_; rintro e w5 ⟨rfl, hB5⟩)
        | (go_at_call 15; refine (same_any 0 _ _ tl _ HL.out (((row_drew HX3.out).grow hB4).grow hB5) (((row_drew HY3.out).grow hB4).grow hB5)).mono ?_; rintro e w6 ⟨rfl, hB6⟩)
        | (go_at_call 10; refine (awake_any _).mono ?_; rintro e w7 ⟨rfl, hB7⟩))
    go_wp2
    go_ret
    exact Ret.bool rfl (bthen (bthen (bthen (bthen (below_drewN HBW.out 1) hB4) hB5) hB6) hB7)

theorem insL_len (n : Int) (l : List Bool) (hl : l.length ≤ 12) : (insL n l).length ≤ 1000 := by
  unfold insL
  split
  · have := selI_len l l.length; omega
  · simp

set_option maxRecDepth 100000 in
set_option maxHeartbeats 1000000 in
theorem shows_law (n : Int) (A : Option Addr) (m cap : Nat) (i : Int) (w : World) (hv : Inn w A m cap) :
    Calls Try.prog 8 #[.agg #[.int .i64 n, .slice A m cap], .int .i64 i] w (Ret (.bool true) w) := by
  by_cases hm : 12 < m
  · have t1 : decide ((m : Int) ≤ 12) = false := decide_eq_false (by omega)
    have HF := hide (few_any n A m cap)
    rw [t1] at HF
    clear t1
    go_enter Try.func8, Try.ntmps8
    go_wp2_with fail
    refine (HF.out _).mono ?_
    rintro e w1 ⟨rfl, hb1⟩
    go_wp2_with fail
    refine (awake_any _).mono ?_
    rintro e w2 ⟨rfl, hb2⟩
    go_wp2
    go_ret
    exact Ret.bool rfl (bthen (step_box [.int .i64 n, .slice A m cap] hb1).1 hb2)
  · have t1 : decide ((m : Int) ≤ 12) = true := decide_eq_true (by omega)
    have HF := hide (few_any n A m cap)
    rw [t1] at HF
    clear t1
    obtain ⟨l, rfl, hrow⟩ := hv (by omega)
    have HR := hide (hrow.laid (.cells #[.int .i64 n, .slice A l.length cap] 24))
    clear hrow hv
    go_enter Try.func8, Try.ntmps8
    go_wp2_with fail
    refine (HF.out _).mono ?_
    rintro e w1 ⟨rfl, hb1⟩
    obtain ⟨hb1', hz1, hx1⟩ := step_box [.int .i64 n, .slice A l.length cap] hb1
    have a0 := hx1 0 _ rfl
    have a1 := hx1 1 _ rfl
    have HR1 := hide (HR.out.grow hb1)
    have HB1 := hide hb1'
    clear hx1 hb1 hb1' HF HR
    have hlx : l.length ≤ 1000 := by omega
    have HK1 := hide (blocked_any n (.slice A l.length cap) l i)
    have HK2 := hide (rblocked_any n (.slice A l.length cap) l i)
    have HA1 := hide (aligned_any n (.slice A l.length cap) l)
    have HA2 := hide (raligned_any n (.slice A l.length cap) l)
    have HI1 := hide (inputs_any n (.slice A l.length cap) l)
    have HI2 := hide (rinputs_any n (.slice A l.length cap) l)
    have HL := hide (insL_len n l (by omega))
    generalize insL n l = tl at *
    generalize chk n l = c at *
    generalize algV n l = av at *
    generalize blkV n l i = bv at *
    generalize inp n l i = ic at *
    go_wp2_with fail
    refine (HK1.out _ hlx HR1.out).mono ?_
    rintro e w2 ⟨rfl, hB2⟩
    have b0 := ((bcell hB2).1 _ 0 hz1).trans a0
    have b1 := ((bcell hB2).1 _ 1 hz1).trans a1
    have hz2 : w.heap.size < w2.heap.size := by have := hB2.size; omega
    have HB2 := hide (bthen HB1.out hB2)
    have HR2 := hide (HR1.out.grow hB2)
    clear hB2 a0 a1 HR1 HK1
    go_wp2_with fail
    refine (HK2.out _ hlx HR2.out).mono ?_
    rintro e w3 ⟨rfl, hB3⟩
    have c0 := ((bcell hB3).1 _ 0 hz2).trans b0
    have c1 := ((bcell hB3).1 _ 1 hz2).trans b1
    have hz3 : w.heap.size < w3.heap.size := by have := hB3.size; omega
    have HB3 := hide (bthen HB2.out hB3)
    have HR3 := hide (HR2.out.grow hB3)
    clear hB3 b0 b1 HR2 HK2
    go_wp2_with fail
    refine (HA1.out _ hlx HR3.out).mono ?_
    rintro e w4 ⟨rfl, hB4⟩
    have d0 := ((bcell hB4).1 _ 0 hz3).trans c0
    have d1 := ((bcell hB4).1 _ 1 hz3).trans c1
    have hz4 : w.heap.size < w4.heap.size := by have := hB4.size; omega
    have HB4 := hide (bthen HB3.out hB4)
    have HR4 := hide (HR3.out.grow hB4)
    clear hB4 c0 c1 HR3 HA1
    go_wp2_with fail
    refine (HA2.out _ hlx HR4.out).mono ?_
    rintro e w5 ⟨rfl, hB5⟩
    have e0 := ((bcell hB5).1 _ 0 hz4).trans d0
    have e1 := ((bcell hB5).1 _ 1 hz4).trans d1
    have hz5 : w.heap.size < w5.heap.size := by have := hB5.size; omega
    have HB5 := hide (bthen HB4.out hB5)
    have HR5 := hide (HR4.out.grow hB5)
    clear hB5 d0 d1 HR4 HA2
    go_wp2_with fail
    refine (HI1.out _ hlx HR5.out).mono ?_
    rintro e w6 ⟨v6, rfl, hR6, hB6⟩
    obtain ⟨X, capx, rfl⟩ := hR6.form
    have f0 := ((bcell hB6).1 _ 0 hz5).trans e0
    have f1 := ((bcell hB6).1 _ 1 hz5).trans e1
    have hz6 : w.heap.size < w6.heap.size := by have := hB6.size; omega
    have HX6 := hide hR6
    have HB6 := hide (bthen HB5.out hB6)
    have HR6 := hide (HR5.out.grow hB6)
    clear hB6 hR6 e0 e1 HR5 HI1
    go_wp2_with fail
    refine (HI2.out _ hlx HR6.out).mono ?_
    rintro e w7 ⟨v7, rfl, hR7, hB7⟩
    obtain ⟨Y, capy, rfl⟩ := hR7.form
    have HY7 := hide hR7
    have HX7 := hide (HX6.out.grow hB7)
    have HB7 := hide (bthen HB6.out hB7)
    clear hB7 hR7 f0 f1 HR6 HI2 HX6
    go_wp2_with fail
    refine (equal_int _ _ tl _ HL.out HX7.out HY7.out).mono ?_
    rintro e w8 ⟨rfl, hB8⟩
    have HB8 := hide (bthen HB7.out hB8)
    clear hB8 HX7 HY7
    go_wp2_with fail
    refine (awake_any _).mono ?_
    rintro e w9 ⟨rfl, hB9⟩
    go_wp2
    go_ret
    exact Ret.bool rfl (bthen HB8.out hB9)
end Go.Proofs.Ytjahjefkfcifhaa
