/- The reference's bare, attempt and Check; Check of the program at any coordinator. -/
import Derived.Test.YtihbonndinnohaaQCheck2
namespace Go.Proofs.Ytihbonndinnohaa
open Go.RowKit
set_option linter.unusedVariables false
set_option linter.unusedSimpArgs false
theorem chk_any (w : World) (v : Value) (c : Cq) (h : CoV w v c) : Calls Try.prog 13 #[v] w (Ret (.int .i64 (chkQ c)) w) := by
  obtain ⟨u, rfl, hl, -⟩ := h
  obtain ⟨A, cap, rfl⟩ := hl.form
  have hmx := Lst.len hl
  unfold chkQ
  cases hok : numsOk c
  · rw [if_pos rfl]; exact chk_bad c A cap w hok
  · rw [if_neg (by simp)]
    by_cases hm : 256 < c.atts.length
    · rw [if_pos hm]; exact chk_many c A cap w hok hm hmx
    · rw [if_neg hm]; exact chk_go c A cap w hl hok (by omega)
set_option maxHeartbeats 1000000 in
theorem bare_any (w : World) (A D : Option Addr) (n c k d : Nat) (hn : n ≤ 140737488351232) (hk : k ≤ 140737488351232) : Calls Try.prog 57 #[.agg #[.slice A n c, .slice D k d]] w (Ret (.bool (decide (n = 0) && decide (k = 0))) w) := by
  have HE : Hid ((decide (n = 0) && decide (k = 0)) = (decide ((n : Int) = 0) && decide ((k : Int) = 0))) := hide (by rw [Bool.eq_iff_iff]; simp)
  by_cases h1 : (n : Int) = 0
  · by_cases h2 : (k : Int) = 0
    · have HX : Hid ((decide (n = 0) && decide (k = 0)) = true) := hide (by simp; omega)
      have t1 : ((n : Int) == 0) = true := by rw [beq_iff_eq]; exact h1
      have t2 : ((k : Int) == 0) = true := by rw [beq_iff_eq]; exact h2
      clear h1 h2 HE
      go_enter Try.func57, Try.ntmps57
      go_wp2
      go_ret
      exact Ret.bool HX.out.symm (below_laid _)
    · have HX : Hid ((decide (n = 0) && decide (k = 0)) = false) := hide (by simp; omega)
      have t1 : ((n : Int) == 0) = true := by rw [beq_iff_eq]; exact h1
      have t2 : ((k : Int) == 0) = false := by rw [beq_eq_false_iff_ne]; exact h2
      clear h1 h2 HE
      go_enter Try.func57, Try.ntmps57
      go_wp2
      go_ret
      exact Ret.bool HX.out.symm (below_laid _)
  · have HX : Hid ((decide (n = 0) && decide (k = 0)) = false) := hide (by simp; omega)
    have t1 : ((n : Int) == 0) = false := by rw [beq_eq_false_iff_ne]; exact h1
    clear h1 HE
    go_enter Try.func57, Try.ntmps57
    go_wp2
    go_ret
    exact Ret.bool HX.out.symm (below_laid _)
/-- The errors of number and shape. -/
def errA (num least next : Int) (nr fr nh fh no : Nat) : Int :=
  if num ≤ least ∨ next ≤ num then 14 else if nr < 1 ∨ 8 < nr ∨ nr ≠ fr ∨ nh < 1 ∨ 8 < nh ∨ nh ≠ fh ∨ no ≠ nh then 15 else 0
def errN (c : Cq) (i : Nat) : Int := errA (attQ c i).num (leastQ c i) c.next (attQ c i).rds.length (attQ c 0).rds.length (attQ c i).hv.length (attQ c 0).hv.length (attQ c i).ops.length
theorem errN_bad {c : Cq} {i : Nat} (h : errN c i ≠ 0) : errQ c i = errN c i := by
  unfold errN errA at h ⊢
  unfold errQ ok1 ok2 ok3
  by_cases h1 : (attQ c i).num ≤ leastQ c i ∨ c.next ≤ (attQ c i).num
  · rw [if_pos h1, if_pos (by simp; omega)]
  · rw [if_neg h1] at h ⊢
    by_cases h2 : (attQ c i).rds.length < 1 ∨ 8 < (attQ c i).rds.length ∨ (attQ c i).rds.length ≠ (attQ c 0).rds.length ∨ (attQ c i).hv.length < 1 ∨ 8 < (attQ c i).hv.length ∨ (attQ c i).hv.length ≠ (attQ c 0).hv.length ∨ (attQ c i).ops.length ≠ (attQ c i).hv.length
    · rw [if_pos h2, if_neg (by simp; omega), if_pos (by simp; omega)]
    · rw [if_neg h2] at h; exact absurd rfl h
theorem errN_ok {c : Cq} {i : Nat} (h : errN c i = 0) : errQ c i = (if ok4 c i = false then 3 else if ok5 c i = false then 21 else 0) ∧ leastQ c i < (attQ c i).num ∧ (attQ c i).num < c.next ∧ 1 ≤ (attQ c i).rds.length ∧ (attQ c i).rds.length ≤ 8 ∧ (attQ c i).rds.length = (attQ c 0).rds.length ∧ 1 ≤ (attQ c i).hv.length ∧ (attQ c i).hv.length ≤ 8 ∧ (attQ c i).hv.length = (attQ c 0).hv.length ∧ (attQ c i).ops.length = (attQ c i).hv.length := by
  unfold errN errA at h
  by_cases h1 : (attQ c i).num ≤ leastQ c i ∨ c.next ≤ (attQ c i).num
  · rw [if_pos h1] at h; simp at h
  · rw [if_neg h1] at h
    by_cases h2 : (attQ c i).rds.length < 1 ∨ 8 < (attQ c i).rds.length ∨ (attQ c i).rds.length ≠ (attQ c 0).rds.length ∨ (attQ c i).hv.length < 1 ∨ 8 < (attQ c i).hv.length ∨ (attQ c i).hv.length ≠ (attQ c 0).hv.length ∨ (attQ c i).ops.length ≠ (attQ c i).hv.length
    · rw [if_pos h2] at h; simp at h
    · refine ⟨?_, by omega⟩
      unfold errQ ok1 ok2 ok3
      rw [if_neg (by simp; omega), if_neg (by simp; omega)]
section
variable (w : World) (next dur num least x0 : Int) (g off n cap i : Nat) (A1 A2 A3 D1 D2 D3 : Option Addr) (nr no nh fr fo fh c1 c2 c3 d1 d2 d3 : Nat)
set_option maxRecDepth 100000 in
set_option maxHeartbeats 8000000 in
theorem ratt_bad (hi : i < n) (hn : (n : Int) ≤ 9223372036854775807) (k0 : w.cell? ⟨g, off + i * 4, none⟩ = some (.int .i64 num)) (k1 : w.cell? ⟨g, off + i * 4 + 1, none⟩ = some (.slice A1 nr c1)) (k2 : w.cell? ⟨g, off + i * 4 + 2, none⟩ = some (.slice A2 no c2)) (k3 : w.cell? ⟨g, off + i * 4 + 3, none⟩ = some (.slice A3 nh c3)) (f0 : w.cell? ⟨g, off, none⟩ = some (.int .i64 x0)) (f1 : w.cell? ⟨g, off + 1, none⟩ = some (.slice D1 fr d1)) (f2 : w.cell? ⟨g, off + 2, none⟩ = some (.slice D2 fo d2)) (f3 : w.cell? ⟨g, off + 3, none⟩ = some (.slice D3 fh d3)) (hg : g < w.heap.size) (hle : (i = 0 ∧ least = dur) ∨ (0 < i ∧ w.cell? ⟨g, off + (i - 1) * 4, none⟩ = some (.int .i64 least))) (hl : (nr : Int) ≤ 9223372036854775807 ∧ (nh : Int) ≤ 9223372036854775807 ∧ (no : Int) ≤ 9223372036854775807) (hbad : errA num least next nr fr nh fh no ≠ 0) :
    Calls Try.prog 39 #[.agg #[.int .i64 next, .slice (some ⟨g, off, none⟩) n cap, .int .i64 dur], .int .i64 (i : Int)] w (Ret (.int .i64 (errA num least next nr fr nh fh no)) w) := by
  have hu0 : (0 : Int) ≤ (i : Int) := by omega
  have hu1 : (i : Int) < (n : Int) := by omega
  have hn0 : (0 : Int) < (n : Int) := by omega
  obtain ⟨hl1, hl2, hl3⟩ := hl
  by_cases a0 : num ≤ least
  · have HE : Hid (errA num least next nr fr nh fh no = 14) := hide (by unfold errA; rw [if_pos (by omega)])
    have b0 : decide (num ≤ least) = true := decide_eq_true (by omega)
    clear a0 hbad
    rcases hle with ⟨h0, rfl⟩ | ⟨h0, q0⟩
    · have hd : decide (0 < i) = false := decide_eq_false (by omega)
      clear h0
      go_enter Try.func39, Try.ntmps39
      go_wp2
      go_ret
      exact Ret.int HE.out.symm ((below_laid _).alloc (by simp) _)
    · have hd : decide (0 < i) = true := decide_eq_true (by omega)
      have hs0 : (0 : Int) ≤ (i : Int) - 1 := by omega
      have hs1 : (i : Int) - 1 < (n : Int) := by omega
      have hT : ((i : Int) - 1).toNat = i - 1 := by omega
      clear h0
      go_enter Try.func39, Try.ntmps39
      go_wp2
      go_ret
      exact Ret.int HE.out.symm ((below_laid _).alloc (by simp) _)
  · skip
    by_cases a1 : next ≤ num
    · have HE : Hid (errA num least next nr fr nh fh no = 14) := hide (by unfold errA; rw [if_pos (by omega)])
      have b0 : decide (num ≤ least) = false := decide_eq_false (by omega)
      have b1 : decide (next ≤ num) = true := decide_eq_true (by omega)
      clear a0 a1 hbad
      rcases hle with ⟨h0, rfl⟩ | ⟨h0, q0⟩
      · have hd : decide (0 < i) = false := decide_eq_false (by omega)
        clear h0
        go_enter Try.func39, Try.ntmps39
        go_wp2
        go_ret
        exact Ret.int HE.out.symm ((below_laid _).alloc (by simp) _)
      · have hd : decide (0 < i) = true := decide_eq_true (by omega)
        have hs0 : (0 : Int) ≤ (i : Int) - 1 := by omega
        have hs1 : (i : Int) - 1 < (n : Int) := by omega
        have hT : ((i : Int) - 1).toNat = i - 1 := by omega
        clear h0
        go_enter Try.func39, Try.ntmps39
        go_wp2
        go_ret
        exact Ret.int HE.out.symm ((below_laid _).alloc (by simp) _)
    · skip
      by_cases a2 : nr < 1
      · have HE : Hid (errA num least next nr fr nh fh no = 15) := hide (by unfold errA; rw [if_neg (by omega), if_pos (by omega)])
        have b0 : decide (num ≤ least) = false := decide_eq_false (by omega)
        have b1 : decide (next ≤ num) = false := decide_eq_false (by omega)
        have b2 : decide ((nr : Int) < 1) = true := decide_eq_true (by omega)
        clear a0 a1 a2 hbad
        rcases hle with ⟨h0, rfl⟩ | ⟨h0, q0⟩
        · have hd : decide (0 < i) = false := decide_eq_false (by omega)
          clear h0
          go_enter Try.func39, Try.ntmps39
          go_wp2
          go_ret
          exact Ret.int HE.out.symm (((below_laid _).alloc (by simp) _).alloc (by simp only [World.size_alloc]; omega) _)
        · have hd : decide (0 < i) = true := decide_eq_true (by omega)
          have hs0 : (0 : Int) ≤ (i : Int) - 1 := by omega
          have hs1 : (i : Int) - 1 < (n : Int) := by omega
          have hT : ((i : Int) - 1).toNat = i - 1 := by omega
          clear h0
          go_enter Try.func39, Try.ntmps39
          go_wp2
          go_ret
          exact Ret.int HE.out.symm (((below_laid _).alloc (by simp) _).alloc (by simp only [World.size_alloc]; omega) _)
      · skip
        by_cases a3 : 8 < nr
        · have HE : Hid (errA num least next nr fr nh fh no = 15) := hide (by unfold errA; rw [if_neg (by omega), if_pos (by omega)])
          have b0 : decide (num ≤ least) = false := decide_eq_false (by omega)
          have b1 : decide (next ≤ num) = false := decide_eq_false (by omega)
          have b2 : decide ((nr : Int) < 1) = false := decide_eq_false (by omega)
          have b3 : decide ((8 : Int) < (nr : Int)) = true := decide_eq_true (by omega)
          clear a0 a1 a2 a3 hbad
          rcases hle with ⟨h0, rfl⟩ | ⟨h0, q0⟩
          · have hd : decide (0 < i) = false := decide_eq_false (by omega)
            clear h0
            go_enter Try.func39, Try.ntmps39
            go_wp2
            go_ret
            exact Ret.int HE.out.symm (((below_laid _).alloc (by simp) _).alloc (by simp only [World.size_alloc]; omega) _)
          · have hd : decide (0 < i) = true := decide_eq_true (by omega)
            have hs0 : (0 : Int) ≤ (i : Int) - 1 := by omega
            have hs1 : (i : Int) - 1 < (n : Int) := by omega
            have hT : ((i : Int) - 1).toNat = i - 1 := by omega
            clear h0
            go_enter Try.func39, Try.ntmps39
            go_wp2
            go_ret
            exact Ret.int HE.out.symm (((below_laid _).alloc (by simp) _).alloc (by simp only [World.size_alloc]; omega) _)
        · skip
          by_cases a4 : nr ≠ fr
          · have HE : Hid (errA num least next nr fr nh fh no = 15) := hide (by unfold errA; rw [if_neg (by omega), if_pos (by omega)])
            have b0 : decide (num ≤ least) = false := decide_eq_false (by omega)
            have b1 : decide (next ≤ num) = false := decide_eq_false (by omega)
            have b2 : decide ((nr : Int) < 1) = false := decide_eq_false (by omega)
            have b3 : decide ((8 : Int) < (nr : Int)) = false := decide_eq_false (by omega)
            have b4 : ((nr : Int) != (fr : Int)) = true := by rw [bne_iff_ne]; omega
            clear a0 a1 a2 a3 a4 hbad
            rcases hle with ⟨h0, rfl⟩ | ⟨h0, q0⟩
            · have hd : decide (0 < i) = false := decide_eq_false (by omega)
              clear h0
              go_enter Try.func39, Try.ntmps39
              go_wp2
              go_ret
              exact Ret.int HE.out.symm (((below_laid _).alloc (by simp) _).alloc (by simp only [World.size_alloc]; omega) _)
            · have hd : decide (0 < i) = true := decide_eq_true (by omega)
              have hs0 : (0 : Int) ≤ (i : Int) - 1 := by omega
              have hs1 : (i : Int) - 1 < (n : Int) := by omega
              have hT : ((i : Int) - 1).toNat = i - 1 := by omega
              clear h0
              go_enter Try.func39, Try.ntmps39
              go_wp2
              go_ret
              exact Ret.int HE.out.symm (((below_laid _).alloc (by simp) _).alloc (by simp only [World.size_alloc]; omega) _)
          · skip
            by_cases a5 : nh < 1
            · have HE : Hid (errA num least next nr fr nh fh no = 15) := hide (by unfold errA; rw [if_neg (by omega), if_pos (by omega)])
              have b0 : decide (num ≤ least) = false := decide_eq_false (by omega)
              have b1 : decide (next ≤ num) = false := decide_eq_false (by omega)
              have b2 : decide ((nr : Int) < 1) = false := decide_eq_false (by omega)
              have b3 : decide ((8 : Int) < (nr : Int)) = false := decide_eq_false (by omega)
              have b4 : ((nr : Int) != (fr : Int)) = false := by rw [bne_eq_false_iff_eq]; omega
              have b5 : decide ((nh : Int) < 1) = true := decide_eq_true (by omega)
              clear a0 a1 a2 a3 a4 a5 hbad
              rcases hle with ⟨h0, rfl⟩ | ⟨h0, q0⟩
              · have hd : decide (0 < i) = false := decide_eq_false (by omega)
                clear h0
                go_enter Try.func39, Try.ntmps39
                go_wp2
                go_ret
                exact Ret.int HE.out.symm (((below_laid _).alloc (by simp) _).alloc (by simp only [World.size_alloc]; omega) _)
              · have hd : decide (0 < i) = true := decide_eq_true (by omega)
                have hs0 : (0 : Int) ≤ (i : Int) - 1 := by omega
                have hs1 : (i : Int) - 1 < (n : Int) := by omega
                have hT : ((i : Int) - 1).toNat = i - 1 := by omega
                clear h0
                go_enter Try.func39, Try.ntmps39
                go_wp2
                go_ret
                exact Ret.int HE.out.symm (((below_laid _).alloc (by simp) _).alloc (by simp only [World.size_alloc]; omega) _)
            · skip
              by_cases a6 : 8 < nh
              · have HE : Hid (errA num least next nr fr nh fh no = 15) := hide (by unfold errA; rw [if_neg (by omega), if_pos (by omega)])
                have b0 : decide (num ≤ least) = false := decide_eq_false (by omega)
                have b1 : decide (next ≤ num) = false := decide_eq_false (by omega)
                have b2 : decide ((nr : Int) < 1) = false := decide_eq_false (by omega)
                have b3 : decide ((8 : Int) < (nr : Int)) = false := decide_eq_false (by omega)
                have b4 : ((nr : Int) != (fr : Int)) = false := by rw [bne_eq_false_iff_eq]; omega
                have b5 : decide ((nh : Int) < 1) = false := decide_eq_false (by omega)
                have b6 : decide ((8 : Int) < (nh : Int)) = true := decide_eq_true (by omega)
                clear a0 a1 a2 a3 a4 a5 a6 hbad
                rcases hle with ⟨h0, rfl⟩ | ⟨h0, q0⟩
                · have hd : decide (0 < i) = false := decide_eq_false (by omega)
                  clear h0
                  go_enter Try.func39, Try.ntmps39
                  go_wp2
                  go_ret
                  exact Ret.int HE.out.symm (((below_laid _).alloc (by simp) _).alloc (by simp only [World.size_alloc]; omega) _)
                · have hd : decide (0 < i) = true := decide_eq_true (by omega)
                  have hs0 : (0 : Int) ≤ (i : Int) - 1 := by omega
                  have hs1 : (i : Int) - 1 < (n : Int) := by omega
                  have hT : ((i : Int) - 1).toNat = i - 1 := by omega
                  clear h0
                  go_enter Try.func39, Try.ntmps39
                  go_wp2
                  go_ret
                  exact Ret.int HE.out.symm (((below_laid _).alloc (by simp) _).alloc (by simp only [World.size_alloc]; omega) _)
              · skip
                by_cases a7 : nh ≠ fh
                · have HE : Hid (errA num least next nr fr nh fh no = 15) := hide (by unfold errA; rw [if_neg (by omega), if_pos (by omega)])
                  have b0 : decide (num ≤ least) = false := decide_eq_false (by omega)
                  have b1 : decide (next ≤ num) = false := decide_eq_false (by omega)
                  have b2 : decide ((nr : Int) < 1) = false := decide_eq_false (by omega)
                  have b3 : decide ((8 : Int) < (nr : Int)) = false := decide_eq_false (by omega)
                  have b4 : ((nr : Int) != (fr : Int)) = false := by rw [bne_eq_false_iff_eq]; omega
                  have b5 : decide ((nh : Int) < 1) = false := decide_eq_false (by omega)
                  have b6 : decide ((8 : Int) < (nh : Int)) = false := decide_eq_false (by omega)
                  have b7 : ((nh : Int) != (fh : Int)) = true := by rw [bne_iff_ne]; omega
                  clear a0 a1 a2 a3 a4 a5 a6 a7 hbad
                  rcases hle with ⟨h0, rfl⟩ | ⟨h0, q0⟩
                  · have hd : decide (0 < i) = false := decide_eq_false (by omega)
                    clear h0
                    go_enter Try.func39, Try.ntmps39
                    go_wp2
                    go_ret
                    exact Ret.int HE.out.symm (((below_laid _).alloc (by simp) _).alloc (by simp only [World.size_alloc]; omega) _)
                  · have hd : decide (0 < i) = true := decide_eq_true (by omega)
                    have hs0 : (0 : Int) ≤ (i : Int) - 1 := by omega
                    have hs1 : (i : Int) - 1 < (n : Int) := by omega
                    have hT : ((i : Int) - 1).toNat = i - 1 := by omega
                    clear h0
                    go_enter Try.func39, Try.ntmps39
                    go_wp2
                    go_ret
                    exact Ret.int HE.out.symm (((below_laid _).alloc (by simp) _).alloc (by simp only [World.size_alloc]; omega) _)
                · skip
                  by_cases a8 : no ≠ nh
                  · have HE : Hid (errA num least next nr fr nh fh no = 15) := hide (by unfold errA; rw [if_neg (by omega), if_pos (by omega)])
                    have b0 : decide (num ≤ least) = false := decide_eq_false (by omega)
                    have b1 : decide (next ≤ num) = false := decide_eq_false (by omega)
                    have b2 : decide ((nr : Int) < 1) = false := decide_eq_false (by omega)
                    have b3 : decide ((8 : Int) < (nr : Int)) = false := decide_eq_false (by omega)
                    have b4 : ((nr : Int) != (fr : Int)) = false := by rw [bne_eq_false_iff_eq]; omega
                    have b5 : decide ((nh : Int) < 1) = false := decide_eq_false (by omega)
                    have b6 : decide ((8 : Int) < (nh : Int)) = false := decide_eq_false (by omega)
                    have b7 : ((nh : Int) != (fh : Int)) = false := by rw [bne_eq_false_iff_eq]; omega
                    have b8 : ((no : Int) != (nh : Int)) = true := by rw [bne_iff_ne]; omega
                    clear a0 a1 a2 a3 a4 a5 a6 a7 a8 hbad
                    rcases hle with ⟨h0, rfl⟩ | ⟨h0, q0⟩
                    · have hd : decide (0 < i) = false := decide_eq_false (by omega)
                      clear h0
                      go_enter Try.func39, Try.ntmps39
                      go_wp2
                      go_ret
                      exact Ret.int HE.out.symm (((below_laid _).alloc (by simp) _).alloc (by simp only [World.size_alloc]; omega) _)
                    · have hd : decide (0 < i) = true := decide_eq_true (by omega)
                      have hs0 : (0 : Int) ≤ (i : Int) - 1 := by omega
                      have hs1 : (i : Int) - 1 < (n : Int) := by omega
                      have hT : ((i : Int) - 1).toNat = i - 1 := by omega
                      clear h0
                      go_enter Try.func39, Try.ntmps39
                      go_wp2
                      go_ret
                      exact Ret.int HE.out.symm (((below_laid _).alloc (by simp) _).alloc (by simp only [World.size_alloc]; omega) _)
                  · skip
                    exact absurd (by unfold errA; rw [if_neg (by omega), if_neg (by omega)]) hbad
end
end Go.Proofs.Ytihbonndinnohaa
