/- The step of the fold in Of; the fold itself. -/
import Derived.Test.YtkcbjnhphekadaaAFold
namespace Go.Proofs.Ytkcbjnhphekadaa
open Go.RowKit
set_option linter.unusedVariables false
set_option linter.unusedSimpArgs false
theorem keep9 {W w' : World} {A B C : Nat} {a0 a1 a2 a3 a4 b0 b1 b2 c0 : Value} (hb : Below W.heap.size W w') (h : (W.cell? ⟨A, 0, none⟩ = some a0 ∧ W.cell? ⟨A, 1, none⟩ = some a1 ∧ W.cell? ⟨A, 2, none⟩ = some a2 ∧ W.cell? ⟨A, 3, none⟩ = some a3 ∧ W.cell? ⟨A, 4, none⟩ = some a4 ∧ W.cell? ⟨B, 0, none⟩ = some b0 ∧ W.cell? ⟨B, 1, none⟩ = some b1 ∧ W.cell? ⟨B, 2, none⟩ = some b2 ∧ W.cell? ⟨C, 0, none⟩ = some c0)) : (w'.cell? ⟨A, 0, none⟩ = some a0 ∧ w'.cell? ⟨A, 1, none⟩ = some a1 ∧ w'.cell? ⟨A, 2, none⟩ = some a2 ∧ w'.cell? ⟨A, 3, none⟩ = some a3 ∧ w'.cell? ⟨A, 4, none⟩ = some a4 ∧ w'.cell? ⟨B, 0, none⟩ = some b0 ∧ w'.cell? ⟨B, 1, none⟩ = some b1 ∧ w'.cell? ⟨B, 2, none⟩ = some b2 ∧ w'.cell? ⟨C, 0, none⟩ = some c0) := by
  obtain ⟨h0, h1, h2, h3, h4, k0, k1, k2, i0⟩ := h
  exact ⟨keep1 hb h0, keep1 hb h1, keep1 hb h2, keep1 hb h3, keep1 hb h4, keep1 hb k0, keep1 hb k1, keep1 hb k2, keep1 hb i0⟩
section
variable (k c q n p m : Int) (s t : ByteArray) (w : World)
set_option maxHeartbeats 4000000 in
theorem step_go (C : Nat) (hC : w.cell? ⟨C, 0, none⟩ = some (.int .i64 k)) (hk : knownB k = true) (hc0 : 0 ≤ c) (hc1 : c ≤ 5000) (h0 : -4503599627370496 ≤ n) (h1 : n ≤ 4503599627370496) (h2 : -1099511627776 ≤ m) (h3 : m ≤ 1099511627776) :
    Calls Try.prog 30 #[.agg #[.int .i64 k, .int .i64 c, .int .i64 q, .int .i64 n, .string s], .agg #[.int .i64 p, .int .i64 m, .string t], .pointer (some ⟨C, 0, none⟩)] w
      (Ret (A5.v (mrg ⟨k, c, q, n, s⟩ (one k ⟨p, m, t⟩))) w) := by
  have lC := World.block_lt_of_cell? w _ hC
  obtain ⟨HS0, HS1⟩ := sin_bd k m h2 h3
  have HS0 := hide HS0
  have HS1 := hide HS1
  have HK := hide hk
  clear hk
  have hC3 : (((w.alloc (.cells #[.int .i64 k, .int .i64 c, .int .i64 q, .int .i64 n, .string s] 57)).alloc (.cells #[.int .i64 p, .int .i64 m, .string t] 28)).alloc (.cells #[.int .i64 0, .int .i64 0, .int .i64 0, .int .i64 0, .string ⟨#[]⟩] 57)).cell? ⟨C, 0, none⟩ = some (.int .i64 k) := keep1 (bel3 (Below.refl _ _)) hC
  have ne1 : ¬ w.heap.size + 1 + 1 = w.heap.size := by omega
  have ne2 : ¬ w.heap.size + 1 + 1 = C := by show ¬ w.heap.size + 1 + 1 = C; have : C < w.heap.size := lC; omega
  go_enter Try.func30, Try.ntmps30
  go_wp2_with fail
  go_region_held3 (fun w' => (w'.cell? ⟨w.heap.size, 0, none⟩ = some (.int .i64 k) ∧ w'.cell? ⟨w.heap.size, 1, none⟩ = some (.int .i64 c) ∧ w'.cell? ⟨w.heap.size, 2, none⟩ = some (.int .i64 q) ∧ w'.cell? ⟨w.heap.size, 3, none⟩ = some (.int .i64 n) ∧ w'.cell? ⟨w.heap.size, 4, none⟩ = some (.string s) ∧ w'.cell? ⟨(w.heap.size + 1), 0, none⟩ = some (.int .i64 p) ∧ w'.cell? ⟨(w.heap.size + 1), 1, none⟩ = some (.int .i64 m) ∧ w'.cell? ⟨(w.heap.size + 1), 2, none⟩ = some (.string t) ∧ w'.cell? ⟨C, 0, none⟩ = some (.int .i64 k)))
    (first | (go_keep; done) | exact keep9 hb ⟨by go_simp, by go_simp, by go_simp, by go_simp, by go_simp, by go_simp, by go_simp, by go_simp, by go_simp⟩ | exact keep9 hb2 (keep9 hb ⟨by go_simp, by go_simp, by go_simp, by go_simp, by go_simp, by go_simp, by go_simp, by go_simp, by go_simp⟩))
    (first
      | (go_at_call 32; refine (single_any p m t _ k).mono ?_; rintro e w3 ⟨rfl, hb⟩; have hz3 := hb.size; simp only [World.size_drew, World.size_alloc] at hz3; replace r0 := keep1 hb (p := ⟨(w.heap.size + 1 + 1), 0, none⟩) (v := .int .i64 (0)) (by go_simp); replace r1 := keep1 hb (p := ⟨(w.heap.size + 1 + 1), 1, none⟩) (v := .int .i64 (0)) (by go_simp); replace r2 := keep1 hb (p := ⟨(w.heap.size + 1 + 1), 2, none⟩) (v := .int .i64 (0)) (by go_simp); replace r3 := keep1 hb (p := ⟨(w.heap.size + 1 + 1), 3, none⟩) (v := .int .i64 (0)) (by go_simp); replace r4 := keep1 hb (p := ⟨(w.heap.size + 1 + 1), 4, none⟩) (v := .string ⟨#[]⟩) (by go_simp); replace g0 := keepf hb (p := ⟨(w.heap.size + 1 + 1), 0, none⟩) (by simp; try omega) (by go_simp); replace g1 := keepf hb (p := ⟨(w.heap.size + 1 + 1), 1, none⟩) (by simp; try omega) (by go_simp); replace g2 := keepf hb (p := ⟨(w.heap.size + 1 + 1), 2, none⟩) (by simp; try omega) (by go_simp); replace g3 := keepf hb (p := ⟨(w.heap.size + 1 + 1), 3, none⟩) (by simp; try omega) (by go_simp); replace g4 := keepf hb (p := ⟨(w.heap.size + 1 + 1), 4, none⟩) (by simp; try omega) (by go_simp))
      | (go_at_call 31; refine (merged_any k c q n k 1 (sinQ k p) (sinQ k m) s (sinS k t) _ HK.out hc0 (by omega) (by omega) (by omega) (by omega) (by omega) HS0.out HS1.out).mono ?_; rintro e w4 ⟨rfl, hb2⟩; replace r0 := keep1 hb2 (p := ⟨(w.heap.size + 1 + 1), 0, none⟩) (v := .int .i64 (0)) (by go_simp); replace r1 := keep1 hb2 (p := ⟨(w.heap.size + 1 + 1), 1, none⟩) (v := .int .i64 (0)) (by go_simp); replace r2 := keep1 hb2 (p := ⟨(w.heap.size + 1 + 1), 2, none⟩) (v := .int .i64 (0)) (by go_simp); replace r3 := keep1 hb2 (p := ⟨(w.heap.size + 1 + 1), 3, none⟩) (v := .int .i64 (0)) (by go_simp); replace r4 := keep1 hb2 (p := ⟨(w.heap.size + 1 + 1), 4, none⟩) (v := .string ⟨#[]⟩) (by go_simp); replace g0 := keepf hb2 (p := ⟨(w.heap.size + 1 + 1), 0, none⟩) (by simp; try omega) (by go_simp); replace g1 := keepf hb2 (p := ⟨(w.heap.size + 1 + 1), 1, none⟩) (by simp; try omega) (by go_simp); replace g2 := keepf hb2 (p := ⟨(w.heap.size + 1 + 1), 2, none⟩) (by simp; try omega) (by go_simp); replace g3 := keepf hb2 (p := ⟨(w.heap.size + 1 + 1), 3, none⟩) (by simp; try omega) (by go_simp); replace g4 := keepf hb2 (p := ⟨(w.heap.size + 1 + 1), 4, none⟩) (by simp; try omega) (by go_simp)))
  have hbw3 := bthen (bel3 (below_undrew hb)) hb2
  clear hb hb2 ne1 ne2
  go_wp2
  refine bodyPost_ret (v := A5.v (mrg ⟨k, c, q, n, s⟩ (one k ⟨p, m, t⟩))) (by rw [results_c rfl]; simp only [mrg, one, A5.v]; go_simp) rfl ?_
  exact Ret.mk rfl (below_set5 hbw3 (by omega) _ _ _ _ _)
end
end Go.Proofs.Ytkcbjnhphekadaa
