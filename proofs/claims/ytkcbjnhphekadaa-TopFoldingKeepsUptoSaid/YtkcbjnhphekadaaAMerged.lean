/- The reference's Combine; the accumulator of two lists. -/
import Derived.Test.YtkcbjnhphekadaaACombine
import Derived.Deep.RegionHeld3
namespace Go.Proofs.Ytkcbjnhphekadaa
open Go.RowKit
set_option linter.unusedVariables false
set_option linter.unusedSimpArgs false
section
variable (q n p m : Int) (s t : ByteArray) (w : World)
/-- single(kind, v). -/
def sinQ (k q : Int) : Int := if k = 0 then 0 else q
def sinS (k : Int) (s : ByteArray) : ByteArray := if k = 0 then ⟨#[]⟩ else s
set_option maxHeartbeats 400000 in
theorem single_any (k : Int) :
    Calls Try.prog 32 #[.int .i64 k, .agg #[.int .i64 q, .int .i64 n, .string s]] w (Ret (.agg #[.int .i64 (sinQ k q), .int .i64 (sinQ k n), .string (sinS k s)]) w) := by
  by_cases hk : k = 0
  · subst hk
    go_enter Try.func32, Try.ntmps32
    go_wp2
    refine bodyPost_ret (v := .agg #[.int .i64 0, .int .i64 0, .string ⟨#[]⟩]) (by rw [results_c rfl]; go_simp) rfl ?_
    exact Ret.mk (by simp [sinQ, sinS]) ((below_laid _).alloc (by simp) _)
  · have t1 : (k == 0) = false := by rw [beq_eq_false_iff_ne]; exact hk
    have HK := hide hk
    clear hk
    go_enter Try.func32, Try.ntmps32
    go_wp2
    refine bodyPost_ret (v := .agg #[.int .i64 q, .int .i64 n, .string s]) (by rw [results_c rfl]; go_simp) rfl ?_
    exact Ret.mk (by simp [sinQ, sinS, HK.out]) ((below_laid _).alloc (by simp) _)
end
/-- merged(a, b). -/
def mrgK (c k l : Int) : Int := if c = 0 then l else k
def mrgQ (k c d q p : Int) : Int := if c = 0 then p else if d = 0 then q else comQ k q p
def mrgN (k c d n m : Int) : Int := if c = 0 then m else if d = 0 then n else comN k n m
def mrgS (k c d : Int) (s t : ByteArray) : ByteArray := if c = 0 then t else if d = 0 then s else comS k s t

theorem keep10 {W w' : World} {A B : Nat} {a0 a1 a2 a3 a4 b0 b1 b2 b3 b4 : Value} (hb : Below W.heap.size W w') (h : (W.cell? ⟨A, 0, none⟩ = some a0 ∧ W.cell? ⟨A, 1, none⟩ = some a1 ∧ W.cell? ⟨A, 2, none⟩ = some a2 ∧ W.cell? ⟨A, 3, none⟩ = some a3 ∧ W.cell? ⟨A, 4, none⟩ = some a4 ∧ W.cell? ⟨B, 0, none⟩ = some b0 ∧ W.cell? ⟨B, 1, none⟩ = some b1 ∧ W.cell? ⟨B, 2, none⟩ = some b2 ∧ W.cell? ⟨B, 3, none⟩ = some b3 ∧ W.cell? ⟨B, 4, none⟩ = some b4)) : (w'.cell? ⟨A, 0, none⟩ = some a0 ∧ w'.cell? ⟨A, 1, none⟩ = some a1 ∧ w'.cell? ⟨A, 2, none⟩ = some a2 ∧ w'.cell? ⟨A, 3, none⟩ = some a3 ∧ w'.cell? ⟨A, 4, none⟩ = some a4 ∧ w'.cell? ⟨B, 0, none⟩ = some b0 ∧ w'.cell? ⟨B, 1, none⟩ = some b1 ∧ w'.cell? ⟨B, 2, none⟩ = some b2 ∧ w'.cell? ⟨B, 3, none⟩ = some b3 ∧ w'.cell? ⟨B, 4, none⟩ = some b4) := by
  obtain ⟨h0, h1, h2, h3, h4, k0, k1, k2, k3, k4⟩ := h
  exact ⟨keep1 hb h0, keep1 hb h1, keep1 hb h2, keep1 hb h3, keep1 hb h4, keep1 hb k0, keep1 hb k1, keep1 hb k2, keep1 hb k3, keep1 hb k4⟩
theorem keep10_store {W : World} {A B R : Nat} {a0 a1 a2 a3 a4 b0 b1 b2 b3 b4 : Value} (hA : A ≠ R) (hB : B ≠ R) (h : (W.cell? ⟨A, 0, none⟩ = some a0 ∧ W.cell? ⟨A, 1, none⟩ = some a1 ∧ W.cell? ⟨A, 2, none⟩ = some a2 ∧ W.cell? ⟨A, 3, none⟩ = some a3 ∧ W.cell? ⟨A, 4, none⟩ = some a4 ∧ W.cell? ⟨B, 0, none⟩ = some b0 ∧ W.cell? ⟨B, 1, none⟩ = some b1 ∧ W.cell? ⟨B, 2, none⟩ = some b2 ∧ W.cell? ⟨B, 3, none⟩ = some b3 ∧ W.cell? ⟨B, 4, none⟩ = some b4)) (v0 v1 v2 v3 v4 : Value) :
    ((((((W.setCell ⟨R, 0, none⟩ v0).setCell ⟨R, 1, none⟩ v1).setCell ⟨R, 2, none⟩ v2).setCell ⟨R, 3, none⟩ v3).setCell ⟨R, 4, none⟩ v4).cell? ⟨A, 0, none⟩ = some a0 ∧ (((((W.setCell ⟨R, 0, none⟩ v0).setCell ⟨R, 1, none⟩ v1).setCell ⟨R, 2, none⟩ v2).setCell ⟨R, 3, none⟩ v3).setCell ⟨R, 4, none⟩ v4).cell? ⟨A, 1, none⟩ = some a1 ∧ (((((W.setCell ⟨R, 0, none⟩ v0).setCell ⟨R, 1, none⟩ v1).setCell ⟨R, 2, none⟩ v2).setCell ⟨R, 3, none⟩ v3).setCell ⟨R, 4, none⟩ v4).cell? ⟨A, 2, none⟩ = some a2 ∧ (((((W.setCell ⟨R, 0, none⟩ v0).setCell ⟨R, 1, none⟩ v1).setCell ⟨R, 2, none⟩ v2).setCell ⟨R, 3, none⟩ v3).setCell ⟨R, 4, none⟩ v4).cell? ⟨A, 3, none⟩ = some a3 ∧ (((((W.setCell ⟨R, 0, none⟩ v0).setCell ⟨R, 1, none⟩ v1).setCell ⟨R, 2, none⟩ v2).setCell ⟨R, 3, none⟩ v3).setCell ⟨R, 4, none⟩ v4).cell? ⟨A, 4, none⟩ = some a4 ∧ (((((W.setCell ⟨R, 0, none⟩ v0).setCell ⟨R, 1, none⟩ v1).setCell ⟨R, 2, none⟩ v2).setCell ⟨R, 3, none⟩ v3).setCell ⟨R, 4, none⟩ v4).cell? ⟨B, 0, none⟩ = some b0 ∧ (((((W.setCell ⟨R, 0, none⟩ v0).setCell ⟨R, 1, none⟩ v1).setCell ⟨R, 2, none⟩ v2).setCell ⟨R, 3, none⟩ v3).setCell ⟨R, 4, none⟩ v4).cell? ⟨B, 1, none⟩ = some b1 ∧ (((((W.setCell ⟨R, 0, none⟩ v0).setCell ⟨R, 1, none⟩ v1).setCell ⟨R, 2, none⟩ v2).setCell ⟨R, 3, none⟩ v3).setCell ⟨R, 4, none⟩ v4).cell? ⟨B, 2, none⟩ = some b2 ∧ (((((W.setCell ⟨R, 0, none⟩ v0).setCell ⟨R, 1, none⟩ v1).setCell ⟨R, 2, none⟩ v2).setCell ⟨R, 3, none⟩ v3).setCell ⟨R, 4, none⟩ v4).cell? ⟨B, 3, none⟩ = some b3 ∧ (((((W.setCell ⟨R, 0, none⟩ v0).setCell ⟨R, 1, none⟩ v1).setCell ⟨R, 2, none⟩ v2).setCell ⟨R, 3, none⟩ v3).setCell ⟨R, 4, none⟩ v4).cell? ⟨B, 4, none⟩ = some b4) := by
  obtain ⟨h0, h1, h2, h3, h4, k0, k1, k2, k3, k4⟩ := h
  refine ⟨?_, ?_, ?_, ?_, ?_, ?_, ?_, ?_, ?_, ?_⟩
  all_goals (rw [World.cell?_setCell_far _ _ _ _ (by first | exact hA.symm | exact hB.symm), World.cell?_setCell_far _ _ _ _ (by first | exact hA.symm | exact hB.symm), World.cell?_setCell_far _ _ _ _ (by first | exact hA.symm | exact hB.symm), World.cell?_setCell_far _ _ _ _ (by first | exact hA.symm | exact hB.symm), World.cell?_setCell_far _ _ _ _ (by first | exact hA.symm | exact hB.symm)]; assumption)
section
variable (k c q n l d p m : Int) (s t : ByteArray) (w : World)
set_option maxHeartbeats 2000000 in
theorem merged_any (hk : knownB k = true) (hc0 : 0 ≤ c) (hc1 : c ≤ 10000) (hd0 : 0 ≤ d) (hd1 : d ≤ 10000) (h0 : -9007199254740992 ≤ n) (h1 : n ≤ 9007199254740992) (h2 : -9007199254740992 ≤ m) (h3 : m ≤ 9007199254740992) :
    Calls Try.prog 31 #[.agg #[.int .i64 k, .int .i64 c, .int .i64 q, .int .i64 n, .string s], .agg #[.int .i64 l, .int .i64 d, .int .i64 p, .int .i64 m, .string t]] w
      (Ret (.agg #[.int .i64 (mrgK c k l), .int .i64 (c + d), .int .i64 (mrgQ k c d q p), .int .i64 (mrgN k c d n m), .string (mrgS k c d s t)]) w) := by
  by_cases hc : c = 0
  · subst hc
    go_enter Try.func31, Try.ntmps31
    go_wp2
    refine bodyPost_ret (v := .agg #[.int .i64 l, .int .i64 d, .int .i64 p, .int .i64 m, .string t]) (by rw [results_c rfl]; go_simp) rfl ?_
    exact Ret.mk (by simp [mrgK, mrgQ, mrgN, mrgS]) (((below_laid _).alloc (by simp) _).alloc (by simp; omega) _)
  · have t1 : (c == 0) = false := by rw [beq_eq_false_iff_ne]; exact hc
    have HC := hide hc
    clear hc
    by_cases hd : d = 0
    · subst hd
      go_enter Try.func31, Try.ntmps31
      go_wp2
      refine bodyPost_ret (v := .agg #[.int .i64 k, .int .i64 c, .int .i64 q, .int .i64 n, .string s]) (by rw [results_c rfl]; go_simp) rfl ?_
      exact Ret.mk (by simp [mrgK, mrgQ, mrgN, mrgS, HC.out]) (((below_laid _).alloc (by simp) _).alloc (by simp; omega) _)
    · have t2 : (d == 0) = false := by rw [beq_eq_false_iff_ne]; exact hd
      have HD := hide hd
      have HK := hide hk
      clear hd hk
      go_enter Try.func31, Try.ntmps31
      go_wp2_with fail
      have ne1 : ¬ w.heap.size + 1 + 1 = w.heap.size := by omega
      have hw : IntKind.i64.wrap (c + d) = c + d := IntWalk.i64_in _ (by omega)
      go_region_held3 (fun w' => (w'.cell? ⟨w.heap.size, 0, none⟩ = some (.int .i64 k) ∧ w'.cell? ⟨w.heap.size, 1, none⟩ = some (.int .i64 c) ∧ w'.cell? ⟨w.heap.size, 2, none⟩ = some (.int .i64 q) ∧ w'.cell? ⟨w.heap.size, 3, none⟩ = some (.int .i64 n) ∧ w'.cell? ⟨w.heap.size, 4, none⟩ = some (.string s) ∧ w'.cell? ⟨(w.heap.size + 1), 0, none⟩ = some (.int .i64 l) ∧ w'.cell? ⟨(w.heap.size + 1), 1, none⟩ = some (.int .i64 d) ∧ w'.cell? ⟨(w.heap.size + 1), 2, none⟩ = some (.int .i64 p) ∧ w'.cell? ⟨(w.heap.size + 1), 3, none⟩ = some (.int .i64 m) ∧ w'.cell? ⟨(w.heap.size + 1), 4, none⟩ = some (.string t)))
        (first | (go_keep; done) | exact keep10 hb ⟨by go_simp, by go_simp, by go_simp, by go_simp, by go_simp, by go_simp, by go_simp, by go_simp, by go_simp, by go_simp⟩)
        (first
          | (go_at_call 56; refine (combine_any _ _ _ _ _ _ _ _ HK.out h0 h1 h2 h3).mono ?_; rintro e w1 ⟨rfl, hb⟩; obtain ⟨hb', hz, hx⟩ := step_box [.int .i64 0, .int .i64 0, .int .i64 0, .int .i64 0, .string ⟨#[]⟩] (below_undrew hb); have y0 := hx 0 _ rfl; have y1 := hx 1 _ rfl; have y2 := hx 2 _ rfl; have y3 := hx 3 _ rfl; have y4 := hx 4 _ rfl; have z0 := step_frozen [.int .i64 0, .int .i64 0, .int .i64 0, .int .i64 0, .string ⟨#[]⟩] (below_undrew hb) 0; have z1 := step_frozen [.int .i64 0, .int .i64 0, .int .i64 0, .int .i64 0, .string ⟨#[]⟩] (below_undrew hb) 1; have z2 := step_frozen [.int .i64 0, .int .i64 0, .int .i64 0, .int .i64 0, .string ⟨#[]⟩] (below_undrew hb) 2; have z3 := step_frozen [.int .i64 0, .int .i64 0, .int .i64 0, .int .i64 0, .string ⟨#[]⟩] (below_undrew hb) 3; have z4 := step_frozen [.int .i64 0, .int .i64 0, .int .i64 0, .int .i64 0, .string ⟨#[]⟩] (below_undrew hb) 4; simp only [World.size_alloc] at y0 y1 y2 y3 y4 z0 z1 z2 z3 z4; clear hx))
      have hbw := bthen (bthen (below_laid _) (below_laid _)) hb'
      clear hb hb' hz ne1 hw
      go_wp2
      refine bodyPost_ret (v := .agg #[.int .i64 k, .int .i64 (c + d), .int .i64 (comQ k q p), .int .i64 (comN k n m), .string (comS k s t)]) (by rw [results_c rfl]; go_simp) rfl ?_
      refine Ret.mk (by simp [mrgK, mrgQ, mrgN, mrgS, HC.out, HD.out]) ?_
      exact ((((hbw.setCell (p := ⟨w.heap.size + 1 + 1, 0, none⟩) (by show w.heap.size ≤ w.heap.size + 1 + 1; omega) _).setCell (p := ⟨w.heap.size + 1 + 1, 1, none⟩) (by show w.heap.size ≤ w.heap.size + 1 + 1; omega) _).setCell (p := ⟨w.heap.size + 1 + 1, 2, none⟩) (by show w.heap.size ≤ w.heap.size + 1 + 1; omega) _).setCell (p := ⟨w.heap.size + 1 + 1, 3, none⟩) (by show w.heap.size ≤ w.heap.size + 1 + 1; omega) _).setCell (p := ⟨w.heap.size + 1 + 1, 4, none⟩) (by show w.heap.size ≤ w.heap.size + 1 + 1; omega) _
end
end Go.Proofs.Ytkcbjnhphekadaa
