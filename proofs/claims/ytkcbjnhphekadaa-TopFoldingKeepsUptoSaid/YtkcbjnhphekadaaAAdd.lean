/- Add, of the program and of the reference. -/
import Derived.Test.YtkcbjnhphekadaaARMerge
namespace Go.Proofs.Ytkcbjnhphekadaa
open Go.RowKit
set_option linter.unusedVariables false
set_option linter.unusedSimpArgs false
theorem keep8 {W w' : World} {A B : Nat} {a0 a1 a2 a3 a4 b0 b1 b2 : Value} (hb : Below W.heap.size W w') (h : (W.cell? ⟨A, 0, none⟩ = some a0 ∧ W.cell? ⟨A, 1, none⟩ = some a1 ∧ W.cell? ⟨A, 2, none⟩ = some a2 ∧ W.cell? ⟨A, 3, none⟩ = some a3 ∧ W.cell? ⟨A, 4, none⟩ = some a4 ∧ W.cell? ⟨B, 0, none⟩ = some b0 ∧ W.cell? ⟨B, 1, none⟩ = some b1 ∧ W.cell? ⟨B, 2, none⟩ = some b2)) : (w'.cell? ⟨A, 0, none⟩ = some a0 ∧ w'.cell? ⟨A, 1, none⟩ = some a1 ∧ w'.cell? ⟨A, 2, none⟩ = some a2 ∧ w'.cell? ⟨A, 3, none⟩ = some a3 ∧ w'.cell? ⟨A, 4, none⟩ = some a4 ∧ w'.cell? ⟨B, 0, none⟩ = some b0 ∧ w'.cell? ⟨B, 1, none⟩ = some b1 ∧ w'.cell? ⟨B, 2, none⟩ = some b2) := by
  obtain ⟨h0, h1, h2, h3, h4, k0, k1, k2⟩ := h
  exact ⟨keep1 hb h0, keep1 hb h1, keep1 hb h2, keep1 hb h3, keep1 hb h4, keep1 hb k0, keep1 hb k1, keep1 hb k2⟩

/-- A value: its kind, its number, its text. -/
structure V3 where
  q : Int
  n : Int
  s : ByteArray
@[reducible] def V3.v (x : V3) : Value := .agg #[.int .i64 x.q, .int .i64 x.n, .string x.s]
def V3.z : V3 := ⟨0, 0, ⟨#[]⟩⟩
/-- The accumulator of one value. -/
def one (k : Int) (x : V3) : A5 := ⟨k, 1, sinQ k x.q, sinQ k x.n, sinS k x.s⟩
def adE (a : A5) (x : V3) : Int := if a.e ≠ 0 then a.e else if wrE a.k x.q x.n x.s.size ≠ 0 then wrE a.k x.q x.n x.s.size else if a.c = 4096 then 5 else 0
def ad (a : A5) (x : V3) : A5 := if adE a x = 0 then mrg a (one a.k x) else A5.z
theorem wr_ok {k q n : Int} {len : Nat} (h : wrE k q n len = 0) : checkC q n len = 0 ∧ suitsB k q = true ∧ -1099511627776 ≤ n ∧ n ≤ 1099511627776 := by
  unfold wrE at h
  split at h
  · rename_i h1; exact absurd h h1
  · rename_i h1
    have h1 : checkC q n len = 0 := by omega
    split at h
    · rename_i h2
      refine ⟨h1, h2, ?_⟩
      unfold checkC sizeC at h1
      (repeat' split at h1) <;> omega
    · cases h
theorem ad_bad {a : A5} {b : V3} {x : Int} (h : adE a b = x) (hx : ¬ x = 0) {w w' : World} (hb : Below w.heap.size w w') :
    Ret (.tuple #[A5.v (ad a b), .int .i64 (adE a b)]) w (.returned (.tuple #[.agg #[.int .i64 0, .int .i64 0, .int .i64 0, .int .i64 0, .string ⟨#[]⟩], .int .i64 x])) w' := by
  subst h
  refine ⟨?_, hb⟩
  rw [show ad a b = A5.z from if_neg hx]
  rfl
theorem ad_good {a r : A5} {b : V3} (h : adE a b = 0) (hr : mrg a (one a.k b) = r) {w w' : World} (hb : Below w.heap.size w w') :
    Ret (.tuple #[A5.v (ad a b), .int .i64 (adE a b)]) w (.returned (.tuple #[A5.v r, .int .i64 0])) w' := by
  refine ⟨?_, hb⟩
  rw [show ad a b = mrg a (one a.k b) from if_pos h, h, hr]

section
variable (k c q n p m : Int) (s t : ByteArray) (w : World)
set_option maxHeartbeats 2000000 in
theorem add_e1 (hs : s.size ≤ maxLen) (he : ¬ A5.e ⟨k, c, q, n, s⟩ = 0) :
    Calls Try.prog 14 #[.agg #[.int .i64 k, .int .i64 c, .int .i64 q, .int .i64 n, .string s], .agg #[.int .i64 p, .int .i64 m, .string t]] w
      (Ret (.tuple #[A5.v (ad ⟨k, c, q, n, s⟩ ⟨p, m, t⟩), .int .i64 (adE ⟨k, c, q, n, s⟩ ⟨p, m, t⟩)]) w) := by
  have HE : Hid (adE ⟨k, c, q, n, s⟩ ⟨p, m, t⟩ = accE k c q n s.size) := hide (if_pos he)
  have HN := hide he
  have t1 : (accE k c q n s.size != 0) = true := by rw [bne_iff_ne]; exact he
  clear he
  have HC := hide (@acheck_any k c q n s)
  unfold A5.e at HN
  simp only at HN
  generalize accE k c q n s.size = x at *
  go_enter Try.func14, Try.ntmps14
  go_wp2_with fail
  refine (HC.out _ hs).mono ?_
  rintro e w1 ⟨rfl, hb⟩
  replace r0 := keep1 hb (p := ⟨(w.heap.size + 1 + 1), 0, none⟩) (v := .int .i64 (0)) (by go_simp); replace r1 := keep1 hb (p := ⟨(w.heap.size + 1 + 1), 1, none⟩) (v := .int .i64 (0)) (by go_simp); replace r2 := keep1 hb (p := ⟨(w.heap.size + 1 + 1), 2, none⟩) (v := .int .i64 (0)) (by go_simp); replace r3 := keep1 hb (p := ⟨(w.heap.size + 1 + 1), 3, none⟩) (v := .int .i64 (0)) (by go_simp); replace r4 := keep1 hb (p := ⟨(w.heap.size + 1 + 1), 4, none⟩) (v := .string ⟨#[]⟩) (by go_simp); replace g0 := keepf hb (p := ⟨(w.heap.size + 1 + 1), 0, none⟩) (by simp; try omega) (by go_simp); replace g1 := keepf hb (p := ⟨(w.heap.size + 1 + 1), 1, none⟩) (by simp; try omega) (by go_simp); replace g2 := keepf hb (p := ⟨(w.heap.size + 1 + 1), 2, none⟩) (by simp; try omega) (by go_simp); replace g3 := keepf hb (p := ⟨(w.heap.size + 1 + 1), 3, none⟩) (by simp; try omega) (by go_simp); replace g4 := keepf hb (p := ⟨(w.heap.size + 1 + 1), 4, none⟩) (by simp; try omega) (by go_simp)
  have hbw := bel3 hb
  clear hb
  go_wp2
  refine bodyPost_ret (v := .tuple #[.agg #[.int .i64 0, .int .i64 0, .int .i64 0, .int .i64 0, .string ⟨#[]⟩], .int .i64 (x)]) (by rw [results_cell_tmp rfl]; go_simp) rfl ?_; exact ad_bad HE.out HN.out (below_set5 hbw (by omega) _ _ _ _ _)
set_option maxHeartbeats 2000000 in
theorem add_e2 (hs : s.size ≤ maxLen) (ht : t.size ≤ maxLen) (ha : A5.e ⟨k, c, q, n, s⟩ = 0) (he : ¬ wrE k p m t.size = 0) :
    Calls Try.prog 14 #[.agg #[.int .i64 k, .int .i64 c, .int .i64 q, .int .i64 n, .string s], .agg #[.int .i64 p, .int .i64 m, .string t]] w
      (Ret (.tuple #[A5.v (ad ⟨k, c, q, n, s⟩ ⟨p, m, t⟩), .int .i64 (adE ⟨k, c, q, n, s⟩ ⟨p, m, t⟩)]) w) := by
  have HE : Hid (adE ⟨k, c, q, n, s⟩ ⟨p, m, t⟩ = wrE k p m t.size) := hide (by unfold adE; rw [if_neg (by simp [ha]), if_pos he])
  have HN := hide he
  have t1 : (wrE k p m t.size != 0) = true := by rw [bne_iff_ne]; exact he
  have HC := hide (@acheck_any k c q n s)
  rw [show accE k c q n s.size = 0 from ha] at HC
  have HK := hide (acc_ok (show accE k c q n s.size = 0 from ha)).1
  have HD := hide (fun w => wrong_any k p m t w ht)
  clear he ha
  generalize wrE k p m t.size = x at *
  go_enter Try.func14, Try.ntmps14
  go_wp2_with fail
  refine (HC.out _ hs).mono ?_
  rintro e w1 ⟨rfl, hb⟩
  have a0 := keep1 hb (p := ⟨w.heap.size, 0, none⟩) (v := .int .i64 k) (by go_simp)
  replace v0 := keep1 hb (p := ⟨(w.heap.size + 1), 0, none⟩) (v := .int .i64 (p)) (by go_simp); replace v1 := keep1 hb (p := ⟨(w.heap.size + 1), 1, none⟩) (v := .int .i64 (m)) (by go_simp); replace v2 := keep1 hb (p := ⟨(w.heap.size + 1), 2, none⟩) (v := .string t) (by go_simp)
  replace r0 := keep1 hb (p := ⟨(w.heap.size + 1 + 1), 0, none⟩) (v := .int .i64 (0)) (by go_simp); replace r1 := keep1 hb (p := ⟨(w.heap.size + 1 + 1), 1, none⟩) (v := .int .i64 (0)) (by go_simp); replace r2 := keep1 hb (p := ⟨(w.heap.size + 1 + 1), 2, none⟩) (v := .int .i64 (0)) (by go_simp); replace r3 := keep1 hb (p := ⟨(w.heap.size + 1 + 1), 3, none⟩) (v := .int .i64 (0)) (by go_simp); replace r4 := keep1 hb (p := ⟨(w.heap.size + 1 + 1), 4, none⟩) (v := .string ⟨#[]⟩) (by go_simp); replace g0 := keepf hb (p := ⟨(w.heap.size + 1 + 1), 0, none⟩) (by simp; try omega) (by go_simp); replace g1 := keepf hb (p := ⟨(w.heap.size + 1 + 1), 1, none⟩) (by simp; try omega) (by go_simp); replace g2 := keepf hb (p := ⟨(w.heap.size + 1 + 1), 2, none⟩) (by simp; try omega) (by go_simp); replace g3 := keepf hb (p := ⟨(w.heap.size + 1 + 1), 3, none⟩) (by simp; try omega) (by go_simp); replace g4 := keepf hb (p := ⟨(w.heap.size + 1 + 1), 4, none⟩) (by simp; try omega) (by go_simp)
  have hbw := bel3 hb
  have hz := hb.size
  simp only [World.size_alloc] at hz
  clear hb
  go_wp2_with fail
  refine (HD.out _).mono ?_
  rintro e w2 ⟨rfl, hb⟩
  have hbw2 := bthen hbw hb
  replace r0 := keep1 hb (p := ⟨(w.heap.size + 1 + 1), 0, none⟩) (v := .int .i64 (0)) (by go_simp); replace r1 := keep1 hb (p := ⟨(w.heap.size + 1 + 1), 1, none⟩) (v := .int .i64 (0)) (by go_simp); replace r2 := keep1 hb (p := ⟨(w.heap.size + 1 + 1), 2, none⟩) (v := .int .i64 (0)) (by go_simp); replace r3 := keep1 hb (p := ⟨(w.heap.size + 1 + 1), 3, none⟩) (v := .int .i64 (0)) (by go_simp); replace r4 := keep1 hb (p := ⟨(w.heap.size + 1 + 1), 4, none⟩) (v := .string ⟨#[]⟩) (by go_simp); replace g0 := keepf hb (p := ⟨(w.heap.size + 1 + 1), 0, none⟩) (by simp; try omega) (by go_simp); replace g1 := keepf hb (p := ⟨(w.heap.size + 1 + 1), 1, none⟩) (by simp; try omega) (by go_simp); replace g2 := keepf hb (p := ⟨(w.heap.size + 1 + 1), 2, none⟩) (by simp; try omega) (by go_simp); replace g3 := keepf hb (p := ⟨(w.heap.size + 1 + 1), 3, none⟩) (by simp; try omega) (by go_simp); replace g4 := keepf hb (p := ⟨(w.heap.size + 1 + 1), 4, none⟩) (by simp; try omega) (by go_simp)
  clear hb v0 v1 v2 a0
  go_wp2
  refine bodyPost_ret (v := .tuple #[.agg #[.int .i64 0, .int .i64 0, .int .i64 0, .int .i64 0, .string ⟨#[]⟩], .int .i64 (x)]) (by rw [results_cell_tmp rfl]; go_simp) rfl ?_; exact ad_bad HE.out HN.out (below_set5 hbw2 (by omega) _ _ _ _ _)
end
end Go.Proofs.Ytkcbjnhphekadaa
