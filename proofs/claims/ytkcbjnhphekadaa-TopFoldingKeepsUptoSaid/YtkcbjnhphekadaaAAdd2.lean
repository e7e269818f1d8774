/- Add: the way that adds. -/
import Derived.Test.YtkcbjnhphekadaaAAdd
namespace Go.Proofs.Ytkcbjnhphekadaa
open Go.RowKit
set_option linter.unusedVariables false
set_option linter.unusedSimpArgs false
theorem below_set3 {B R : Nat} {a w : World} (h : Below B a w) (hp : B ≤ R) (v0 v1 v2 : Value) : Below B a (((w.setCell ⟨R, 2, none⟩ v0).setCell ⟨R, 3, none⟩ v1).setCell ⟨R, 4, none⟩ v2) :=
  ((h.setCell (p := ⟨R, 2, none⟩) hp _).setCell (p := ⟨R, 3, none⟩) hp _).setCell (p := ⟨R, 4, none⟩) hp _
section
variable (k c q n p m : Int) (s t : ByteArray) (w : World)
theorem sin_bd (k m : Int) (h2 : -1099511627776 ≤ m) (h3 : m ≤ 1099511627776) : -9007199254740992 ≤ sinQ k m ∧ sinQ k m ≤ 9007199254740992 := by unfold sinQ; split <;> omega
set_option maxHeartbeats 4000000 in
theorem add_e3 (hs : s.size ≤ maxLen) (ht : t.size ≤ maxLen) (ha : A5.e ⟨k, c, q, n, s⟩ = 0) (he : wrE k p m t.size = 0) :
    Calls Try.prog 14 #[.agg #[.int .i64 k, .int .i64 c, .int .i64 q, .int .i64 n, .string s], .agg #[.int .i64 p, .int .i64 m, .string t]] w
      (Ret (.tuple #[A5.v (ad ⟨k, c, q, n, s⟩ ⟨p, m, t⟩), .int .i64 (adE ⟨k, c, q, n, s⟩ ⟨p, m, t⟩)]) w) := by
  have HE : Hid (adE ⟨k, c, q, n, s⟩ ⟨p, m, t⟩ = if c = 4096 then 5 else 0) := hide (by unfold adE; rw [if_neg (by simp [ha]), if_neg (by simp [he])])
  have HC := hide (@acheck_any k c q n s)
  rw [show accE k c q n s.size = 0 from ha] at HC
  obtain ⟨hk, hc0, hc1, h0, h1⟩ := acc_ok (show accE k c q n s.size = 0 from ha)
  obtain ⟨-, -, h2, h3⟩ := wr_ok he
  have HK := hide hk
  have HD := hide (fun w => wrong_any k p m t w ht)
  rw [he] at HD
  clear he ha hk
  go_enter Try.func14, Try.ntmps14
  go_wp2_with fail
  refine (HC.out _ hs).mono ?_
  rintro e w1 ⟨rfl, hb⟩
  replace a0 := keep1 hb (p := ⟨w.heap.size, 0, none⟩) (v := .int .i64 (k)) (by go_simp); replace a1 := keep1 hb (p := ⟨w.heap.size, 1, none⟩) (v := .int .i64 (c)) (by go_simp); replace a2 := keep1 hb (p := ⟨w.heap.size, 2, none⟩) (v := .int .i64 (q)) (by go_simp); replace a3 := keep1 hb (p := ⟨w.heap.size, 3, none⟩) (v := .int .i64 (n)) (by go_simp); replace a4 := keep1 hb (p := ⟨w.heap.size, 4, none⟩) (v := .string s) (by go_simp)
  replace v0 := keep1 hb (p := ⟨(w.heap.size + 1), 0, none⟩) (v := .int .i64 (p)) (by go_simp); replace v1 := keep1 hb (p := ⟨(w.heap.size + 1), 1, none⟩) (v := .int .i64 (m)) (by go_simp); replace v2 := keep1 hb (p := ⟨(w.heap.size + 1), 2, none⟩) (v := .string t) (by go_simp)
  replace r0 := keep1 hb (p := ⟨(w.heap.size + 1 + 1), 0, none⟩) (v := .int .i64 (0)) (by go_simp); replace r1 := keep1 hb (p := ⟨(w.heap.size + 1 + 1), 1, none⟩) (v := .int .i64 (0)) (by go_simp); replace r2 := keep1 hb (p := ⟨(w.heap.size + 1 + 1), 2, none⟩) (v := .int .i64 (0)) (by go_simp); replace r3 := keep1 hb (p := ⟨(w.heap.size + 1 + 1), 3, none⟩) (v := .int .i64 (0)) (by go_simp); replace r4 := keep1 hb (p := ⟨(w.heap.size + 1 + 1), 4, none⟩) (v := .string ⟨#[]⟩) (by go_simp); replace g0 := keepf hb (p := ⟨(w.heap.size + 1 + 1), 0, none⟩) (by simp; try omega) (by go_simp); replace g1 := keepf hb (p := ⟨(w.heap.size + 1 + 1), 1, none⟩) (by simp; try omega) (by go_simp); replace g2 := keepf hb (p := ⟨(w.heap.size + 1 + 1), 2, none⟩) (by simp; try omega) (by go_simp); replace g3 := keepf hb (p := ⟨(w.heap.size + 1 + 1), 3, none⟩) (by simp; try omega) (by go_simp); replace g4 := keepf hb (p := ⟨(w.heap.size + 1 + 1), 4, none⟩) (by simp; try omega) (by go_simp)
  have hbw := bel3 hb
  have hz := hb.size
  simp only [World.size_alloc] at hz
  clear hb
  go_wp2_with fail
  refine (HD.out _).mono ?_
  rintro e w2 ⟨rfl, hb⟩
  have hbw2 := bthen hbw hb
  have hz2 := hb.size
  replace a0 := keep1 hb (p := ⟨w.heap.size, 0, none⟩) (v := .int .i64 (k)) (by go_simp); replace a1 := keep1 hb (p := ⟨w.heap.size, 1, none⟩) (v := .int .i64 (c)) (by go_simp); replace a2 := keep1 hb (p := ⟨w.heap.size, 2, none⟩) (v := .int .i64 (q)) (by go_simp); replace a3 := keep1 hb (p := ⟨w.heap.size, 3, none⟩) (v := .int .i64 (n)) (by go_simp); replace a4 := keep1 hb (p := ⟨w.heap.size, 4, none⟩) (v := .string s) (by go_simp)
  replace v0 := keep1 hb (p := ⟨(w.heap.size + 1), 0, none⟩) (v := .int .i64 (p)) (by go_simp); replace v1 := keep1 hb (p := ⟨(w.heap.size + 1), 1, none⟩) (v := .int .i64 (m)) (by go_simp); replace v2 := keep1 hb (p := ⟨(w.heap.size + 1), 2, none⟩) (v := .string t) (by go_simp)
  replace r0 := keep1 hb (p := ⟨(w.heap.size + 1 + 1), 0, none⟩) (v := .int .i64 (0)) (by go_simp); replace r1 := keep1 hb (p := ⟨(w.heap.size + 1 + 1), 1, none⟩) (v := .int .i64 (0)) (by go_simp); replace r2 := keep1 hb (p := ⟨(w.heap.size + 1 + 1), 2, none⟩) (v := .int .i64 (0)) (by go_simp); replace r3 := keep1 hb (p := ⟨(w.heap.size + 1 + 1), 3, none⟩) (v := .int .i64 (0)) (by go_simp); replace r4 := keep1 hb (p := ⟨(w.heap.size + 1 + 1), 4, none⟩) (v := .string ⟨#[]⟩) (by go_simp); replace g0 := keepf hb (p := ⟨(w.heap.size + 1 + 1), 0, none⟩) (by simp; try omega) (by go_simp); replace g1 := keepf hb (p := ⟨(w.heap.size + 1 + 1), 1, none⟩) (by simp; try omega) (by go_simp); replace g2 := keepf hb (p := ⟨(w.heap.size + 1 + 1), 2, none⟩) (by simp; try omega) (by go_simp); replace g3 := keepf hb (p := ⟨(w.heap.size + 1 + 1), 3, none⟩) (by simp; try omega) (by go_simp); replace g4 := keepf hb (p := ⟨(w.heap.size + 1 + 1), 4, none⟩) (by simp; try omega) (by go_simp)
  clear hb hbw
  by_cases hc : c = 4096
  · subst hc
    have HZ : Hid (adE ⟨k, 4096, q, n, s⟩ ⟨p, m, t⟩ = 5) := hide (by rw [HE.out, if_pos rfl])
    go_wp2
    refine bodyPost_ret (v := .tuple #[.agg #[.int .i64 0, .int .i64 0, .int .i64 0, .int .i64 0, .string ⟨#[]⟩], .int .i64 (5)]) (by rw [results_cell_tmp rfl]; go_simp) rfl ?_; exact ad_bad HZ.out (by decide) (below_set5 hbw2 (by omega) _ _ _ _ _)
  have t1 : (c == 4096) = false := by rw [beq_eq_false_iff_ne]; exact hc
  have HZ : Hid (adE ⟨k, c, q, n, s⟩ ⟨p, m, t⟩ = 0) := hide (by rw [HE.out, if_neg hc])
  clear hc HE
  have hsb := sin_bd k m h2 h3
  have HS0 := hide hsb.1
  have HS1 := hide hsb.2
  clear hsb
  have ne1 : ¬ w.heap.size + 1 + 1 = w.heap.size := by omega
  go_wp2_with fail
  go_region_held3 (fun w' => (w'.cell? ⟨w.heap.size, 0, none⟩ = some (.int .i64 k) ∧ w'.cell? ⟨w.heap.size, 1, none⟩ = some (.int .i64 c) ∧ w'.cell? ⟨w.heap.size, 2, none⟩ = some (.int .i64 q) ∧ w'.cell? ⟨w.heap.size, 3, none⟩ = some (.int .i64 n) ∧ w'.cell? ⟨w.heap.size, 4, none⟩ = some (.string s) ∧ w'.cell? ⟨(w.heap.size + 1), 0, none⟩ = some (.int .i64 p) ∧ w'.cell? ⟨(w.heap.size + 1), 1, none⟩ = some (.int .i64 m) ∧ w'.cell? ⟨(w.heap.size + 1), 2, none⟩ = some (.string t)))
    (first | (go_keep; done) | exact keep8 hb ⟨a0, a1, a2, a3, a4, v0, v1, v2⟩ | exact keep8 hb2 (keep8 hb ⟨a0, a1, a2, a3, a4, v0, v1, v2⟩))
    (first
      | (go_at_call 32; refine (single_any p m t _ k).mono ?_; rintro e w3 ⟨rfl, hb'⟩; have hb : Below w2.heap.size w2 w3 := below_undrew hb'; have hz3 := hb.size; replace r0 := keep1 hb (p := ⟨(w.heap.size + 1 + 1), 0, none⟩) (v := .int .i64 (0)) (by go_simp); replace r1 := keep1 hb (p := ⟨(w.heap.size + 1 + 1), 1, none⟩) (v := .int .i64 (0)) (by go_simp); replace r2 := keep1 hb (p := ⟨(w.heap.size + 1 + 1), 2, none⟩) (v := .int .i64 (0)) (by go_simp); replace r3 := keep1 hb (p := ⟨(w.heap.size + 1 + 1), 3, none⟩) (v := .int .i64 (0)) (by go_simp); replace r4 := keep1 hb (p := ⟨(w.heap.size + 1 + 1), 4, none⟩) (v := .string ⟨#[]⟩) (by go_simp); replace g0 := keepf hb (p := ⟨(w.heap.size + 1 + 1), 0, none⟩) (by simp; try omega) (by go_simp); replace g1 := keepf hb (p := ⟨(w.heap.size + 1 + 1), 1, none⟩) (by simp; try omega) (by go_simp); replace g2 := keepf hb (p := ⟨(w.heap.size + 1 + 1), 2, none⟩) (by simp; try omega) (by go_simp); replace g3 := keepf hb (p := ⟨(w.heap.size + 1 + 1), 3, none⟩) (by simp; try omega) (by go_simp); replace g4 := keepf hb (p := ⟨(w.heap.size + 1 + 1), 4, none⟩) (by simp; try omega) (by go_simp))
      | (go_at_call 31; refine (merged_any k c q n k 1 (sinQ k p) (sinQ k m) s (sinS k t) _ HK.out hc0 (by omega) (by omega) (by omega) (by omega) (by omega) HS0.out HS1.out).mono ?_; rintro e w4 ⟨rfl, hb2⟩; replace r0 := keep1 hb2 (p := ⟨(w.heap.size + 1 + 1), 0, none⟩) (v := .int .i64 (0)) (by go_simp); replace r1 := keep1 hb2 (p := ⟨(w.heap.size + 1 + 1), 1, none⟩) (v := .int .i64 (0)) (by go_simp); replace r2 := keep1 hb2 (p := ⟨(w.heap.size + 1 + 1), 2, none⟩) (v := .int .i64 (0)) (by go_simp); replace r3 := keep1 hb2 (p := ⟨(w.heap.size + 1 + 1), 3, none⟩) (v := .int .i64 (0)) (by go_simp); replace r4 := keep1 hb2 (p := ⟨(w.heap.size + 1 + 1), 4, none⟩) (v := .string ⟨#[]⟩) (by go_simp); replace g0 := keepf hb2 (p := ⟨(w.heap.size + 1 + 1), 0, none⟩) (by simp; try omega) (by go_simp); replace g1 := keepf hb2 (p := ⟨(w.heap.size + 1 + 1), 1, none⟩) (by simp; try omega) (by go_simp); replace g2 := keepf hb2 (p := ⟨(w.heap.size + 1 + 1), 2, none⟩) (by simp; try omega) (by go_simp); replace g3 := keepf hb2 (p := ⟨(w.heap.size + 1 + 1), 3, none⟩) (by simp; try omega) (by go_simp); replace g4 := keepf hb2 (p := ⟨(w.heap.size + 1 + 1), 4, none⟩) (by simp; try omega) (by go_simp)))
  have hbw3 := bthen (bthen hbw2 hb) hb2
  clear hb hb2 ne1
  go_wp2
  refine bodyPost_ret (v := .tuple #[A5.v ⟨mrgK c k k, c + 1, mrgQ k c 1 q (sinQ k p), mrgN k c 1 n (sinQ k m), mrgS k c 1 s (sinS k t)⟩, .int .i64 0]) (by rw [results_cell_tmp rfl]; go_simp) rfl ?_; exact ad_good HZ.out rfl (below_set5 hbw3 (by omega) _ _ _ _ _)
theorem add_any (a : A5) (x : V3) (hs : a.s.size ≤ maxLen) (ht : x.s.size ≤ maxLen) :
    Calls Try.prog 14 #[a.v, x.v] w (Ret (.tuple #[A5.v (ad a x), .int .i64 (adE a x)]) w) := by
  obtain ⟨k, c, q, n, s⟩ := a
  obtain ⟨p, m, t⟩ := x
  by_cases ha : A5.e ⟨k, c, q, n, s⟩ = 0
  · by_cases hb : wrE k p m t.size = 0
    · exact add_e3 k c q n p m s t w hs ht ha hb
    · exact add_e2 k c q n p m s t w hs ht ha hb
  · exact add_e1 k c q n p m s t w hs ha
end
end Go.Proofs.Ytkcbjnhphekadaa
