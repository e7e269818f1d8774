/- Result, of the program and of the reference. -/
import Derived.Test.YtkcbjnhphekadaaAAdd2
namespace Go.Proofs.Ytkcbjnhphekadaa
open Go.RowKit
set_option linter.unusedVariables false
set_option linter.unusedSimpArgs false
def rsE (a : A5) (x : V3) : Int := if a.e ≠ 0 then a.e else wrE a.k x.q x.n x.s.size
def rsG (a : A5) (x : V3) : V3 := if a.k = 0 then ⟨0, a.c, ⟨#[]⟩⟩ else if a.c = 0 ∧ a.k ≠ 1 then x else ⟨a.q, a.n, a.s⟩
def rs (a : A5) (x : V3) : V3 := if rsE a x = 0 then rsG a x else V3.z
theorem rs_bad {a : A5} {b : V3} {x : Int} (h : rsE a b = x) (hx : ¬ x = 0) {w w' : World} (hb : Below w.heap.size w w') :
    Ret (.tuple #[V3.v (rs a b), .int .i64 (rsE a b)]) w (.returned (.tuple #[.agg #[.int .i64 0, .int .i64 0, .string ⟨#[]⟩], .int .i64 x])) w' := by
  subst h
  refine ⟨?_, hb⟩
  rw [show rs a b = V3.z from if_neg hx]
  rfl
theorem rs_good {a : A5} {b r : V3} (h : rsE a b = 0) (hr : rsG a b = r) {w w' : World} (hb : Below w.heap.size w w') :
    Ret (.tuple #[V3.v (rs a b), .int .i64 (rsE a b)]) w (.returned (.tuple #[V3.v r, .int .i64 0])) w' := by
  refine ⟨?_, hb⟩
  rw [show rs a b = rsG a b from if_pos h, h, hr]
theorem below_set3' {B R : Nat} {a w : World} (h : Below B a w) (hp : B ≤ R) (v0 v1 v2 : Value) : Below B a (((w.setCell ⟨R, 0, none⟩ v0).setCell ⟨R, 1, none⟩ v1).setCell ⟨R, 2, none⟩ v2) :=
  ((h.setCell (p := ⟨R, 0, none⟩) hp _).setCell (p := ⟨R, 1, none⟩) hp _).setCell (p := ⟨R, 2, none⟩) hp _
section
variable (k c q n p m : Int) (s t : ByteArray) (w : World)
set_option maxHeartbeats 2000000 in
theorem res_e1 (hs : s.size ≤ maxLen) (he : ¬ A5.e ⟨k, c, q, n, s⟩ = 0) :
    Calls Try.prog 33 #[.agg #[.int .i64 k, .int .i64 c, .int .i64 q, .int .i64 n, .string s], .agg #[.int .i64 p, .int .i64 m, .string t]] w
      (Ret (.tuple #[V3.v (rs ⟨k, c, q, n, s⟩ ⟨p, m, t⟩), .int .i64 (rsE ⟨k, c, q, n, s⟩ ⟨p, m, t⟩)]) w) := by
  have HE : Hid (rsE ⟨k, c, q, n, s⟩ ⟨p, m, t⟩ = accE k c q n s.size) := hide (if_pos he)
  have HN := hide he
  have t1 : (accE k c q n s.size != 0) = true := by rw [bne_iff_ne]; exact he
  clear he
  have HC := hide (@acheck_any k c q n s)
  unfold A5.e at HN
  simp only at HN
  generalize accE k c q n s.size = x at *
  go_enter Try.func33, Try.ntmps33
  go_wp2_with fail
  refine (HC.out _ hs).mono ?_
  rintro e w1 ⟨rfl, hb⟩
  replace r0 := keep1 hb (p := ⟨(w.heap.size + 1 + 1), 0, none⟩) (v := .int .i64 (0)) (by go_simp); replace r1 := keep1 hb (p := ⟨(w.heap.size + 1 + 1), 1, none⟩) (v := .int .i64 (0)) (by go_simp); replace r2 := keep1 hb (p := ⟨(w.heap.size + 1 + 1), 2, none⟩) (v := .string ⟨#[]⟩) (by go_simp); replace g0 := keepf hb (p := ⟨(w.heap.size + 1 + 1), 0, none⟩) (by simp; try omega) (by go_simp); replace g1 := keepf hb (p := ⟨(w.heap.size + 1 + 1), 1, none⟩) (by simp; try omega) (by go_simp); replace g2 := keepf hb (p := ⟨(w.heap.size + 1 + 1), 2, none⟩) (by simp; try omega) (by go_simp)
  have hbw := bel3 hb
  clear hb
  go_wp2
  refine bodyPost_ret (v := .tuple #[.agg #[.int .i64 0, .int .i64 0, .string ⟨#[]⟩], .int .i64 (x)]) (by rw [results_cell_tmp rfl]; go_simp) rfl ?_; exact rs_bad HE.out HN.out (below_set3' hbw (by omega) _ _ _)
set_option maxHeartbeats 2000000 in
theorem res_e2 (hs : s.size ≤ maxLen) (ht : t.size ≤ maxLen) (ha : A5.e ⟨k, c, q, n, s⟩ = 0) (he : ¬ wrE k p m t.size = 0) :
    Calls Try.prog 33 #[.agg #[.int .i64 k, .int .i64 c, .int .i64 q, .int .i64 n, .string s], .agg #[.int .i64 p, .int .i64 m, .string t]] w
      (Ret (.tuple #[V3.v (rs ⟨k, c, q, n, s⟩ ⟨p, m, t⟩), .int .i64 (rsE ⟨k, c, q, n, s⟩ ⟨p, m, t⟩)]) w) := by
  have HE : Hid (rsE ⟨k, c, q, n, s⟩ ⟨p, m, t⟩ = wrE k p m t.size) := hide (by unfold rsE; rw [if_neg (by simp [ha])])
  have HN := hide he
  have t1 : (wrE k p m t.size != 0) = true := by rw [bne_iff_ne]; exact he
  have HC := hide (@acheck_any k c q n s)
  rw [show accE k c q n s.size = 0 from ha] at HC
  have HK := hide (acc_ok (show accE k c q n s.size = 0 from ha)).1
  have HD := hide (fun w => wrong_any k p m t w ht)
  clear he ha
  generalize wrE k p m t.size = x at *
  go_enter Try.func33, Try.ntmps33
  go_wp2_with fail
  refine (HC.out _ hs).mono ?_
  rintro e w1 ⟨rfl, hb⟩
  have a0 := keep1 hb (p := ⟨w.heap.size, 0, none⟩) (v := .int .i64 k) (by go_simp)
  replace v0 := keep1 hb (p := ⟨(w.heap.size + 1), 0, none⟩) (v := .int .i64 (p)) (by go_simp); replace v1 := keep1 hb (p := ⟨(w.heap.size + 1), 1, none⟩) (v := .int .i64 (m)) (by go_simp); replace v2 := keep1 hb (p := ⟨(w.heap.size + 1), 2, none⟩) (v := .string t) (by go_simp)
  replace r0 := keep1 hb (p := ⟨(w.heap.size + 1 + 1), 0, none⟩) (v := .int .i64 (0)) (by go_simp); replace r1 := keep1 hb (p := ⟨(w.heap.size + 1 + 1), 1, none⟩) (v := .int .i64 (0)) (by go_simp); replace r2 := keep1 hb (p := ⟨(w.heap.size + 1 + 1), 2, none⟩) (v := .string ⟨#[]⟩) (by go_simp); replace g0 := keepf hb (p := ⟨(w.heap.size + 1 + 1), 0, none⟩) (by simp; try omega) (by go_simp); replace g1 := keepf hb (p := ⟨(w.heap.size + 1 + 1), 1, none⟩) (by simp; try omega) (by go_simp); replace g2 := keepf hb (p := ⟨(w.heap.size + 1 + 1), 2, none⟩) (by simp; try omega) (by go_simp)
  have hbw := bel3 hb
  have hz := hb.size
  simp only [World.size_alloc] at hz
  clear hb
  go_wp2_with fail
  refine (HD.out _).mono ?_
  rintro e w2 ⟨rfl, hb⟩
  have hbw2 := bthen hbw hb
  replace r0 := keep1 hb (p := ⟨(w.heap.size + 1 + 1), 0, none⟩) (v := .int .i64 (0)) (by go_simp); replace r1 := keep1 hb (p := ⟨(w.heap.size + 1 + 1), 1, none⟩) (v := .int .i64 (0)) (by go_simp); replace r2 := keep1 hb (p := ⟨(w.heap.size + 1 + 1), 2, none⟩) (v := .string ⟨#[]⟩) (by go_simp); replace g0 := keepf hb (p := ⟨(w.heap.size + 1 + 1), 0, none⟩) (by simp; try omega) (by go_simp); replace g1 := keepf hb (p := ⟨(w.heap.size + 1 + 1), 1, none⟩) (by simp; try omega) (by go_simp); replace g2 := keepf hb (p := ⟨(w.heap.size + 1 + 1), 2, none⟩) (by simp; try omega) (by go_simp)
  clear hb v0 v1 v2 a0
  go_wp2
  refine bodyPost_ret (v := .tuple #[.agg #[.int .i64 0, .int .i64 0, .string ⟨#[]⟩], .int .i64 (x)]) (by rw [results_cell_tmp rfl]; go_simp) rfl ?_; exact rs_bad HE.out HN.out (below_set3' hbw2 (by omega) _ _ _)
set_option maxHeartbeats 4000000 in
theorem res_e3 (hs : s.size ≤ maxLen) (ht : t.size ≤ maxLen) (ha : A5.e ⟨k, c, q, n, s⟩ = 0) (he : wrE k p m t.size = 0) :
    Calls Try.prog 33 #[.agg #[.int .i64 k, .int .i64 c, .int .i64 q, .int .i64 n, .string s], .agg #[.int .i64 p, .int .i64 m, .string t]] w
      (Ret (.tuple #[V3.v (rs ⟨k, c, q, n, s⟩ ⟨p, m, t⟩), .int .i64 (rsE ⟨k, c, q, n, s⟩ ⟨p, m, t⟩)]) w) := by
  have HE : Hid (rsE ⟨k, c, q, n, s⟩ ⟨p, m, t⟩ = 0) := hide (by unfold rsE; rw [if_neg (by simp [ha])]; exact he)
  have HC := hide (@acheck_any k c q n s)
  rw [show accE k c q n s.size = 0 from ha] at HC
  have HK := hide (acc_ok (show accE k c q n s.size = 0 from ha)).1
  have HD := hide (fun w => wrong_any k p m t w ht)
  rw [he] at HD
  clear he ha
  go_enter Try.func33, Try.ntmps33
  go_wp2_with fail
  refine (HC.out _ hs).mono ?_
  rintro e w1 ⟨rfl, hb⟩
  replace a0 := keep1 hb (p := ⟨w.heap.size, 0, none⟩) (v := .int .i64 (k)) (by go_simp); replace a1 := keep1 hb (p := ⟨w.heap.size, 1, none⟩) (v := .int .i64 (c)) (by go_simp); replace a2 := keep1 hb (p := ⟨w.heap.size, 2, none⟩) (v := .int .i64 (q)) (by go_simp); replace a3 := keep1 hb (p := ⟨w.heap.size, 3, none⟩) (v := .int .i64 (n)) (by go_simp); replace a4 := keep1 hb (p := ⟨w.heap.size, 4, none⟩) (v := .string s) (by go_simp)
  replace v0 := keep1 hb (p := ⟨(w.heap.size + 1), 0, none⟩) (v := .int .i64 (p)) (by go_simp); replace v1 := keep1 hb (p := ⟨(w.heap.size + 1), 1, none⟩) (v := .int .i64 (m)) (by go_simp); replace v2 := keep1 hb (p := ⟨(w.heap.size + 1), 2, none⟩) (v := .string t) (by go_simp)
  replace r0 := keep1 hb (p := ⟨(w.heap.size + 1 + 1), 0, none⟩) (v := .int .i64 (0)) (by go_simp); replace r1 := keep1 hb (p := ⟨(w.heap.size + 1 + 1), 1, none⟩) (v := .int .i64 (0)) (by go_simp); replace r2 := keep1 hb (p := ⟨(w.heap.size + 1 + 1), 2, none⟩) (v := .string ⟨#[]⟩) (by go_simp); replace g0 := keepf hb (p := ⟨(w.heap.size + 1 + 1), 0, none⟩) (by simp; try omega) (by go_simp); replace g1 := keepf hb (p := ⟨(w.heap.size + 1 + 1), 1, none⟩) (by simp; try omega) (by go_simp); replace g2 := keepf hb (p := ⟨(w.heap.size + 1 + 1), 2, none⟩) (by simp; try omega) (by go_simp)
  have hbw := bel3 hb
  have hz := hb.size
  simp only [World.size_alloc] at hz
  clear hb
  go_wp2_with fail
  refine (HD.out _).mono ?_
  rintro e w2 ⟨rfl, hb⟩
  have hbw2 := bthen hbw hb
  have hz2 := hb.size
  replace a0 := keep1 hb (p := ⟨w.heap.size, 0, none⟩) (v := .int .i64 (k)) (by go_simp); replace a1 := keep1 hb (p := ⟨w.heap.size, 1, none⟩) (v := .int .i64 (c)) (by go_simp); replace a2 := keep1 hb (p := ⟨w.heap.size, 2, none⟩) (v := .int .i64 (q)) (by go_simp); replace a3 := keep1 hb (p := ⟨w.heap.size, 3, none⟩) (v := .int .i64 (n)) (by go_simp); replace a4 := keep1 hb (p := ⟨w.heap.size, 4, none⟩) (v := .string s) (by go_simp)
  replace v0 := keep1 hb (p := ⟨(w.heap.size + 1), 0, none⟩) (v := .int .i64 (p)) (by go_simp); replace v1 := keep1 hb (p := ⟨(w.heap.size + 1), 1, none⟩) (v := .int .i64 (m)) (by go_simp); replace v2 := keep1 hb (p := ⟨(w.heap.size + 1), 2, none⟩) (v := .string t) (by go_simp)
  replace r0 := keep1 hb (p := ⟨(w.heap.size + 1 + 1), 0, none⟩) (v := .int .i64 (0)) (by go_simp); replace r1 := keep1 hb (p := ⟨(w.heap.size + 1 + 1), 1, none⟩) (v := .int .i64 (0)) (by go_simp); replace r2 := keep1 hb (p := ⟨(w.heap.size + 1 + 1), 2, none⟩) (v := .string ⟨#[]⟩) (by go_simp); replace g0 := keepf hb (p := ⟨(w.heap.size + 1 + 1), 0, none⟩) (by simp; try omega) (by go_simp); replace g1 := keepf hb (p := ⟨(w.heap.size + 1 + 1), 1, none⟩) (by simp; try omega) (by go_simp); replace g2 := keepf hb (p := ⟨(w.heap.size + 1 + 1), 2, none⟩) (by simp; try omega) (by go_simp)
  clear hb hbw
  by_cases hk : k = 0
  · subst hk
    have HR : Hid (rsG ⟨0, c, q, n, s⟩ ⟨p, m, t⟩ = ⟨0, c, ⟨#[]⟩⟩) := hide (if_pos rfl)
    go_wp2
    refine bodyPost_ret (v := .tuple #[V3.v ⟨0, c, ⟨#[]⟩⟩, .int .i64 0]) (by rw [results_cell_tmp rfl]; go_simp) rfl ?_; exact rs_good HE.out HR.out (below_set3' hbw2 (by omega) _ _ _)
  · have t1 : (k == 0) = false := by rw [beq_eq_false_iff_ne]; exact hk
    by_cases hc : c = 0 ∧ k ≠ 1
    · have HR : Hid (rsG ⟨k, c, q, n, s⟩ ⟨p, m, t⟩ = ⟨p, m, t⟩) := hide (by unfold rsG; rw [if_neg hk, if_pos hc])
      obtain ⟨rfl, hk1⟩ := hc
      have t2 : (k != 1) = true := by rw [bne_iff_ne]; exact hk1
      clear hk hk1
      go_wp2
      refine bodyPost_ret (v := .tuple #[V3.v ⟨p, m, t⟩, .int .i64 0]) (by rw [results_cell_tmp rfl]; go_simp) rfl ?_; exact rs_good HE.out HR.out (below_set3' hbw2 (by omega) _ _ _)
    · have HR : Hid (rsG ⟨k, c, q, n, s⟩ ⟨p, m, t⟩ = ⟨q, n, s⟩) := hide (by unfold rsG; rw [if_neg hk, if_neg hc])
      clear hk
      by_cases hc0 : c = 0
      · have hk1 : k = 1 := by omega
        subst hk1
        subst hc0
        clear hc
        go_wp2
        refine bodyPost_ret (v := .tuple #[V3.v ⟨q, n, s⟩, .int .i64 0]) (by rw [results_cell_tmp rfl]; go_simp) rfl ?_; exact rs_good HE.out HR.out (below_set3' hbw2 (by omega) _ _ _)
      · have t2 : (c == 0) = false := by rw [beq_eq_false_iff_ne]; exact hc0
        clear hc hc0
        go_wp2
        refine bodyPost_ret (v := .tuple #[V3.v ⟨q, n, s⟩, .int .i64 0]) (by rw [results_cell_tmp rfl]; go_simp) rfl ?_; exact rs_good HE.out HR.out (below_set3' hbw2 (by omega) _ _ _)
theorem result_any (a : A5) (x : V3) (hs : a.s.size ≤ maxLen) (ht : x.s.size ≤ maxLen) :
    Calls Try.prog 33 #[a.v, x.v] w (Ret (.tuple #[V3.v (rs a x), .int .i64 (rsE a x)]) w) := by
  obtain ⟨k, c, q, n, s⟩ := a
  obtain ⟨p, m, t⟩ := x
  by_cases ha : A5.e ⟨k, c, q, n, s⟩ = 0
  · by_cases hb : wrE k p m t.size = 0
    · exact res_e3 k c q n p m s t w hs ht ha hb
    · exact res_e2 k c q n p m s t w hs ht ha hb
  · exact res_e1 k c q n p m s t w hs ha
end
end Go.Proofs.Ytkcbjnhphekadaa
