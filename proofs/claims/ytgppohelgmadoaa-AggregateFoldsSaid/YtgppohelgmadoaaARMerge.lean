/- The reference's Merge. -/
import Derived.Test.YtgppohelgmadoaaAMerge
namespace Go.Proofs.Ytgppohelgmadoaa
open Go.RowKit
set_option linter.unusedVariables false
set_option linter.unusedSimpArgs false

section
variable (k c q n l d p m : Int) (s t : ByteArray) (w : World)
set_option maxHeartbeats 2000000 in
theorem rmerge_e1 (hs : s.size ≤ maxLen) (he : ¬ A5.e ⟨k, c, q, n, s⟩ = 0) :
    Calls Try.prog 18 #[.agg #[.int .i64 k, .int .i64 c, .int .i64 q, .int .i64 n, .string s], .agg #[.int .i64 l, .int .i64 d, .int .i64 p, .int .i64 m, .string t]] w
      (Ret (.tuple #[A5.v (mg ⟨k, c, q, n, s⟩ ⟨l, d, p, m, t⟩), .int .i64 (mgE ⟨k, c, q, n, s⟩ ⟨l, d, p, m, t⟩)]) w) := by
  have HE : Hid (mgE ⟨k, c, q, n, s⟩ ⟨l, d, p, m, t⟩ = accE k c q n s.size) := hide (if_pos he)
  have HN := hide he
  have t1 : (accE k c q n s.size != 0) = true := by rw [bne_iff_ne]; exact he
  clear he
  have HC := hide (@archeck_any k c q n s)
  unfold A5.e at HN
  simp only at HN
  generalize accE k c q n s.size = x at *
  go_enter Try.func18, Try.ntmps18
  go_wp2_with fail
  refine (HC.out _ hs).mono ?_
  rintro e w1 ⟨rfl, hb⟩
  replace r0 := keep1 hb (p := ⟨(w.heap.size + 1 + 1), 0, none⟩) (v := .int .i64 (0)) (by go_simp); replace r1 := keep1 hb (p := ⟨(w.heap.size + 1 + 1), 1, none⟩) (v := .int .i64 (0)) (by go_simp); replace r2 := keep1 hb (p := ⟨(w.heap.size + 1 + 1), 2, none⟩) (v := .int .i64 (0)) (by go_simp); replace r3 := keep1 hb (p := ⟨(w.heap.size + 1 + 1), 3, none⟩) (v := .int .i64 (0)) (by go_simp); replace r4 := keep1 hb (p := ⟨(w.heap.size + 1 + 1), 4, none⟩) (v := .string ⟨#[]⟩) (by go_simp); replace g0 := keepf hb (p := ⟨(w.heap.size + 1 + 1), 0, none⟩) (by simp; try omega) (by go_simp); replace g1 := keepf hb (p := ⟨(w.heap.size + 1 + 1), 1, none⟩) (by simp; try omega) (by go_simp); replace g2 := keepf hb (p := ⟨(w.heap.size + 1 + 1), 2, none⟩) (by simp; try omega) (by go_simp); replace g3 := keepf hb (p := ⟨(w.heap.size + 1 + 1), 3, none⟩) (by simp; try omega) (by go_simp); replace g4 := keepf hb (p := ⟨(w.heap.size + 1 + 1), 4, none⟩) (by simp; try omega) (by go_simp)
  have hbw := bel3 hb
  clear hb
  go_wp2
  refine bodyPost_ret (v := .tuple #[.agg #[.int .i64 0, .int .i64 0, .int .i64 0, .int .i64 0, .string ⟨#[]⟩], .int .i64 (x)]) (by rw [results_cell_tmp rfl]; go_simp) rfl ?_; exact mg_bad HE.out HN.out (below_set5 hbw (by omega) _ _ _ _ _)

set_option maxHeartbeats 2000000 in
theorem rmerge_e2 (hs : s.size ≤ maxLen) (ht : t.size ≤ maxLen) (ha : A5.e ⟨k, c, q, n, s⟩ = 0) (he : ¬ A5.e ⟨l, d, p, m, t⟩ = 0) :
    Calls Try.prog 18 #[.agg #[.int .i64 k, .int .i64 c, .int .i64 q, .int .i64 n, .string s], .agg #[.int .i64 l, .int .i64 d, .int .i64 p, .int .i64 m, .string t]] w
      (Ret (.tuple #[A5.v (mg ⟨k, c, q, n, s⟩ ⟨l, d, p, m, t⟩), .int .i64 (mgE ⟨k, c, q, n, s⟩ ⟨l, d, p, m, t⟩)]) w) := by
  have HE : Hid (mgE ⟨k, c, q, n, s⟩ ⟨l, d, p, m, t⟩ = accE l d p m t.size) := hide (by unfold mgE; rw [if_neg (by simp [ha]), if_pos he]; rfl)
  have HN := hide he
  have t1 : (accE l d p m t.size != 0) = true := by rw [bne_iff_ne]; exact he
  have HC := hide (@archeck_any k c q n s)
  rw [show accE k c q n s.size = 0 from ha] at HC
  have HD := hide (@archeck_any l d p m t)
  clear he ha
  unfold A5.e at HN
  simp only at HN
  generalize accE l d p m t.size = x at *
  go_enter Try.func18, Try.ntmps18
  go_wp2_with fail
  refine (HC.out _ hs).mono ?_
  rintro e w1 ⟨rfl, hb⟩
  replace b0 := keep1 hb (p := ⟨(w.heap.size + 1), 0, none⟩) (v := .int .i64 (l)) (by go_simp); replace b1 := keep1 hb (p := ⟨(w.heap.size + 1), 1, none⟩) (v := .int .i64 (d)) (by go_simp); replace b2 := keep1 hb (p := ⟨(w.heap.size + 1), 2, none⟩) (v := .int .i64 (p)) (by go_simp); replace b3 := keep1 hb (p := ⟨(w.heap.size + 1), 3, none⟩) (v := .int .i64 (m)) (by go_simp); replace b4 := keep1 hb (p := ⟨(w.heap.size + 1), 4, none⟩) (v := .string t) (by go_simp)
  replace r0 := keep1 hb (p := ⟨(w.heap.size + 1 + 1), 0, none⟩) (v := .int .i64 (0)) (by go_simp); replace r1 := keep1 hb (p := ⟨(w.heap.size + 1 + 1), 1, none⟩) (v := .int .i64 (0)) (by go_simp); replace r2 := keep1 hb (p := ⟨(w.heap.size + 1 + 1), 2, none⟩) (v := .int .i64 (0)) (by go_simp); replace r3 := keep1 hb (p := ⟨(w.heap.size + 1 + 1), 3, none⟩) (v := .int .i64 (0)) (by go_simp); replace r4 := keep1 hb (p := ⟨(w.heap.size + 1 + 1), 4, none⟩) (v := .string ⟨#[]⟩) (by go_simp); replace g0 := keepf hb (p := ⟨(w.heap.size + 1 + 1), 0, none⟩) (by simp; try omega) (by go_simp); replace g1 := keepf hb (p := ⟨(w.heap.size + 1 + 1), 1, none⟩) (by simp; try omega) (by go_simp); replace g2 := keepf hb (p := ⟨(w.heap.size + 1 + 1), 2, none⟩) (by simp; try omega) (by go_simp); replace g3 := keepf hb (p := ⟨(w.heap.size + 1 + 1), 3, none⟩) (by simp; try omega) (by go_simp); replace g4 := keepf hb (p := ⟨(w.heap.size + 1 + 1), 4, none⟩) (by simp; try omega) (by go_simp)
  have hbw := bel3 hb
  have hz := hb.size
  simp only [World.size_alloc] at hz
  clear hb
  go_wp2_with fail
  refine (HD.out _ ht).mono ?_
  rintro e w2 ⟨rfl, hb⟩
  have hbw2 := bthen hbw hb
  replace r0 := keep1 hb (p := ⟨(w.heap.size + 1 + 1), 0, none⟩) (v := .int .i64 (0)) (by go_simp); replace r1 := keep1 hb (p := ⟨(w.heap.size + 1 + 1), 1, none⟩) (v := .int .i64 (0)) (by go_simp); replace r2 := keep1 hb (p := ⟨(w.heap.size + 1 + 1), 2, none⟩) (v := .int .i64 (0)) (by go_simp); replace r3 := keep1 hb (p := ⟨(w.heap.size + 1 + 1), 3, none⟩) (v := .int .i64 (0)) (by go_simp); replace r4 := keep1 hb (p := ⟨(w.heap.size + 1 + 1), 4, none⟩) (v := .string ⟨#[]⟩) (by go_simp); replace g0 := keepf hb (p := ⟨(w.heap.size + 1 + 1), 0, none⟩) (by simp; try omega) (by go_simp); replace g1 := keepf hb (p := ⟨(w.heap.size + 1 + 1), 1, none⟩) (by simp; try omega) (by go_simp); replace g2 := keepf hb (p := ⟨(w.heap.size + 1 + 1), 2, none⟩) (by simp; try omega) (by go_simp); replace g3 := keepf hb (p := ⟨(w.heap.size + 1 + 1), 3, none⟩) (by simp; try omega) (by go_simp); replace g4 := keepf hb (p := ⟨(w.heap.size + 1 + 1), 4, none⟩) (by simp; try omega) (by go_simp)
  clear hb b0 b1 b2 b3 b4
  go_wp2
  refine bodyPost_ret (v := .tuple #[.agg #[.int .i64 0, .int .i64 0, .int .i64 0, .int .i64 0, .string ⟨#[]⟩], .int .i64 (x)]) (by rw [results_cell_tmp rfl]; go_simp) rfl ?_; exact mg_bad HE.out HN.out (below_set5 hbw2 (by omega) _ _ _ _ _)

set_option maxHeartbeats 4000000 in
theorem rmerge_e3 (hs : s.size ≤ maxLen) (ht : t.size ≤ maxLen) (ha : A5.e ⟨k, c, q, n, s⟩ = 0) (he : A5.e ⟨l, d, p, m, t⟩ = 0) :
    Calls Try.prog 18 #[.agg #[.int .i64 k, .int .i64 c, .int .i64 q, .int .i64 n, .string s], .agg #[.int .i64 l, .int .i64 d, .int .i64 p, .int .i64 m, .string t]] w
      (Ret (.tuple #[A5.v (mg ⟨k, c, q, n, s⟩ ⟨l, d, p, m, t⟩), .int .i64 (mgE ⟨k, c, q, n, s⟩ ⟨l, d, p, m, t⟩)]) w) := by
  have HE : Hid (mgE ⟨k, c, q, n, s⟩ ⟨l, d, p, m, t⟩ = if k ≠ l then 22 else if 4096 < c + d then 5 else 0) := hide (by unfold mgE; rw [if_neg (by simp [ha]), if_neg (by simp [he])])
  have HC := hide (@archeck_any k c q n s)
  rw [show accE k c q n s.size = 0 from ha] at HC
  have HD := hide (@archeck_any l d p m t)
  rw [show accE l d p m t.size = 0 from he] at HD
  obtain ⟨hk, hc0, hc1, h0, h1⟩ := acc_ok (show accE k c q n s.size = 0 from ha)
  obtain ⟨hl, hd0, hd1, h2, h3⟩ := acc_ok (show accE l d p m t.size = 0 from he)
  have HK := hide hk
  clear he ha hk hl
  go_enter Try.func18, Try.ntmps18
  go_wp2_with fail
  refine (HC.out _ hs).mono ?_
  rintro e w1 ⟨rfl, hb⟩
  replace a0 := keep1 hb (p := ⟨w.heap.size, 0, none⟩) (v := .int .i64 (k)) (by go_simp); replace a1 := keep1 hb (p := ⟨w.heap.size, 1, none⟩) (v := .int .i64 (c)) (by go_simp); replace a2 := keep1 hb (p := ⟨w.heap.size, 2, none⟩) (v := .int .i64 (q)) (by go_simp); replace a3 := keep1 hb (p := ⟨w.heap.size, 3, none⟩) (v := .int .i64 (n)) (by go_simp); replace a4 := keep1 hb (p := ⟨w.heap.size, 4, none⟩) (v := .string s) (by go_simp)
  replace b0 := keep1 hb (p := ⟨(w.heap.size + 1), 0, none⟩) (v := .int .i64 (l)) (by go_simp); replace b1 := keep1 hb (p := ⟨(w.heap.size + 1), 1, none⟩) (v := .int .i64 (d)) (by go_simp); replace b2 := keep1 hb (p := ⟨(w.heap.size + 1), 2, none⟩) (v := .int .i64 (p)) (by go_simp); replace b3 := keep1 hb (p := ⟨(w.heap.size + 1), 3, none⟩) (v := .int .i64 (m)) (by go_simp); replace b4 := keep1 hb (p := ⟨(w.heap.size + 1), 4, none⟩) (v := .string t) (by go_simp)
  replace r0 := keep1 hb (p := ⟨(w.heap.size + 1 + 1), 0, none⟩) (v := .int .i64 (0)) (by go_simp); replace r1 := keep1 hb (p := ⟨(w.heap.size + 1 + 1), 1, none⟩) (v := .int .i64 (0)) (by go_simp); replace r2 := keep1 hb (p := ⟨(w.heap.size + 1 + 1), 2, none⟩) (v := .int .i64 (0)) (by go_simp); replace r3 := keep1 hb (p := ⟨(w.heap.size + 1 + 1), 3, none⟩) (v := .int .i64 (0)) (by go_simp); replace r4 := keep1 hb (p := ⟨(w.heap.size + 1 + 1), 4, none⟩) (v := .string ⟨#[]⟩) (by go_simp); replace g0 := keepf hb (p := ⟨(w.heap.size + 1 + 1), 0, none⟩) (by simp; try omega) (by go_simp); replace g1 := keepf hb (p := ⟨(w.heap.size + 1 + 1), 1, none⟩) (by simp; try omega) (by go_simp); replace g2 := keepf hb (p := ⟨(w.heap.size + 1 + 1), 2, none⟩) (by simp; try omega) (by go_simp); replace g3 := keepf hb (p := ⟨(w.heap.size + 1 + 1), 3, none⟩) (by simp; try omega) (by go_simp); replace g4 := keepf hb (p := ⟨(w.heap.size + 1 + 1), 4, none⟩) (by simp; try omega) (by go_simp)
  have hbw := bel3 hb
  have hz := hb.size
  simp only [World.size_alloc] at hz
  clear hb
  go_wp2_with fail
  refine (HD.out _ ht).mono ?_
  rintro e w2 ⟨rfl, hb⟩
  have hbw2 := bthen hbw hb
  replace a0 := keep1 hb (p := ⟨w.heap.size, 0, none⟩) (v := .int .i64 (k)) (by go_simp); replace a1 := keep1 hb (p := ⟨w.heap.size, 1, none⟩) (v := .int .i64 (c)) (by go_simp); replace a2 := keep1 hb (p := ⟨w.heap.size, 2, none⟩) (v := .int .i64 (q)) (by go_simp); replace a3 := keep1 hb (p := ⟨w.heap.size, 3, none⟩) (v := .int .i64 (n)) (by go_simp); replace a4 := keep1 hb (p := ⟨w.heap.size, 4, none⟩) (v := .string s) (by go_simp)
  replace b0 := keep1 hb (p := ⟨(w.heap.size + 1), 0, none⟩) (v := .int .i64 (l)) (by go_simp); replace b1 := keep1 hb (p := ⟨(w.heap.size + 1), 1, none⟩) (v := .int .i64 (d)) (by go_simp); replace b2 := keep1 hb (p := ⟨(w.heap.size + 1), 2, none⟩) (v := .int .i64 (p)) (by go_simp); replace b3 := keep1 hb (p := ⟨(w.heap.size + 1), 3, none⟩) (v := .int .i64 (m)) (by go_simp); replace b4 := keep1 hb (p := ⟨(w.heap.size + 1), 4, none⟩) (v := .string t) (by go_simp)
  replace r0 := keep1 hb (p := ⟨(w.heap.size + 1 + 1), 0, none⟩) (v := .int .i64 (0)) (by go_simp); replace r1 := keep1 hb (p := ⟨(w.heap.size + 1 + 1), 1, none⟩) (v := .int .i64 (0)) (by go_simp); replace r2 := keep1 hb (p := ⟨(w.heap.size + 1 + 1), 2, none⟩) (v := .int .i64 (0)) (by go_simp); replace r3 := keep1 hb (p := ⟨(w.heap.size + 1 + 1), 3, none⟩) (v := .int .i64 (0)) (by go_simp); replace r4 := keep1 hb (p := ⟨(w.heap.size + 1 + 1), 4, none⟩) (v := .string ⟨#[]⟩) (by go_simp); replace g0 := keepf hb (p := ⟨(w.heap.size + 1 + 1), 0, none⟩) (by simp; try omega) (by go_simp); replace g1 := keepf hb (p := ⟨(w.heap.size + 1 + 1), 1, none⟩) (by simp; try omega) (by go_simp); replace g2 := keepf hb (p := ⟨(w.heap.size + 1 + 1), 2, none⟩) (by simp; try omega) (by go_simp); replace g3 := keepf hb (p := ⟨(w.heap.size + 1 + 1), 3, none⟩) (by simp; try omega) (by go_simp); replace g4 := keepf hb (p := ⟨(w.heap.size + 1 + 1), 4, none⟩) (by simp; try omega) (by go_simp)
  have hz2 := hb.size
  clear hb hbw
  by_cases hkl : k = l
  · subst hkl
    by_cases hcd : 4096 < c + d
    · have HZ : Hid (mgE ⟨k, c, q, n, s⟩ ⟨k, d, p, m, t⟩ = 5) := hide (by rw [HE.out, if_neg (by simp), if_pos hcd])
      clear HE
      go_wp2
      refine bodyPost_ret (v := .tuple #[.agg #[.int .i64 0, .int .i64 0, .int .i64 0, .int .i64 0, .string ⟨#[]⟩], .int .i64 (5)]) (by rw [results_cell_tmp rfl]; go_simp) rfl ?_; exact mg_bad HZ.out (by decide) (below_set5 hbw2 (by omega) _ _ _ _ _)
    · have HZ : Hid (mgE ⟨k, c, q, n, s⟩ ⟨k, d, p, m, t⟩ = 0) := hide (by rw [HE.out, if_neg (by simp), if_neg hcd])
      have hcd' : c + d ≤ 4096 := by omega
      clear HE hcd
      by_cases hc : c = 0
      · subst hc
        have HR : Hid (mrg ⟨k, 0, q, n, s⟩ ⟨k, d, p, m, t⟩ = ⟨k, d, p, m, t⟩) := hide (by simp [mrg, mrgK, mrgQ, mrgN, mrgS])
        go_wp2
        refine bodyPost_ret (v := .tuple #[A5.v ⟨k, d, p, m, t⟩, .int .i64 0]) (by rw [results_cell_tmp rfl]; go_simp) rfl ?_; exact mg_good HZ.out HR.out (below_set5 hbw2 (by omega) _ _ _ _ _)
      · have t1 : (c == 0) = false := by rw [beq_eq_false_iff_ne]; exact hc
        have HCN := hide hc
        clear hc
        by_cases hd : d = 0
        · subst hd
          have HR : Hid (mrg ⟨k, c, q, n, s⟩ ⟨k, 0, p, m, t⟩ = ⟨k, c, q, n, s⟩) := hide (by simp [mrg, mrgK, mrgQ, mrgN, mrgS, HCN.out])
          go_wp2
          refine bodyPost_ret (v := .tuple #[A5.v ⟨k, c, q, n, s⟩, .int .i64 0]) (by rw [results_cell_tmp rfl]; go_simp) rfl ?_; exact mg_good HZ.out HR.out (below_set5 hbw2 (by omega) _ _ _ _ _)
        · have t2 : (d == 0) = false := by rw [beq_eq_false_iff_ne]; exact hd
          have HR : Hid (mrg ⟨k, c, q, n, s⟩ ⟨k, d, p, m, t⟩ = ⟨k, c + d, comQ k q p, comN k n m, comS k s t⟩) := hide (by simp [mrg, mrgK, mrgQ, mrgN, mrgS, HCN.out, hd])
          clear hd
          have ne1 : ¬ w.heap.size + 1 + 1 = w.heap.size := by omega
          have hw : IntKind.i64.wrap (c + d) = c + d := IntWalk.i64_in _ (by omega)
          go_wp2_with fail
          go_region_held3 (fun w' => (w'.cell? ⟨w.heap.size, 0, none⟩ = some (.int .i64 k) ∧ w'.cell? ⟨w.heap.size, 1, none⟩ = some (.int .i64 c) ∧ w'.cell? ⟨w.heap.size, 2, none⟩ = some (.int .i64 q) ∧ w'.cell? ⟨w.heap.size, 3, none⟩ = some (.int .i64 n) ∧ w'.cell? ⟨w.heap.size, 4, none⟩ = some (.string s) ∧ w'.cell? ⟨(w.heap.size + 1), 0, none⟩ = some (.int .i64 k) ∧ w'.cell? ⟨(w.heap.size + 1), 1, none⟩ = some (.int .i64 d) ∧ w'.cell? ⟨(w.heap.size + 1), 2, none⟩ = some (.int .i64 p) ∧ w'.cell? ⟨(w.heap.size + 1), 3, none⟩ = some (.int .i64 m) ∧ w'.cell? ⟨(w.heap.size + 1), 4, none⟩ = some (.string t)))
            (first | (go_keep; done) | exact keep10 hb ⟨a0, a1, a2, a3, a4, b0, b1, b2, b3, b4⟩)
            (first
              | (go_at_call 37; refine (rcombine_any _ _ _ _ _ _ _ _ HK.out (by omega) (by omega) (by omega) (by omega)).mono ?_; rintro e w3 ⟨rfl, hb'⟩; have hb : Below w2.heap.size w2 w3 := below_undrew hb'; replace r0 := keep1 hb (p := ⟨(w.heap.size + 1 + 1), 0, none⟩) (v := .int .i64 (0)) (by go_simp); replace r1 := keep1 hb (p := ⟨(w.heap.size + 1 + 1), 1, none⟩) (v := .int .i64 (0)) (by go_simp); replace r2 := keep1 hb (p := ⟨(w.heap.size + 1 + 1), 2, none⟩) (v := .int .i64 (0)) (by go_simp); replace r3 := keep1 hb (p := ⟨(w.heap.size + 1 + 1), 3, none⟩) (v := .int .i64 (0)) (by go_simp); replace r4 := keep1 hb (p := ⟨(w.heap.size + 1 + 1), 4, none⟩) (v := .string ⟨#[]⟩) (by go_simp); replace g0 := keepf hb (p := ⟨(w.heap.size + 1 + 1), 0, none⟩) (by simp; try omega) (by go_simp); replace g1 := keepf hb (p := ⟨(w.heap.size + 1 + 1), 1, none⟩) (by simp; try omega) (by go_simp); replace g2 := keepf hb (p := ⟨(w.heap.size + 1 + 1), 2, none⟩) (by simp; try omega) (by go_simp); replace g3 := keepf hb (p := ⟨(w.heap.size + 1 + 1), 3, none⟩) (by simp; try omega) (by go_simp); replace g4 := keepf hb (p := ⟨(w.heap.size + 1 + 1), 4, none⟩) (by simp; try omega) (by go_simp)))
          have hbw3 := bthen hbw2 hb
          clear hb hw ne1
          go_wp2
          refine bodyPost_ret (v := .tuple #[A5.v ⟨k, c + d, comQ k q p, comN k n m, comS k s t⟩, .int .i64 0]) (by rw [results_cell_tmp rfl]; go_simp) rfl ?_; exact mg_good HZ.out HR.out (below_set5 hbw3 (by omega) _ _ _ _ _)
  · have t1 : (k != l) = true := by rw [bne_iff_ne]; exact hkl
    have HZ : Hid (mgE ⟨k, c, q, n, s⟩ ⟨l, d, p, m, t⟩ = 22) := hide (by rw [HE.out, if_pos hkl])
    clear hkl HE
    go_wp2
    refine bodyPost_ret (v := .tuple #[.agg #[.int .i64 0, .int .i64 0, .int .i64 0, .int .i64 0, .string ⟨#[]⟩], .int .i64 (22)]) (by rw [results_cell_tmp rfl]; go_simp) rfl ?_; exact mg_bad HZ.out (by decide) (below_set5 hbw2 (by omega) _ _ _ _ _)

theorem rmerge_any (a b : A5) (hs : a.s.size ≤ maxLen) (ht : b.s.size ≤ maxLen) :
    Calls Try.prog 18 #[a.v, b.v] w (Ret (.tuple #[A5.v (mg a b), .int .i64 (mgE a b)]) w) := by
  obtain ⟨k, c, q, n, s⟩ := a
  obtain ⟨l, d, p, m, t⟩ := b
  by_cases ha : A5.e ⟨k, c, q, n, s⟩ = 0
  · by_cases hb : A5.e ⟨l, d, p, m, t⟩ = 0
    · exact rmerge_e3 k c q n l d p m s t w hs ht ha hb
    · exact rmerge_e2 k c q n l d p m s t w hs ht ha hb
  · exact rmerge_e1 k c q n l d p m s t w hs ha
end
end Go.Proofs.Ytgppohelgmadoaa
