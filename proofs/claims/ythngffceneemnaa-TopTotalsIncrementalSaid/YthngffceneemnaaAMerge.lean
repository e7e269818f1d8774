/- Merge, of the program and of the reference. -/
import Derived.Test.YthngffceneemnaaAMerged
namespace Go.Proofs.Ythngffceneemnaa
open Go.RowKit
set_option linter.unusedVariables false
set_option linter.unusedSimpArgs false

/-- An accumulator: its kind, its count, and the three parts of its value. -/
structure A5 where
  k : Int
  c : Int
  q : Int
  n : Int
  s : ByteArray
@[reducible] def A5.v (a : A5) : Value := .agg #[.int .i64 a.k, .int .i64 a.c, .int .i64 a.q, .int .i64 a.n, .string a.s]
def A5.e (a : A5) : Int := accE a.k a.c a.q a.n a.s.size
def A5.z : A5 := ⟨0, 0, 0, 0, ⟨#[]⟩⟩
def mrg (a b : A5) : A5 := ⟨mrgK a.c a.k b.k, a.c + b.c, mrgQ a.k a.c b.c a.q b.q, mrgN a.k a.c b.c a.n b.n, mrgS a.k a.c b.c a.s b.s⟩
def mgE (a b : A5) : Int := if a.e ≠ 0 then a.e else if b.e ≠ 0 then b.e else if a.k ≠ b.k then 22 else if 4096 < a.c + b.c then 5 else 0
def mg (a b : A5) : A5 := if mgE a b = 0 then mrg a b else A5.z

theorem acc_ok {k c q n : Int} {len : Nat} (h : accE k c q n len = 0) : knownB k = true ∧ 0 ≤ c ∧ c ≤ 4096 ∧ -4503599627370496 ≤ n ∧ n ≤ 4503599627370496 := by
  unfold accE at h
  cases hk : knownB k
  · rw [if_pos hk] at h; cases h
  · rw [if_neg (by simp [hk])] at h
    split at h
    · cases h
    · refine ⟨rfl, by omega, by omega, ?_⟩
      split at h
      · split at h
        · omega
        · cases h
      · split at h
        · split at h
          · rename_i h1 h2 h3 h4
            have : c * 1099511627776 ≤ 4096 * 1099511627776 := by omega
            omega
          · cases h
        · split at h
          · rename_i h1 h2 h3 h4
            have h5 := h4.1
            unfold checkC sizeC at h5
            (repeat' split at h5) <;> first | omega | skip
          · cases h

theorem keepf {W w' : World} (hB : Below W.heap.size W w') {p : Addr} (hp : p.block < W.heap.size) (h : W.frozen? p = false) : w'.frozen? p = false := (hB.frozen hp).trans h

theorem below_set5 {B R : Nat} {a w : World} (h : Below B a w) (hp : B ≤ R) (v0 v1 v2 v3 v4 : Value) : Below B a (((((w.setCell ⟨R, 0, none⟩ v0).setCell ⟨R, 1, none⟩ v1).setCell ⟨R, 2, none⟩ v2).setCell ⟨R, 3, none⟩ v3).setCell ⟨R, 4, none⟩ v4) :=
  ((((h.setCell (p := ⟨R, 0, none⟩) hp _).setCell (p := ⟨R, 1, none⟩) hp _).setCell (p := ⟨R, 2, none⟩) hp _).setCell (p := ⟨R, 3, none⟩) hp _).setCell (p := ⟨R, 4, none⟩) hp _
theorem mg_bad {a b : A5} {x : Int} (h : mgE a b = x) (hx : ¬ x = 0) {w w' : World} (hb : Below w.heap.size w w') :
    Ret (.tuple #[A5.v (mg a b), .int .i64 (mgE a b)]) w (.returned (.tuple #[.agg #[.int .i64 0, .int .i64 0, .int .i64 0, .int .i64 0, .string ⟨#[]⟩], .int .i64 x])) w' := by
  subst h
  refine ⟨?_, hb⟩
  rw [show mg a b = A5.z from if_neg hx]
  rfl
/-- Three blocks are laid, then a call. -/
theorem bel3 {w w1 : World} {o0 o1 o2 : Obj} (h : Below (((w.alloc o0).alloc o1).alloc o2).heap.size (((w.alloc o0).alloc o1).alloc o2) w1) : Below w.heap.size w w1 := bthen (bthen (bthen (below_laid _) (below_laid _)) (below_laid _)) h
theorem bel4 {w w1 : World} {o0 o1 o2 o3 : Obj} (h : Below ((((w.alloc o0).alloc o1).alloc o2).alloc o3).heap.size ((((w.alloc o0).alloc o1).alloc o2).alloc o3) w1) : Below w.heap.size w w1 := bthen (bthen (bthen (bthen (below_laid _) (below_laid _)) (below_laid _)) (below_laid _)) h
theorem bel5 {w w1 : World} {o0 o1 o2 o3 o4 : Obj} (h : Below (((((w.alloc o0).alloc o1).alloc o2).alloc o3).alloc o4).heap.size (((((w.alloc o0).alloc o1).alloc o2).alloc o3).alloc o4) w1) : Below w.heap.size w w1 := bthen (bthen (bthen (bthen (bthen (below_laid _) (below_laid _)) (below_laid _)) (below_laid _)) (below_laid _)) h
theorem bel1 {w w1 : World} {o0 : Obj} (h : Below (w.alloc o0).heap.size (w.alloc o0) w1) : Below w.heap.size w w1 := bthen (below_laid _) h

section
variable (k c q n l d p m : Int) (s t : ByteArray) (w : World)
set_option maxHeartbeats 2000000 in
theorem merge_e1 (hs : s.size ≤ maxLen) (he : ¬ A5.e ⟨k, c, q, n, s⟩ = 0) :
    Calls Try.prog 9 #[.agg #[.int .i64 k, .int .i64 c, .int .i64 q, .int .i64 n, .string s], .agg #[.int .i64 l, .int .i64 d, .int .i64 p, .int .i64 m, .string t]] w
      (Ret (.tuple #[A5.v (mg ⟨k, c, q, n, s⟩ ⟨l, d, p, m, t⟩), .int .i64 (mgE ⟨k, c, q, n, s⟩ ⟨l, d, p, m, t⟩)]) w) := by
  have HE : Hid (mgE ⟨k, c, q, n, s⟩ ⟨l, d, p, m, t⟩ = accE k c q n s.size) := hide (if_pos he)
  have HN := hide he
  have t1 : (accE k c q n s.size != 0) = true := by rw [bne_iff_ne]; exact he
  clear he
  have HC := hide (@acheck_any k c q n s)
  unfold A5.e at HN
  simp only at HN
  generalize accE k c q n s.size = x at *
  go_enter Try.func9, Try.ntmps9
  go_wp2
  refine wp_loop_rounds 1 ?_
  rw [rounds_succ]
  go_wp2_with fail
  refine (HC.out _ hs).mono ?_
  rintro e w1 ⟨rfl, hb⟩
  replace r0 := keep1 hb (p := ⟨(w.heap.size + 1 + 1), 0, none⟩) (v := .int .i64 (0)) (by go_simp); replace r1 := keep1 hb (p := ⟨(w.heap.size + 1 + 1), 1, none⟩) (v := .int .i64 (0)) (by go_simp); replace r2 := keep1 hb (p := ⟨(w.heap.size + 1 + 1), 2, none⟩) (v := .int .i64 (0)) (by go_simp); replace r3 := keep1 hb (p := ⟨(w.heap.size + 1 + 1), 3, none⟩) (v := .int .i64 (0)) (by go_simp); replace r4 := keep1 hb (p := ⟨(w.heap.size + 1 + 1), 4, none⟩) (v := .string ⟨#[]⟩) (by go_simp); replace g0 := keepf hb (p := ⟨(w.heap.size + 1 + 1), 0, none⟩) (by simp; try omega) (by go_simp); replace g1 := keepf hb (p := ⟨(w.heap.size + 1 + 1), 1, none⟩) (by simp; try omega) (by go_simp); replace g2 := keepf hb (p := ⟨(w.heap.size + 1 + 1), 2, none⟩) (by simp; try omega) (by go_simp); replace g3 := keepf hb (p := ⟨(w.heap.size + 1 + 1), 3, none⟩) (by simp; try omega) (by go_simp); replace g4 := keepf hb (p := ⟨(w.heap.size + 1 + 1), 4, none⟩) (by simp; try omega) (by go_simp)
  have hbw := bel5 hb
  clear hb
  go_wp2
  refine bodyPost_ret (v := .tuple #[.agg #[.int .i64 0, .int .i64 0, .int .i64 0, .int .i64 0, .string ⟨#[]⟩], .int .i64 (x)]) (by rw [results_cell_tmp rfl]; go_simp) rfl ?_; exact mg_bad HE.out HN.out (below_set5 hbw (by omega) _ _ _ _ _)

set_option maxHeartbeats 2000000 in
theorem merge_e2 (hs : s.size ≤ maxLen) (ht : t.size ≤ maxLen) (ha : A5.e ⟨k, c, q, n, s⟩ = 0) (he : ¬ A5.e ⟨l, d, p, m, t⟩ = 0) :
    Calls Try.prog 9 #[.agg #[.int .i64 k, .int .i64 c, .int .i64 q, .int .i64 n, .string s], .agg #[.int .i64 l, .int .i64 d, .int .i64 p, .int .i64 m, .string t]] w
      (Ret (.tuple #[A5.v (mg ⟨k, c, q, n, s⟩ ⟨l, d, p, m, t⟩), .int .i64 (mgE ⟨k, c, q, n, s⟩ ⟨l, d, p, m, t⟩)]) w) := by
  have HE : Hid (mgE ⟨k, c, q, n, s⟩ ⟨l, d, p, m, t⟩ = accE l d p m t.size) := hide (by unfold mgE; rw [if_neg (by simp [ha]), if_pos he]; rfl)
  have HN := hide he
  have t1 : (accE l d p m t.size != 0) = true := by rw [bne_iff_ne]; exact he
  have HC := hide (@acheck_any k c q n s)
  rw [show accE k c q n s.size = 0 from ha] at HC
  have HD := hide (@acheck_any l d p m t)
  clear he ha
  unfold A5.e at HN
  simp only at HN
  generalize accE l d p m t.size = x at *
  go_enter Try.func9, Try.ntmps9
  go_wp2
  refine wp_loop_rounds 2 ?_
  rw [rounds_succ]
  go_wp2_with fail
  refine (HC.out _ hs).mono ?_
  rintro e w1 ⟨rfl, hb⟩
  replace r0 := keep1 hb (p := ⟨(w.heap.size + 1 + 1), 0, none⟩) (v := .int .i64 (0)) (by go_simp); replace r1 := keep1 hb (p := ⟨(w.heap.size + 1 + 1), 1, none⟩) (v := .int .i64 (0)) (by go_simp); replace r2 := keep1 hb (p := ⟨(w.heap.size + 1 + 1), 2, none⟩) (v := .int .i64 (0)) (by go_simp); replace r3 := keep1 hb (p := ⟨(w.heap.size + 1 + 1), 3, none⟩) (v := .int .i64 (0)) (by go_simp); replace r4 := keep1 hb (p := ⟨(w.heap.size + 1 + 1), 4, none⟩) (v := .string ⟨#[]⟩) (by go_simp); replace g0 := keepf hb (p := ⟨(w.heap.size + 1 + 1), 0, none⟩) (by simp; try omega) (by go_simp); replace g1 := keepf hb (p := ⟨(w.heap.size + 1 + 1), 1, none⟩) (by simp; try omega) (by go_simp); replace g2 := keepf hb (p := ⟨(w.heap.size + 1 + 1), 2, none⟩) (by simp; try omega) (by go_simp); replace g3 := keepf hb (p := ⟨(w.heap.size + 1 + 1), 3, none⟩) (by simp; try omega) (by go_simp); replace g4 := keepf hb (p := ⟨(w.heap.size + 1 + 1), 4, none⟩) (by simp; try omega) (by go_simp)
  replace l0 := keep1 hb (p := ⟨(w.heap.size + 1 + 1 + 1), 0, none⟩) (v := .int .i64 (k)) (by go_simp); replace l1 := keep1 hb (p := ⟨(w.heap.size + 1 + 1 + 1), 1, none⟩) (v := .int .i64 (c)) (by go_simp); replace l2 := keep1 hb (p := ⟨(w.heap.size + 1 + 1 + 1), 2, none⟩) (v := .int .i64 (q)) (by go_simp); replace l3 := keep1 hb (p := ⟨(w.heap.size + 1 + 1 + 1), 3, none⟩) (v := .int .i64 (n)) (by go_simp); replace l4 := keep1 hb (p := ⟨(w.heap.size + 1 + 1 + 1), 4, none⟩) (v := .string s) (by go_simp)
  have m0 := keep1 hb (p := ⟨w.heap.size + 1 + 1 + 1, 5, none⟩) (v := .int .i64 l) (by go_simp)
  have m1 := keep1 hb (p := ⟨w.heap.size + 1 + 1 + 1, 6, none⟩) (v := .int .i64 d) (by go_simp)
  have m2 := keep1 hb (p := ⟨w.heap.size + 1 + 1 + 1, 7, none⟩) (v := .int .i64 p) (by go_simp)
  have m3 := keep1 hb (p := ⟨w.heap.size + 1 + 1 + 1, 8, none⟩) (v := .int .i64 m) (by go_simp)
  have m4 := keep1 hb (p := ⟨w.heap.size + 1 + 1 + 1, 9, none⟩) (v := .string t) (by go_simp)
  have hbw := bel5 hb
  have hz := hb.size
  simp only [World.size_alloc] at hz
  clear hb l0 l1 l2 l3 l4
  go_wp2
  rw [rounds_succ]
  go_wp2_with fail
  refine (HD.out _ ht).mono ?_
  rintro e w2 ⟨rfl, hb⟩
  have hbw2 := bthen hbw (bel1 hb)
  have hb := bel1 hb
  replace r0 := keep1 hb (p := ⟨(w.heap.size + 1 + 1), 0, none⟩) (v := .int .i64 (0)) (by go_simp); replace r1 := keep1 hb (p := ⟨(w.heap.size + 1 + 1), 1, none⟩) (v := .int .i64 (0)) (by go_simp); replace r2 := keep1 hb (p := ⟨(w.heap.size + 1 + 1), 2, none⟩) (v := .int .i64 (0)) (by go_simp); replace r3 := keep1 hb (p := ⟨(w.heap.size + 1 + 1), 3, none⟩) (v := .int .i64 (0)) (by go_simp); replace r4 := keep1 hb (p := ⟨(w.heap.size + 1 + 1), 4, none⟩) (v := .string ⟨#[]⟩) (by go_simp); replace g0 := keepf hb (p := ⟨(w.heap.size + 1 + 1), 0, none⟩) (by simp; try omega) (by go_simp); replace g1 := keepf hb (p := ⟨(w.heap.size + 1 + 1), 1, none⟩) (by simp; try omega) (by go_simp); replace g2 := keepf hb (p := ⟨(w.heap.size + 1 + 1), 2, none⟩) (by simp; try omega) (by go_simp); replace g3 := keepf hb (p := ⟨(w.heap.size + 1 + 1), 3, none⟩) (by simp; try omega) (by go_simp); replace g4 := keepf hb (p := ⟨(w.heap.size + 1 + 1), 4, none⟩) (by simp; try omega) (by go_simp)
  clear hb
  go_wp2
  refine bodyPost_ret (v := .tuple #[.agg #[.int .i64 0, .int .i64 0, .int .i64 0, .int .i64 0, .string ⟨#[]⟩], .int .i64 (x)]) (by rw [results_cell_tmp rfl]; go_simp) rfl ?_; exact mg_bad HE.out HN.out (below_set5 hbw2 (by omega) _ _ _ _ _)

theorem mg_good {a b r : A5} (h : mgE a b = 0) (hr : mrg a b = r) {w w' : World} (hb : Below w.heap.size w w') :
    Ret (.tuple #[A5.v (mg a b), .int .i64 (mgE a b)]) w (.returned (.tuple #[A5.v r, .int .i64 0])) w' := by
  refine ⟨?_, hb⟩
  rw [show mg a b = mrg a b from if_pos h, h, hr]

set_option maxHeartbeats 4000000 in
theorem merge_e3 (hs : s.size ≤ maxLen) (ht : t.size ≤ maxLen) (ha : A5.e ⟨k, c, q, n, s⟩ = 0) (he : A5.e ⟨l, d, p, m, t⟩ = 0) :
    Calls Try.prog 9 #[.agg #[.int .i64 k, .int .i64 c, .int .i64 q, .int .i64 n, .string s], .agg #[.int .i64 l, .int .i64 d, .int .i64 p, .int .i64 m, .string t]] w
      (Ret (.tuple #[A5.v (mg ⟨k, c, q, n, s⟩ ⟨l, d, p, m, t⟩), .int .i64 (mgE ⟨k, c, q, n, s⟩ ⟨l, d, p, m, t⟩)]) w) := by
  have HE : Hid (mgE ⟨k, c, q, n, s⟩ ⟨l, d, p, m, t⟩ = if k ≠ l then 22 else if 4096 < c + d then 5 else 0) := hide (by unfold mgE; rw [if_neg (by simp [ha]), if_neg (by simp [he])])
  have HC := hide (@acheck_any k c q n s)
  rw [show accE k c q n s.size = 0 from ha] at HC
  have HD := hide (@acheck_any l d p m t)
  rw [show accE l d p m t.size = 0 from he] at HD
  obtain ⟨hk, hc0, hc1, h0, h1⟩ := acc_ok (show accE k c q n s.size = 0 from ha)
  obtain ⟨hl, hd0, hd1, h2, h3⟩ := acc_ok (show accE l d p m t.size = 0 from he)
  have HK := hide hk
  clear he ha hk hl
  go_enter Try.func9, Try.ntmps9
  go_wp2
  refine wp_loop_rounds 3 ?_
  rw [rounds_succ]
  go_wp2_with fail
  refine (HC.out _ hs).mono ?_
  rintro e w1 ⟨rfl, hb⟩
  replace a0 := keep1 hb (p := ⟨w.heap.size, 0, none⟩) (v := .int .i64 (k)) (by go_simp); replace a1 := keep1 hb (p := ⟨w.heap.size, 1, none⟩) (v := .int .i64 (c)) (by go_simp); replace a2 := keep1 hb (p := ⟨w.heap.size, 2, none⟩) (v := .int .i64 (q)) (by go_simp); replace a3 := keep1 hb (p := ⟨w.heap.size, 3, none⟩) (v := .int .i64 (n)) (by go_simp); replace a4 := keep1 hb (p := ⟨w.heap.size, 4, none⟩) (v := .string s) (by go_simp)
  replace b0 := keep1 hb (p := ⟨(w.heap.size + 1), 0, none⟩) (v := .int .i64 (l)) (by go_simp); replace b1 := keep1 hb (p := ⟨(w.heap.size + 1), 1, none⟩) (v := .int .i64 (d)) (by go_simp); replace b2 := keep1 hb (p := ⟨(w.heap.size + 1), 2, none⟩) (v := .int .i64 (p)) (by go_simp); replace b3 := keep1 hb (p := ⟨(w.heap.size + 1), 3, none⟩) (v := .int .i64 (m)) (by go_simp); replace b4 := keep1 hb (p := ⟨(w.heap.size + 1), 4, none⟩) (v := .string t) (by go_simp)
  replace r0 := keep1 hb (p := ⟨(w.heap.size + 1 + 1), 0, none⟩) (v := .int .i64 (0)) (by go_simp); replace r1 := keep1 hb (p := ⟨(w.heap.size + 1 + 1), 1, none⟩) (v := .int .i64 (0)) (by go_simp); replace r2 := keep1 hb (p := ⟨(w.heap.size + 1 + 1), 2, none⟩) (v := .int .i64 (0)) (by go_simp); replace r3 := keep1 hb (p := ⟨(w.heap.size + 1 + 1), 3, none⟩) (v := .int .i64 (0)) (by go_simp); replace r4 := keep1 hb (p := ⟨(w.heap.size + 1 + 1), 4, none⟩) (v := .string ⟨#[]⟩) (by go_simp); replace g0 := keepf hb (p := ⟨(w.heap.size + 1 + 1), 0, none⟩) (by simp; try omega) (by go_simp); replace g1 := keepf hb (p := ⟨(w.heap.size + 1 + 1), 1, none⟩) (by simp; try omega) (by go_simp); replace g2 := keepf hb (p := ⟨(w.heap.size + 1 + 1), 2, none⟩) (by simp; try omega) (by go_simp); replace g3 := keepf hb (p := ⟨(w.heap.size + 1 + 1), 3, none⟩) (by simp; try omega) (by go_simp); replace g4 := keepf hb (p := ⟨(w.heap.size + 1 + 1), 4, none⟩) (by simp; try omega) (by go_simp)
  have m0 := keep1 hb (p := ⟨w.heap.size + 1 + 1 + 1, 5, none⟩) (v := .int .i64 l) (by go_simp)
  have m1 := keep1 hb (p := ⟨w.heap.size + 1 + 1 + 1, 6, none⟩) (v := .int .i64 d) (by go_simp)
  have m2 := keep1 hb (p := ⟨w.heap.size + 1 + 1 + 1, 7, none⟩) (v := .int .i64 p) (by go_simp)
  have m3 := keep1 hb (p := ⟨w.heap.size + 1 + 1 + 1, 8, none⟩) (v := .int .i64 m) (by go_simp)
  have m4 := keep1 hb (p := ⟨w.heap.size + 1 + 1 + 1, 9, none⟩) (v := .string t) (by go_simp)
  have hbw := bel5 hb
  have hz := hb.size
  simp only [World.size_alloc] at hz
  clear hb
  go_wp2
  rw [rounds_succ]
  go_wp2_with fail
  refine (HD.out _ ht).mono ?_
  rintro e w2 ⟨rfl, hb⟩
  have hbw2 := bthen hbw (bel1 hb)
  have hb := bel1 hb
  replace a0 := keep1 hb (p := ⟨w.heap.size, 0, none⟩) (v := .int .i64 (k)) (by go_simp); replace a1 := keep1 hb (p := ⟨w.heap.size, 1, none⟩) (v := .int .i64 (c)) (by go_simp); replace a2 := keep1 hb (p := ⟨w.heap.size, 2, none⟩) (v := .int .i64 (q)) (by go_simp); replace a3 := keep1 hb (p := ⟨w.heap.size, 3, none⟩) (v := .int .i64 (n)) (by go_simp); replace a4 := keep1 hb (p := ⟨w.heap.size, 4, none⟩) (v := .string s) (by go_simp)
  replace b0 := keep1 hb (p := ⟨(w.heap.size + 1), 0, none⟩) (v := .int .i64 (l)) (by go_simp); replace b1 := keep1 hb (p := ⟨(w.heap.size + 1), 1, none⟩) (v := .int .i64 (d)) (by go_simp); replace b2 := keep1 hb (p := ⟨(w.heap.size + 1), 2, none⟩) (v := .int .i64 (p)) (by go_simp); replace b3 := keep1 hb (p := ⟨(w.heap.size + 1), 3, none⟩) (v := .int .i64 (m)) (by go_simp); replace b4 := keep1 hb (p := ⟨(w.heap.size + 1), 4, none⟩) (v := .string t) (by go_simp)
  replace r0 := keep1 hb (p := ⟨(w.heap.size + 1 + 1), 0, none⟩) (v := .int .i64 (0)) (by go_simp); replace r1 := keep1 hb (p := ⟨(w.heap.size + 1 + 1), 1, none⟩) (v := .int .i64 (0)) (by go_simp); replace r2 := keep1 hb (p := ⟨(w.heap.size + 1 + 1), 2, none⟩) (v := .int .i64 (0)) (by go_simp); replace r3 := keep1 hb (p := ⟨(w.heap.size + 1 + 1), 3, none⟩) (v := .int .i64 (0)) (by go_simp); replace r4 := keep1 hb (p := ⟨(w.heap.size + 1 + 1), 4, none⟩) (v := .string ⟨#[]⟩) (by go_simp); replace g0 := keepf hb (p := ⟨(w.heap.size + 1 + 1), 0, none⟩) (by simp; try omega) (by go_simp); replace g1 := keepf hb (p := ⟨(w.heap.size + 1 + 1), 1, none⟩) (by simp; try omega) (by go_simp); replace g2 := keepf hb (p := ⟨(w.heap.size + 1 + 1), 2, none⟩) (by simp; try omega) (by go_simp); replace g3 := keepf hb (p := ⟨(w.heap.size + 1 + 1), 3, none⟩) (by simp; try omega) (by go_simp); replace g4 := keepf hb (p := ⟨(w.heap.size + 1 + 1), 4, none⟩) (by simp; try omega) (by go_simp)
  have hz2 := hb.size
  clear hb hbw m0 m1 m2 m3 m4
  by_cases hkl : k = l
  · subst hkl
    by_cases hcd : 4096 < c + d
    · have HZ : Hid (mgE ⟨k, c, q, n, s⟩ ⟨k, d, p, m, t⟩ = 5) := hide (by rw [HE.out, if_neg (by simp), if_pos hcd])
      clear HE
      go_wp2
      rw [rounds_succ]
      go_wp2
      refine bodyPost_ret (v := .tuple #[.agg #[.int .i64 0, .int .i64 0, .int .i64 0, .int .i64 0, .string ⟨#[]⟩], .int .i64 (5)]) (by rw [results_cell_tmp rfl]; go_simp) rfl ?_; exact mg_bad HZ.out (by decide) (below_set5 hbw2 (by omega) _ _ _ _ _)
    · have HZ : Hid (mgE ⟨k, c, q, n, s⟩ ⟨k, d, p, m, t⟩ = 0) := hide (by rw [HE.out, if_neg (by simp), if_neg hcd])
      have hcd' : c + d ≤ 4096 := by omega
      clear HE hcd
      go_wp2
      rw [rounds_succ]
      go_wp2_with fail
      refine (merged_any k c q n k d p m s t _ HK.out hc0 (by omega) hd0 (by omega) (by omega) (by omega) (by omega) (by omega)).mono ?_
      rintro e w3 ⟨rfl, hb⟩
      have hbw3 := bthen hbw2 hb
      replace r0 := keep1 hb (p := ⟨(w.heap.size + 1 + 1), 0, none⟩) (v := .int .i64 (0)) (by go_simp); replace r1 := keep1 hb (p := ⟨(w.heap.size + 1 + 1), 1, none⟩) (v := .int .i64 (0)) (by go_simp); replace r2 := keep1 hb (p := ⟨(w.heap.size + 1 + 1), 2, none⟩) (v := .int .i64 (0)) (by go_simp); replace r3 := keep1 hb (p := ⟨(w.heap.size + 1 + 1), 3, none⟩) (v := .int .i64 (0)) (by go_simp); replace r4 := keep1 hb (p := ⟨(w.heap.size + 1 + 1), 4, none⟩) (v := .string ⟨#[]⟩) (by go_simp); replace g0 := keepf hb (p := ⟨(w.heap.size + 1 + 1), 0, none⟩) (by simp; try omega) (by go_simp); replace g1 := keepf hb (p := ⟨(w.heap.size + 1 + 1), 1, none⟩) (by simp; try omega) (by go_simp); replace g2 := keepf hb (p := ⟨(w.heap.size + 1 + 1), 2, none⟩) (by simp; try omega) (by go_simp); replace g3 := keepf hb (p := ⟨(w.heap.size + 1 + 1), 3, none⟩) (by simp; try omega) (by go_simp); replace g4 := keepf hb (p := ⟨(w.heap.size + 1 + 1), 4, none⟩) (by simp; try omega) (by go_simp)
      clear hb a0 a1 a2 a3 a4 b0 b1 b2 b3 b4
      go_wp2
      refine bodyPost_ret (v := .tuple #[A5.v ⟨mrgK c k k, c + d, mrgQ k c d q p, mrgN k c d n m, mrgS k c d s t⟩, .int .i64 0]) (by rw [results_cell_tmp rfl]; go_simp) rfl ?_; exact mg_good HZ.out rfl (below_set5 hbw3 (by omega) _ _ _ _ _)
  · have t1 : (k != l) = true := by rw [bne_iff_ne]; exact hkl
    have HZ : Hid (mgE ⟨k, c, q, n, s⟩ ⟨l, d, p, m, t⟩ = 22) := hide (by rw [HE.out, if_pos hkl])
    clear hkl HE
    go_wp2
    rw [rounds_succ]
    go_wp2
    refine bodyPost_ret (v := .tuple #[.agg #[.int .i64 0, .int .i64 0, .int .i64 0, .int .i64 0, .string ⟨#[]⟩], .int .i64 (22)]) (by rw [results_cell_tmp rfl]; go_simp) rfl ?_; exact mg_bad HZ.out (by decide) (below_set5 hbw2 (by omega) _ _ _ _ _)

theorem merge_any (a b : A5) (hs : a.s.size ≤ maxLen) (ht : b.s.size ≤ maxLen) :
    Calls Try.prog 9 #[a.v, b.v] w (Ret (.tuple #[A5.v (mg a b), .int .i64 (mgE a b)]) w) := by
  obtain ⟨k, c, q, n, s⟩ := a
  obtain ⟨l, d, p, m, t⟩ := b
  by_cases ha : A5.e ⟨k, c, q, n, s⟩ = 0
  · by_cases hb : A5.e ⟨l, d, p, m, t⟩ = 0
    · exact merge_e3 k c q n l d p m s t w hs ht ha hb
    · exact merge_e2 k c q n l d p m s t w hs ht ha hb
  · exact merge_e1 k c q n l d p m s t w hs ha
end
end Go.Proofs.Ythngffceneemnaa
