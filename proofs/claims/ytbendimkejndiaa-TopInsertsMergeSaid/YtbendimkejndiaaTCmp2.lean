/- event.Compare. -/
import Derived.Test.YtbendimkejndiaaTCmp
namespace Go.Proofs.Ytbendimkejndiaa
open Go.RowKit
set_option linter.unusedVariables false
set_option linter.unusedSimpArgs false
def Fix (u : Value) : World → Value → Prop := fun _ v => v = u
/-- A list of numbers that has just been made. -/
def ThreeN (B : Nat) (x y z : Int) : World → Value → Prop := fun w v => ∃ g, v = .slice (some ⟨g, 0, none⟩) 3 3 ∧ B ≤ g ∧ w.cell? ⟨g, 0, none⟩ = some (.int .i64 x) ∧ w.cell? ⟨g, 0 + 1, none⟩ = some (.int .i64 y) ∧ w.cell? ⟨g, 0 + 2, none⟩ = some (.int .i64 z)
theorem keepG {w w' : World} (h : GR w w') {p : Addr} {v : Value} (hc : w.cell? p = some v) : w'.cell? p = some v := by
  have hb := World.block_lt_of_cell? w _ hc
  unfold World.cell? at hc ⊢
  rw [h.below.block _ hb]; exact hc
section
variable (a b c d a' b' c' d' : Int) (A A' : Option Addr) (n m n' m' : Nat) (w : World)
set_option maxRecDepth 100000 in
set_option maxHeartbeats 4000000 in
theorem ecmp_any : Calls Try.prog 29 #[.agg #[.int .i64 a, .int .i64 b, .int .i64 c, .int .i64 d, .slice A n m], .agg #[.int .i64 a', .int .i64 b', .int .i64 c', .int .i64 d', .slice A' n' m']] w (RetG (.int .i64 (or2 (cmpI d d') (or2 (cmpI a a') (cmpI b b')))) w) := by
  have HB := hide (((GR.refl w).alloc (.cells #[.int .i64 a, .int .i64 b, .int .i64 c, .int .i64 d, .slice A n m] 32)).alloc (.cells #[.int .i64 a', .int .i64 b', .int .i64 c', .int .i64 d', .slice A' n' m'] 32))
  have hY := fun (k : Nat) (u : Value) h => keep1 (below_laid (.cells #[.int .i64 a', .int .i64 b', .int .i64 c', .int .i64 d', .slice A' n' m'] 32)) (cells_lit w [.int .i64 a, .int .i64 b, .int .i64 c, .int .i64 d, .slice A n m] 32 k u h)
  have hZ := cells_lit (w.alloc (.cells #[.int .i64 a, .int .i64 b, .int .i64 c, .int .i64 d, .slice A n m] 32)) [.int .i64 a', .int .i64 b', .int .i64 c', .int .i64 d', .slice A' n' m'] 32
  rw [World.size_alloc] at hZ
  have y0 := hY 0 _ rfl
  have y1 := hY 1 _ rfl
  have y2 := hY 2 _ rfl
  have y3 := hY 3 _ rfl
  have y4 := hY 4 _ rfl
  have z0 := hZ 0 _ rfl
  have z1 := hZ 1 _ rfl
  have z2 := hZ 2 _ rfl
  have z3 := hZ 3 _ rfl
  have z4 := hZ 4 _ rfl
  clear hY hZ
  obtain ⟨v, hv⟩ : ∃ v, or2 (cmpI d d') (or2 (cmpI a a') (cmpI b b')) = v := ⟨_, rfl⟩
  have HV := hide hv
  rw [hv]
  clear hv
  go_enter Try.func29, Try.ntmps29
  go_wp2_with fail
  obtain ⟨W2, hW⟩ : ∃ W2, (w.alloc (.cells #[.int .i64 a, .int .i64 b, .int .i64 c, .int .i64 d, .slice A n m] 32)).alloc (.cells #[.int .i64 a', .int .i64 b', .int .i64 c', .int .i64 d', .slice A' n' m'] 32) = W2 := ⟨_, rfl⟩
  rw [hW] at HB y0 y1 y2 y3 y4 z0 z1 z2 z3 z4 ⊢
  clear hW
  refine wp_region_gr 4 [5, 6, 7, 8] [Fix (.agg #[.int .i64 a, .int .i64 b, .int .i64 c, .int .i64 d, .slice A n m]), Fix (.agg #[.int .i64 d, .int .i64 a, .int .i64 b]), Fix (.agg #[.int .i64 a', .int .i64 b', .int .i64 c', .int .i64 d', .slice A' n' m']), Fix (.agg #[.int .i64 d', .int .i64 a', .int .i64 b'])] (by kernel_rfl) (by kernel_rfl) (by kernel_rfl) (by kernel_rfl) (by kernel_rfl) ?_ ?_ ?_
  · intro p hp
    simp only [List.mem_cons, List.not_mem_nil, or_false] at hp
    rcases hp with rfl | rfl | rfl | rfl
    all_goals exact (fun _ _ _ _ h => h)
  · intro j9 o9 hj9 ho x w5 hb hd
    have hjc : j9 = 0 ∨ j9 = 1 ∨ j9 = 2 ∨ j9 = 3 := by omega
    rcases hjc with rfl | rfl | rfl | rfl
    all_goals obtain rfl := Option.some.inj ho
    all_goals generalize hK : (fun (a' : Act) (w' : World) => _) = K
    all_goals simp only [puts]
    · have y05 := keep1 hb.below y0
      have y15 := keep1 hb.below y1
      have y25 := keep1 hb.below y2
      have y35 := keep1 hb.below y3
      have y45 := keep1 hb.below y4
      go_simp
      rw [← hK]
      exact ⟨.agg #[.int .i64 a, .int .i64 b, .int .i64 c, .int .i64 d, .slice A n m], (by simp only [puts]; go_simp), GR.refl _, rfl⟩
    · have e5 : x 5 = .agg #[.int .i64 a, .int .i64 b, .int .i64 c, .int .i64 d, .slice A n m] := hd 0 (by kernel_rfl)
      go_simp
      go_at_call 44
      refine (eref_any _ _ _ _ _ _ _ _).mono ?_
      rintro en9 w9 ⟨rfl, hg9⟩
      rw [← hK]
      exact ⟨.agg #[.int .i64 d, .int .i64 a, .int .i64 b], (by simp only [puts]; go_simp), hg9, rfl⟩
    · have z05 := keep1 hb.below z0
      have z15 := keep1 hb.below z1
      have z25 := keep1 hb.below z2
      have z35 := keep1 hb.below z3
      have z45 := keep1 hb.below z4
      go_simp
      rw [← hK]
      exact ⟨.agg #[.int .i64 a', .int .i64 b', .int .i64 c', .int .i64 d', .slice A' n' m'], (by simp only [puts]; go_simp), GR.refl _, rfl⟩
    · have e7 : x 7 = .agg #[.int .i64 a', .int .i64 b', .int .i64 c', .int .i64 d', .slice A' n' m'] := hd 2 (by kernel_rfl)
      go_simp
      go_at_call 44
      refine (eref_any _ _ _ _ _ _ _ _).mono ?_
      rintro en9 w9 ⟨rfl, hg9⟩
      rw [← hK]
      exact ⟨.agg #[.int .i64 d', .int .i64 a', .int .i64 b'], (by simp only [puts]; go_simp), hg9, rfl⟩
  · intro x w6 hb hP
    have e6 : x 6 = .agg #[.int .i64 d, .int .i64 a, .int .i64 b] := hP 1 (by decide)
    have e8 : x 8 = .agg #[.int .i64 d', .int .i64 a', .int .i64 b'] := hP 3 (by decide)
    have y0 := keep1 hb.below y0
    have y1 := keep1 hb.below y1
    have y3 := keep1 hb.below y3
    have z0 := keep1 hb.below z0
    have z1 := keep1 hb.below z1
    have z3 := keep1 hb.below z3
    have HB := hide (HB.out.trans hb)
    clear hP hb
    simp only [puts, Act.put, List.setIfInBounds_toArray, List.set_cons_succ, List.set_cons_zero, List.drop]
    by_cases e1 : d = d' ∧ a = a' ∧ b = b'
    · obtain ⟨rfl, rfl, rfl⟩ := e1
      obtain rfl : v = 0 := by rw [← HV.out]; simp [cmpI, or2]
      go_wp2
      go_ret
      exact ⟨rfl, HB.out⟩
    · have t1 : (d == d' && (a == a' && b == b')) = false := by
        cases h : (d == d' && (a == a' && b == b')) with
        | false => rfl
        | true => exact absurd (by simpa using h) e1
      clear e1
      go_wp2_with fail
      all_goals first | (exfalso; simp_all; done) | skip
      all_goals
        try clear ‹d = d'›
        try clear ‹a = a'›
        try clear ‹¬d = d'›
        try clear ‹¬a = a'›
        try clear ‹¬b = b'›
        refine wp_region_gr 17 [10, 11, 12, 13, 14, 15, 16, 17, 18, 19, 20, 21, 22, 23, 24, 25, 26] [Fix (.pointer (some ⟨w.heap.size, 3, none⟩)), Fix (.int .i64 d), Fix (.pointer (some ⟨w.heap.size + 1, 3, none⟩)), Fix (.int .i64 d'), Fix (.int .i64 (cmpI d d')), Fix (.pointer (some ⟨w.heap.size, 0, none⟩)), Fix (.int .i64 a), Fix (.pointer (some ⟨w.heap.size + 1, 0, none⟩)), Fix (.int .i64 a'), Fix (.int .i64 (cmpI a a')), Fix (.pointer (some ⟨w.heap.size, 1, none⟩)), Fix (.int .i64 b), Fix (.pointer (some ⟨w.heap.size + 1, 1, none⟩)), Fix (.int .i64 b'), Fix (.int .i64 (cmpI b b')), ThreeN 0 (cmpI d d') (cmpI a a') (cmpI b b'), Fix (.int .i64 v)] (by kernel_rfl) (by kernel_rfl) (by kernel_rfl) (by kernel_rfl) (by kernel_rfl) ?_ ?_ ?_
        · intro p hp
          simp only [List.mem_cons, List.not_mem_nil, or_false] at hp
          rcases hp with rfl | rfl | rfl | rfl | rfl | rfl | rfl | rfl | rfl | rfl | rfl | rfl | rfl | rfl | rfl | rfl | rfl
          all_goals first | exact (fun _ _ _ _ h => h) | exact (fun _ _ _ hb ⟨g, e, h, h0, h1, h2⟩ => ⟨g, e, h, keepG hb h0, keepG hb h1, keepG hb h2⟩)
        · intro j9 o9 hj9 ho x w5 hb hd
          have hjc : j9 = 0 ∨ j9 = 1 ∨ j9 = 2 ∨ j9 = 3 ∨ j9 = 4 ∨ j9 = 5 ∨ j9 = 6 ∨ j9 = 7 ∨ j9 = 8 ∨ j9 = 9 ∨ j9 = 10 ∨ j9 = 11 ∨ j9 = 12 ∨ j9 = 13 ∨ j9 = 14 ∨ j9 = 15 ∨ j9 = 16 := by omega
          rcases hjc with rfl | rfl | rfl | rfl | rfl | rfl | rfl | rfl | rfl | rfl | rfl | rfl | rfl | rfl | rfl | rfl | rfl
          all_goals obtain rfl := Option.some.inj ho
          all_goals generalize hK : (fun (a' : Act) (w' : World) => _) = K
          all_goals simp only [puts]
          · go_simp
            rw [← hK]
            exact ⟨.pointer (some ⟨w.heap.size, 3, none⟩), (by simp only [puts]; go_simp), GR.refl _, rfl⟩
          · have e10 : x 10 = .pointer (some ⟨w.heap.size, 3, none⟩) := hd 0 (by kernel_rfl)
            have y35 := keep1 hb.below y3
            go_simp
            rw [← hK]
            exact ⟨.int .i64 d, (by simp only [puts]; go_simp), GR.refl _, rfl⟩
          · go_simp
            rw [← hK]
            exact ⟨.pointer (some ⟨w.heap.size + 1, 3, none⟩), (by simp only [puts]; go_simp), GR.refl _, rfl⟩
          · have e12 : x 12 = .pointer (some ⟨w.heap.size + 1, 3, none⟩) := hd 2 (by kernel_rfl)
            have z35 := keep1 hb.below z3
            go_simp
            rw [← hK]
            exact ⟨.int .i64 d', (by simp only [puts]; go_simp), GR.refl _, rfl⟩
          · have e11 : x 11 = .int .i64 d := hd 1 (by kernel_rfl)
            have e13 : x 13 = .int .i64 d' := hd 3 (by kernel_rfl)
            go_simp
            go_at_call 31
            refine (ccmp_any _ _ _).mono ?_
            rintro en9 w9 ⟨rfl, rfl⟩
            have hg9 := GR.refl w9
            rw [← hK]
            exact ⟨.int .i64 (cmpI d d'), (by simp only [puts]; go_simp), hg9, rfl⟩
          · go_simp
            rw [← hK]
            exact ⟨.pointer (some ⟨w.heap.size, 0, none⟩), (by simp only [puts]; go_simp), GR.refl _, rfl⟩
          · have e15 : x 15 = .pointer (some ⟨w.heap.size, 0, none⟩) := hd 5 (by kernel_rfl)
            have y05 := keep1 hb.below y0
            go_simp
            rw [← hK]
            exact ⟨.int .i64 a, (by simp only [puts]; go_simp), GR.refl _, rfl⟩
          · go_simp
            rw [← hK]
            exact ⟨.pointer (some ⟨w.heap.size + 1, 0, none⟩), (by simp only [puts]; go_simp), GR.refl _, rfl⟩
          · have e17 : x 17 = .pointer (some ⟨w.heap.size + 1, 0, none⟩) := hd 7 (by kernel_rfl)
            have z05 := keep1 hb.below z0
            go_simp
            rw [← hK]
            exact ⟨.int .i64 a', (by simp only [puts]; go_simp), GR.refl _, rfl⟩
          · have e16 : x 16 = .int .i64 a := hd 6 (by kernel_rfl)
            have e18 : x 18 = .int .i64 a' := hd 8 (by kernel_rfl)
            go_simp
            go_at_call 31
            refine (ccmp_any _ _ _).mono ?_
            rintro en9 w9 ⟨rfl, rfl⟩
            have hg9 := GR.refl w9
            rw [← hK]
            exact ⟨.int .i64 (cmpI a a'), (by simp only [puts]; go_simp), hg9, rfl⟩
          · go_simp
            rw [← hK]
            exact ⟨.pointer (some ⟨w.heap.size, 1, none⟩), (by simp only [puts]; go_simp), GR.refl _, rfl⟩
          · have e20 : x 20 = .pointer (some ⟨w.heap.size, 1, none⟩) := hd 10 (by kernel_rfl)
            have y15 := keep1 hb.below y1
            go_simp
            rw [← hK]
            exact ⟨.int .i64 b, (by simp only [puts]; go_simp), GR.refl _, rfl⟩
          · go_simp
            rw [← hK]
            exact ⟨.pointer (some ⟨w.heap.size + 1, 1, none⟩), (by simp only [puts]; go_simp), GR.refl _, rfl⟩
          · have e22 : x 22 = .pointer (some ⟨w.heap.size + 1, 1, none⟩) := hd 12 (by kernel_rfl)
            have z15 := keep1 hb.below z1
            go_simp
            rw [← hK]
            exact ⟨.int .i64 b', (by simp only [puts]; go_simp), GR.refl _, rfl⟩
          · have e21 : x 21 = .int .i64 b := hd 11 (by kernel_rfl)
            have e23 : x 23 = .int .i64 b' := hd 13 (by kernel_rfl)
            go_simp
            go_at_call 31
            refine (ccmp_any _ _ _).mono ?_
            rintro en9 w9 ⟨rfl, rfl⟩
            have hg9 := GR.refl w9
            rw [← hK]
            exact ⟨.int .i64 (cmpI b b'), (by simp only [puts]; go_simp), hg9, rfl⟩
          · have e14 : x 14 = .int .i64 (cmpI d d') := hd 4 (by kernel_rfl)
            have e19 : x 19 = .int .i64 (cmpI a a') := hd 9 (by kernel_rfl)
            have e24 : x 24 = .int .i64 (cmpI b b') := hd 14 (by kernel_rfl)
            have hz5 := hb.below.size
            have hC := cells_lit w5 [.int .i64 (cmpI d d'), .int .i64 (cmpI a a'), .int .i64 (cmpI b b')] 3
            have HC := hide hC
            clear hC
            go_simp
            rw [← hK]
            exact ⟨.slice (some ⟨w5.heap.size, 0, none⟩) 3 3, (by simp only [puts]; go_simp), (GR.refl _).alloc _, w5.heap.size, rfl, Nat.zero_le _, HC.out 0 _ rfl, HC.out 1 _ rfl, HC.out 2 _ rfl⟩
          · obtain ⟨g, e25, hg, c0, c1, c2⟩ : ThreeN 0 (cmpI d d') (cmpI a a') (cmpI b b') w5 (x 25) := hd 15 (by kernel_rfl)
            have HCL := hide (cor_any _ _ _ g 0 w5 c0 c1 c2)
            clear c0 c1 c2
            go_simp
            go_at_call 45
            refine HCL.out.mono ?_
            rintro en9 w9 ⟨rfl, rfl⟩
            rw [← hK]
            exact ⟨.int .i64 v, (by rw [← HV.out]; simp only [puts]; go_simp), GR.refl _, rfl⟩
        · intro x w7 hb7 hP7
          have e26 : x 26 = .int .i64 v := hP7 16 (by decide)
          have HB := hide (HB.out.trans hb7)
          clear hP7 hb7 HV
          simp only [puts, Act.put, List.setIfInBounds_toArray, List.set_cons_succ, List.set_cons_zero, List.drop]
          rw [e26]
          go_wp2
          go_ret
          exact ⟨rfl, HB.out⟩
end
end Go.Proofs.Ytbendimkejndiaa

