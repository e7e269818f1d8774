/- barrier.Take: the ways out that fail. -/
import Derived.Test.YtjahjefkfcifhaaBTake
namespace Go.Proofs.Ytjahjefkfcifhaa
open Go.RowKit Go.Shelf
set_option linter.unusedVariables false
set_option linter.unusedSimpArgs false
set_option maxHeartbeats 1000000 in
theorem ptake_bad (n : Int) (A : Option Addr) (cap : Nat) (l : List Bool) (i num : Int) (w : World) (hl : l.length ≤ 1000) (hv : Row w w.heap.size 1 (.slice A l.length cap) l.length (bools l)) (hc : ¬ inp n l i = 0) :
    Calls Try.prog 16 #[.agg #[.int .i64 n, .slice A l.length cap], .int .i64 i, .int .i64 num] w (RetTak w n l i num) := by
  have HV := hide ((((hv.laid (.cells #[.int .i64 n, .slice A l.length cap] 24)).laid (.cells #[.int .i64 0, .slice none 0 0] 24)).laid (.cells #[.bool false] 4)).laid (.cells #[.int .i64 0] 27))
  clear hv
  have HK := hide (@input_any n (.slice A l.length cap) l i)
  have HE : Hid (takE n l i num = inp n l i) := hide (by unfold takE; rw [if_pos hc])
  have t1 : (inp n l i != 0) = true := by rw [bne_iff_ne]; exact hc
  have HN := hide hc
  clear hc
  generalize inp n l i = c at *
  go_enter Try.func16, Try.ntmps16
  go_wp2_with fail
  refine (HK.out _ hl HV.out).mono ?_
  rintro e w1 ⟨rfl, hb⟩
  have hbw : Below w.heap.size w w1 := bthen (((((Below.refl w.heap.size w).alloc (Nat.le_refl _) _).alloc (by simp only [World.size_alloc]; omega) _).alloc (by simp only [World.size_alloc]; omega) _).alloc (by simp only [World.size_alloc]; omega) _) hb
  obtain ⟨-, hz4, hx4⟩ := step_box [.int .i64 0] hb
  have v0 := hx4 0 _ rfl
  have fz8 := step_frozen [.int .i64 0] hb 0
  have hb3 := step_box [.int .i64 0] hb |>.1
  obtain ⟨-, hz3, hx3⟩ := step_box [.bool false] hb3
  have u0 := hx3 0 _ rfl
  have fz7 := step_frozen [.bool false] hb3 0
  have hb2 := step_box [.bool false] hb3 |>.1
  obtain ⟨-, hz2, hx2⟩ := step_box [.int .i64 0, .slice none 0 0] hb2
  have y0 := hx2 0 _ rfl
  have y1 := hx2 1 _ rfl
  have fz60 := step_frozen [.int .i64 0, .slice none 0 0] hb2 0
  have fz61 := step_frozen [.int .i64 0, .slice none 0 0] hb2 1
  have hb1 := step_box [.int .i64 0, .slice none 0 0] hb2 |>.1
  obtain ⟨-, hz, hx1⟩ := step_box [.int .i64 n, .slice A l.length cap] hb1
  have x0 := hx1 0 _ rfl
  have x1 := hx1 1 _ rfl
  simp only [World.size_alloc] at v0 u0 y0 y1 fz8 fz7 fz60 fz61 hz4 hz3 hz2
  clear hx1 hx2 hx3 hx4 hb1 hb2 hb3
  go_wp2
  refine bodyPost_ret (v := .tuple #[.agg #[.int .i64 0, .slice none 0 0], .bool false, .int .i64 (c)]) (by rw [results_ccc rfl]; go_simp) rfl ?_; exact ret_bad HE.out HN.out ((((hbw.setCell (p := ⟨w.heap.size + 1, 0, none⟩) (by simp) _).setCell (p := ⟨w.heap.size + 1, 1, none⟩) (by simp) _).setCell (p := ⟨w.heap.size + 1 + 1, 0, none⟩) (by show w.heap.size ≤ w.heap.size + 1 + 1; omega) _).setCell (p := ⟨w.heap.size + 1 + 1 + 1, 0, none⟩) (by show w.heap.size ≤ w.heap.size + 1 + 1 + 1; omega) _)
set_option maxHeartbeats 1000000 in
theorem ptake_no (n : Int) (A : Option Addr) (cap : Nat) (l : List Bool) (k : Nat) (num : Int) (w : World) (hl : l.length ≤ 1000) (hv : Row w w.heap.size 1 (.slice A l.length cap) l.length (bools l)) (hc : inp n l k = 0) (hk : k < l.length) (hbad : ¬ takE n l k num = 0) :
    Calls Try.prog 16 #[.agg #[.int .i64 n, .slice A l.length cap], .int .i64 (k : Int), .int .i64 num] w (RetTak w n l k num) := by
  have HV := hide ((((hv.laid (.cells #[.int .i64 n, .slice A l.length cap] 24)).laid (.cells #[.int .i64 0, .slice none 0 0] 24)).laid (.cells #[.bool false] 4)).laid (.cells #[.int .i64 0] 27))
  clear hv
  have HK := hide (@input_any n (.slice A l.length cap) l k)
  have HG : Hid (l.getD k false = l[k]) := hide (by simp [hk])
  have HE : Hid (takE n l k num = if l[k] = true then 21 else if ¬ num = n + 1 then 22 else if n = 1099511627776 then 17 else 0) := hide (by unfold takE; rw [if_neg (by rw [hc]; simp), Int.toNat_natCast, HG.out])
  have hr := (chk_zero (inp_zero hc).1).2.1
  rw [hc] at HK
  have HBAD := hide hbad
  clear hc hbad
  go_enter Try.func16, Try.ntmps16
  go_wp2_with fail
  refine (HK.out _ hl HV.out).mono ?_
  rintro e w1 ⟨rfl, hb⟩
  have hbw : Below w.heap.size w w1 := bthen (((((Below.refl w.heap.size w).alloc (Nat.le_refl _) _).alloc (by simp only [World.size_alloc]; omega) _).alloc (by simp only [World.size_alloc]; omega) _).alloc (by simp only [World.size_alloc]; omega) _) hb
  obtain ⟨-, hz4, hx4⟩ := step_box [.int .i64 0] hb
  have v0 := hx4 0 _ rfl
  have fz8 := step_frozen [.int .i64 0] hb 0
  have hb3 := step_box [.int .i64 0] hb |>.1
  obtain ⟨-, hz3, hx3⟩ := step_box [.bool false] hb3
  have u0 := hx3 0 _ rfl
  have fz7 := step_frozen [.bool false] hb3 0
  have hb2 := step_box [.bool false] hb3 |>.1
  obtain ⟨-, hz2, hx2⟩ := step_box [.int .i64 0, .slice none 0 0] hb2
  have y0 := hx2 0 _ rfl
  have y1 := hx2 1 _ rfl
  have fz60 := step_frozen [.int .i64 0, .slice none 0 0] hb2 0
  have fz61 := step_frozen [.int .i64 0, .slice none 0 0] hb2 1
  have hb1 := step_box [.int .i64 0, .slice none 0 0] hb2 |>.1
  obtain ⟨-, hz, hx1⟩ := step_box [.int .i64 n, .slice A l.length cap] hb1
  have x0 := hx1 0 _ rfl
  have x1 := hx1 1 _ rfl
  simp only [World.size_alloc] at v0 u0 y0 y1 fz8 fz7 fz60 fz61 hz4 hz3 hz2
  clear hx1 hx2 hx3 hx4 hb1 hb2 hb3
  obtain ⟨g, off, cap', e1, hg, hcell⟩ := HV.out.flag hb hk
  cases e1
  clear hb
  cases hlk : l[k]
  · rw [hlk] at hcell HE
    by_cases hnum : num = n + 1
    · by_cases hmax : n = 1099511627776
      · have HC : Hid (takE n l k num = 17) := hide (by rw [HE.out, if_neg (by decide), if_neg (by omega), if_pos hmax])
        have u1 : (num != n + 1) = false := by rw [bne_eq_false_iff_eq]; exact hnum
        have u2 : (n == 1099511627776) = true := by rw [beq_iff_eq]; exact hmax
        clear hnum hmax
        go_wp2
        refine bodyPost_ret (v := .tuple #[.agg #[.int .i64 0, .slice none 0 0], .bool false, .int .i64 (17)]) (by rw [results_ccc rfl]; go_simp) rfl ?_; exact ret_bad HC.out (by decide) ((((hbw.setCell (p := ⟨w.heap.size + 1, 0, none⟩) (by simp) _).setCell (p := ⟨w.heap.size + 1, 1, none⟩) (by simp) _).setCell (p := ⟨w.heap.size + 1 + 1, 0, none⟩) (by show w.heap.size ≤ w.heap.size + 1 + 1; omega) _).setCell (p := ⟨w.heap.size + 1 + 1 + 1, 0, none⟩) (by show w.heap.size ≤ w.heap.size + 1 + 1 + 1; omega) _)
      · exact absurd (by rw [HE.out, if_neg (by decide), if_neg (by omega), if_neg hmax]) HBAD.out
    · have HC : Hid (takE n l k num = 22) := hide (by rw [HE.out, if_neg (by decide), if_pos hnum])
      have u1 : (num != n + 1) = true := by rw [bne_iff_ne]; exact hnum
      clear hnum
      go_wp2
      refine bodyPost_ret (v := .tuple #[.agg #[.int .i64 0, .slice none 0 0], .bool false, .int .i64 (22)]) (by rw [results_ccc rfl]; go_simp) rfl ?_; exact ret_bad HC.out (by decide) ((((hbw.setCell (p := ⟨w.heap.size + 1, 0, none⟩) (by simp) _).setCell (p := ⟨w.heap.size + 1, 1, none⟩) (by simp) _).setCell (p := ⟨w.heap.size + 1 + 1, 0, none⟩) (by show w.heap.size ≤ w.heap.size + 1 + 1; omega) _).setCell (p := ⟨w.heap.size + 1 + 1 + 1, 0, none⟩) (by show w.heap.size ≤ w.heap.size + 1 + 1 + 1; omega) _)
  · rw [hlk] at hcell HE
    have HC : Hid (takE n l k num = 21) := hide (by rw [HE.out, if_pos rfl])
    go_wp2
    refine bodyPost_ret (v := .tuple #[.agg #[.int .i64 0, .slice none 0 0], .bool false, .int .i64 (21)]) (by rw [results_ccc rfl]; go_simp) rfl ?_; exact ret_bad HC.out (by decide) ((((hbw.setCell (p := ⟨w.heap.size + 1, 0, none⟩) (by simp) _).setCell (p := ⟨w.heap.size + 1, 1, none⟩) (by simp) _).setCell (p := ⟨w.heap.size + 1 + 1, 0, none⟩) (by show w.heap.size ≤ w.heap.size + 1 + 1; omega) _).setCell (p := ⟨w.heap.size + 1 + 1 + 1, 0, none⟩) (by show w.heap.size ≤ w.heap.size + 1 + 1 + 1; omega) _)
end Go.Proofs.Ytjahjefkfcifhaa
