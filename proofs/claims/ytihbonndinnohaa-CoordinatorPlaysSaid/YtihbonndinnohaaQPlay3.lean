/- The least number of a list; Ready of a play. -/
import Derived.Test.YtihbonndinnohaaQPlay2
import Derived.WalkLawsBesides
namespace Go.Proofs.Ytihbonndinnohaa
open Go.RowKit
set_option linter.unusedVariables false
set_option linter.unusedSimpArgs false
/-- The least number of the first j. -/
def IsMin (D : List Nat) (j v : Nat) : Prop := (∃ k, k < j ∧ v = D.getD k 0) ∧ ∀ k, k < j → v ≤ D.getD k 0
theorem isMin_min {D : List Nat} {v du : Nat} (h : IsMin D D.length v) : decide (((du : Nat) : Int) < (v : Int)) = minD D du := by
  obtain ⟨⟨k, hk, rfl⟩, hl⟩ := h
  cases hm : minD D du with
  | true => exact decide_eq_true (by have := minD_iff.1 hm k hk; omega)
  | false =>
    refine decide_eq_false fun h9 => ?_
    have : minD D du = true := minD_iff.2 fun q hq => by have := hl q hq; omega
    rw [this] at hm; cases hm
theorem isMin_one {D : List Nat} : IsMin D 1 (D.getD 0 0) := by
  refine ⟨⟨0, by omega, rfl⟩, fun k hk => ?_⟩
  obtain rfl : k = 0 := by omega
  exact Nat.le_refl _
theorem isMin_lo {D : List Nat} {j v : Nat} (h : IsMin D j v) (hlt : D.getD j 0 < v) : IsMin D (j + 1) (D.getD j 0) :=
  ⟨⟨j, by omega, rfl⟩, fun k hk => by
    by_cases e : k = j
    · subst e; exact Nat.le_refl _
    · have := h.2 k (by omega); omega⟩
theorem isMin_hi {D : List Nat} {j v : Nat} (h : IsMin D j v) (hge : v ≤ D.getD j 0) : IsMin D (j + 1) v := by
  obtain ⟨⟨k, hk, e⟩, h2⟩ := h
  refine ⟨⟨k, by omega, e⟩, fun q hq => ?_⟩
  by_cases e2 : q = j
  · subst e2; exact hge
  · exact h2 q (by omega)
def RetMin (D : List Nat) (w : World) (e : Ending) (w' : World) : Prop := ∃ v : Nat, e = .returned (.int .i64 (v : Int)) ∧ IsMin D D.length v ∧ Below w.heap.size w w'
section
variable (w : World)
set_option maxHeartbeats 2000000 in
theorem min_any (e cap : Nat) (D : List Nat) (h : Bl w e (nums D)) (h1 : 1 ≤ D.length) (h3 : D.length ≤ 3) (hs : ∀ k, k < D.length → D.getD k 0 ≤ 1000) : Calls Try.prog 30 #[.slice (some ⟨e, 0, none⟩) D.length cap] w (RetMin D w) := by
  obtain ⟨n, hn⟩ : ∃ n, D.length = n := ⟨_, rfl⟩
  have HB := hide h
  have HN := hide hn
  rw [hn] at h1 h3 ⊢
  have c0 := h.c 0 _ (nums_at (by omega))
  obtain ⟨d0, hd0⟩ : ∃ d, D.getD 0 0 = d := ⟨_, rfl⟩
  have HM : Hid (IsMin D 1 d0) := hide (by rw [← hd0]; exact isMin_one)
  rw [hd0] at c0
  have HS := hide hs
  have t1 : decide ((n : Int) < 1) = false := decide_eq_false (by omega)
  have t2 : (0 : Int) < (n : Int) := by omega
  clear h hn hd0 hs
  go_enter Try.func30, Try.ntmps30
  go_wp2
  go_loop [3, 4] (fun m i => ∃ j v : Nat, 1 ≤ j ∧ j ≤ n ∧ i = .int .i64 j ∧ m = .int .i64 v ∧ Hid (IsMin D j v)) (fun _ i => n - (intOf i).toNat)
  case atStart => exact ⟨1, d0, Nat.le_refl _, h1, rfl, rfl, HM⟩
  case round =>
    obtain ⟨j, v, hj1, hj, rfl, rfl, HV⟩ := hrel
    by_cases hlt : j < n
    · have cj := HB.out.c j _ (nums_at (by rw [HN.out]; exact hlt))
      obtain ⟨d, hd⟩ : ∃ d, D.getD j 0 = d := ⟨_, rfl⟩
      rw [hd] at cj
      have HD := hide hd
      clear hd c0
      have hu0 : (0 : Int) ≤ (j : Int) := by omega
      have hu1 : (j : Int) < (n : Int) := by omega
      have hvs : v ≤ 1000 := by
        obtain ⟨⟨k, hk, e⟩, -⟩ := HV.out
        rw [e]; exact HS.out k (by have := HN.out; omega)
      by_cases hdv : d < v
      · have HX : Hid (IsMin D (j + 1) d) := hide (by rw [← HD.out]; exact isMin_lo HV.out (by rw [HD.out]; exact hdv))
        have t5 : decide ((d : Int) < (v : Int)) = true := decide_eq_true (by omega)
        go_wp2
        go_round
        case rel => exact ⟨j + 1, d, by omega, by omega, by go_num, rfl, HX⟩
        case measure => simp [intOf]; omega
      · have HX : Hid (IsMin D (j + 1) v) := hide (isMin_hi HV.out (by rw [HD.out]; omega))
        have t5 : decide ((d : Int) < (v : Int)) = false := decide_eq_false (by omega)
        go_wp2
        go_round
        case rel => exact ⟨j + 1, v, by omega, by omega, by go_num, rfl, HX⟩
        case measure => simp [intOf]; omega
    · obtain rfl : j = n := by omega
      go_wp2
      go_ret
      exact ⟨v, rfl, by rw [HN.out]; exact HV.out, Below.refl _ _⟩
end
end Go.Proofs.Ytihbonndinnohaa
