/- Check of an expression that is an aggregate of a field. -/
import Derived.Test.YthngffceneemnaaAOrd
namespace Go.Proofs.Ythngffceneemnaa
open Go.RowKit
set_option linter.unusedVariables false
set_option linter.unusedSimpArgs false
theorem wr_parts {k q n : Int} {len : Nat} (h : wrE k q n len = 0) : checkC q n len = 0 ∧ suitsB k q = true := by
  unfold wrE at h
  by_cases h1 : checkC q n len = 0
  · rw [if_neg (by simp [h1])] at h
    by_cases h2 : suitsB k q = true
    · exact ⟨h1, h2⟩
    · rw [if_neg h2] at h; omega
  · rw [if_pos h1] at h; exact absurd h h1
/-- The cells of an expression that is an aggregate. -/
def BoxE (w : World) (F : Nat) (k : Int) (o : V3) : Prop :=
  w.cell? ⟨F, 0, none⟩ = some (.int .i64 4) ∧ w.cell? ⟨F, 1, none⟩ = some (.slice none 0 0) ∧ w.cell? ⟨F, 2, none⟩ = some (.int .i64 0) ∧ w.cell? ⟨F, 3, none⟩ = some (.int .i64 0) ∧
  w.cell? ⟨F, 4, none⟩ = some (.int .i64 k) ∧ w.cell? ⟨F, 5, none⟩ = some (.int .i64 o.q) ∧ w.cell? ⟨F, 6, none⟩ = some (.int .i64 o.n) ∧ w.cell? ⟨F, 7, none⟩ = some (.string o.s)
theorem BoxE.keep {w w' : World} {F : Nat} {k : Int} {o : V3} (h : BoxE w F k o) (hb : Below w.heap.size w w') : BoxE w' F k o := by
  obtain ⟨a0, a1, a2, a3, a4, a5, a6, a7⟩ := h
  exact ⟨keep1 hb a0, keep1 hb a1, keep1 hb a2, keep1 hb a3, keep1 hb a4, keep1 hb a5, keep1 hb a6, keep1 hb a7⟩
theorem BoxE.new (w : World) (k : Int) (o : V3) : BoxE (w.alloc (.cells #[.int .i64 4, .slice none 0 0, .int .i64 0, .int .i64 0, .int .i64 k, .int .i64 o.q, .int .i64 o.n, .string o.s] 42)) w.heap.size k o := by
  have h := fun (i : Nat) => cells_lit w [.int .i64 4, .slice none 0 0, .int .i64 0, .int .i64 0, .int .i64 k, .int .i64 o.q, .int .i64 o.n, .string o.s] 42 i
  exact ⟨h 0 _ rfl, h 1 _ rfl, h 2 _ rfl, h 3 _ rfl, h 4 _ rfl, h 5 _ rfl, h 6 _ rfl, h 7 _ rfl⟩
section
variable (k : Int) (o : V3) (w : World)
theorem earity_any : Calls Try.prog 48 #[.int .i64 4] w (Ret (.tuple #[.int .i64 0, .bool true]) w) := by
  go_enter Try.func48, Try.ntmps48
  go_wp2
  go_ret2
  exact ⟨rfl, Below.refl _ _⟩
theorem euses_any : Calls Try.prog 49 #[.int .i64 4] w (Ret (.tuple #[.bool true, .bool true]) w) := by
  go_enter Try.func49, Try.ntmps49
  go_wp2
  go_ret2
  exact ⟨rfl, Below.refl _ _⟩
theorem esuits_any (h1 : 1 ≤ k) (h5 : k ≤ 5) (h : suitsB k o.q = true) : Calls Try.prog 55 #[.int .i64 k, .agg #[.int .i64 o.q, .int .i64 o.n, .string o.s]] w (Ret (.bool true) w) := by
  have h' : o.q = 0 ∨ k = 4 ∨ k = 5 := by
    rcases suits_ok h with h | h
    · exact .inl h
    · exact .inr (by omega)
  by_cases h0 : o.q = 0
  · have t0 : (o.q == 0) = true := beq_iff_eq.2 h0
    go_enter Try.func55, Try.ntmps55
    go_wp2
    go_ret
    exact ⟨rfl, below_laid _⟩
  · have t0 : (o.q == 0) = false := beq_eq_false_iff_ne.2 h0
    by_cases h4 : k = 4
    · subst h4
      go_enter Try.func55, Try.ntmps55
      go_wp2
      go_ret
      exact ⟨rfl, below_laid _⟩
    · obtain rfl : k = 5 := by omega
      go_enter Try.func55, Try.ntmps55
      go_wp2
      go_ret
      exact ⟨rfl, below_laid _⟩
set_option maxHeartbeats 2000000 in
theorem econst_any (h1 : 1 ≤ k) (h5 : k ≤ 5) (hs : o.s.size ≤ maxLen) (h : wrE k o.q o.n o.s.size = 0) (hz : k = 1 → o = V3.z) : Calls Try.prog 50 #[.agg #[.int .i64 4, .slice none 0 0, .int .i64 0, .int .i64 0, .int .i64 k, .int .i64 o.q, .int .i64 o.n, .string o.s]] w (Ret (.int .i64 0) w) := by
  obtain ⟨hc, hq⟩ := wr_parts h
  have HC := hide (fun w => check_any o.q o.n o.s w hs)
  rw [hc] at HC
  have HS := hide (fun w => esuits_any k o w h1 h5 hq)
  have HB := hide (BoxE.new w k o)
  clear hc hq h hs
  by_cases hk : k = 1
  · obtain rfl := hz hk
    subst hk
    clear h1 h5 hz
    simp only [V3.z] at HC HS HB ⊢
    go_enter Try.func50, Try.ntmps50
    go_wp2_with fail
    refine (HC.out _).mono ?_
    rintro e w1 ⟨rfl, hb⟩
    have HW := hide (bthen (below_laid _) hb)
    have HB := hide (HB.out.keep hb)
    clear hb
    obtain ⟨a0, a1, a2, a3, a4, a5, a6, a7⟩ := HB.out
    simp only at a5 a6 a7
    go_wp2_with fail
    refine (HS.out _).mono ?_
    rintro e w2 ⟨rfl, hb⟩
    have HW := hide (bthen HW.out hb)
    have HB := hide (HB.out.keep hb)
    clear hb a0 a1 a2 a3 a4 a5 a6 a7
    obtain ⟨a0, a1, a2, a3, a4, a5, a6, a7⟩ := HB.out
    simp only at a5 a6 a7
    go_wp2
    go_ret
    exact ⟨rfl, HW.out⟩
  · have t0 : (k == 1) = false := beq_eq_false_iff_ne.2 hk
    clear hz h1 h5 hk
    go_enter Try.func50, Try.ntmps50
    go_wp2_with fail
    refine (HC.out _).mono ?_
    rintro e w1 ⟨rfl, hb⟩
    have HW := hide (bthen (below_laid _) hb)
    have HB := hide (HB.out.keep hb)
    clear hb
    obtain ⟨a0, a1, a2, a3, a4, a5, a6, a7⟩ := HB.out
    go_wp2_with fail
    refine (HS.out _).mono ?_
    rintro e w2 ⟨rfl, hb⟩
    have HW := hide (bthen HW.out hb)
    have HB := hide (HB.out.keep hb)
    clear hb a0 a1 a2 a3 a4 a5 a6 a7
    obtain ⟨a0, a1, a2, a3, a4, a5, a6, a7⟩ := HB.out
    go_wp2
    go_ret
    exact ⟨rfl, HW.out⟩
set_option maxHeartbeats 2000000 in
theorem esize_any : Calls Try.prog 27 #[.agg #[.int .i64 4, .slice none 0 0, .int .i64 0, .int .i64 0, .int .i64 k, .int .i64 o.q, .int .i64 o.n, .string o.s]] w (Ret (.tuple #[.int .i64 1, .int .i64 1]) w) := by
  go_enter Try.func27, Try.ntmps27
  go_wp2_with fail
  go_loopw [4, 5, 13] (fun a b i wr => a = .int .i64 1 ∧ b = .int .i64 0 ∧ i = .int .i64 0 ∧ Below w.heap.size w wr) (fun _ _ _ _ => 0)
  case atStart => exact ⟨rfl, rfl, rfl, below_laid _⟩
  case round =>
    obtain ⟨rfl, rfl, rfl, hb⟩ := hrel
    go_wp2
    go_ret2
    exact ⟨rfl, hb⟩
set_option maxRecDepth 100000 in
set_option maxHeartbeats 4000000 in
theorem enode_any (h1 : 1 ≤ k) (h5 : k ≤ 5) (hs : o.s.size ≤ maxLen) (h : wrE k o.q o.n o.s.size = 0) (hz : k = 1 → o = V3.z) : Calls Try.prog 29 #[.agg #[.int .i64 4, .slice none 0 0, .int .i64 0, .int .i64 0, .int .i64 k, .int .i64 o.q, .int .i64 o.n, .string o.s]] w (Ret (.int .i64 0) w) := by
  have HC := hide (fun w => econst_any k o w h1 h5 hs h hz)
  have HA := hide earity_any
  have HU := hide euses_any
  have HB := hide (BoxE.new w k o)
  have t1 : decide (k < 1) = false := decide_eq_false (by omega)
  have t2 : decide (5 < k) = false := decide_eq_false (by omega)
  clear h1 h5 hs h hz
  go_enter Try.func29, Try.ntmps29
  go_wp2_with fail
  refine (HA.out _).mono ?_
  rintro e w1 ⟨rfl, hb⟩
  have HW := hide (bthen (below_laid _) hb)
  have HB := hide (HB.out.keep hb)
  clear hb
  obtain ⟨a0, a1, a2, a3, a4, a5, a6, a7⟩ := HB.out
  go_wp2_with fail
  refine (HU.out _).mono ?_
  rintro e w2 ⟨rfl, hb⟩
  have HW := hide (bthen HW.out hb)
  have HB := hide (HB.out.keep hb)
  clear hb a0 a1 a2 a3 a4 a5 a6 a7
  obtain ⟨a0, a1, a2, a3, a4, a5, a6, a7⟩ := HB.out
  go_wp2_with fail
  refine (HC.out _).mono ?_
  rintro e w3 ⟨rfl, hb⟩
  have HW := hide (bthen HW.out hb)
  have HB := hide (HB.out.keep hb)
  clear hb a0 a1 a2 a3 a4 a5 a6 a7
  obtain ⟨a0, a1, a2, a3, a4, a5, a6, a7⟩ := HB.out
  go_wp2
  go_ret
  exact ⟨rfl, HW.out⟩
end
end Go.Proofs.Ythngffceneemnaa
