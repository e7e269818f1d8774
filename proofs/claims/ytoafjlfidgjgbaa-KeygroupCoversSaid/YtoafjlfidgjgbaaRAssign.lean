/- The reference's Assign. -/
import Derived.Test.YtoafjlfidgjgbaaGrid
namespace Go.Proofs.Ytoafjlfidgjgbaa
open Go.RowKit
set_option linter.unusedVariables false
set_option linter.unusedSimpArgs false

/-- The lists of the key groups of n workers, in memory of the call's own. -/
def RetGrid (w : World) (n : Nat) (c : Int) (e : Ending) (w' : World) : Prop :=
  ∃ o base, w.heap.size ≤ o ∧ e = .returned (.tuple #[.slice (some ⟨o, 0, none⟩) n n, .int .i64 c]) ∧ Grid w' base o n (own_ n 16) ∧ Below w.heap.size w w'

set_option maxHeartbeats 1000000 in
theorem rassign_ok (n : Nat) (w : World) (h1 : 1 ≤ n) (h8 : n ≤ 8) :
    Calls Try.prog 14 #[.int .i64 (n : Int)] w (RetGrid w n 0) := by
  obtain ⟨i0, hi0, hz0, hz1, hz2⟩ := info_parts info_int
  have hno := numOk_t (n := (n : Int)) (by omega) (by omega)
  have hmk := make_nils n (by omega)
  go_enter Try.func14, Try.ntmps14
  go_wp2_with (go_at_call 31; refine (rnumber_any _ _).mono ?_; rintro e w1 ⟨rfl, rfl⟩)
  clear hmk
  go_loopw [5, 6] (fun i _ wr => ∃ k : Nat, k ≤ 16 ∧ i = .int .i64 k ∧ Grid wr (w.heap.size + 1) w.heap.size n (own_ n k) ∧ Below w.heap.size w wr) (fun i _ _ => 16 - (intOf i).toNat)
  case atStart => exact ⟨0, by omega, rfl, (grid_new n w).congr (fun i _ => by simp [own_]), (Below.refl _ _).alloc (Nat.le_refl _) _⟩
  case round =>
    obtain ⟨k, hk, rfl, hG, hB⟩ := hrel
    have hsz := hB.size
    have hol' := hG.lt
    by_cases hlt : k < 16
    · obtain ⟨ho1, ho2⟩ := owner_nat h1 h8 hlt
      have HO : ∀ W, Hid (Calls Try.prog 32 #[.int .i64 (k : Int), .int .i64 (n : Int)] W fun e w' => e = .returned (.int .i64 ((k * n / 16 : Nat) : Int)) ∧ W = w') := fun W => by
        have := rowner_any (k : Int) (n : Int) W (by omega) (by omega) (by omega) (by omega)
        rw [ho1] at this; exact this
      obtain ⟨v, hcv, hown⟩ := hG.cell ho2
      have hfr := hG.frozen (k * n / 16)
      have hol := own_len n k (k * n / 16)
      have HS := hide (own_succ n k)
      obtain ⟨i, hii⟩ : ∃ i, k * n / 16 = i := ⟨_, rfl⟩
      rw [hii] at HO ho2 hcv hown hfr hol HS
      clear ho1 hii
      go_wp2_with (first
        | (go_at_call 32; refine (HO _).out.mono ?_; rintro e w1 ⟨rfl, rfl⟩)
        | (at_builtin; go_must (refine wpList_append_at rfl _ _ 50 rfl (w.heap.size + 1) 3 i0 _ 8 Try.underlying50 hi0 hz0 [.int .i64 (k : Int)] hz1 hz2 rfl (Nat.le_refl 1) _ _ _ rfl hown _ rfl (by simp [Value.oneCell']) ?c1 (by decide) ?c2 ?_); go_must (case c1 => omega); go_must (case c2 => omega); go_must (intro v2 w2 hown2 hg2 hat2); go_must (obtain ⟨g2, cap2, rfl⟩ := ownsRow_succ hown2); go_must (have hG2 := hG.push ho2 hcv hown2 hg2 (Nat.le_succ _) hat2); go_must (have hcv2 : w2.cell? ⟨w.heap.size, i, none⟩ = some v := (World.cell?_of_block (w := wr) (hg2.block w.heap.size (by omega) (fun e => by have := (hown.lt _ e.symm).1; omega))).trans hcv); go_must (have hfr2 : w2.frozen? ⟨w.heap.size, i, none⟩ = false := (World.frozen?_of_block (w := wr) (hg2.block w.heap.size (by omega) (fun e => by have := (hown.lt _ e.symm).1; omega))).trans hfr)))
      go_roundw
      case rel => exact ⟨k + 1, by omega, by go_num, hG2.congr (fun j _ => by rw [HS.out]), (hB.grown hg2 hsz (fun j hj => by have := (hown.lt j hj).1; omega)).setCell (p := ⟨w.heap.size, i, none⟩) (Nat.le_refl _) _⟩
      case measure => simp [intOf]; omega
    · obtain rfl : k = 16 := by omega
      go_wp2
      go_ret2
      exact ⟨_, _, Nat.le_refl _, rfl, hG, hB⟩

def assignE (q : Int) : Int := if 1 ≤ q ∧ q ≤ 8 then 0 else 2
/-- What Assign hands back at whatever number. -/
def RetAssign (w : World) (q : Int) (e : Ending) (w' : World) : Prop :=
  (∃ n : Nat, q = n ∧ 1 ≤ n ∧ n ≤ 8 ∧ RetGrid w n 0 e w') ∨ (¬ (1 ≤ q ∧ q ≤ 8) ∧ e = .returned (.tuple #[.slice none 0 0, .int .i64 2]) ∧ Below w.heap.size w w')

set_option maxHeartbeats 400000 in
theorem rassign_any (q : Int) (w : World) : Calls Try.prog 14 #[.int .i64 q] w (RetAssign w q) := by
  by_cases h : 1 ≤ q ∧ q ≤ 8
  · obtain ⟨n, rfl⟩ := Int.eq_ofNat_of_zero_le (show 0 ≤ q by omega)
    exact (rassign_ok n w (by omega) (by omega)).mono fun e w' hr => .inl ⟨n, rfl, by omega, by omega, hr⟩
  · refine Calls.mono (R := fun e w' => e = .returned (.tuple #[.slice none 0 0, .int .i64 2]) ∧ Below w.heap.size w w') ?_ (fun e w' hr => .inr ⟨h, hr⟩)
    go_enter Try.func14, Try.ntmps14
    go_wp2
    all_goals (try simp only [isEmpty_size, bne_iff_ne, ne_eq, bne_eq_false_iff_eq, beq_iff_eq, beq_eq_false_iff_ne, Bool.not_eq_true', Bool.not_eq_false', decide_eq_true_eq, decide_eq_false_iff_not] at *)
    all_goals first | (exfalso; omega) | skip
    all_goals go_ret2
    all_goals exact ⟨rfl, Below.refl _ _⟩
end Go.Proofs.Ytoafjlfidgjgbaa
