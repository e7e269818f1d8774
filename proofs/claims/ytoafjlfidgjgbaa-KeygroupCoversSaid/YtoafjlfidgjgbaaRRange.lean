/- The reference's Range. -/
import Derived.Test.YtoafjlfidgjgbaaRange
import Derived.Test.YtoafjlfidgjgbaaMoves
namespace Go.Proofs.Ytoafjlfidgjgbaa
open Go.RowKit
set_option linter.unusedVariables false
set_option linter.unusedSimpArgs false

/-- The whole of what the reference's two loops meet, at one worker. -/
def rngGood (q a : Int) : Bool :=
  let F := (rf (sel a q 16)).1.toNat
  let L := (rf (sel a q 16)).2.toNat
  decide ((rf (sel a q 16)).1 = F) && decide ((rf (sel a q 16)).2 = L) && decide (F ≤ L) && decide (L ≤ 16) && decide (F ≤ 15) &&
    (List.range F).all (fun f => decide ((f : Int) * q / 16 < a)) && decide (¬ (F : Int) * q / 16 < a) &&
    (List.range 16).all (fun l => decide (F ≤ l → l < L → (l : Int) * q / 16 = a)) && decide (L < 16 → ¬ (L : Int) * q / 16 = a)
theorem rngGood_all : ∀ q ∈ List.range 8, ∀ a ∈ List.range (q + 1), rngGood ((q : Int) + 1) (a : Int) = true := by decide +kernel
theorem rng_facts {q a : Int} (h1 : 1 ≤ q) (h8 : q ≤ 8) (ha : 0 ≤ a) (haq : a < q) : ∃ F L : Nat, rf (sel a q 16) = ((F : Int), (L : Int)) ∧ F ≤ L ∧ L ≤ 16 ∧ F ≤ 15 ∧
    (∀ f : Nat, f < F → (f : Int) * q / 16 < a) ∧ (¬ (F : Int) * q / 16 < a) ∧ (∀ l : Nat, F ≤ l → l < L → (l : Int) * q / 16 = a) ∧ (L < 16 → ¬ (L : Int) * q / 16 = a) := by
  have hg := rngGood_all (q - 1).toNat (by simp; omega) a.toNat (by simp; omega)
  rw [show (((q - 1).toNat : Nat) : Int) + 1 = q by omega, show ((a.toNat : Nat) : Int) = a by omega] at hg
  simp only [rngGood, Bool.and_eq_true, decide_eq_true_eq, List.all_eq_true, List.mem_range] at hg
  obtain ⟨⟨⟨⟨⟨⟨⟨⟨e1, e2⟩, e3⟩, e4⟩, e5⟩, e6⟩, e7⟩, e8⟩, e9⟩ := hg
  exact ⟨_, _, Prod.ext e1 e2, e3, e4, e5, e6, e7, fun l h h' => e8 l (by omega) h h', e9⟩

set_option maxHeartbeats 1000000 in
theorem rrange_ok (a q : Int) (w : World) (h1 : 1 ≤ q) (h8 : q ≤ 8) (ha : 0 ≤ a) (haq : a < q) :
    Calls Try.prog 25 #[.int .i64 a, .int .i64 q] w (Ret (.tuple #[.int .i64 (rf (sel a q 16)).1, .int .i64 (rf (sel a q 16)).2, .int .i64 0]) w) := by
  obtain ⟨F, L, hFL, i1, i2, i3, hlow, hF, hmid, hL⟩ := rng_facts h1 h8 ha haq
  rw [hFL]
  have HLOW := hide hlow
  have HF := hide hF
  have HMID := hide hmid
  have HL := hide hL
  clear hlow hF hmid hL hFL
  have hno := numOk_t h1 h8
  go_enter Try.func25, Try.ntmps25
  go_wp2_with (go_at_call 31; refine (rnumber_any _ _).mono ?_; rintro e w1 ⟨rfl, rfl⟩)
  go_loop [7] (fun i => ∃ f : Nat, f ≤ F ∧ i = .int .i64 f) (fun i => F - (intOf i).toNat)
  case atStart => exact ⟨0, by omega, rfl⟩
  case round =>
    obtain ⟨f, hf, rfl⟩ := hrel
    by_cases hlt : f < F
    · have ht : decide ((f : Int) * q / 16 < a) = true := by simpa using HLOW.out f hlt
      go_wp2_with (go_at_call 32; refine (rowner_any _ _ _ (by omega) (by omega) h1 h8).mono ?_; rintro e w1 ⟨rfl, rfl⟩)
      go_round
      case rel => exact ⟨f + 1, by omega, by go_num⟩
      case measure => simp [intOf]; omega
    · obtain rfl : f = F := by omega
      have ht : decide ((f : Int) * q / 16 < a) = false := by simpa using HF.out
      go_wp2_with (go_at_call 32; refine (rowner_any _ _ _ (by omega) (by omega) h1 h8).mono ?_; rintro e w1 ⟨rfl, rfl⟩)
      clear ht
      go_loop [8] (fun i => ∃ l : Nat, f ≤ l ∧ l ≤ L ∧ i = .int .i64 l) (fun i => L - (intOf i).toNat)
      case atStart => exact ⟨f, by omega, by omega, rfl⟩
      case round =>
        obtain ⟨l, hl1, hl2, rfl⟩ := hrel
        by_cases hlt2 : l < L
        · have hl16 : l < 16 := by omega
          have ht2 : ((l : Int) * q / 16 == a) = true := by rw [beq_iff_eq]; exact HMID.out l hl1 hlt2
          go_wp2_with (go_at_call 32; refine (rowner_any _ _ _ (by omega) (by omega) h1 h8).mono ?_; rintro e w1 ⟨rfl, rfl⟩)
          go_round
          case rel => exact ⟨l + 1, by omega, by omega, by go_num⟩
          case measure => simp [intOf]; omega
        · obtain rfl : l = L := by omega
          by_cases h16 : l < 16
          · have ht2 : ((l : Int) * q / 16 == a) = false := by rw [beq_eq_false_iff_ne]; exact HL.out h16
            go_wp2_with (go_at_call 32; refine (rowner_any _ _ _ (by omega) (by omega) h1 h8).mono ?_; rintro e w1 ⟨rfl, rfl⟩)
            go_ret3
            exact ⟨rfl, Below.refl _ _⟩
          · obtain rfl : l = 16 := by omega
            go_wp2
            go_ret3
            exact ⟨rfl, Below.refl _ _⟩

set_option maxHeartbeats 400000 in
theorem rrange_any (a q : Int) (w : World) :
    Calls Try.prog 25 #[.int .i64 a, .int .i64 q] w (Ret (.tuple #[.int .i64 (rngX a q), .int .i64 (rngY a q), .int .i64 (rngE a q)]) w) := by
  by_cases h : (1 ≤ q ∧ q ≤ 8) ∧ 0 ≤ a ∧ a < q
  · rw [show rngX a q = _ from if_pos h, show rngY a q = _ from if_pos h, show rngE a q = 0 from if_pos h]
    exact rrange_ok a q w h.1.1 h.1.2 h.2.1 h.2.2
  · rw [show rngX a q = 0 from if_neg h, show rngY a q = 0 from if_neg h, show rngE a q = 2 from if_neg h]
    go_enter Try.func25, Try.ntmps25
    go_wp2
    all_goals (try simp only [isEmpty_size, bne_iff_ne, ne_eq, bne_eq_false_iff_eq, beq_iff_eq, beq_eq_false_iff_ne, Bool.not_eq_true', Bool.not_eq_false', decide_eq_true_eq, decide_eq_false_iff_not] at *)
    all_goals first | (exfalso; omega) | skip
    all_goals go_ret3
    all_goals exact ⟨rfl, Below.refl _ _⟩
end Go.Proofs.Ytoafjlfidgjgbaa
