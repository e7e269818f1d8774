/- stream.placed, stream.copied. -/
import Derived.Test.YtbendimkejndiaaTVal
namespace Go.Proofs.Ytbendimkejndiaa
open Go.RowKit
set_option linter.unusedVariables false
set_option linter.unusedSimpArgs false
instance (e : Evt) : Decidable (Plcd e) := inferInstanceAs (Decidable (_ ∧ _))
theorem RetG.bool {a b : Bool} {w w' : World} (h : a = b) (hb : GR w w') : RetG (.bool b) w (.returned (.bool a)) w' := ⟨by rw [h], hb⟩
section
variable (e : Evt) (A : Option Addr) (n m : Nat) (w : World)
set_option maxRecDepth 100000 in
set_option maxHeartbeats 4000000 in
theorem placed_any : Calls Try.prog 21 #[.agg #[.int .i64 e.a, .int .i64 e.b, .int .i64 e.c, .int .i64 e.d, .slice A n m]] w (RetG (.bool (decide (Plcd e))) w) := by
  obtain ⟨a, b, c, d, l⟩ := e
  obtain ⟨v, hv⟩ : ∃ v, decide (Plcd ⟨a, b, c, d, l⟩) = v := ⟨_, rfl⟩
  have HV : Hid (0 ≤ d ∧ d ≤ 1099511627776 ∧ 0 ≤ a ∧ a < 8 ∧ 0 ≤ b ∧ b ≤ 1099511627776 → v = true) := hide (fun h => by rw [← hv]; exact decide_eq_true h)
  have HN : Hid (¬ (0 ≤ d ∧ d ≤ 1099511627776 ∧ 0 ≤ a ∧ a < 8 ∧ 0 ≤ b ∧ b ≤ 1099511627776) → v = false) := hide (fun h => by rw [← hv]; exact decide_eq_false h)
  rw [hv]
  clear hv
  simp only
  by_cases h : 0 ≤ d
  case neg =>
    have t1 : decide (0 ≤ d) = false := decide_eq_false h
    obtain rfl : v = false := HN.out (by omega)
    go_enter Try.func21, Try.ntmps21
    go_wp2
    go_ret
    exact ⟨rfl, (GR.refl _).alloc _⟩
  have h1 := h
  have s1 : decide (0 ≤ d) = true := decide_eq_true h
  clear h
  by_cases h : d ≤ 1099511627776
  case neg =>
    have t1 : decide (d ≤ 1099511627776) = false := decide_eq_false h
    obtain rfl : v = false := HN.out (by omega)
    go_enter Try.func21, Try.ntmps21
    go_wp2
    go_ret
    exact ⟨rfl, (GR.refl _).alloc _⟩
  have h2 := h
  have s2 : decide (d ≤ 1099511627776) = true := decide_eq_true h
  clear h
  by_cases h : 0 ≤ a
  case neg =>
    have t1 : decide (0 ≤ a) = false := decide_eq_false h
    obtain rfl : v = false := HN.out (by omega)
    go_enter Try.func21, Try.ntmps21
    go_wp2
    go_ret
    exact ⟨rfl, (GR.refl _).alloc _⟩
  have h3 := h
  have s3 : decide (0 ≤ a) = true := decide_eq_true h
  clear h
  by_cases h : a < 8
  case neg =>
    have t1 : decide (a < 8) = false := decide_eq_false h
    obtain rfl : v = false := HN.out (by omega)
    go_enter Try.func21, Try.ntmps21
    go_wp2
    go_ret
    exact ⟨rfl, (GR.refl _).alloc _⟩
  have h4 := h
  have s4 : decide (a < 8) = true := decide_eq_true h
  clear h
  by_cases h : 0 ≤ b
  case neg =>
    have t1 : decide (0 ≤ b) = false := decide_eq_false h
    obtain rfl : v = false := HN.out (by omega)
    go_enter Try.func21, Try.ntmps21
    go_wp2
    go_ret
    exact ⟨rfl, (GR.refl _).alloc _⟩
  have h5 := h
  have s5 : decide (0 ≤ b) = true := decide_eq_true h
  clear h
  by_cases h : b ≤ 1099511627776
  case neg =>
    have t1 : decide (b ≤ 1099511627776) = false := decide_eq_false h
    obtain rfl : v = false := HN.out (by omega)
    go_enter Try.func21, Try.ntmps21
    go_wp2
    go_ret
    exact ⟨rfl, (GR.refl _).alloc _⟩
  have s6 : decide (b ≤ 1099511627776) = true := decide_eq_true h
  obtain rfl : v = true := HV.out (by omega)
  go_enter Try.func21, Try.ntmps21
  go_wp2
  go_ret
  exact ⟨rfl, (GR.refl _).alloc _⟩
end
end Go.Proofs.Ytbendimkejndiaa
