/- keygroup.Worker: written by genHash.py. -/
import Derived.Test.YtppaiihcaajkaaaGreatKHash
namespace Go.Proofs.YtppaiihcaajkaaaGreat
open Go.RowKit
set_option linter.unusedVariables false
set_option linter.unusedSimpArgs false

def okC (bs : List Bool) : Int := if bs.all id then 0 else 2

set_option maxRecDepth 100000 in
set_option maxHeartbeats 400000 in
theorem allowed_any (g n : Nat) (bs : List Bool) (w : World) (hn : n ≤ 1000) (h1 : n ≤ bs.length) (h2 : bs.length ≤ n) (hc : ∀ j u, (bs.map Value.bool)[j]? = some u → w.cell? ⟨g, j, none⟩ = some u) :
    Calls Tryz.prog 72 #[.slice (some ⟨g, 0, none⟩) n n] w fun e w' => e = .returned (.int .i64 (okC bs)) ∧ w = w' := by
  have HC := hide hc
  clear hc
  go_enter Tryz.func72, Tryz.ntmps72
  go_wp2
  go_loop [4, 7] (fun c i => ∃ k : Nat, k ≤ n ∧ i = .int .i64 k ∧ (bs.take k).all id = true) (fun _ i => n - (intOf i).toNat)
  case atStart => exact ⟨0, Nat.zero_le _, rfl, rfl⟩
  case round =>
    obtain ⟨k, hk, rfl, hall⟩ := hrel
    have HA := hide hall
    clear hall
    by_cases hlt : k < n
    · have hkL : k < bs.length := by omega
      have hcl : w.cell? ⟨g, k, none⟩ = some (.bool bs[k]) := HC.out k _ (by simp [hkL])
      have HS : Hid ((bs.take (k + 1)).all id = ((bs.take k).all id && bs[k])) := by show _ = _; rw [List.take_succ_eq_append_getElem hkL, List.all_append]; simp
      have HX : Hid (bs[k] = false → bs.all id = false) := fun hf => by
        rw [List.all_eq_false]; exact ⟨_, List.getElem_mem hkL, by simp [hf]⟩
      obtain ⟨c, hcc⟩ : ∃ c, bs[k] = c := ⟨_, rfl⟩
      rw [hcc] at hcl HS HX
      clear hcc
      cases c
      · go_wp2
        go_ret
        exact ⟨by unfold okC; rw [HX.out trivial]; rfl, rfl⟩
      · go_wp2
        go_round
        case rel => exact ⟨k + 1, by omega, by go_num, by rw [HS.out, HA.out]; rfl⟩
        case measure => simp [intOf]; omega
    · have HT : Hid (bs.take k = bs) := List.take_of_length_le (by omega)
      go_wp2
      go_ret
      exact ⟨by have := HA.out; rw [HT.out] at this; unfold okC; rw [this]; rfl, rfl⟩

def numOk (n : Int) : Bool := decide (1 ≤ n ∧ n ≤ 8)
theorem numOk_t {n : Int} (h1 : 1 ≤ n) (h8 : n ≤ 8) : numOk n = true := by simp [numOk, h1, h8]
theorem numOk_iff {n : Int} : numOk n = true ↔ 1 ≤ n ∧ n ≤ 8 := by simp [numOk]

set_option maxRecDepth 100000 in
set_option maxHeartbeats 400000 in
theorem number_any (n : Int) (w : World) : Calls Tryz.prog 73 #[.int .i64 n] w fun e w' => e = .returned (.bool (numOk n)) ∧ w = w' := by
  go_enter Tryz.func73, Tryz.ntmps73
  go_wp2
  all_goals go_ret
  · exact ⟨congrArg (fun b => Ending.returned (.bool b)) (by unfold numOk; simp; omega), rfl⟩
  · exact ⟨congrArg (fun b => Ending.returned (.bool b)) (by unfold numOk; simp; omega), rfl⟩

theorem okC_ne {bs : List Bool} (h : bs.all id = false) : okC bs = 2 := by unfold okC; rw [h]; rfl
theorem okC_eq {bs : List Bool} (h : bs.all id = true) : okC bs = 0 := by unfold okC; rw [h]; rfl

def workerV (g n : Int) : Int := if 0 ≤ g ∧ g < 16 ∧ 1 ≤ n ∧ n ≤ 8 then g * n / 16 else 0
def workerE (g n : Int) : Int := if 0 ≤ g ∧ g < 16 ∧ 1 ≤ n ∧ n ≤ 8 then 0 else 2

theorem mul_range {g n : Int} (h0 : 0 ≤ g) (h1 : g < 16) (h2 : 1 ≤ n) (h3 : n ≤ 8) : 0 ≤ g * n ∧ g * n ≤ 120 := by
  have a := Int.mul_nonneg h0 (show 0 ≤ n by omega)
  have b : g * n ≤ 15 * 8 := Int.mul_le_mul (by omega) h3 (by omega) (by omega)
  omega

set_option maxRecDepth 100000 in
set_option maxHeartbeats 400000 in
theorem owner_any (g n : Int) (w : World) (h0 : 0 ≤ g) (h1 : g < 16) (h2 : 1 ≤ n) (h3 : n ≤ 8) : Calls Tryz.prog 74 #[.int .i64 g, .int .i64 n] w fun e w' => e = .returned (.int .i64 (g * n / 16)) ∧ w = w' := by
  obtain ⟨a, b⟩ := mul_range h0 h1 h2 h3
  go_enter Tryz.func74, Tryz.ntmps74
  go_wp2
  go_ret
  exact ⟨rfl, rfl⟩

set_option maxRecDepth 100000 in
set_option maxHeartbeats 400000 in
theorem worker_any (g n : Int) (w : World) :
    Calls Tryz.prog 55 #[.int .i64 g, .int .i64 n] w (Ret (.tuple #[.int .i64 (workerV g n), .int .i64 (workerE g n)]) w) := by
  by_cases h : 0 ≤ g ∧ g < 16 ∧ 1 ≤ n ∧ n ≤ 8
  · rw [show workerV g n = g * n / 16 from if_pos h, show workerE g n = 0 from if_pos h]
    obtain ⟨h0, h1, h2, h3⟩ := h
    have hno := numOk_t h2 h3
    have hok : okC [true, true, true] = 0 := rfl
    go_enter Tryz.func55, Tryz.ntmps55
    go_wp2_with (first
      | (go_at_call 73; refine (number_any _ _).mono ?_; rintro e w1 ⟨rfl, rfl⟩)
      | (go_at_call 72; refine (allowed_any _ 3 [true, true, true] _ (by omega) (by decide) (by decide) (cells_lit w [.bool true, .bool true, .bool true] _)).mono ?_; rintro e w1 ⟨rfl, rfl⟩)
      | (go_at_call 74; refine (owner_any _ _ _ h0 h1 h2 h3).mono ?_; rintro e w1 ⟨rfl, rfl⟩))
    go_ret2
    exact Ret.int2 rfl rfl ((Below.refl _ _).alloc (Nat.le_refl _) _)
  · rw [show workerV g n = 0 from if_neg h, show workerE g n = 2 from if_neg h]
    have hok : okC [decide (0 ≤ g), decide (g < 16), numOk n] = 2 := okC_ne (by simp [numOk]; omega)
    have H := hide h
    clear h
    go_enter Tryz.func55, Tryz.ntmps55
    go_wp2_with (first
      | (go_at_call 73; refine (number_any _ _).mono ?_; rintro e w1 ⟨rfl, rfl⟩)
      | (go_at_call 72; refine (allowed_any _ 3 [decide (0 ≤ g), decide (g < 16), numOk n] _ (by omega) (Nat.le_refl 3) (Nat.le_refl 3) (cells_lit w [.bool (decide (0 ≤ g)), .bool (decide (g < 16)), .bool (numOk n)] _)).mono ?_; rintro e w1 ⟨rfl, rfl⟩))
    go_ret2
    exact Ret.int2 rfl rfl ((Below.refl _ _).alloc (Nat.le_refl _) _)

end Go.Proofs.YtppaiihcaajkaaaGreat
