/- Plain laws on lists of at most eight flags, each shown by looking at all of them. -/
import Derived.Test.YtjahjefkfcifhaaBSingle
namespace Go.Proofs.Ytjahjefkfcifhaa
open Go.RowKit
set_option linter.unusedVariables false
set_option linter.unusedSimpArgs false
def lists : Nat → List (List Bool)
  | 0 => [[]]
  | n + 1 => (lists n).flatMap fun l => [false :: l, true :: l]
theorem mem_lists : ∀ l : List Bool, l ∈ lists l.length
  | [] => by simp [lists]
  | b :: l => by
    have := mem_lists l
    simp only [List.length_cons, lists, List.mem_flatMap]
    exact ⟨l, this, by cases b <;> simp⟩
/-- What holds of all lists of at most eight flags. -/
theorem of_all {p : List Bool → Prop} (h : ∀ m ∈ List.range 9, ∀ l ∈ lists m, p l) (l : List Bool) (hl : l.length ≤ 8) : p l := h l.length (List.mem_range.2 (by omega)) l (mem_lists l)

theorem sel_bounds : ∀ l : List Bool, l.length ≤ 8 → (∀ y ∈ selI l l.length, 0 ≤ y ∧ y < (l.length : Int)) := of_all (by decide +kernel)
theorem sel_free : ∀ l : List Bool, l.length ≤ 8 → (∀ y ∈ selI l l.length, l.getD y.toNat true = false) := of_all (by decide +kernel)
theorem sel_has' : ∀ l : List Bool, l.length ≤ 8 → (∀ i ∈ List.range l.length, has ((i : Nat) : Int) (selI l l.length) = !(l.getD i false)) := of_all (by decide +kernel)
theorem sel_pos : ∀ l : List Bool, l.length ≤ 8 → (has false l = decide (0 < (selI l l.length).length)) := of_all (by decide +kernel)
theorem sel_set : ∀ l : List Bool, l.length ≤ 8 → (∀ i ∈ List.range l.length, l.getD i false = false → (selI (l.set i true) l.length).length + 1 = (selI l l.length).length) := of_all (by decide +kernel)
theorem sel_falses : ∀ m ∈ List.range 9, (selI (falses m) m).length = m ∧ has true (falses m) = false ∧ (0 < m → has false (falses m) = true) := by decide +kernel
theorem has_out {l : List Bool} (hl : l.length ≤ 8) {i : Int} (hi : ¬ (0 ≤ i ∧ i < (l.length : Int))) : has i (selI l l.length) = false := by
  rw [has, List.any_eq_false]
  intro y hy
  have := sel_bounds l hl y hy
  simp only [decide_eq_true_eq]
  omega
theorem set_len (l : List Bool) (i : Int) : (setT l i).length = l.length := by simp [setT]
/-- A free input's barrier of the next number can be taken. -/
theorem take_free {n : Int} {l : List Bool} {i : Nat} (hc : chk n l = 0) (hn : n < 1099511627776) (hi : i < l.length) (hf : l.getD i false = false) :
    takE n l i (n + 1) = 0 ∧ chk (takN n l i (n + 1)) (takL n l i (n + 1)) = 0 ∧ (takL n l i (n + 1)).length = l.length ∧
    takA n l i (n + 1) = decide ((selI l l.length).length = 1) ∧
    ((selI l l.length).length = 1 → takN n l i (n + 1) = n + 1 ∧ takL n l i (n + 1) = falses l.length) ∧
    (¬ (selI l l.length).length = 1 → takN n l i (n + 1) = n ∧ takL n l i (n + 1) = l.set i true ∧ (selI (l.set i true) l.length).length + 1 = (selI l l.length).length) := by
  obtain ⟨h8, hr, hh⟩ := chk_zero hc
  have hE : takE n l i (n + 1) = 0 := by
    unfold takE
    rw [if_neg (by rw [inp_eq hc (by omega)]; simp), Int.toNat_natCast, if_neg (by rw [hf]; simp), if_neg (by simp), if_neg (by omega)]
  have hS := sel_set l h8.2 i (List.mem_range.2 hi) hf
  have hset : setT l (i : Int) = l.set i true := by simp [setT]
  have hP := sel_pos (l.set i true) (by simpa using h8.2)
  rw [List.length_set] at hP
  by_cases h1 : (selI l l.length).length = 1
  · have hF : has false (setT l i) = false := by rw [hset, hP]; exact decide_eq_false (by omega)
    obtain ⟨e1, e2, e3⟩ := tak_full hE hF
    rw [e1, e2, e3]
    have hq := sel_falses l.length (List.mem_range.2 (by omega))
    exact ⟨hE, chk_ok (by simpa [falses] using h8) (by omega) (hq.2.2 h8.1), by simp [falses], by simp [h1], fun _ => ⟨rfl, rfl⟩, fun h => absurd h1 h⟩
  · have hF : has false (setT l i) = true := by rw [hset, hP]; exact decide_eq_true (by omega)
    obtain ⟨e1, e2, e3⟩ := tak_part hE hF
    rw [e1, e2, e3]
    exact ⟨hE, chk_ok (by rw [set_len]; exact h8) hr hF, by rw [set_len], by simp [h1], fun h => absurd h h1, fun _ => ⟨rfl, hset, hS⟩⟩
theorem take_blocked {n : Int} {l : List Bool} {i : Nat} {num : Int} (hc : chk n l = 0) (hi : i < l.length) (hf : l.getD i false = true) : takE n l i num = 21 := by
  unfold takE
  rw [if_neg (by rw [inp_eq hc (by omega)]; simp), Int.toNat_natCast, if_pos hf]
end Go.Proofs.Ytjahjefkfcifhaa
