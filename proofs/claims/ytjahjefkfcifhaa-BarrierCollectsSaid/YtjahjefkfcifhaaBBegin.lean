/- Begin, and the reference's Begin; barrier.input. -/
import Derived.Test.YtjahjefkfcifhaaBRef
import Derived.Laws.ResultCell
namespace Go.Proofs.Ytjahjefkfcifhaa
open Go.RowKit
set_option linter.unusedVariables false
set_option linter.unusedSimpArgs false

def falses (n : Nat) : List Bool := List.replicate n false
theorem madeCells_one (x : Value) (n : Nat) : madeCells #[x] n = (List.replicate n x).toArray := by
  apply Array.ext
  · simp [madeCells]
  · intro i h1 h2
    simp [madeCells, Nat.mod_one]
theorem info_bool : (Try.prog.info? 4).map (fun i => (i.zero, i.size, i.bytes)) = some (some (.bool false), 1, 1) := by kernel_rfl
/-- make([]bool, n). -/
theorem make_bools (n : Nat) (hn : n ≤ 1000) (w : World) : (Instr.makeSlice 22 (.int .i64 (n : Int)) (.int .i64 (n : Int))).run Try.prog w = .ok (.slice (some ⟨w.heap.size, 0, none⟩) n n) (w.alloc (.cells (bools (falses n)).toArray 4)) := by
  obtain ⟨i0, hi0, hz0, hz1, hz2⟩ := info_parts info_bool
  have hr := run_make (P := Try.prog) w 22 4 i0 _ Try.underlying22 hi0 hz0 .i64 .i64 (n : Int) (n : Int) (by omega) (by omega) (by rw [hz2]; omega) (by omega)
  rw [hz1] at hr
  simp only [Int.toNat_natCast, Nat.mul_one, Value.cells, madeCells_one] at hr
  rw [hr]
  simp [bools, falses]
/-- An aligner that comes back, with what stands behind it. -/
def RetAl (w : World) (n : Int) (l : List Bool) (xs : Array Value) (e : Ending) (w' : World) : Prop :=
  ∃ v, e = .returned (.tuple (#[.agg #[.int .i64 n, v]] ++ xs)) ∧ Row w' w'.heap.size 1 v l.length (bools l) ∧ Below w.heap.size w w'
def begL (n : Int) : List Bool := if cntd n = true then falses n.toNat else []
def begE (n : Int) : Int := if cntd n = true then 0 else 5

/-- A row that make has laid, behind further blocks. -/
theorem row_new {w W : World} (l : List Bool) (t : TypeId) (hb : Below (w.heap.size + 1) (w.alloc (.cells (bools l).toArray t)) W) : Row W W.heap.size 1 (.slice (some ⟨w.heap.size, 0, none⟩) l.length l.length) l.length (bools l) := by
  refine ⟨by simp [bools], .inr ⟨w.heap.size, 0, l.length, rfl, by have := hb.size; simp at this; omega, Nat.le_refl _, fun j u hj => ?_⟩⟩
  rw [Nat.zero_add]
  exact (hb.cell (p := ⟨w.heap.size, j, none⟩) (Nat.lt_succ_self _)).trans (cells_lit w (bools l) t j u hj)
theorem falses_len (n : Nat) : (falses n).length = n := by simp [falses]
theorem row_nil (w : World) (B : Nat) : Row w B 1 (.slice none 0 0) 0 (bools []) := by
  refine ⟨rfl, Or.inl ⟨rfl, rfl⟩⟩
theorem row_new' {w W : World} (m : Nat) (t : TypeId) (hb : Below (w.heap.size + 1) (w.alloc (.cells (bools (falses m)).toArray t)) W) : Row W W.heap.size 1 (.slice (some ⟨w.heap.size, 0, none⟩) m m) (falses m).length (bools (falses m)) := by
  have h := row_new (falses m) t hb
  rw [falses_len] at h ⊢
  exact h


set_option maxHeartbeats 400000 in
theorem begin_any (n : Int) (w : World) : Calls Try.prog 11 #[.int .i64 n] w (RetAl w 0 (begL n) #[.int .i64 (begE n)]) := by
  cases h : cntd n
  · rw [show begL n = [] from if_neg (by simp [h]), show begE n = 5 from if_neg (by simp [h])]
    have hno : ¬ (1 ≤ n ∧ n ≤ 8) := fun h' => by rw [cntd_iff.2 h'] at h; cases h
    have HB : ∀ o, Below w.heap.size w (w.alloc o) := fun o => (Below.refl _ _).alloc (Nat.le_refl _) _
    have HN := hide hno
    clear hno
    (go_enter Try.func11, Try.ntmps11; go_wp2_with (go_at_call 26; refine (counted_any _ _).mono ?_; rintro e w1 ⟨rfl, rfl⟩))
    all_goals first | (refine bodyPost_ret (v := .tuple #[.agg #[.int .i64 0, .slice none 0 0], .int .i64 5]) (by rw [results_cell_tmp rfl]; go_simp) rfl ?_; exact ⟨_, rfl, row_nil _ _, HB _⟩) | skip
    all_goals (have hno := HN.out; clear HN)
    all_goals (try simp only [isEmpty_size, bne_iff_ne, ne_eq, bne_eq_false_iff_eq, beq_iff_eq, beq_eq_false_iff_ne, Bool.not_eq_true', Bool.not_eq_false', decide_eq_true_eq, decide_eq_false_iff_not] at *)
    all_goals (exfalso; omega)
  · obtain ⟨h1, h8⟩ := cntd_iff.1 h
    rw [show begL n = falses n.toNat from if_pos h, show begE n = 0 from if_pos h]
    obtain ⟨m, rfl⟩ := Int.eq_ofNat_of_zero_le (show 0 ≤ n by omega)
    rw [Int.toNat_natCast]
    have hmk := make_bools m (by omega)
    have t1 : decide ((m : Int) < 1) = false := decide_eq_false (by omega)
    have t2 : decide ((8 : Int) < (m : Int)) = false := decide_eq_false (by omega)
    clear h1 h8
    (go_enter Try.func11, Try.ntmps11; go_wp2_with (go_at_call 26; refine (counted_any _ _).mono ?_; rintro e w1 ⟨rfl, rfl⟩))
    refine bodyPost_ret (v := .tuple #[.agg #[.int .i64 0, .slice (some ⟨w.heap.size + 1, 0, none⟩) m m], .int .i64 0]) (by rw [results_cell_tmp rfl]; go_simp) rfl ?_
    refine ⟨_, rfl, ?_, ((Below.refl _ _).alloc (Nat.le_refl _) _).alloc (by simp) _⟩
    have := row_new' (w := w.alloc (.cells #[.int .i64 0, .slice (some ⟨w.heap.size + 1, 0, none⟩) m m] 24)) m 4 (Below.refl _ _)
    simpa using this
set_option maxHeartbeats 400000 in
theorem rbegin_any (n : Int) (w : World) : Calls Try.prog 12 #[.int .i64 n] w (RetAl w 0 (begL n) #[.int .i64 (begE n)]) := by
  cases h : cntd n
  · rw [show begL n = [] from if_neg (by simp [h]), show begE n = 5 from if_neg (by simp [h])]
    have hno : ¬ (1 ≤ n ∧ n ≤ 8) := fun h' => by rw [cntd_iff.2 h'] at h; cases h
    have HB : ∀ o, Below w.heap.size w (w.alloc o) := fun o => (Below.refl _ _).alloc (Nat.le_refl _) _
    have HN := hide hno
    clear hno
    (go_enter Try.func12, Try.ntmps12; go_wp2)
    all_goals first | (refine bodyPost_ret (v := .tuple #[.agg #[.int .i64 0, .slice none 0 0], .int .i64 5]) (by rw [results_cell_tmp rfl]; go_simp) rfl ?_; exact ⟨_, rfl, row_nil _ _, HB _⟩) | skip
    all_goals (have hno := HN.out; clear HN)
    all_goals (try simp only [isEmpty_size, bne_iff_ne, ne_eq, bne_eq_false_iff_eq, beq_iff_eq, beq_eq_false_iff_ne, Bool.not_eq_true', Bool.not_eq_false', decide_eq_true_eq, decide_eq_false_iff_not] at *)
    all_goals (exfalso; omega)
  · obtain ⟨h1, h8⟩ := cntd_iff.1 h
    rw [show begL n = falses n.toNat from if_pos h, show begE n = 0 from if_pos h]
    obtain ⟨m, rfl⟩ := Int.eq_ofNat_of_zero_le (show 0 ≤ n by omega)
    rw [Int.toNat_natCast]
    have hmk := make_bools m (by omega)
    have t1 : decide ((m : Int) < 1) = false := decide_eq_false (by omega)
    have t2 : decide ((8 : Int) < (m : Int)) = false := decide_eq_false (by omega)
    clear h1 h8
    (go_enter Try.func12, Try.ntmps12; go_wp2)
    refine bodyPost_ret (v := .tuple #[.agg #[.int .i64 0, .slice (some ⟨w.heap.size + 1, 0, none⟩) m m], .int .i64 0]) (by rw [results_cell_tmp rfl]; go_simp) rfl ?_
    refine ⟨_, rfl, ?_, ((Below.refl _ _).alloc (Nat.le_refl _) _).alloc (by simp) _⟩
    have := row_new' (w := w.alloc (.cells #[.int .i64 0, .slice (some ⟨w.heap.size + 1, 0, none⟩) m m] 24)) m 4 (Below.refl _ _)
    simpa using this
end Go.Proofs.Ytjahjefkfcifhaa
