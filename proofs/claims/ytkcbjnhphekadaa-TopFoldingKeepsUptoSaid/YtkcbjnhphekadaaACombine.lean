/- The value of an accumulator from those of two lists. -/
import Derived.Test.YtkcbjnhphekadaaARef
namespace Go.Proofs.Ytkcbjnhphekadaa
open Go.RowKit
set_option linter.unusedVariables false
set_option linter.unusedSimpArgs false
theorem results_c {fn : Func} {p : Tmp} {ty : TypeId} (h : fn.results = #[.cell p ty]) (tmps : Array Value) (P : Program) (w : World) :
    (results fn tmps).run P w = ((asAddr (tmps.getD p undef)).run P w).andThen fun a w₁ => (loadVar ty a).run P w₁ := by
  simp only [results, h]
  simp [Sem.run_bind, Result.andThen]

def comQ (k q p : Int) : Int := if k = 4 then q else if k = 5 then p else 0
def comN (k n m : Int) : Int := if k = 1 then n + m else if k = 2 then min n m else if k = 3 then max n m else if k = 4 then n else if k = 5 then m else 0
def comS (k : Int) (s t : ByteArray) : ByteArray := if k = 4 then s else if k = 5 then t else ⟨#[]⟩

set_option maxHeartbeats 400000 in
theorem com1_any (w : World) : Calls Try.prog 64 #[] w (Ret (.agg #[.int .i64 0, .int .i64 0, .string ⟨#[]⟩]) w) := by
  go_enter Try.func64, Try.ntmps64
  go_wp2
  refine bodyPost_ret (v := .agg #[.int .i64 0, .int .i64 0, .string ⟨#[]⟩]) (by rw [results_c rfl]; go_simp) rfl ?_
  exact Ret.mk rfl (below_laid _)
theorem idx0 (x0 x1 x2 x3 x4 x5 : Value) (w : World) : (Instr.index 114 (.agg #[x0, x1, x2, x3, x4, x5]) (.int .i64 0)).run Try.prog w = .ok x0 w := by kernel_rfl
theorem idx1 (x0 x1 x2 x3 x4 x5 : Value) (w : World) : (Instr.index 114 (.agg #[x0, x1, x2, x3, x4, x5]) (.int .i64 1)).run Try.prog w = .ok x1 w := by kernel_rfl
theorem idx2 (x0 x1 x2 x3 x4 x5 : Value) (w : World) : (Instr.index 114 (.agg #[x0, x1, x2, x3, x4, x5]) (.int .i64 2)).run Try.prog w = .ok x2 w := by kernel_rfl
theorem idx3 (x0 x1 x2 x3 x4 x5 : Value) (w : World) : (Instr.index 114 (.agg #[x0, x1, x2, x3, x4, x5]) (.int .i64 3)).run Try.prog w = .ok x3 w := by kernel_rfl
theorem idx4 (x0 x1 x2 x3 x4 x5 : Value) (w : World) : (Instr.index 114 (.agg #[x0, x1, x2, x3, x4, x5]) (.int .i64 4)).run Try.prog w = .ok x4 w := by kernel_rfl
theorem idx5 (x0 x1 x2 x3 x4 x5 : Value) (w : World) : (Instr.index 114 (.agg #[x0, x1, x2, x3, x4, x5]) (.int .i64 5)).run Try.prog w = .ok x5 w := by kernel_rfl

section
variable (A B : Nat) (q n p m : Int) (s t : ByteArray) (w : World)
set_option maxHeartbeats 400000 in
theorem com2_any (ha : w.cell? ⟨A, 1, none⟩ = some (.int .i64 n)) (hb : w.cell? ⟨B, 1, none⟩ = some (.int .i64 m)) (h0 : -9007199254740992 ≤ n) (h1 : n ≤ 9007199254740992) (h2 : -9007199254740992 ≤ m) (h3 : m ≤ 9007199254740992) :
    Calls Try.prog 65 #[.pointer (some ⟨A, 0, none⟩), .pointer (some ⟨B, 0, none⟩)] w (Ret (.agg #[.int .i64 0, .int .i64 (n + m), .string ⟨#[]⟩]) w) := by
  have la := World.block_lt_of_cell? w _ ha
  have lb := World.block_lt_of_cell? w _ hb
  go_enter Try.func65, Try.ntmps65
  go_wp2
  refine bodyPost_ret (v := .agg #[.int .i64 0, .int .i64 (n + m), .string ⟨#[]⟩]) (by rw [results_c rfl]; go_simp) rfl ?_
  exact Ret.mk rfl (below_laid _)
set_option maxHeartbeats 400000 in
theorem com3_any (ha : w.cell? ⟨A, 1, none⟩ = some (.int .i64 n)) (hb : w.cell? ⟨B, 1, none⟩ = some (.int .i64 m)) :
    Calls Try.prog 66 #[.pointer (some ⟨A, 0, none⟩), .pointer (some ⟨B, 0, none⟩)] w (Ret (.agg #[.int .i64 0, .int .i64 (min n m), .string ⟨#[]⟩]) w) := by
  have la := World.block_lt_of_cell? w _ ha
  have lb := World.block_lt_of_cell? w _ hb
  go_enter Try.func66, Try.ntmps66
  go_wp2
  all_goals first
    | (have e : min n m = n := by omega
       refine bodyPost_ret (v := .agg #[.int .i64 0, .int .i64 n, .string ⟨#[]⟩]) (by rw [results_c rfl]; go_simp) rfl ?_
       exact Ret.mk (by rw [e]) (below_laid _))
    | (have e : min n m = m := by omega
       refine bodyPost_ret (v := .agg #[.int .i64 0, .int .i64 m, .string ⟨#[]⟩]) (by rw [results_c rfl]; go_simp) rfl ?_
       exact Ret.mk (by rw [e]) (below_laid _))
set_option maxHeartbeats 400000 in
theorem com4_any (ha : w.cell? ⟨A, 1, none⟩ = some (.int .i64 n)) (hb : w.cell? ⟨B, 1, none⟩ = some (.int .i64 m)) :
    Calls Try.prog 67 #[.pointer (some ⟨A, 0, none⟩), .pointer (some ⟨B, 0, none⟩)] w (Ret (.agg #[.int .i64 0, .int .i64 (max n m), .string ⟨#[]⟩]) w) := by
  have la := World.block_lt_of_cell? w _ ha
  have lb := World.block_lt_of_cell? w _ hb
  go_enter Try.func67, Try.ntmps67
  go_wp2
  all_goals first
    | (have e : max n m = n := by omega
       refine bodyPost_ret (v := .agg #[.int .i64 0, .int .i64 n, .string ⟨#[]⟩]) (by rw [results_c rfl]; go_simp) rfl ?_
       exact Ret.mk (by rw [e]) (below_laid _))
    | (have e : max n m = m := by omega
       refine bodyPost_ret (v := .agg #[.int .i64 0, .int .i64 m, .string ⟨#[]⟩]) (by rw [results_c rfl]; go_simp) rfl ?_
       exact Ret.mk (by rw [e]) (below_laid _))
set_option maxHeartbeats 400000 in
theorem com5_any (h0 : w.cell? ⟨A, 0, none⟩ = some (.int .i64 q)) (h1 : w.cell? ⟨A, 1, none⟩ = some (.int .i64 n)) (h2 : w.cell? ⟨A, 2, none⟩ = some (.string s)) :
    Calls Try.prog 68 #[.pointer (some ⟨A, 0, none⟩)] w (Ret (.agg #[.int .i64 q, .int .i64 n, .string s]) w) := by
  have la := World.block_lt_of_cell? w _ h0
  go_enter Try.func68, Try.ntmps68
  go_wp2
  refine bodyPost_ret (v := .agg #[.int .i64 q, .int .i64 n, .string s]) (by rw [results_c rfl]; go_simp) rfl ?_
  exact Ret.mk rfl (below_laid _)
set_option maxHeartbeats 400000 in
theorem com6_any (h0 : w.cell? ⟨A, 0, none⟩ = some (.int .i64 q)) (h1 : w.cell? ⟨A, 1, none⟩ = some (.int .i64 n)) (h2 : w.cell? ⟨A, 2, none⟩ = some (.string s)) :
    Calls Try.prog 69 #[.pointer (some ⟨A, 0, none⟩)] w (Ret (.agg #[.int .i64 q, .int .i64 n, .string s]) w) := by
  have la := World.block_lt_of_cell? w _ h0
  go_enter Try.func69, Try.ntmps69
  go_wp2
  refine bodyPost_ret (v := .agg #[.int .i64 q, .int .i64 n, .string s]) (by rw [results_c rfl]; go_simp) rfl ?_
  exact Ret.mk rfl (below_laid _)

set_option maxHeartbeats 2000000 in
theorem combine_any (k : Int) (hk : knownB k = true) (h0 : -9007199254740992 ≤ n) (h1 : n ≤ 9007199254740992) (h2 : -9007199254740992 ≤ m) (h3 : m ≤ 9007199254740992) :
    Calls Try.prog 56 #[.int .i64 k, .agg #[.int .i64 q, .int .i64 n, .string s], .agg #[.int .i64 p, .int .i64 m, .string t]] w (Ret (.agg #[.int .i64 (comQ k q p), .int .i64 (comN k n m), .string (comS k s t)]) w) := by
  have hk6 : k = 0 ∨ k = 1 ∨ k = 2 ∨ k = 3 ∨ k = 4 ∨ k = 5 := by simp only [knownB, decide_eq_true_eq] at hk; omega
  clear hk
  rcases hk6 with rfl | rfl | rfl | rfl | rfl | rfl
  all_goals
    have i0 := idx0
    have i1 := idx1
    have i2 := idx2
    have i3 := idx3
    have i4 := idx4
    have i5 := idx5
    go_enter Try.func56, Try.ntmps56
  · go_wp2_with fail
    refine (com1_any _).mono ?_
    rintro e w1 ⟨rfl, hb⟩
    obtain ⟨hb', hz, hx⟩ := step_box [.int .i64 0, .int .i64 0, .string ⟨#[]⟩] hb
    have y0 := hx 0 _ rfl
    have y1 := hx 1 _ rfl
    have y2 := hx 2 _ rfl
    have z0 := step_frozen [.int .i64 0, .int .i64 0, .string ⟨#[]⟩] hb 0
    have z1 := step_frozen [.int .i64 0, .int .i64 0, .string ⟨#[]⟩] hb 1
    have z2 := step_frozen [.int .i64 0, .int .i64 0, .string ⟨#[]⟩] hb 2
    simp only [World.size_alloc] at y0 y1 y2 z0 z1 z2 hz
    have HB := hide (bthen (bthen (below_laid _) (below_laid _)) hb')
    clear hb hb' hx
    go_wp2
    refine bodyPost_ret (v := .agg #[.int .i64 0, .int .i64 0, .string ⟨#[]⟩]) (by rw [results_c rfl]; go_simp) rfl ?_
    refine Ret.mk (by simp [comQ, comN, comS]) ?_
    exact ((HB.out.setCell (p := ⟨w.heap.size + 1 + 1, 0, none⟩) (by show w.heap.size ≤ w.heap.size + 1 + 1; omega) _).setCell (p := ⟨w.heap.size + 1 + 1, 1, none⟩) (by show w.heap.size ≤ w.heap.size + 1 + 1; omega) _).setCell (p := ⟨w.heap.size + 1 + 1, 2, none⟩) (by show w.heap.size ≤ w.heap.size + 1 + 1; omega) _
  · go_wp2_with fail
    refine (com2_any w.heap.size (w.heap.size + 1) n m _ (by go_simp) (by go_simp) h0 h1 h2 h3).mono ?_
    rintro e w1 ⟨rfl, hb⟩
    obtain ⟨hb', hz, hx⟩ := step_box [.int .i64 0, .int .i64 0, .string ⟨#[]⟩] hb
    have y0 := hx 0 _ rfl
    have y1 := hx 1 _ rfl
    have y2 := hx 2 _ rfl
    have z0 := step_frozen [.int .i64 0, .int .i64 0, .string ⟨#[]⟩] hb 0
    have z1 := step_frozen [.int .i64 0, .int .i64 0, .string ⟨#[]⟩] hb 1
    have z2 := step_frozen [.int .i64 0, .int .i64 0, .string ⟨#[]⟩] hb 2
    simp only [World.size_alloc] at y0 y1 y2 z0 z1 z2 hz
    have HB := hide (bthen (bthen (below_laid _) (below_laid _)) hb')
    clear hb hb' hx
    go_wp2
    refine bodyPost_ret (v := .agg #[.int .i64 0, .int .i64 (n + m), .string ⟨#[]⟩]) (by rw [results_c rfl]; go_simp) rfl ?_
    refine Ret.mk (by simp [comQ, comN, comS]) ?_
    exact ((HB.out.setCell (p := ⟨w.heap.size + 1 + 1, 0, none⟩) (by show w.heap.size ≤ w.heap.size + 1 + 1; omega) _).setCell (p := ⟨w.heap.size + 1 + 1, 1, none⟩) (by show w.heap.size ≤ w.heap.size + 1 + 1; omega) _).setCell (p := ⟨w.heap.size + 1 + 1, 2, none⟩) (by show w.heap.size ≤ w.heap.size + 1 + 1; omega) _
  · go_wp2_with fail
    refine (com3_any w.heap.size (w.heap.size + 1) n m _ (by go_simp) (by go_simp)).mono ?_
    rintro e w1 ⟨rfl, hb⟩
    obtain ⟨hb', hz, hx⟩ := step_box [.int .i64 0, .int .i64 0, .string ⟨#[]⟩] hb
    have y0 := hx 0 _ rfl
    have y1 := hx 1 _ rfl
    have y2 := hx 2 _ rfl
    have z0 := step_frozen [.int .i64 0, .int .i64 0, .string ⟨#[]⟩] hb 0
    have z1 := step_frozen [.int .i64 0, .int .i64 0, .string ⟨#[]⟩] hb 1
    have z2 := step_frozen [.int .i64 0, .int .i64 0, .string ⟨#[]⟩] hb 2
    simp only [World.size_alloc] at y0 y1 y2 z0 z1 z2 hz
    have HB := hide (bthen (bthen (below_laid _) (below_laid _)) hb')
    clear hb hb' hx
    go_wp2
    refine bodyPost_ret (v := .agg #[.int .i64 0, .int .i64 (min n m), .string ⟨#[]⟩]) (by rw [results_c rfl]; go_simp) rfl ?_
    refine Ret.mk (by simp [comQ, comN, comS]) ?_
    exact ((HB.out.setCell (p := ⟨w.heap.size + 1 + 1, 0, none⟩) (by show w.heap.size ≤ w.heap.size + 1 + 1; omega) _).setCell (p := ⟨w.heap.size + 1 + 1, 1, none⟩) (by show w.heap.size ≤ w.heap.size + 1 + 1; omega) _).setCell (p := ⟨w.heap.size + 1 + 1, 2, none⟩) (by show w.heap.size ≤ w.heap.size + 1 + 1; omega) _
  · go_wp2_with fail
    refine (com4_any w.heap.size (w.heap.size + 1) n m _ (by go_simp) (by go_simp)).mono ?_
    rintro e w1 ⟨rfl, hb⟩
    obtain ⟨hb', hz, hx⟩ := step_box [.int .i64 0, .int .i64 0, .string ⟨#[]⟩] hb
    have y0 := hx 0 _ rfl
    have y1 := hx 1 _ rfl
    have y2 := hx 2 _ rfl
    have z0 := step_frozen [.int .i64 0, .int .i64 0, .string ⟨#[]⟩] hb 0
    have z1 := step_frozen [.int .i64 0, .int .i64 0, .string ⟨#[]⟩] hb 1
    have z2 := step_frozen [.int .i64 0, .int .i64 0, .string ⟨#[]⟩] hb 2
    simp only [World.size_alloc] at y0 y1 y2 z0 z1 z2 hz
    have HB := hide (bthen (bthen (below_laid _) (below_laid _)) hb')
    clear hb hb' hx
    go_wp2
    refine bodyPost_ret (v := .agg #[.int .i64 0, .int .i64 (max n m), .string ⟨#[]⟩]) (by rw [results_c rfl]; go_simp) rfl ?_
    refine Ret.mk (by simp [comQ, comN, comS]) ?_
    exact ((HB.out.setCell (p := ⟨w.heap.size + 1 + 1, 0, none⟩) (by show w.heap.size ≤ w.heap.size + 1 + 1; omega) _).setCell (p := ⟨w.heap.size + 1 + 1, 1, none⟩) (by show w.heap.size ≤ w.heap.size + 1 + 1; omega) _).setCell (p := ⟨w.heap.size + 1 + 1, 2, none⟩) (by show w.heap.size ≤ w.heap.size + 1 + 1; omega) _
  · go_wp2_with fail
    refine (com5_any w.heap.size q n s _ (by go_simp) (by go_simp) (by go_simp)).mono ?_
    rintro e w1 ⟨rfl, hb⟩
    obtain ⟨hb', hz, hx⟩ := step_box [.int .i64 0, .int .i64 0, .string ⟨#[]⟩] hb
    have y0 := hx 0 _ rfl
    have y1 := hx 1 _ rfl
    have y2 := hx 2 _ rfl
    have z0 := step_frozen [.int .i64 0, .int .i64 0, .string ⟨#[]⟩] hb 0
    have z1 := step_frozen [.int .i64 0, .int .i64 0, .string ⟨#[]⟩] hb 1
    have z2 := step_frozen [.int .i64 0, .int .i64 0, .string ⟨#[]⟩] hb 2
    simp only [World.size_alloc] at y0 y1 y2 z0 z1 z2 hz
    have HB := hide (bthen (bthen (below_laid _) (below_laid _)) hb')
    clear hb hb' hx
    go_wp2
    refine bodyPost_ret (v := .agg #[.int .i64 q, .int .i64 n, .string s]) (by rw [results_c rfl]; go_simp) rfl ?_
    refine Ret.mk (by simp [comQ, comN, comS]) ?_
    exact ((HB.out.setCell (p := ⟨w.heap.size + 1 + 1, 0, none⟩) (by show w.heap.size ≤ w.heap.size + 1 + 1; omega) _).setCell (p := ⟨w.heap.size + 1 + 1, 1, none⟩) (by show w.heap.size ≤ w.heap.size + 1 + 1; omega) _).setCell (p := ⟨w.heap.size + 1 + 1, 2, none⟩) (by show w.heap.size ≤ w.heap.size + 1 + 1; omega) _
  · go_wp2_with fail
    refine (com6_any (w.heap.size + 1) p m t _ (by go_simp) (by go_simp) (by go_simp)).mono ?_
    rintro e w1 ⟨rfl, hb⟩
    obtain ⟨hb', hz, hx⟩ := step_box [.int .i64 0, .int .i64 0, .string ⟨#[]⟩] hb
    have y0 := hx 0 _ rfl
    have y1 := hx 1 _ rfl
    have y2 := hx 2 _ rfl
    have z0 := step_frozen [.int .i64 0, .int .i64 0, .string ⟨#[]⟩] hb 0
    have z1 := step_frozen [.int .i64 0, .int .i64 0, .string ⟨#[]⟩] hb 1
    have z2 := step_frozen [.int .i64 0, .int .i64 0, .string ⟨#[]⟩] hb 2
    simp only [World.size_alloc] at y0 y1 y2 z0 z1 z2 hz
    have HB := hide (bthen (bthen (below_laid _) (below_laid _)) hb')
    clear hb hb' hx
    go_wp2
    refine bodyPost_ret (v := .agg #[.int .i64 p, .int .i64 m, .string t]) (by rw [results_c rfl]; go_simp) rfl ?_
    refine Ret.mk (by simp [comQ, comN, comS]) ?_
    exact ((HB.out.setCell (p := ⟨w.heap.size + 1 + 1, 0, none⟩) (by show w.heap.size ≤ w.heap.size + 1 + 1; omega) _).setCell (p := ⟨w.heap.size + 1 + 1, 1, none⟩) (by show w.heap.size ≤ w.heap.size + 1 + 1; omega) _).setCell (p := ⟨w.heap.size + 1 + 1, 2, none⟩) (by show w.heap.size ≤ w.heap.size + 1 + 1; omega) _
end
end Go.Proofs.Ytkcbjnhphekadaa
