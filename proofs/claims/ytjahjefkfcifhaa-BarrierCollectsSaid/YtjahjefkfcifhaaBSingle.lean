/- The law of a single input. -/
import Derived.Test.YtjahjefkfcifhaaBLaws
namespace Go.Proofs.Ytjahjefkfcifhaa
open Go.RowKit
set_option linter.unusedVariables false
set_option linter.unusedSimpArgs false

theorem keepf {W w' : World} (hB : Below W.heap.size W w') {p : Addr} (hp : p.block < W.heap.size) (h : W.frozen? p = false) : w'.frozen? p = false := (hB.frozen hp).trans h
theorem below_laid {w : World} (o : Obj) : Below w.heap.size w (w.alloc o) := (Below.refl _ _).alloc (Nat.le_refl _) _
/-- A box of an aligner that may be written. -/
def BoxA (w : World) (F : Nat) (n : Int) (l : List Bool) (A : Option Addr) (cap : Nat) : Prop :=
  (∃ t, w.heap[F]? = some (.cells #[.int .i64 n, .slice A l.length cap] t (0, 0))) ∧ Row w w.heap.size 1 (.slice A l.length cap) l.length (bools l)
section
variable {w w' : World} {F : Nat} {n m : Int} {l k : List Bool} {A B : Option Addr} {cap cap' : Nat}
theorem BoxA.lt (h : BoxA w F n l A cap) : F < w.heap.size := by obtain ⟨⟨t, h1⟩, -⟩ := h; exact (Array.getElem?_eq_some_iff.1 h1).1
theorem BoxA.cells (h : BoxA w F n l A cap) : (w.cell? ⟨F, 0, none⟩ = some (.int .i64 n) ∧ w.cell? ⟨F, 1, none⟩ = some (.slice A l.length cap)) ∧ (w.frozen? ⟨F, 0, none⟩ = false ∧ w.frozen? ⟨F, 1, none⟩ = false) := by
  obtain ⟨⟨t, h1⟩, -⟩ := h
  refine ⟨⟨?_, ?_⟩, ?_, ?_⟩ <;> simp [World.cell?, World.frozen?, h1]
theorem BoxA.keep (h : BoxA w F n l A cap) (hb : Below w.heap.size w w') : BoxA w' F n l A cap := by
  have hl := h.lt
  obtain ⟨⟨t, h1⟩, hr⟩ := h
  exact ⟨⟨t, by rw [hb.block F hl]; exact h1⟩, hr.grow hb⟩
theorem BoxA.new (hr : Row w w.heap.size 1 (.slice A l.length cap) l.length (bools l)) (t : TypeId) : BoxA (w.alloc (.cells #[.int .i64 n, .slice A l.length cap] t)) w.heap.size n l A cap :=
  ⟨⟨t, heap_alloc_new w _⟩, hr.laid _⟩
theorem BoxA.apart (h : BoxA w F n l A cap) (hr : Row w w.heap.size 1 (.slice B k.length cap') k.length (bools k)) (hk : 0 < k.length) : ∀ x, B = some x → x.block ≠ F := by
  rintro x rfl rfl
  obtain ⟨⟨t, h1⟩, -⟩ := h
  obtain ⟨g, off, c, e, -, -, hc⟩ := hr.at_ hk
  cases e
  have h2 := hc 0 (.bool k[0]) (by simp [bools, hk])
  simp only [World.cell?, h1] at h2
  have h3 : off + 0 = 0 ∨ off + 0 = 1 ∨ 2 ≤ off + 0 := by omega
  rcases h3 with h3 | h3 | h3
  · rw [h3] at h2; simp at h2
  · rw [h3] at h2; simp at h2
  · rw [Array.getElem?_eq_none (by simpa using h3)] at h2; simp at h2
/-- A box is written anew. -/
theorem BoxA.set (h : BoxA w F n l A cap) (hr : Row w w.heap.size 1 (.slice B k.length cap') k.length (bools k)) (hne : ∀ x, B = some x → x.block ≠ F) :
    BoxA ((w.setCell ⟨F, 0, none⟩ (.int .i64 m)).setCell ⟨F, 1, none⟩ (.slice B k.length cap')) F m k B cap' := by
  have hl := h.lt
  obtain ⟨⟨t, h1⟩, -⟩ := h
  refine ⟨⟨t, ?_⟩, ?_⟩
  · simp [World.setCell, Array.getElem?_modify, h1]
  have hsz : ((w.setCell ⟨F, 0, none⟩ (.int .i64 m)).setCell ⟨F, 1, none⟩ (.slice B k.length cap')).heap.size = w.heap.size := by simp [World.setCell]
  rw [hsz]
  cases B with
  | none =>
    refine ⟨hr.1, ?_⟩
    rcases hr.2 with h0 | ⟨g, off, c, e, _⟩
    · exact .inl h0
    · cases e
  | some x =>
    obtain ⟨hx1, hx2⟩ := hr
    refine ⟨hx1, ?_⟩
    rcases hx2 with h0 | ⟨g, off, c, e, hg, hn, hc⟩
    · exact .inl h0
    · cases e
      have hF := hne _ rfl
      refine .inr ⟨g, off, _, rfl, hg, hn, fun j u hj => ?_⟩
      rw [World.cell?_setCell_far _ _ _ _ (fun e => hF e.symm), World.cell?_setCell_far _ _ _ _ (fun e => hF e.symm)]
      exact hc j u hj
end
theorem ts_e0 (k : Nat) (h : k < 9) : takE k [false] 0 k = 22 ∧ takL k [false] 0 k = [] ∧ takN k [false] 0 k = 0 ∧ takA k [false] 0 k = false := by
  have h2 : ∀ k ∈ List.range 9, takE (k : Nat) [false] 0 (k : Nat) = 22 ∧ takL (k : Nat) [false] 0 (k : Nat) = [] ∧ takN (k : Nat) [false] 0 (k : Nat) = 0 ∧ takA (k : Nat) [false] 0 (k : Nat) = false := by decide +kernel
  exact h2 k (List.mem_range.2 h)
theorem ts_e2 (k : Nat) (h : k < 9) : takE k [false] 0 ((k : Int) + 2) = 22 ∧ takL k [false] 0 ((k : Int) + 2) = [] ∧ takN k [false] 0 ((k : Int) + 2) = 0 ∧ takA k [false] 0 ((k : Int) + 2) = false := by
  have h2 : ∀ k ∈ List.range 9, takE (k : Nat) [false] 0 (((k : Nat) : Int) + 2) = 22 ∧ takL (k : Nat) [false] 0 (((k : Nat) : Int) + 2) = [] ∧ takN (k : Nat) [false] 0 (((k : Nat) : Int) + 2) = 0 ∧ takA (k : Nat) [false] 0 (((k : Nat) : Int) + 2) = false := by decide +kernel
  exact h2 k (List.mem_range.2 h)
theorem ts_e1 (k : Nat) (h : k < 9) : takE k [false] 0 ((k : Int) + 1) = 0 ∧ takL k [false] 0 ((k : Int) + 1) = [false] ∧ takN k [false] 0 ((k : Int) + 1) = (k : Int) + 1 ∧ takA k [false] 0 ((k : Int) + 1) = true := by
  have h2 : ∀ k ∈ List.range 9, takE (k : Nat) [false] 0 (((k : Nat) : Int) + 1) = 0 ∧ takL (k : Nat) [false] 0 (((k : Nat) : Int) + 1) = [false] ∧ takN (k : Nat) [false] 0 (((k : Nat) : Int) + 1) = ((k : Nat) : Int) + 1 ∧ takA (k : Nat) [false] 0 (((k : Nat) : Int) + 1) = true := by decide +kernel
  exact h2 k (List.mem_range.2 h)
theorem ts_beg : begL 1 = [false] ∧ begE 1 = 0 := by decide +kernel

set_option maxRecDepth 100000 in
set_option maxHeartbeats 2000000 in
theorem single_law (a : Int) (m : Nat) (w : World) (hn : a.tmod 9 = (m : Int)) (hm : m < 9) :
    Calls Try.prog 5 #[.int .u8 a] w (Ret (.bool true) w) := by
  go_enter Try.func5, Try.ntmps5
  go_wp2_with fail
  refine (begin_any 1 _).mono ?_
  rw [ts_beg.1, ts_beg.2]
  rintro e w1 ⟨va, rfl, hRa, hB1⟩
  simp only [List.append_toArray, List.cons_append, List.nil_append]
  obtain ⟨A, cap, rfl⟩ := hRa.form
  have HA := hide (BoxA.new (n := 0) hRa 24)
  have HB1 := hide (bthen hB1 (below_laid (.cells #[.int .i64 0, .slice A 1 cap] 24)))
  have hzw := hB1.size
  clear hRa hB1
  go_wp2_with fail
  go_loopw [24] (fun i wr => ∃ k : Nat, k ≤ m ∧ i = .int .i64 k ∧ Hid (∃ A cap, BoxA wr w1.heap.size k [false] A cap) ∧ Hid (Below w.heap.size w wr)) (fun i _ => m - (intOf i).toNat)
  case atStart => exact ⟨0, by omega, rfl, hide ⟨A, cap, HA.out⟩, HB1⟩
  case round =>
    obtain ⟨k, hk, rfl, HX, HB⟩ := hrel
    obtain ⟨A, cap, hX⟩ := HX.out
    have hF := hX.lt
    have HX := hide hX
    obtain ⟨⟨a0, a1⟩, -⟩ := hX.cells
    clear hX
    by_cases hlt : k < m
    · have E0 := hide (ts_e0 k (by omega))
      have E1 := hide (ts_e1 k (by omega))
      have E2 := hide (ts_e2 k (by omega))
      go_wp2_with fail
      refine (take_any _ _ [false] _ _ _ (by decide) HX.out.2).mono ?_
      unfold RetTak
      rw [(E0.out).1, (E0.out).2.1, (E0.out).2.2.1, (E0.out).2.2.2]
      rintro e w3 ⟨vd, rfl, hRd, hb⟩
      simp only [List.append_toArray, List.cons_append, List.nil_append]
      obtain ⟨Ad, capd, rfl⟩ := hRd.form
      have hb9 := bthen hb (below_laid (.cells #[.int .i64 0, .slice Ad 0 capd] 24))
      have HX3 := hide (HX.out.keep hb9)
      have HB3 := hide (bthen HB.out hb9)
      obtain ⟨⟨b0, b1⟩, -⟩ := HX3.out.cells
      clear hRd hb hb9 a0 a1
      go_wp2_with fail
      refine (take_any _ _ [false] _ _ _ (by decide) HX3.out.2).mono ?_
      unfold RetTak
      rw [(E2.out).1, (E2.out).2.1, (E2.out).2.2.1, (E2.out).2.2.2]
      rintro e w4 ⟨ve, rfl, hRe, hb⟩
      simp only [List.append_toArray, List.cons_append, List.nil_append]
      obtain ⟨Ae, cape, rfl⟩ := hRe.form
      have hb9 := bthen hb (below_laid (.cells #[.int .i64 0, .slice Ae 0 cape] 24))
      have HX4 := hide (HX3.out.keep hb9)
      have HB4 := hide (bthen HB3.out hb9)
      obtain ⟨⟨c0, c1⟩, -⟩ := HX4.out.cells
      clear hRe hb hb9 b0 b1
      go_wp2_with fail
      refine (take_any _ _ [false] _ _ _ (by decide) HX4.out.2).mono ?_
      unfold RetTak
      rw [(E1.out).1, (E1.out).2.1, (E1.out).2.2.1, (E1.out).2.2.2]
      rintro e w5 ⟨vn, rfl, hRn, hb⟩
      simp only [List.append_toArray, List.cons_append, List.nil_append]
      obtain ⟨An, capn, rfl⟩ := hRn.form
      have hb9 := bthen hb (below_laid (.cells #[.int .i64 ((k : Int) + 1), .slice An 1 capn] 24))
      have HX5 := hide (HX4.out.keep hb9)
      have HB5 := hide (bthen HB4.out hb9)
      have HRN := hide (hRn.laid (.cells #[.int .i64 ((k : Int) + 1), .slice An 1 capn] 24))
      obtain ⟨⟨d0, d1⟩, f0, f1⟩ := HX5.out.cells
      clear hRn hb hb9 c0 c1
      go_wp2
      go_roundw
      case rel => exact ⟨k + 1, by omega, by go_num, hide ⟨An, capn, HX5.out.set (k := [false]) HRN.out (HX5.out.apart HRN.out (by decide))⟩, hide ((HB5.out.setCell (p := ⟨w1.heap.size, 0, none⟩) hzw _).setCell (p := ⟨w1.heap.size, 1, none⟩) hzw _)⟩
      case measure => simp [intOf]; omega
    · obtain rfl : k = m := by omega
      clear a0 a1
      go_wp2_with fail
      refine (awake_any _).mono ?_
      rintro e w5 ⟨rfl, hb⟩
      go_wp2
      go_ret
      exact Ret.bool rfl (bthen HB.out hb)

/-- A byte's rest. -/
theorem u8_rem9 {a : Int} (h : (Lit.int .u8 a).wf = true) : a.tmod 9 = (((a.tmod 9).toNat : Nat) : Int) ∧ (a.tmod 9).toNat < 9 := by
  simp only [Lit.wf, Bool.and_eq_true, decide_eq_true_eq] at h
  have h0 : (0 : Int) ≤ a := h.1
  rw [Int.tmod_eq_emod_of_nonneg h0]
  omega
theorem u8_rem8 {a : Int} (h : (Lit.int .u8 a).wf = true) : a.tmod 8 = (((a.tmod 8).toNat : Nat) : Int) ∧ (a.tmod 8).toNat < 8 := by
  simp only [Lit.wf, Bool.and_eq_true, decide_eq_true_eq] at h
  have h0 : (0 : Int) ≤ a := h.1
  rw [Int.tmod_eq_emod_of_nonneg h0]
  omega
end Go.Proofs.Ytjahjefkfcifhaa
