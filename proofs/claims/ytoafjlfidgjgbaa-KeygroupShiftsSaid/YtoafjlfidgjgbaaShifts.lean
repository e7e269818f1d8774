/- slices.IndexFunc over moves; the law that moves turn one assignment into another. -/
import Derived.Test.YtoafjlfidgjgbaaKeeps
namespace Go.Proofs.Ytoafjlfidgjgbaa
open Go.RowKit
set_option linter.unusedVariables false
set_option linter.unusedSimpArgs false


set_option maxHeartbeats 400000 in
theorem first_any (x0 x1 x2 g : Int) (b : Nat) (w : World) (hb : b < w.heap.size) (hc : w.cell? ⟨b, 0, none⟩ = some (.int .i64 g)) :
    Calls Try.prog 21 #[.agg #[.int .i64 x0, .int .i64 x1, .int .i64 x2], .pointer (some ⟨b, 0, none⟩)] w (Ret (.bool (x0 == g)) w) := by
  go_enter Try.func21, Try.ntmps21
  go_wp2
  go_ret
  exact Ret.bool rfl ((Below.refl _ _).alloc (Nat.le_refl _) _)

set_option maxHeartbeats 400000 in
theorem indexfunc_any (v : Value) (n : Nat) (l fs : List Int) (g : Int) (b : Nat) (w : World) (hn : n ≤ 1000) (hfs : fs.length = n) (hf : ∀ k (h : k < fs.length), l[k * 3]? = some fs[k]) (hv : Row w w.heap.size 3 v n (ints l))
    (hb : b < w.heap.size) (hc : w.cell? ⟨b, 0, none⟩ = some (.int .i64 g)) :
    Calls Try.prog 20 #[v, .func (.func 21) #[] #[.pointer (some ⟨b, 0, none⟩)]] w (Ret (.int .i64 (idx g fs 0)) w) := by
  have HM := hide hfs
  have HF := hide hf
  clear hfs hf
  rcases Nat.eq_zero_or_pos n with rfl | hpos
  · obtain rfl : fs = [] := List.eq_nil_of_length_eq_zero HM.out
    obtain ⟨A, cap, rfl⟩ := hv.form
    clear hv
    go_enter Try.func20, Try.ntmps20
    go_wp2
    refine wp_loop_rounds 1 ?_
    rw [rounds_succ]
    go_wp2
    go_ret
    exact Ret.int rfl (Below.refl _ _)
  · have hlen := hide hv.1
    obtain ⟨p, off, cap, rfl, hp, _, hcl⟩ := hv.at_ hpos
    have HC := hide hcl
    have HB := hide hc
    clear hcl hv hc
    go_enter Try.func20, Try.ntmps20
    go_wp2
    go_loopw [8] (fun i wr => ∃ k : Nat, k ≤ n ∧ i = .int .i64 k ∧ Below w.heap.size w wr ∧ Hid (idx g (fs.drop k) k = idx g fs 0)) (fun i _ => n - (intOf i).toNat)
    case atStart => exact ⟨0, by omega, rfl, Below.refl _ _, hide (by simp)⟩
    case round =>
      obtain ⟨k, hk, rfl, hbr, HI⟩ := hrel
      have HBR := hide hbr
      have hzr := hbr.size
      by_cases hlt : k < n
      · have hkl : k < fs.length := by rw [HM.out]; exact hlt
        have cell : ∀ j, j < 3 → ∃ x, wr.cell? ⟨p, off + k * 3 + j, none⟩ = some (.int .i64 x) ∧ l[k * 3 + j]? = some x := fun j hj => by
          have hl : k * 3 + j < l.length := by have := hlen.out; simp only [ints, List.length_map] at this; omega
          refine ⟨l[k * 3 + j], ?_, by simp [hl]⟩
          rw [(bcell hbr).1 _ _ hp, Nat.add_assoc]
          exact HC.out _ _ (by simp [ints, hl])
        obtain ⟨x0, a0, b0⟩ := cell 0 (by omega)
        obtain ⟨x1, a1, -⟩ := cell 1 (by omega)
        obtain ⟨x2, a2, -⟩ := cell 2 (by omega)
        have HX : Hid (fs[k] = x0) := hide (by have := HF.out k hkl; rw [Nat.add_zero, this] at b0; simpa using b0)
        simp only [Nat.add_zero] at a0
        have hcb : wr.cell? ⟨b, 0, none⟩ = some (.int .i64 g) := ((bcell hbr).1 _ _ hb).trans HB.out
        clear cell b0 hbr
        by_cases hq : x0 = g
        · have HQ := hide hq
          have t : (x0 == g) = true := by simpa using hq
          clear hq
          go_wp2_with fail
          refine (first_any x0 x1 x2 g b _ (by omega) hcb).mono ?_
          rintro e w2 ⟨rfl, hb2⟩
          go_wp2
          go_ret
          exact Ret.int ((idx_hit hkl (by rw [HX.out]; exact HQ.out.symm) _).symm.trans HI.out) (bthen HBR.out hb2)
        · have HQ := hide hq
          have t : (x0 == g) = false := by simpa using hq
          clear hq
          go_wp2_with fail
          refine (first_any x0 x1 x2 g b _ (by omega) hcb).mono ?_
          rintro e w2 ⟨rfl, hb2⟩
          go_wp2
          go_roundw
          case rel => exact ⟨k + 1, by omega, by go_num, bthen HBR.out hb2, hide ((idx_drop hkl (by rw [HX.out]; exact fun h => HQ.out h.symm) _).symm.trans HI.out)⟩
          case measure => simp [intOf]; omega
      · obtain rfl : k = n := by omega
        go_wp2
        go_ret
        exact Ret.int ((idx_none (by rw [HM.out]; exact Nat.le_refl _) _).symm.trans HI.out) HBR.out

/-- The first numbers of the moves. -/
def firsts (L : List Int) (n : Nat) : List Int := (List.range n).map fun i => L.getD (i * 3) 0
/-- All that the law reads off the moves between two numbers of workers. -/
def shGood (a b : Nat) : Bool :=
  let L := mvs ((a : Int) + 1) ((b : Int) + 1) 16
  let N := mvn ((a : Int) + 1) ((b : Int) + 1) 16
  let B := mvs ((b : Int) + 1) ((a : Int) + 1) 16
  decide (mvn ((b : Int) + 1) ((a : Int) + 1) 16 = N) && decide (L.length = N * 3) && decide (B.length = N * 3) && decide (a = b → N = 0) &&
    (List.range N).all (fun i => decide (B.getD (i * 3) 0 = L.getD (i * 3) 0) && decide (B.getD (i * 3 + 1) 0 = L.getD (i * 3 + 2) 0) && decide (B.getD (i * 3 + 2) 0 = L.getD (i * 3 + 1) 0)) &&
    (List.range 16).all (fun g =>
      let at_ := idx (g : Int) (firsts L N) 0
      if at_ < 0 then decide ((g : Int) * ((a : Int) + 1) / 16 = (g : Int) * ((b : Int) + 1) / 16)
      else decide (at_ < N) && decide (L.getD (at_.toNat * 3 + 1) 0 = (g : Int) * ((a : Int) + 1) / 16) && decide (L.getD (at_.toNat * 3 + 2) 0 = (g : Int) * ((b : Int) + 1) / 16) && decide (¬ (g : Int) * ((a : Int) + 1) / 16 = (g : Int) * ((b : Int) + 1) / 16))
theorem shGood_all : ∀ a ∈ List.range 8, ∀ b ∈ List.range 8, shGood a b = true := by decide +kernel
theorem getD_of {l : List Int} {i : Nat} (h : i < l.length) : l[i]? = some (l.getD i 0) := by simp [h]

theorem sh_facts {a b : Nat} (ha : a < 8) (hb : b < 8) : ∃ (L B : List Int) (N : Nat), N ≤ 16 ∧ movesL ((a : Int) + 1) ((b : Int) + 1) = L ∧ movesL ((b : Int) + 1) ((a : Int) + 1) = B ∧ movesN ((a : Int) + 1) ((b : Int) + 1) = N ∧ movesN ((b : Int) + 1) ((a : Int) + 1) = N ∧
    movesC ((a : Int) + 1) ((b : Int) + 1) = 0 ∧ movesC ((b : Int) + 1) ((a : Int) + 1) = 0 ∧ L.length = N * 3 ∧ (a = b → N = 0) ∧
    (∀ i, i < N → ∃ x0 x1 x2, (L[i * 3]? = some x0 ∧ L[i * 3 + 1]? = some x1 ∧ L[i * 3 + 2]? = some x2) ∧ B[i * 3]? = some x0 ∧ B[i * 3 + 1]? = some x2 ∧ B[i * 3 + 2]? = some x1) ∧
    (∀ g : Nat, g < 16 → (idx (g : Int) (firsts L N) 0 < 0 ∧ workerV (g : Int) ((a : Int) + 1) = workerV (g : Int) ((b : Int) + 1)) ∨
      ∃ k, k < N ∧ idx (g : Int) (firsts L N) 0 = (k : Int) ∧ L[k * 3 + 1]? = some (workerV (g : Int) ((a : Int) + 1)) ∧ L[k * 3 + 2]? = some (workerV (g : Int) ((b : Int) + 1)) ∧ ¬ workerV (g : Int) ((a : Int) + 1) = workerV (g : Int) ((b : Int) + 1)) := by
  have hg := shGood_all a (by simp; omega) b (by simp; omega)
  have hin : (1 ≤ (a : Int) + 1 ∧ (a : Int) + 1 ≤ 8) ∧ 1 ≤ (b : Int) + 1 ∧ (b : Int) + 1 ≤ 8 := by omega
  have hin' : (1 ≤ (b : Int) + 1 ∧ (b : Int) + 1 ≤ 8) ∧ 1 ≤ (a : Int) + 1 ∧ (a : Int) + 1 ≤ 8 := by omega
  have hN := mvn_le ((a : Int) + 1) ((b : Int) + 1) 16
  simp only [shGood, Bool.and_eq_true, decide_eq_true_eq, List.all_eq_true, List.mem_range] at hg
  obtain ⟨⟨⟨⟨⟨e1, e2⟩, e3⟩, e4⟩, e5⟩, e6⟩ := hg
  refine ⟨_, _, _, hN, if_pos hin, if_pos hin', if_pos hin, (if_pos hin').trans e1, if_pos hin, if_pos hin', e2, e4, fun i hi => ?_, fun g hg => ?_⟩
  · obtain ⟨⟨f0, f1⟩, f2⟩ := e5 i hi
    exact ⟨_, _, _, ⟨getD_of (by omega), getD_of (by omega), getD_of (by omega)⟩, by rw [← f0]; exact getD_of (by omega), by rw [← f1]; exact getD_of (by omega), by rw [← f2]; exact getD_of (by omega)⟩
  · have wa : workerV (g : Int) ((a : Int) + 1) = (g : Int) * ((a : Int) + 1) / 16 := if_pos (by omega)
    have wb : workerV (g : Int) ((b : Int) + 1) = (g : Int) * ((b : Int) + 1) / 16 := if_pos (by omega)
    rw [wa, wb]
    have h6 := e6 g hg
    split at h6
    · rename_i hneg
      exact .inl ⟨hneg, by simpa using h6⟩
    · rename_i hneg
      simp only [Bool.and_eq_true, decide_eq_true_eq] at h6
      obtain ⟨⟨⟨k1, k2⟩, k3⟩, k4⟩ := h6
      refine .inr ⟨(idx (g : Int) (firsts (mvs ((a : Int) + 1) ((b : Int) + 1) 16) (mvn ((a : Int) + 1) ((b : Int) + 1) 16)) 0).toNat, by omega, by omega, ?_, ?_, k4⟩
      · rw [← k2]; exact getD_of (by omega)
      · rw [← k3]; exact getD_of (by omega)

theorem firsts_at {L : List Int} {N : Nat} (h : L.length = N * 3) : ∀ k (hk : k < (firsts L N).length), L[k * 3]? = some (firsts L N)[k] := by
  intro k hk
  simp only [firsts, List.length_map, List.length_range] at hk
  simp only [firsts, List.getElem_map, List.getElem_range]
  exact getD_of (by omega)
end Go.Proofs.Ytoafjlfidgjgbaa
