/- barrier.free: the iterator over the inputs that are free. -/
import Derived.Test.YtjahjefkfcifhaaSeqs
import Derived.Test.YtjahjefkfcifhaaBShow
namespace Go.Proofs.Ytjahjefkfcifhaa
open Go.RowKit Go.Shelf
set_option linter.unusedVariables false
set_option linter.unusedSimpArgs false
attribute [local go_sem] Oper.semAt_some

/-- The free inputs among the first k. -/
def sel (l : List Bool) (k : Nat) : List (Fin 8) := ((List.finRange 8).take k).filter fun g => l.getD g.val true == false
theorem finRange_take {k : Nat} (h : k < 8) : (List.finRange 8).take (k + 1) = (List.finRange 8).take k ++ [⟨k, h⟩] := by
  rw [List.take_succ_eq_append_getElem (by simpa using h)]
  simp
theorem sel_hit {l : List Bool} {k : Nat} (h : k < 8) (hk : l.getD k true = false) : sel l (k + 1) = sel l k ++ [⟨k, h⟩] := by
  unfold sel; rw [finRange_take h, List.filter_append]; simp only [List.getD_eq_getElem?_getD] at hk; simp [hk]
theorem sel_miss {l : List Bool} {k : Nat} (h : k < 8) (hk : l.getD k true = true) : sel l (k + 1) = sel l k := by
  unfold sel; rw [finRange_take h, List.filter_append]; simp only [List.getD_eq_getElem?_getD] at hk; simp [hk]
theorem sel_len (l : List Bool) (k : Nat) : (sel l k).length ≤ k := by
  unfold sel
  exact Nat.le_trans (List.length_filter_le _ _) (List.length_take_le _ _)
theorem sel_pre (l : List Bool) {k m : Nat} (h : k ≤ m) : sel l k <+: sel l m := by
  unfold sel
  exact List.IsPrefix.filter _ (List.take_prefix_take_left h)

set_option maxRecDepth 100000 in
set_option maxHeartbeats 1000000 in
theorem free1_in (n : Nat) (hn : 2 ≤ n) (y Bx : Nat) (S : Nat → Prop) (num : Int) (g off cap m : Nat) (l : List Bool) (hm : Hid (l.length = m)) (h8 : m ≤ 8) (hBx : S Bx) (hg : S g) (J Jx : List (Fin 8) → World → Prop)
    (W : World) (hJ : AbidesFrom W.heap.size J)
    (hY : ∀ pre x W1, J pre W1 → pre.length < 8 → YieldAt Fence.wide (n - 1) Try.prog y #[.int .i64 (x.val : Int)] W1 fun e W' =>
      (e = .returned (.bool true) ∧ J (pre ++ [x]) W' ∧ KeepS S W1 W') ∨ (e = .returned (.bool false) ∧ Jx (pre ++ [x]) W'))
    (hb0 : W.cell? ⟨Bx, 0, none⟩ = some (.int .i64 num)) (hb1 : W.cell? ⟨Bx, 1, none⟩ = some (.slice (some ⟨g, off, none⟩) m cap))
    (hc : Hid (∀ j u, (bools l)[j]? = some u → W.cell? ⟨g, off + j, none⟩ = some u)) (h0 : J [] W) :
    CallsIn Fence.wide n Try.prog 38 #[.func (.yield y) #[] #[], .pointer (some ⟨Bx, 0, none⟩)] W fun e W' => (∃ v, e = .returned v) ∧
      ((∃ ys, ys = sel l m ∧ J ys W') ∨ (∃ pre, pre <+: sel l m ∧ Jx pre W')) := by
  have hF : ∀ f, Fence.wide.fn f := fun _ => trivial
  have hdep : Fence.wide.depth.isSome = false := rfl
  refine callsIn_of_wp Try.func38 rfl trivial ?_ rfl
  simp only [Try.ntmps38, List.size_toArray, List.length_cons, List.length_nil, Nat.reduceAdd, Nat.reduceSub, Array.replicate_succ, Array.replicate_zero, List.push_toArray, List.append_toArray, List.nil_append, List.cons_append]
  gi_wp2
  gi_loopw [3, 4, 8] (fun _ _ i wr => ∃ k : Nat, k ≤ m ∧ i = .int .i64 k ∧ J (sel l k) wr ∧ KeepS S W wr)
    (fun _ _ i _ => m - (intOf i).toNat)
  case atStart =>
    exact ⟨0, by omega, rfl, h0, KeepS.refl _⟩
  case round =>
    obtain ⟨k, hk, rfl, hJs, hB⟩ := hrel
    by_cases hlt : k < m
    · have hkl : k < l.length := by rw [hm.out]; exact hlt
      have c1 : wr.cell? ⟨g, off + k, none⟩ = some (.bool l[k]) := (hB.cell (p := ⟨g, off + k, none⟩) hg).trans (hc.out k _ (by simp [bools, hkl]))
      have hget : Hid (l.getD k true = l[k]) := hide (by simp [hkl])
      obtain ⟨z, hz⟩ : ∃ z, l[k] = z := ⟨_, rfl⟩
      rw [hz] at c1 hget
      clear hz
      have hk8 : k < 8 := by omega
      cases z
      · have HS := hide (sel_hit hk8 hget.out)
        obtain ⟨fn, tmps, assign, body, hy, hR⟩ := hY (sel l k) ⟨k, hk8⟩ wr hJs (by have := sel_len l k; omega)
        replace hR := hR.mono yp_of
        gi_wp2_with fail
        with_reducible refine hR.mono ?_
        rintro e W3 ⟨b, rfl, hyp⟩
        have HY := hide hyp
        clear hyp hy hR
        cases b
        · gi_wp2
          refine bodyPost_ret (results_none rfl _ _ _) rfl ?_
          exact ⟨⟨_, rfl⟩, .inr ⟨sel l k ++ [⟨k, hk8⟩], by rw [← HS.out]; exact sel_pre l (k := k + 1) (by omega), HY.out.no⟩⟩
        · gi_wp2
          go_roundw
          case rel => exact ⟨k + 1, by omega, by go_num, by rw [HS.out]; exact HY.out.yes.1, hB.trans HY.out.yes.2⟩
          case measure => simp [intOf]; omega
      · have HS := hide (sel_miss hk8 hget.out)
        gi_wp2
        go_roundw
        case rel => exact ⟨k + 1, by omega, by go_num, by rw [HS.out]; exact hJs, hB⟩
        case measure => simp [intOf]; omega
    · obtain rfl : k = m := by omega
      gi_wp2
      go_end0
      exact ⟨⟨_, rfl⟩, .inl ⟨_, rfl, hJs⟩⟩

set_option maxHeartbeats 400000 in
theorem free_any (num : Int) (v : Value) (w : World) (A : Option Addr) (k c : Nat) (hv : v = .slice A k c) :
    Calls Try.prog 31 #[.agg #[.int .i64 num, v]] w fun e w' => e = .returned (.func (.func 38) #[] #[.pointer (some ⟨w.heap.size, 0, none⟩)]) ∧ w.alloc (.cells #[.int .i64 num, v] 24) = w' := by
  subst hv
  go_enter Try.func31, Try.ntmps31
  go_wp2
  go_ret
  exact ⟨rfl, rfl⟩

theorem free_stops (n : Nat) (hn : 2 ≤ n) (Bx : Nat) (S : Nat → Prop) (num : Int) (g off cap m : Nat) (l : List Bool) (hm : l.length = m) (h8 : m ≤ 8) (w : World) (hBx : S Bx) (hg : S g) (hS : ∀ k, S k → k < w.heap.size)
    (hb0 : w.cell? ⟨Bx, 0, none⟩ = some (.int .i64 num)) (hb1 : w.cell? ⟨Bx, 1, none⟩ = some (.slice (some ⟨g, off, none⟩) m cap))
    (hc : ∀ j u, (bools l)[j]? = some u → w.cell? ⟨g, off + j, none⟩ = some u) :
    SeqStopsK Fence.wide n Try.prog 38 #[.pointer (some ⟨Bx, 0, none⟩)] (fun x : Fin 8 => #[Value.int .i64 (x.val : Int)]) (KeepS S) (fun ys => ys = sel l m) (fun pre => pre <+: sel l m) 8 w :=
  fun y J Jx W hW hJ _ hY h0 =>
    free1_in n hn y Bx S num g off cap m l (hide hm) h8 hBx hg J Jx W hJ hY ((hW.cell (p := ⟨Bx, 0, none⟩) (hS _ hBx)).trans hb0) ((hW.cell (p := ⟨Bx, 1, none⟩) (hS _ hBx)).trans hb1)
      (hide fun j u hj => (hW.cell (p := ⟨g, off + j, none⟩) (hS _ hg)).trans (hc j u hj)) h0
end Go.Proofs.Ytjahjefkfcifhaa
