/- coordinator.attempts: the iterator over the attempts, with those before them. -/
import Derived.Test.YtihbonndinnohaaQCond2
import Derived.Test.YtihbonndinnohaaQRange
namespace Go.Proofs.Ytihbonndinnohaa
open Go.RowKit Go.Shelf
set_option linter.unusedVariables false
set_option linter.unusedSimpArgs false
attribute [local go_sem] Oper.semAt_some
/-- The attempt x, and the one before it, by their addresses. -/
def aptr (g off x : Nat) : Value := .pointer (some ⟨g, off + x * 4, none⟩)
def bptr (g off x : Nat) : Value := if x = 0 then .pointer none else aptr g off (x - 1)
theorem bptr_zero (g off : Nat) : bptr g off 0 = .pointer none := rfl
theorem bptr_succ (g off k : Nat) : bptr g off (k + 1) = .pointer (some ⟨g, off + k * 4, none⟩) := rfl
/-- The attempts come one behind another. -/
def G3 (m : Nat) (pre : List Nat) (x : Nat) : Prop := pre = List.range x ∧ x < m
def encQ (g off : Nat) (x : Nat) : Array Value := #[aptr g off x, bptr g off x]
set_option maxRecDepth 100000 in
set_option maxHeartbeats 1000000 in
theorem atts1_in (n : Nat) (hn : 2 ≤ n) (y Bx : Nat) (S : Nat → Prop) (A : Option Addr) (g off m cap : Nat) (hA : 0 < m → A = some ⟨g, off, none⟩) (hm : m ≤ 1000) (hBx : S Bx) (J Jx : List Nat → World → Prop)
    (W : World) (hJ : AbidesFrom W.heap.size J)
    (hY : ∀ pre x W1, J pre W1 → G3 m pre x → YieldAt Fence.wide (n - 1) Try.prog y (encQ g off x) W1 fun e W' =>
      (e = .returned (.bool true) ∧ J (pre ++ [x]) W' ∧ KeepS S W1 W') ∨ (e = .returned (.bool false) ∧ Jx (pre ++ [x]) W'))
    (hb1 : W.cell? ⟨Bx, 1, none⟩ = some (.slice A m cap)) (h0 : J [] W) :
    CallsIn Fence.wide n Try.prog 56 #[.func (.yield y) #[] #[], .pointer (some ⟨Bx, 0, none⟩)] W fun e W' => (∃ v, e = .returned v) ∧
      ((∃ ys, ys = List.range m ∧ J ys W') ∨ (∃ pre, pre <+: List.range m ∧ Jx pre W')) := by
  have hF : ∀ f, Fence.wide.fn f := fun _ => trivial
  have hdep : Fence.wide.depth.isSome = false := rfl
  refine callsIn_of_wp Try.func56 rfl trivial ?_ rfl
  simp only [Try.ntmps56, List.size_toArray, List.length_cons, List.length_nil, Nat.reduceAdd, Nat.reduceSub, Array.replicate_succ, Array.replicate_zero, List.push_toArray, List.append_toArray, List.nil_append, List.cons_append]
  have HS0 := hide (KeepS.refl (S := S) W)
  gi_wp2
  gi_loopw [3, 4, 8] (fun b _ i wr => ∃ k : Nat, k ≤ m ∧ i = .int .i64 k ∧ b = bptr g off k ∧ J (List.range k) wr ∧ Hid (KeepS S W wr))
    (fun _ _ i _ => m - (intOf i).toNat)
  case atStart =>
    exact ⟨0, by omega, rfl, rfl, h0, HS0⟩
  case round =>
    clear HS0
    obtain ⟨k, hk, rfl, rfl, hJs, HB⟩ := hrel
    have c0 : wr.cell? ⟨Bx, 1, none⟩ = some (.slice A m cap) := (HB.out.cell (p := ⟨Bx, 1, none⟩) hBx).trans hb1
    by_cases hlt : k < m
    · obtain rfl := hA (by omega)
      have hu0 : (0 : Int) ≤ (k : Int) := by omega
      have hu1 : (k : Int) < (m : Int) := by omega
      have HR := hide (List.range_succ (n := k))
      have HP : Hid (List.range (k + 1) <+: List.range m) := hide (List.prefix_iff_eq_take.2 (by rw [List.length_range, List.take_range, Nat.min_eq_left (by omega)]))
      obtain ⟨fn, tmps, assign, body, hy, hR⟩ := hY (List.range k) k wr hJs ⟨rfl, hlt⟩
      unfold encQ aptr at hy
      obtain ⟨pb, hpb⟩ : ∃ pb, bptr g off k = pb := ⟨_, rfl⟩
      rw [hpb] at hy ⊢
      replace hR := hR.mono yp_of
      clear hpb
      gi_wp2_with fail
      with_reducible refine hR.mono ?_
      rintro e W3 ⟨b, rfl, hyp⟩
      have HY := hide hyp
      clear hyp hy hR
      cases b
      · gi_wp2
        refine bodyPost_ret (results_none rfl _ _ _) rfl ?_
        exact ⟨⟨_, rfl⟩, .inr ⟨List.range k ++ [k], by rw [← HR.out]; exact HP.out, HY.out.no⟩⟩
      · have c1 : W3.cell? ⟨Bx, 1, none⟩ = some (.slice (some ⟨g, off, none⟩) m cap) := (HY.out.yes.2.cell (p := ⟨Bx, 1, none⟩) hBx).trans c0
        gi_wp2
        go_roundw
        case rel => exact ⟨k + 1, by omega, by go_num, (bptr_succ g off k).symm, by rw [HR.out]; exact HY.out.yes.1, hide (HB.out.trans HY.out.yes.2)⟩
        case measure => simp [intOf]; omega
    · obtain rfl : k = m := by omega
      gi_wp2
      go_end0
      exact ⟨⟨_, rfl⟩, .inl ⟨_, rfl, hJs⟩⟩
set_option maxHeartbeats 400000 in
theorem atts_any (n : Int) (v : Value) (k : Int) (w : World) (hv : v.oneCell' = true) :
    Calls Try.prog 38 #[.agg #[.int .i64 n, v, .int .i64 k]] w fun e w' => e = .returned (.func (.func 56) #[] #[.pointer (some ⟨w.heap.size, 0, none⟩)]) ∧ w.alloc (.cells #[.int .i64 n, v, .int .i64 k] 24) = w' := by
  go_enter Try.func38, Try.ntmps38
  go_wp2
  go_ret
  exact ⟨rfl, rfl⟩
theorem atts_stops (n : Nat) (hn : 2 ≤ n) (Bx : Nat) (S : Nat → Prop) (A : Option Addr) (g off m cap : Nat) (hA : 0 < m → A = some ⟨g, off, none⟩) (hm : m ≤ 1000) (w : World) (hBx : S Bx) (hS : ∀ k, S k → k < w.heap.size)
    (hb1 : w.cell? ⟨Bx, 1, none⟩ = some (.slice A m cap)) :
    SeqTold Fence.wide n Try.prog 56 #[.pointer (some ⟨Bx, 0, none⟩)] (encQ g off) (KeepS S) (G3 m) (fun ys => ys = List.range m) (fun pre => pre <+: List.range m) w :=
  fun y J Jx W hW hJ _ hY h0 =>
    atts1_in n hn y Bx S A g off m cap hA hm hBx J Jx W hJ hY ((hW.cell (p := ⟨Bx, 1, none⟩) (hS _ hBx)).trans hb1) h0
end Go.Proofs.Ytihbonndinnohaa
