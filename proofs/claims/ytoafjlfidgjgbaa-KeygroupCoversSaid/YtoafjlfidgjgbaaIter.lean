/- keygroup.groups: the iterator over the key groups of a worker. -/
import Derived.Test.YtoafjlfidgjgbaaKeys
import Derived.RangeFuncNested
import Derived.RangeFuncBound
import Derived.RangeFuncCalls
import Derived.RangeFuncLeaves
import Derived.RangeFuncWrites
import Derived.Shelf.Abstract
import Derived.Shelf.RegionOpen
import Derived.OwnWalkIn
import Derived.TacticsInMore
import Derived.LoopNIn
import Derived.LoopIn
import Derived.Stop.RegionWithIn
import Derived.Sort.QuietIn
namespace Go.Proofs.Ytoafjlfidgjgbaa
open Go.RowKit Go.Shelf
set_option linter.unusedVariables false
set_option linter.unusedSimpArgs false
attribute [local go_sem] Oper.semAt_some

/-- The key groups of worker a of n, among the first k. -/
def sel (a n : Int) (k : Nat) : List (Fin 16) := ((List.finRange 16).take k).filter fun g => decide ((g.val : Int) * n / 16 = a)
theorem finRange_take {k : Nat} (h : k < 16) : (List.finRange 16).take (k + 1) = (List.finRange 16).take k ++ [⟨k, h⟩] := by
  rw [List.take_succ_eq_append_getElem (by simpa using h)]
  simp
theorem sel_hit {a n : Int} {k : Nat} (h : k < 16) (hk : (k : Int) * n / 16 = a) : sel a n (k + 1) = sel a n k ++ [⟨k, h⟩] := by
  unfold sel; rw [finRange_take h, List.filter_append]; simp [hk]
theorem sel_miss {a n : Int} {k : Nat} (h : k < 16) (hk : ¬ (k : Int) * n / 16 = a) : sel a n (k + 1) = sel a n k := by
  unfold sel; rw [finRange_take h, List.filter_append]; simp [hk]
theorem sel_len (a n : Int) (k : Nat) : (sel a n k).length ≤ k := by
  unfold sel
  exact Nat.le_trans (List.length_filter_le _ _) (List.length_take_le _ _)
theorem sel_pre (a n : Int) (k : Nat) (h : k ≤ 16) : sel a n k <+: sel a n 16 := by
  unfold sel
  rw [show (List.finRange 16).take 16 = List.finRange 16 from List.take_of_length_le (by simp)]
  exact List.IsPrefix.filter _ (List.take_prefix _ _)

/-- The blocks of S lie as they lay. -/
def KeepS (S : Nat → Prop) (W W' : World) : Prop := ∀ k, S k → W'.heap[k]? = W.heap[k]?
section
variable {S : Nat → Prop} {A B C : World}
theorem KeepS.refl (W : World) : KeepS S W W := fun _ _ => rfl
theorem KeepS.trans (h : KeepS S A B) (k : KeepS S B C) : KeepS S A C := fun i hi => (k i hi).trans (h i hi)
theorem KeepS.drew (h : KeepS S A B) : KeepS S A B.drew := h
theorem KeepS.drewN (h : KeepS S A B) (n : Nat) : KeepS S A (B.drewN n) := h
theorem KeepS.setCell (h : KeepS S A B) {p : Addr} (hp : ∀ k, S k → k ≠ p.block) (v : Value) : KeepS S A (B.setCell p v) := h.trans fun k hk => Below.heap_setCell _ _ _ _ (hp k hk)
theorem KeepS.alloc (h : KeepS S A B) (hb : ∀ k, S k → k < B.heap.size) (o : Obj) : KeepS S A (B.alloc o) := h.trans fun k hk => Below.heap_alloc _ _ _ (hb k hk)
theorem KeepS.below (h : KeepS S A B) {n : Nat} (hb : ∀ k, S k → k < n) (hB : Below n B C) : KeepS S A C := h.trans fun k hk => hB.block k (hb k hk)
theorem KeepS.cell (h : KeepS S A B) {p : Addr} (hp : S p.block) : B.cell? p = A.cell? p := World.cell?_of_block (w := A) (h p.block hp)
theorem keepS_b {n : Nat} (hn : ∀ k, S k → k < n) (W : World) (l : Nat) (o o' : Obj) (hl : n ≤ l) (h : W.heap[l]? = some o) (_ : o.isCells = false) (_ : o.isWalk = false) : KeepS S W (W.putObj l o') :=
  fun k hk => (grownBy_putObj' W l o').block k (by have := (Array.getElem?_eq_some_iff.1 h).1; have := hn k hk; omega) (fun e => by injection e with e; have := hn k hk; omega)
end
/-- What a call of yield leaves: 'go on', or 'no more'. -/
def YP (J Jx : World → Prop) (S : Nat → Prop) (W1 : World) (b : Bool) (W' : World) : Prop := (b = true ∧ J W' ∧ KeepS S W1 W') ∨ (b = false ∧ Jx W')
theorem yp_of {J Jx : World → Prop} {S : Nat → Prop} {W1 : World} : ∀ (e : Ending) (W' : World), ((e = .returned (.bool true) ∧ J W' ∧ KeepS S W1 W') ∨ (e = .returned (.bool false) ∧ Jx W')) → ∃ b, e = .returned (.bool b) ∧ YP J Jx S W1 b W'
  | _, _, .inl ⟨he, h1, h2⟩ => ⟨true, he, .inl ⟨rfl, h1, h2⟩⟩
  | _, _, .inr ⟨he, h1⟩ => ⟨false, he, .inr ⟨rfl, h1⟩⟩
theorem YP.yes {J Jx : World → Prop} {S : Nat → Prop} {W1 W' : World} (h : YP J Jx S W1 true W') : J W' ∧ KeepS S W1 W' := by
  rcases h with ⟨_, h1, h2⟩ | ⟨h, _⟩
  · exact ⟨h1, h2⟩
  · cases h
theorem YP.no {J Jx : World → Prop} {S : Nat → Prop} {W1 W' : World} (h : YP J Jx S W1 false W') : Jx W' := by
  rcases h with ⟨h, _⟩ | ⟨_, h⟩
  · cases h
  · exact h
theorem grown_drewN (w : World) (n : Nat) : w.grownBy (w.drewN n) none := ⟨rfl, rfl, rfl, Nat.le_refl _, fun _ _ _ => rfl⟩
theorem grown_drew (w : World) : w.grownBy w.drew none := ⟨rfl, rfl, rfl, Nat.le_refl _, fun _ _ _ => rfl⟩

set_option maxRecDepth 100000 in
set_option maxHeartbeats 1000000 in
theorem groups1_in (n : Nat) (hn : 2 ≤ n) (l Bn Ba : Nat) (S : Nat → Prop) (a q : Int) (h1 : 1 ≤ q) (h8 : q ≤ 8) (hBn : S Bn) (hBa : S Ba) (J Jx : List (Fin 16) → World → Prop)
    (W : World) (hJ : AbidesFrom W.heap.size J)
    (hY : ∀ pre x W1, J pre W1 → pre.length < 16 → YieldAt Fence.wide (n - 1) Try.prog l #[.int .i64 (x.val : Int)] W1 fun e W' =>
      (e = .returned (.bool true) ∧ J (pre ++ [x]) W' ∧ KeepS S W1 W') ∨ (e = .returned (.bool false) ∧ Jx (pre ++ [x]) W'))
    (hcn : W.cell? ⟨Bn, 0, none⟩ = some (.int .i64 q)) (hca : W.cell? ⟨Ba, 0, none⟩ = some (.int .i64 a)) (h0 : J [] W) :
    CallsIn Fence.wide n Try.prog 38 #[.func (.yield l) #[] #[], .pointer (some ⟨Bn, 0, none⟩), .pointer (some ⟨Ba, 0, none⟩)] W fun e W' => (∃ v, e = .returned v) ∧
      ((∃ ys, ys = sel a q 16 ∧ J ys W') ∨ (∃ pre, pre <+: sel a q 16 ∧ Jx pre W')) := by
  have hF : ∀ f, Fence.wide.fn f := fun _ => trivial
  have hdep : Fence.wide.depth.isSome = false := rfl
  refine callsIn_of_wp Try.func38 rfl trivial ?_ rfl
  simp only [Try.ntmps38, List.size_toArray, List.length_cons, List.length_nil, Nat.reduceAdd, Nat.reduceSub, Array.replicate_succ, Array.replicate_zero, List.push_toArray, List.append_toArray, List.nil_append, List.cons_append]
  gi_wp2
  gi_loopw [4, 5] (fun _ i wr => ∃ k : Nat, k ≤ 16 ∧ i = .int .i64 k ∧ J (sel a q k) wr ∧ KeepS S W wr)
    (fun _ i _ => 16 - (intOf i).toNat)
  case atStart =>
    exact ⟨0, by omega, rfl, h0, KeepS.refl _⟩
  case round =>
    obtain ⟨k, hk, rfl, hJs, hB⟩ := hrel
    have c1 : wr.cell? ⟨Bn, 0, none⟩ = some (.int .i64 q) := (hB.cell (p := ⟨Bn, 0, none⟩) hBn).trans hcn
    have c2 : wr.cell? ⟨Ba, 0, none⟩ = some (.int .i64 a) := (hB.cell (p := ⟨Ba, 0, none⟩) hBa).trans hca
    by_cases hlt : k < 16
    · by_cases hq : (k : Int) * q / 16 = a
      · have HS := hide (sel_hit hlt hq)
        have hd : ((k : Int) * q / 16 == a) = true := by rw [beq_iff_eq]; exact hq
        clear hq
        obtain ⟨fn, tmps, assign, body, hy, hR⟩ := hY (sel a q k) ⟨k, hlt⟩ wr.drew (hJ _ _ _ none hJs (grown_drew _) (by simp)) (by have := sel_len a q k; omega)
        replace hR := hR.mono yp_of
        gi_wp2
        gi_region_with (first | (with_reducible refine hR.mono ?_; rintro e W3 ⟨b, rfl, hyp⟩) | (gi_at_call 33; refine (callsIn_wide.2 (owner_any _ _ _ (by omega) (by omega) h1 h8)).mono ?_; rintro e w' ⟨rfl, rfl⟩))
        all_goals
          have HY := hide hyp
          clear hyp hy hR hd
          cases b
          · gi_wp2
            refine bodyPost_ret (results_none rfl _ _ _) rfl ?_
            exact ⟨⟨_, rfl⟩, .inr ⟨sel a q k ++ [⟨k, hlt⟩], HS.out ▸ sel_pre a q (k + 1) (by omega), HY.out.no⟩⟩
          · gi_wp2
            go_roundw
            case rel => exact ⟨k + 1, by omega, by go_num, by rw [HS.out]; exact HY.out.yes.1, hB.drew.trans HY.out.yes.2⟩
            case measure => simp [intOf]; omega
      · have HS := hide (sel_miss hlt hq)
        have hd : ((k : Int) * q / 16 == a) = false := by rw [beq_eq_false_iff_ne]; exact hq
        clear hq
        gi_wp2
        refine wpIn_wide.2 ?_
        go_quiet ((go_at_call 33; exact Calls.quiet_of_same ((owner_any _ _ _ (by omega) (by omega) h1 h8).mono (fun _ _ h => ⟨h.1, h.2.symm⟩))))
        gi_wp2
        go_roundw
        case rel => exact ⟨k + 1, by omega, by go_num, by rw [HS.out]; exact hJ _ _ _ none hJs (grown_drewN _ _) (by simp), hB.drewN _⟩
        case measure => simp [intOf]; omega
    · obtain rfl : k = 16 := by omega
      gi_wp2
      go_end0
      exact ⟨⟨_, rfl⟩, .inl ⟨_, rfl, hJs⟩⟩

set_option maxHeartbeats 400000 in
theorem groups_any (a q : Int) (w : World) :
    Calls Try.prog 30 #[.int .i64 a, .int .i64 q] w fun e w' => e = .returned (.func (.func 38) #[] #[.pointer (some ⟨w.heap.size + 1, 0, none⟩), .pointer (some ⟨w.heap.size, 0, none⟩)]) ∧ (w.alloc (.cells #[.int .i64 a] 3)).alloc (.cells #[.int .i64 q] 3) = w' := by
  go_enter Try.func30, Try.ntmps30
  go_wp2
  go_ret
  exact ⟨rfl, rfl⟩

theorem groups_stops (n : Nat) (hn : 2 ≤ n) (Bn Ba : Nat) (S : Nat → Prop) (a q : Int) (h1 : 1 ≤ q) (h8 : q ≤ 8) (w : World) (hBn : S Bn) (hBa : S Ba) (hS : ∀ k, S k → k < w.heap.size)
    (hcn : w.cell? ⟨Bn, 0, none⟩ = some (.int .i64 q)) (hca : w.cell? ⟨Ba, 0, none⟩ = some (.int .i64 a)) :
    SeqStopsK Fence.wide n Try.prog 38 #[.pointer (some ⟨Bn, 0, none⟩), .pointer (some ⟨Ba, 0, none⟩)] (fun x : Fin 16 => #[Value.int .i64 (x.val : Int)]) (KeepS S) (fun ys => ys = sel a q 16) (fun pre => pre <+: sel a q 16) 16 w :=
  fun l J Jx W hW hJ _ hY h0 =>
    groups1_in n hn l Bn Ba S a q h1 h8 hBn hBa J Jx W hJ hY ((hW.cell (p := ⟨Bn, 0, none⟩) (hS _ hBn)).trans hcn) ((hW.cell (p := ⟨Ba, 0, none⟩) (hS _ hBa)).trans hca) h0
end Go.Proofs.Ytoafjlfidgjgbaa
