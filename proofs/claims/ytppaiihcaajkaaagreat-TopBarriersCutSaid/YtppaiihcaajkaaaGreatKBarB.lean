/- The aligner: Take: written by genBar.py. -/
import Derived.Test.YtppaiihcaajkaaaGreatKBarA
import Derived.RangeFuncNested
import Derived.RangeFuncBound
import Derived.RangeFuncCalls
import Derived.RangeFuncLeaves
import Derived.RangeFuncWrites
import Derived.Shelf.Abstract
import Derived.Shelf.RegionOpen
import Derived.OwnWalkIn
import Derived.TacticsInMore
import Derived.LoopNIn
import Derived.LoopIn
import Derived.Stop.RegionWithIn
import Derived.Sort.QuietIn
import Derived.Lib.SliceRun
import Derived.OrdersIn
import Derived.RangeFuncBox
namespace Go.Proofs.YtppaiihcaajkaaaGreat.Bar
set_option linter.unusedVariables false
set_option linter.unusedSimpArgs false
section

open Go.RowKit Go.Shelf
attribute [local go_sem] Oper.semAt_some

/-- The blocks of S lie as they lay. -/
def KeepS (S : Nat → Prop) (W W' : World) : Prop := ∀ k, S k → W'.heap[k]? = W.heap[k]?
section
variable {S : Nat → Prop} {A B C : World}
theorem KeepS.refl (W : World) : KeepS S W W := fun _ _ => rfl
theorem KeepS.trans (h : KeepS S A B) (k : KeepS S B C) : KeepS S A C := fun i hi => (k i hi).trans (h i hi)
theorem KeepS.drew (h : KeepS S A B) : KeepS S A B.drew := h
theorem KeepS.drewN (h : KeepS S A B) (n : Nat) : KeepS S A (B.drewN n) := h
theorem KeepS.setCell (h : KeepS S A B) {p : Addr} (hp : ∀ k, S k → k ≠ p.block) (v : Value) : KeepS S A (B.setCell p v) := h.trans fun k hk => Below.heap_setCell _ _ _ _ (hp k hk)
theorem KeepS.alloc (h : KeepS S A B) (hb : ∀ k, S k → k < B.heap.size) (o : Obj) : KeepS S A (B.alloc o) := h.trans fun k hk => Below.heap_alloc _ _ _ (hb k hk)
theorem KeepS.below (h : KeepS S A B) {n : Nat} (hb : ∀ k, S k → k < n) (hB : Below n B C) : KeepS S A C := h.trans fun k hk => hB.block k (hb k hk)
theorem KeepS.cell (h : KeepS S A B) {p : Addr} (hp : S p.block) : B.cell? p = A.cell? p := World.cell?_of_block (w := A) (h p.block hp)
theorem keepS_b {n : Nat} (hn : ∀ k, S k → k < n) (W : World) (l : Nat) (o o' : Obj) (hl : n ≤ l) (h : W.heap[l]? = some o) (_ : o.isCells = false) (_ : o.isWalk = false) : KeepS S W (W.putObj l o') :=
  fun k hk => (grownBy_putObj' W l o').block k (by have := (Array.getElem?_eq_some_iff.1 h).1; have := hn k hk; omega) (fun e => by injection e with e; have := hn k hk; omega)
end
/-- What a call of yield leaves: 'go on', or 'no more'. -/
def YP (J Jx : World → Prop) (S : Nat → Prop) (W1 : World) (b : Bool) (W' : World) : Prop := (b = true ∧ J W' ∧ KeepS S W1 W') ∨ (b = false ∧ Jx W')
theorem yp_of {J Jx : World → Prop} {S : Nat → Prop} {W1 : World} : ∀ (e : Ending) (W' : World), ((e = .returned (.bool true) ∧ J W' ∧ KeepS S W1 W') ∨ (e = .returned (.bool false) ∧ Jx W')) → ∃ b, e = .returned (.bool b) ∧ YP J Jx S W1 b W'
  | _, _, .inl ⟨he, h1, h2⟩ => ⟨true, he, .inl ⟨rfl, h1, h2⟩⟩
  | _, _, .inr ⟨he, h1⟩ => ⟨false, he, .inr ⟨rfl, h1⟩⟩
theorem YP.yes {J Jx : World → Prop} {S : Nat → Prop} {W1 W' : World} (h : YP J Jx S W1 true W') : J W' ∧ KeepS S W1 W' := by
  rcases h with ⟨_, h1, h2⟩ | ⟨h, _⟩
  · exact ⟨h1, h2⟩
  · cases h
theorem YP.no {J Jx : World → Prop} {S : Nat → Prop} {W1 W' : World} (h : YP J Jx S W1 false W') : Jx W' := by
  rcases h with ⟨h, _⟩ | ⟨_, h⟩
  · cases h
  · exact h
theorem grown_drewN (w : World) (n : Nat) : w.grownBy (w.drewN n) none := ⟨rfl, rfl, rfl, Nat.le_refl _, fun _ _ _ => rfl⟩
theorem grown_drew (w : World) : w.grownBy w.drew none := ⟨rfl, rfl, rfl, Nat.le_refl _, fun _ _ _ => rfl⟩


end

section

open Go.RowKit Go.Shelf
attribute [local go_sem] Oper.semAt_some

/-- The free inputs among the first k. -/
def sel (l : List Bool) (k : Nat) : List (Fin 8) := ((List.finRange 8).take k).filter fun g => l.getD g.val true == false
theorem finRange_take {k : Nat} (h : k < 8) : (List.finRange 8).take (k + 1) = (List.finRange 8).take k ++ [⟨k, h⟩] := by
  rw [List.take_succ_eq_append_getElem (by simpa using h)]
  simp
theorem sel_hit {l : List Bool} {k : Nat} (h : k < 8) (hk : l.getD k true = false) : sel l (k + 1) = sel l k ++ [⟨k, h⟩] := by
  unfold sel; rw [finRange_take h, List.filter_append]; simp only [List.getD_eq_getElem?_getD] at hk; simp [hk]
theorem sel_miss {l : List Bool} {k : Nat} (h : k < 8) (hk : l.getD k true = true) : sel l (k + 1) = sel l k := by
  unfold sel; rw [finRange_take h, List.filter_append]; simp only [List.getD_eq_getElem?_getD] at hk; simp [hk]
theorem sel_len (l : List Bool) (k : Nat) : (sel l k).length ≤ k := by
  unfold sel
  exact Nat.le_trans (List.length_filter_le _ _) (List.length_take_le _ _)
theorem sel_pre (l : List Bool) {k m : Nat} (h : k ≤ m) : sel l k <+: sel l m := by
  unfold sel
  exact List.IsPrefix.filter _ (List.take_prefix_take_left h)

set_option maxRecDepth 100000 in
set_option maxHeartbeats 1000000 in
theorem free1_in (n : Nat) (hn : 2 ≤ n) (y Bx : Nat) (S : Nat → Prop) (num : Int) (g off cap m : Nat) (l : List Bool) (hm : Hid (l.length = m)) (h8 : m ≤ 8) (hBx : S Bx) (hg : S g) (J Jx : List (Fin 8) → World → Prop)
    (W : World) (hJ : AbidesFrom W.heap.size J)
    (hY : ∀ pre x W1, J pre W1 → pre.length < 8 → YieldAt Fence.wide (n - 1) Tryz.prog y #[.int .i64 (x.val : Int)] W1 fun e W' =>
      (e = .returned (.bool true) ∧ J (pre ++ [x]) W' ∧ KeepS S W1 W') ∨ (e = .returned (.bool false) ∧ Jx (pre ++ [x]) W'))
    (hb0 : W.cell? ⟨Bx, 0, none⟩ = some (.int .i64 num)) (hb1 : W.cell? ⟨Bx, 1, none⟩ = some (.slice (some ⟨g, off, none⟩) m cap))
    (hc : Hid (∀ j u, (bools l)[j]? = some u → W.cell? ⟨g, off + j, none⟩ = some u)) (h0 : J [] W) :
    CallsIn Fence.wide n Tryz.prog 63 #[.func (.yield y) #[] #[], .pointer (some ⟨Bx, 0, none⟩)] W fun e W' => (∃ v, e = .returned v) ∧
      ((∃ ys, ys = sel l m ∧ J ys W') ∨ (∃ pre, pre <+: sel l m ∧ Jx pre W')) := by
  have hF : ∀ f, Fence.wide.fn f := fun _ => trivial
  have hdep : Fence.wide.depth.isSome = false := rfl
  refine callsIn_of_wp Tryz.func63 rfl trivial ?_ rfl
  simp only [Tryz.ntmps63, List.size_toArray, List.length_cons, List.length_nil, Nat.reduceAdd, Nat.reduceSub, Array.replicate_succ, Array.replicate_zero, List.push_toArray, List.append_toArray, List.nil_append, List.cons_append]
  gi_wp2
  gi_loopw [3, 4, 8] (fun _ _ i wr => ∃ k : Nat, k ≤ m ∧ i = .int .i64 k ∧ J (sel l k) wr ∧ KeepS S W wr)
    (fun _ _ i _ => m - (intOf i).toNat)
  case atStart =>
    exact ⟨0, by omega, rfl, h0, KeepS.refl _⟩
  case round =>
    obtain ⟨k, hk, rfl, hJs, hB⟩ := hrel
    by_cases hlt : k < m
    · have hkl : k < l.length := by rw [hm.out]; exact hlt
      have c1 : wr.cell? ⟨g, off + k, none⟩ = some (.bool l[k]) := (hB.cell (p := ⟨g, off + k, none⟩) hg).trans (hc.out k _ (by simp [bools, hkl]))
      have hget : Hid (l.getD k true = l[k]) := hide (by simp [hkl])
      obtain ⟨z, hz⟩ : ∃ z, l[k] = z := ⟨_, rfl⟩
      rw [hz] at c1 hget
      clear hz
      have hk8 : k < 8 := by omega
      cases z
      · have HS := hide (sel_hit hk8 hget.out)
        obtain ⟨fn, tmps, assign, body, hy, hR⟩ := hY (sel l k) ⟨k, hk8⟩ wr hJs (by have := sel_len l k; omega)
        replace hR := hR.mono yp_of
        gi_wp2_with fail
        with_reducible refine hR.mono ?_
        rintro e W3 ⟨b, rfl, hyp⟩
        have HY := hide hyp
        clear hyp hy hR
        cases b
        · gi_wp2
          refine bodyPost_ret (results_none rfl _ _ _) rfl ?_
          exact ⟨⟨_, rfl⟩, .inr ⟨sel l k ++ [⟨k, hk8⟩], by rw [← HS.out]; exact sel_pre l (k := k + 1) (by omega), HY.out.no⟩⟩
        · gi_wp2
          go_roundw
          case rel => exact ⟨k + 1, by omega, by go_num, by rw [HS.out]; exact HY.out.yes.1, hB.trans HY.out.yes.2⟩
          case measure => simp [intOf]; omega
      · have HS := hide (sel_miss hk8 hget.out)
        gi_wp2
        go_roundw
        case rel => exact ⟨k + 1, by omega, by go_num, by rw [HS.out]; exact hJs, hB⟩
        case measure => simp [intOf]; omega
    · obtain rfl : k = m := by omega
      gi_wp2
      go_end0
      exact ⟨⟨_, rfl⟩, .inl ⟨_, rfl, hJs⟩⟩

set_option maxHeartbeats 400000 in
theorem free_any (num : Int) (v : Value) (w : World) (A : Option Addr) (k c : Nat) (hv : v = .slice A k c) :
    Calls Tryz.prog 44 #[.agg #[.int .i64 num, v]] w fun e w' => e = .returned (.func (.func 63) #[] #[.pointer (some ⟨w.heap.size, 0, none⟩)]) ∧ w.alloc (.cells #[.int .i64 num, v] 40) = w' := by
  subst hv
  go_enter Tryz.func44, Tryz.ntmps44
  go_wp2
  go_ret
  exact ⟨rfl, rfl⟩

theorem free_stops (n : Nat) (hn : 2 ≤ n) (Bx : Nat) (S : Nat → Prop) (num : Int) (g off cap m : Nat) (l : List Bool) (hm : l.length = m) (h8 : m ≤ 8) (w : World) (hBx : S Bx) (hg : S g) (hS : ∀ k, S k → k < w.heap.size)
    (hb0 : w.cell? ⟨Bx, 0, none⟩ = some (.int .i64 num)) (hb1 : w.cell? ⟨Bx, 1, none⟩ = some (.slice (some ⟨g, off, none⟩) m cap))
    (hc : ∀ j u, (bools l)[j]? = some u → w.cell? ⟨g, off + j, none⟩ = some u) :
    SeqStopsK Fence.wide n Tryz.prog 63 #[.pointer (some ⟨Bx, 0, none⟩)] (fun x : Fin 8 => #[Value.int .i64 (x.val : Int)]) (KeepS S) (fun ys => ys = sel l m) (fun pre => pre <+: sel l m) 8 w :=
  fun y J Jx W hW hJ _ hY h0 =>
    free1_in n hn y Bx S num g off cap m l (hide hm) h8 hBx hg J Jx W hJ hY ((hW.cell (p := ⟨Bx, 0, none⟩) (hS _ hBx)).trans hb0) ((hW.cell (p := ⟨Bx, 1, none⟩) (hS _ hBx)).trans hb1)
      (hide fun j u hj => (hW.cell (p := ⟨g, off + j, none⟩) (hS _ hg)).trans (hc j u hj)) h0

end

section

open Go.RowKit Go.Shelf
attribute [local go_sem] Oper.semAt_some

/-- The free inputs among the first k, as numbers. -/
def selI (l : List Bool) (k : Nat) : List Int := (sel l k).map fun g => (g.val : Int)
theorem selI_hit {l : List Bool} {k : Nat} (h : k < 8) (hk : l.getD k true = false) : selI l (k + 1) = selI l k ++ [(k : Int)] := by unfold selI; rw [sel_hit h hk]; simp
theorem selI_miss {l : List Bool} {k : Nat} (h : k < 8) (hk : l.getD k true = true) : selI l (k + 1) = selI l k := by unfold selI; rw [sel_miss h hk]
theorem selI_len (l : List Bool) (k : Nat) : (selI l k).length ≤ k := by unfold selI; rw [List.length_map]; exact sel_len l k
/-- What Inputs hands back. -/
def insL (n : Int) (l : List Bool) : List Int := if chk n l = 0 then selI l l.length else []

/-- A list of integers, and a number. -/
def RetRow (w : World) (xs : List Int) (c : Int) (e : Ending) (w' : World) : Prop :=
  ∃ v, e = .returned (.tuple #[v, .int .i64 c]) ∧ Row w' w'.heap.size 1 v xs.length (ints xs) ∧ Below w.heap.size w w'

theorem info_int : (Tryz.prog.info? 3).map (fun i => (i.zero, i.size, i.bytes)) = some (some (.int .i64 0), 1, 8) := by kernel_rfl

end

section

open Go.RowKit Go.Shelf
attribute [local go_sem] Oper.semAt_some

theorem keepS_below {S : Nat → Prop} {B : Nat} {W W' : World} (hS : ∀ k, S k → k < B) (h : Below B W W') : KeepS S W W' := fun k hk => h.block k (hS k hk)

end

section

open Go.RowKit Go.Shelf

theorem info_bool' : ∃ i0 : TypeInfo, Tryz.prog.info? 4 = some i0 ∧ i0.zero = some (.bool false) ∧ i0.size = 1 ∧ i0.bytes = 1 := info_parts info_bool

theorem bools_one (l : List Bool) : ∀ u ∈ bools l, u.oneCell' = true := by
  intro u hu
  simp only [bools, List.mem_map] at hu
  obtain ⟨b, _, rfl⟩ := hu
  rfl

set_option maxHeartbeats 1000000 in
theorem clone_any (g off cap : Nat) (l : List Bool) (w : World) (hl : l.length ≤ 1000) (hc : Hid (∀ j u, (bools l)[j]? = some u → w.cell? ⟨g, off + j, none⟩ = some u)) (hg : g < w.heap.size) :
    Calls Tryz.prog 43 #[.slice (some ⟨g, off, none⟩) l.length cap] w fun e w' => ∃ v, e = .returned v ∧ w'.ownsRow w.heap.size 4 1 v l.length (bools l) ∧ Below w.heap.size w w' := by
  obtain ⟨i0, hi0, hz0, hz1, hz2⟩ := info_bool'
  have qT : ∀ (w : World) (a : Option Addr) (n c n' c' : Nat), (binOp .eql 38 (.slice a n c) (.slice none n' c')).run Tryz.prog w = .ok (.bool a.isNone) w := fun w a n c n' c' => Lib.run_eql_slice_nil w _ _ a n c n' c' Tryz.underlying38
  have hown := own_lit w [] 4 w.heap.size 1 0 (Nat.le_refl _) rfl (by unfold maxLen; omega)
  go_enter Tryz.func43, Tryz.ntmps43
  go_wp2_with (at_builtin; go_loud (refine wpList_append_own_at (w.alloc (.cells #[] 4)) rfl _ _ 38 rfl w.heap.size 4 i0 _ 1 1 Tryz.underlying38 hi0 hz0 hz1 hz2 rfl (by decide) _ _ _ rfl hown ⟨g, off, none⟩ l.length cap (bools l) rfl (by simp [bools]) ?c1 (bools_one l) ?c2 ?c3 (by simp) ?_); go_loud (case c2 => unfold maxLen; omega); go_loud (case c3 => omega); go_loud (case c1 => intro j u hj; rw [show (⟨g, off, none⟩ : Addr).add j = ⟨g, off + j, none⟩ by unfold Addr.add; split <;> simp_all]; exact (World.cell?_alloc_lt _ _ _ hg).trans (hc.out j u hj)); go_loud (intro v' w' hown' hgr _ hat))
  go_ret
  rw [Nat.zero_add, List.nil_append] at hown'
  refine ⟨_, rfl, hown', ?_⟩
  exact ((Below.refl w.heap.size w).alloc (Nat.le_refl _) _).grown hgr (by simp) (fun k hk => by cases hk; exact Nat.le_refl _)

end

section

open Go.RowKit

theorem filter_le {α : Type} (p q : α → Bool) (h : ∀ y, q y = true → p y = true) : ∀ (l : List α), (l.filter q).length ≤ (l.filter p).length
  | [] => Nat.le_refl _
  | z :: l => by
    have ih := filter_le p q h l
    rw [List.filter_cons, List.filter_cons]
    by_cases hz : q z = true
    · rw [if_pos hz, if_pos (h z hz)]; simpa using ih
    · rw [if_neg hz]
      by_cases hp : p z = true
      · rw [if_pos hp, List.length_cons]; omega
      · rw [if_neg hp]; exact ih
theorem filter_lt {α : Type} (p q : α → Bool) (h : ∀ y, q y = true → p y = true) (x : α) (hp : p x = true) (hq : ¬ q x = true) : ∀ (l : List α), x ∈ l → (l.filter q).length < (l.filter p).length
  | [], hx => by cases hx
  | y :: l, hx => by
    rw [List.filter_cons, List.filter_cons]
    rcases List.mem_cons.1 hx with rfl | hx
    · have := filter_le p q h l
      rw [if_neg hq, if_pos hp, List.length_cons]; omega
    · have ih := filter_lt p q h x hp hq l hx
      by_cases hz : q y = true
      · rw [if_pos hz, if_pos (h y hz)]; simpa using ih
      · rw [if_neg hz]
        by_cases hp : p y = true
        · rw [if_pos hp, List.length_cons]; omega
        · rw [if_neg hp]; exact ih

def unl (n : Nat) (listed : Array Bool) : Nat := ((List.range n).filter fun i => !listed.getD i true).length

theorem ready_mem {md : Region.Mode} {ops : Array Oper} {listed : Array Bool} {i : Nat} (h : i ∈ Region.ready md ops listed) :
    i < ops.size ∧ listed.getD i true = false ∧ ∀ o, ops[i]? = some o → ∀ e ∈ o.after, Region.binds md e = true → listed.getD e.on false = true := by
  unfold Region.ready at h
  obtain ⟨h1, h2⟩ := List.mem_filter.1 h
  simp only [Bool.and_eq_true, Bool.not_eq_true'] at h2
  refine ⟨List.mem_range.1 h1, h2.1, fun o ho e he hb => ?_⟩
  have h3 := h2.2
  rw [ho] at h3
  simp only [Option.map_some, Option.getD_some, Array.all_eq_true'] at h3
  have := h3 e he
  simpa [hb] using this

section
variable {F : Fence} {n : Nat} {P : Program} {md : Region.Mode} {ops : Array Oper} {Q : Exit → Act → World → Prop}
theorem wpAnyIn_inv (Inv : Array Bool → Act → World → Prop)
    (hstep : ∀ (listed : Array Bool) (a : Act) (w : World) (i : Nat), Inv listed a w → i ∈ Region.ready md ops listed →
      ∀ K : Act → World → Prop, (∀ a' w', Inv (listed.setIfInBounds i true) a' w' → K a' w') → wpOpIn F n P ops Q i K a w)
    (hdone : ∀ (listed : Array Bool) (a : Act) (w : World), Inv listed a w → Region.ready md ops listed = [] → Q .normal a w) :
    ∀ (fuel : Nat) (listed : Array Bool) (a : Act) (w : World), unl ops.size listed ≤ fuel → Inv listed a w → wpAnyIn F n P md ops Q fuel listed a w
  | 0, listed, a, w, hu, hI => by
    have hr : Region.ready md ops listed = [] := by
      have h0 : (List.range ops.size).filter (fun i => !listed.getD i true) = [] := List.eq_nil_of_length_eq_zero (by unfold unl at hu; omega)
      unfold Region.ready
      rw [List.filter_eq_nil_iff] at h0 ⊢
      intro i hi
      have := h0 i hi
      simp only [Bool.and_eq_true, not_and]
      intro h; exact absurd h this
    exact ⟨hr, hdone listed a w hI hr⟩
  | fuel + 1, listed, a, w, hu, hI => by
    refine ⟨fun hr => hdone listed a w hI hr, fun i hi => hstep listed a w i hI hi _ fun a' w' hI' => wpAnyIn_inv Inv hstep hdone fuel _ a' w' ?_ hI'⟩
    obtain ⟨h1, h2, _⟩ := ready_mem hi
    have hlt : i < listed.size := by
      rcases Nat.lt_or_ge i listed.size with h | h
      · exact h
      · rw [Array.getD_eq_getD_getElem?, Array.getElem?_eq_none h] at h2; simp at h2
    have : unl ops.size (listed.setIfInBounds i true) < unl ops.size listed := by
      unfold unl
      refine filter_lt (fun j => !listed.getD j true) (fun j => !(listed.setIfInBounds i true).getD j true) (fun y hy => ?_) i (by simp [h2]) ?_ _ (List.mem_range.2 h1)
      · by_cases e : i = y
        · subst e; simp [Array.getElem?_setIfInBounds, hlt] at hy
        · simpa [Array.getElem?_setIfInBounds, e] using hy
      · simp [Array.getElem?_setIfInBounds, hlt]
    omega

theorem opIn_value {i : Nat} {o : Oper} {a : Act} {w w' : World} {K : Act → World → Prop} {v : Value} (hF : ∀ f, F.fn f) (hi : ops[i]? = some o) (hg : o.guard = none) (hd : ∀ c, o.op ≠ .defer c)
    (hr : (execOp a.eval o).run P w = .ok (.value v) w') (h : K (a.put o.dst v) w') : wpOpIn F n P ops Q i K a w := by
  unfold wpOpIn
  simp only [hi, Region.wanted, hg, if_true]
  refine ⟨fun f _ => hF f, ?_⟩
  rw [Oper.semAt_eq _ _ _ hd, hr]
  exact h
theorem opIn_skip {i : Nat} {o : Oper} {a : Act} {w w' : World} {K : Act → World → Prop} (hF : ∀ f, F.fn f) (hi : ops[i]? = some o) (hg : o.guard = none) (hd : ∀ c, o.op ≠ .defer c)
    (hr : (execOp a.eval o).run P w = .ok .skip w') (h : K (a.put o.dst undef) w') : wpOpIn F n P ops Q i K a w := by
  unfold wpOpIn
  simp only [hi, Region.wanted, hg, if_true]
  refine ⟨fun f _ => hF f, ?_⟩
  rw [Oper.semAt_eq _ _ _ hd, hr]
  exact h
/-- A region that draws, within a round too. -/
theorem wpIn_region_inv {id : Nat} {a : Act} {w : World} (hm : P.follows .mixedOrders = true) (Inv : Array Bool → Act → World → Prop)
    (h0 : Inv (Array.replicate ops.size false) a w.drew)
    (hstep : ∀ (listed : Array Bool) (a : Act) (w : World) (i : Nat), Inv listed a w → i ∈ Region.ready .any ops listed →
      ∀ K : Act → World → Prop, (∀ a' w', Inv (listed.setIfInBounds i true) a' w' → K a' w') → wpOpIn F n P ops Q i K a w)
    (hdone : ∀ (listed : Array Bool) (a : Act) (w : World), Inv listed a w → Region.ready .any ops listed = [] → Q .normal a w) :
    (Code.region id ops true).wpIn F n P Q a w := by
  refine wpIn_region_any hm ?_
  refine wpAnyIn_inv Inv hstep hdone ops.size _ a _ ?_ h0
  unfold unl
  exact Nat.le_trans (List.length_filter_le _ _) (by simp)
end

/-- A slot. -/
def slot (a : Act) (s : Nat) : Value := a.tmps.getD s undef
theorem eval_slot (a : Act) (s : Nat) : a.eval (.tmp s) = slot a s := rfl
theorem slot_same {a : Act} {d : Nat} (v : Value) (h : d < a.tmps.size) : slot (a.put (some d) v) d = v := by simp [slot, Act.put, h]
theorem slot_other {a : Act} {d s : Nat} (v : Value) (h : d ≠ s) : slot (a.put (some d) v) s = slot a s := by
  simp only [slot, Act.put, Array.getD_eq_getD_getElem?, Array.getElem?_setIfInBounds, if_neg h]
theorem size_put {a : Act} {d : Option Nat} (v : Value) : (a.put d v).tmps.size = a.tmps.size := by cases d <;> simp [Act.put]

/-- Every edge that binds leads back. -/
def acyB (ops : Array Oper) : Bool := (List.range ops.size).all fun i => ((ops[i]?).map fun o => o.after.all fun e => !Region.binds .any e || decide (e.on < i)).getD true
theorem all_listed {ops : Array Oper} {listed : Array Bool} (ha : acyB ops = true) (hs : listed.size = ops.size) (hr : Region.ready .any ops listed = []) : ∀ i, i < ops.size → listed.getD i false = true := by
  intro i
  induction i using Nat.strongRecOn with
  | _ i ih =>
    intro hi
    cases hl : listed.getD i false with
    | true => rfl
    | false =>
      have hlt : listed.getD i true = false := by
        simp only [Array.getD_eq_getD_getElem?, Array.getElem?_eq_getElem (show i < listed.size by omega), Option.getD_some] at hl ⊢; exact hl
      have hm : i ∈ Region.ready .any ops listed := by
        unfold Region.ready
        refine List.mem_filter.2 ⟨List.mem_range.2 hi, ?_⟩
        rw [hlt]
        have hai := List.all_eq_true.1 ha i (List.mem_range.2 hi)
        rw [Array.getElem?_eq_getElem hi] at hai ⊢
        simp only [Option.map_some, Option.getD_some] at hai ⊢
        simp only [Bool.not_false, Bool.true_and]
        rw [Array.all_eq_true'] at hai ⊢
        intro e he
        have h2 := hai e he
        simp only [Bool.or_eq_true, Bool.not_eq_true', decide_eq_true_eq] at h2 ⊢
        rcases h2 with h2 | h2
        · exact .inl h2
        · exact .inr (ih e.on h2 (by omega))
      rw [hr] at hm
      cases hm

end

section

open Go.RowKit

def depOn (o : Oper) (j : Nat) : Bool := o.after.any fun e => e.on == j && Region.binds .any e
theorem dep_listed {ops : Array Oper} {listed : Array Bool} {i j : Nat} {o : Oper} (h : i ∈ Region.ready .any ops listed) (ho : ops[i]? = some o) (hd : depOn o j = true) : listed.getD j false = true := by
  obtain ⟨_, _, h3⟩ := ready_mem h
  unfold depOn at hd
  rw [Array.any_eq_true'] at hd
  obtain ⟨e, he, hb⟩ := hd
  simp only [Bool.and_eq_true, beq_iff_eq] at hb
  have := h3 o ho e he hb.2
  rwa [hb.1] at this

/-- What is known of the slots: those that came in, and those that steady operations have filled. -/
def Known (amb : Nat → Option Value) (fix : Nat → Option (Nat × Value)) (ls : Nat → Bool) (a : Act) : Prop :=
  (∀ s u, amb s = some u → slot a s = u) ∧ ∀ j d u, fix j = some (d, u) → ls j = true → slot a d = u
def upd (ls : Nat → Bool) (i : Nat) : Nat → Bool := fun j => if j = i then true else ls j
theorem upd_same (ls : Nat → Bool) (i : Nat) : upd ls i i = true := by simp [upd]
theorem upd_other {ls : Nat → Bool} {i j : Nat} (h : j ≠ i) : upd ls i j = ls j := by simp [upd, h]
theorem listed_upd {l : Array Bool} {i : Nat} (h : i < l.size) : (fun j => (l.setIfInBounds i true).getD j false) = upd (fun j => l.getD j false) i := by
  funext j
  unfold upd
  by_cases e : j = i
  · subst e; simp [h]
  · rw [if_neg e]
    simp only [Array.getD_eq_getD_getElem?, Array.getElem?_setIfInBounds, if_neg (Ne.symm e)]

section
variable {F : Fence} {n : Nat} {P : Program} {ops : Array Oper} {Q : Exit → Act → World → Prop}
theorem opIn_enter {i : Nat} {o : Oper} {a : Act} {w w' : World} {K : Act → World → Prop} {f : FuncId} {args : Array Value} (hF : ∀ f, F.fn f) (hdep : F.depth.isSome = false) (hi : ops[i]? = some o) (hg : o.guard = none) (hd : ∀ c, o.op ≠ .defer c)
    (hr : (execOp a.eval o).run P w = .ok (.enter f args) w') (h : CallsIn F (n - 1) P f args w' fun e w'' => ∃ v, e = .returned v ∧ K (a.put o.dst v) w'') : wpOpIn F n P ops Q i K a w := by
  unfold wpOpIn
  simp only [hi, Region.wanted, hg, if_true]
  refine ⟨fun f _ => hF f, ?_⟩
  rw [Oper.semAt_eq _ _ _ hd, hr]
  refine ⟨(fun hx => by rw [hdep] at hx; cases hx), h.mono ?_⟩
  rintro e w'' ⟨v, rfl, hk⟩
  exact hk

theorem region_plan {id : Nat} (hF : ∀ f, F.fn f) (hm : P.follows .mixedOrders = true) (N T : Nat) (hN : ops.size = N) (hac : acyB ops = true)
    (amb : Nat → Option Value) (fix : Nat → Option (Nat × Value)) (S : (Nat → Bool) → Act → World → Prop) (a : Act) (w : World) (hT : a.tmps.size = T)
    (hamb : ∀ s u, amb s = some u → slot a s = u) (hS0 : S (fun _ => false) a w.drew)
    (hfix : ∀ i d u, fix i = some (d, u) → i < N ∧ d < T ∧ amb d = none ∧ (∀ j d' u', fix j = some (d', u') → j ≠ i → d' ≠ d) ∧ ∃ o, ops[i]? = some o ∧ o.dst = some d ∧ o.guard = none ∧ (∀ c, o.op ≠ .defer c) ∧
      (∀ ls a w, Known amb fix ls a → (∀ j, depOn o j = true → ls j = true) → S ls a w → (execOp a.eval o).run P w = .ok (.value u) w))
    (hsteady : ∀ i d u, fix i = some (d, u) → ∀ ls a w, ls i = false → S ls a w → S (upd ls i) (a.put (some d) u) w)
    (hwrl : ∀ i, i < N → fix i = none → ∃ o, ops[i]? = some o ∧ (∀ d, o.dst = some d → amb d = none ∧ ∀ j d' u', fix j = some (d', u') → d' ≠ d) ∧
      ∀ ls a w, ls i = false → a.tmps.size = T → Known amb fix ls a → (∀ j, depOn o j = true → ls j = true) → S ls a w → ∀ K : Act → World → Prop, (∀ v w', S (upd ls i) (a.put o.dst v) w' → K (a.put o.dst v) w') → wpOpIn F n P ops Q i K a w)
    (hQ : ∀ ls a w, (∀ j, j < N → ls j = true) → a.tmps.size = T → Known amb fix ls a → S ls a w → Q .normal a w) :
    (Code.region id ops true).wpIn F n P Q a w := by
  have keep : ∀ {ls : Nat → Bool} {a : Act} (i : Nat) (dst : Option Nat) (v : Value), (∀ d, dst = some d → amb d = none ∧ ∀ j d' u', fix j = some (d', u') → j ≠ i → d' ≠ d) → (∀ d u, fix i = some (d, u) → dst = some d ∧ v = u ∧ d < a.tmps.size) →
      Known amb fix ls a → Known amb fix (upd ls i) (a.put dst v) := by
    intro ls a i dst v hd hi hk
    refine ⟨fun s u hs => ?_, fun j d u hj hl => ?_⟩
    · cases dst with
      | none => exact hk.1 s u hs
      | some d => rw [slot_other v (fun e => by rw [← e, (hd d rfl).1] at hs; cases hs)]; exact hk.1 s u hs
    · by_cases e : j = i
      · subst e
        obtain ⟨rfl, rfl, hlt⟩ := hi d u hj
        exact slot_same _ hlt
      · rw [upd_other e] at hl
        cases dst with
        | none => exact hk.2 j d u hj hl
        | some d' => rw [slot_other v (Ne.symm ((hd d' rfl).2 j d u hj e))]; exact hk.2 j d u hj hl
  refine wpIn_region_inv hm (fun listed a w => listed.size = N ∧ a.tmps.size = T ∧ Known amb fix (fun j => listed.getD j false) a ∧ S (fun j => listed.getD j false) a w) ?_ ?_ ?_
  · refine ⟨by simp [hN], hT, ⟨hamb, fun j d u _ hl => ?_⟩, ?_⟩
    · exfalso
      simp only [Array.getD_eq_getD_getElem?, Array.getElem?_replicate] at hl
      split at hl <;> simp at hl
    · have : (fun j => (Array.replicate ops.size false).getD j false) = fun _ => false := by
        funext j
        simp only [Array.getD_eq_getD_getElem?, Array.getElem?_replicate]
        split <;> rfl
      rw [this]; exact hS0
  · rintro listed a w i ⟨hls, hts, hk, hS⟩ hi K hK
    obtain ⟨hlt, hun, -⟩ := ready_mem hi
    rw [hN] at hlt
    have hsz : i < listed.size := by omega
    have hun' : listed.getD i false = false := by
      simp only [Array.getD_eq_getD_getElem?, Array.getElem?_eq_getElem hsz, Option.getD_some] at hun ⊢; exact hun
    cases hf : fix i with
    | some du =>
      obtain ⟨d, u⟩ := du
      obtain ⟨_, hdT, had, hoth, o, ho, hdst, hg, hdf, hrun⟩ := hfix i d u hf
      refine opIn_value hF ho hg hdf (hrun _ a w hk (fun j hj => dep_listed hi ho hj) hS) (hK _ _ ⟨by simpa using hls, by rw [size_put]; exact hts, ?_, ?_⟩)
      · rw [listed_upd hsz, hdst]
        exact keep i (some d) u (fun d' e => by cases e; exact ⟨had, hoth⟩) (fun d' u' e => by rw [hf] at e; cases e; exact ⟨rfl, rfl, by omega⟩) hk
      · rw [listed_upd hsz, hdst]
        exact hsteady i d u hf _ _ _ hun' hS
    | none =>
      obtain ⟨o, ho, hdst, hrun⟩ := hwrl i hlt hf
      refine hrun _ a w hun' hts hk (fun j hj => dep_listed hi ho hj) hS K fun v w' hS' => hK _ _ ⟨by simpa using hls, by rw [size_put]; exact hts, ?_, ?_⟩
      · rw [listed_upd hsz]
        exact keep i o.dst v (fun d e => ⟨(hdst d e).1, fun j d' u' hj _ => (hdst d e).2 j d' u' hj⟩) (fun d' u' e => by rw [hf] at e; cases e) hk
      · rw [listed_upd hsz]; exact hS'
  · rintro listed a w ⟨hls, hts, hk, hS⟩ hr
    exact hQ _ a w (fun j hj => all_listed hac (by omega) hr j (by omega)) hts hk hS
end
/-- All slots but those of ds, as they stand. -/
def ambA (ds : List Nat) (a : Act) : Nat → Option Value := fun s => if s ∈ ds then none else some (slot a s)
theorem amb_in {ds : List Nat} {a : Act} {s : Nat} (h : s ∈ ds) : ambA ds a s = none := if_pos h
theorem amb_out {ds : List Nat} {a : Act} {s : Nat} (h : ¬ s ∈ ds) : ambA ds a s = some (slot a s) := if_neg h
theorem amb_start {ds : List Nat} {a : Act} : ∀ s u, ambA ds a s = some u → slot a s = u := by
  intro s u hs
  unfold ambA at hs
  split at hs
  · cases hs
  · cases hs; rfl
theorem act_ext {a b : Act} (h : a.tmps.size = b.tmps.size) (hs : ∀ s, s < a.tmps.size → slot a s = slot b s) (hd : a.defers = b.defers) : a = b := by
  obtain ⟨ta, da⟩ := a
  obtain ⟨tb, db⟩ := b
  obtain rfl : da = db := hd
  congr 1
  apply Array.ext
  · exact h
  · intro i h1 h2
    have := hs i h1
    simp only [slot, Array.getD_eq_getD_getElem?, Array.getElem?_eq_getElem h1, Array.getElem?_eq_getElem h2, Option.getD_some] at this
    exact this
theorem defers_put {a : Act} {d : Option Nat} (v : Value) : (a.put d v).defers = a.defers := by cases d <;> rfl

end

section

open Go.RowKit Go.Shelf

theorem own_less {w : World} {b b' : Nat} {e : TypeId} {sz n : Nat} {v : Value} {xs : List Value} (h : w.ownsRow b e sz v n xs) (hb : b' ≤ b) : w.ownsRow b' e sz v n xs := by
  refine ⟨h.1, ?_⟩
  rcases h.2 with h0 | ⟨g, cap, cur, r, hg, s⟩
  · exact .inl h0
  · exact .inr ⟨g, cap, cur, r, by omega, s⟩

structure RT (ops : Array Oper) : Prop where
  size : ops.size = 8
  acy : acyB ops = true
  o0 : ∃ o, ops[0]? = some o ∧ o.op = .fieldAddr 40 (.tmp 3) 0 ∧ o.dst = some 37 ∧ o.guard = none
  o1 : ∃ o, ops[1]? = some o ∧ o.op = .load 3 (.tmp 37) ∧ o.dst = some 38 ∧ o.guard = none ∧ depOn o 0 = true
  o2 : ∃ o, ops[2]? = some o ∧ o.op = .fieldAddr 40 (.tmp 3) 1 ∧ o.dst = some 39 ∧ o.guard = none
  o3 : ∃ o, ops[3]? = some o ∧ o.op = .load 38 (.tmp 39) ∧ o.dst = some 40 ∧ o.guard = none ∧ depOn o 2 = true
  o4 : ∃ o, ops[4]? = some o ∧ o.op = .call { callee := .value (.func 43), args := #[.tmp 40], argTypes := #[38] } ∧ o.dst = some 41 ∧ o.guard = none ∧ depOn o 3 = true
  o5 : ∃ o, ops[5]? = some o ∧ o.op = .build 40 #[(0, .tmp 38), (1, .tmp 41)] ∧ o.dst = some 42 ∧ o.guard = none ∧ depOn o 1 = true ∧ depOn o 4 = true
  o6 : ∃ o, ops[6]? = some o ∧ o.op = .alloc 40 ∧ o.dst = some 10 ∧ o.guard = none
  o7 : ∃ o, ops[7]? = some o ∧ o.op = .store 40 (.tmp 10) (.tmp 42) ∧ o.dst = none ∧ o.guard = none ∧ depOn o 5 = true ∧ depOn o 6 = true

section
variable {w : World} {ρ : Operand → Value}
theorem x_field {o : Oper} {s f : Nat} (ho : o.op = .fieldAddr 40 (.tmp s) f) {b : Nat} (hf : f = 0 ∨ f = 1) (h : ρ (.tmp s) = .pointer (some ⟨b, 0, none⟩)) : (execOp ρ o).run Tryz.prog w = .ok (.value (.pointer (some ⟨b, f, none⟩))) w := by
  rcases hf with rfl | rfl <;> (unfold execOp; rw [ho]; simp [go_sem, h])
theorem x_loadi {o : Oper} {s : Nat} (ho : o.op = .load 3 (.tmp s)) {p : Addr} {v : Value} (h : ρ (.tmp s) = .pointer (some p)) (hc : w.cell? p = some v) : (execOp ρ o).run Tryz.prog w = .ok (.value v) w := by
  unfold execOp; rw [ho]; simp [go_sem, h, hc]
theorem x_loadb {o : Oper} {s : Nat} (ho : o.op = .load 38 (.tmp s)) {p : Addr} {v : Value} (h : ρ (.tmp s) = .pointer (some p)) (hc : w.cell? p = some v) : (execOp ρ o).run Tryz.prog w = .ok (.value v) w := by
  unfold execOp; rw [ho]; simp [go_sem, h, hc]
theorem x_clone {o : Oper} {s : Nat} (ho : o.op = .call { callee := .value (.func 43), args := #[.tmp s], argTypes := #[38] }) (hfn : ρ (.func 43) = .func (.func 43) #[] #[]) : (execOp ρ o).run Tryz.prog w = .ok (.enter 43 #[ρ (.tmp s)]) w := by
  unfold execOp; rw [ho]; simp [go_sem, hfn]
theorem x_build {o : Oper} {s t : Nat} (ho : o.op = .build 40 #[(0, .tmp s), (1, .tmp t)]) {n : Int} {A : Option Addr} {k c : Nat} (h : ρ (.tmp s) = .int .i64 n) (h' : ρ (.tmp t) = .slice A k c) : (execOp ρ o).run Tryz.prog w = .ok (.value (.agg #[.int .i64 n, .slice A k c])) w := by
  unfold execOp; rw [ho]; simp [go_sem, h, h']
theorem x_alloc {o : Oper} (ho : o.op = .alloc 40) : (execOp ρ o).run Tryz.prog w = .ok (.value (.pointer (some ⟨w.heap.size, 0, none⟩))) (w.alloc (.cells #[.int .i64 0, .slice none 0 0] 40)) := by
  unfold execOp; rw [ho]; simp [go_sem]
theorem x_store {o : Oper} {s t : Nat} (ho : o.op = .store 40 (.tmp s) (.tmp t)) {b : Nat} {n : Int} {A : Option Addr} {k c : Nat} {c0 c1 : Value} (h : ρ (.tmp s) = .pointer (some ⟨b, 0, none⟩)) (h' : ρ (.tmp t) = .agg #[.int .i64 n, .slice A k c])
    (hb : w.heap[b]? = some (.cells #[c0, c1] 40 (0, 0))) : (execOp ρ o).run Tryz.prog w = .ok .skip ((w.setCell ⟨b, 0, none⟩ (.int .i64 n)).setCell ⟨b, 1, none⟩ (.slice A k c)) := by
  have e0 : w.cell? ⟨b, 0, none⟩ = some c0 := by simp [World.cell?, hb]
  have e1 : w.cell? ⟨b, 1, none⟩ = some c1 := by simp [World.cell?, hb]
  have z0 : w.frozen? ⟨b, 0, none⟩ = false := by simp [World.frozen?, hb]
  have z1 : w.frozen? ⟨b, 1, none⟩ = false := by simp [World.frozen?, hb]
  unfold execOp; rw [ho]; simp [go_sem, h, h', e0, e1, z0, z1]
end
theorem heap_set2 {w : World} {b : Nat} {c0 c1 : Value} {t : TypeId} (hb : w.heap[b]? = some (.cells #[c0, c1] t (0, 0))) (u v : Value) :
    ((w.setCell ⟨b, 0, none⟩ u).setCell ⟨b, 1, none⟩ v).heap[b]? = some (.cells #[u, v] t (0, 0)) := by
  have h1 := heap_setCell_same w b 0 _ t u hb
  have h2 := heap_setCell_same (w.setCell ⟨b, 0, none⟩ u) b 1 _ t v h1
  rw [h2]
  rfl

/-- What the copy leaves: a new block with the number and the new slice; the slice's row is the call's own. -/
structure Copied (W : World) (n : Int) (l : List Bool) (B : Nat) (v : Value) (w : World) : Prop where
  below : Below W.heap.size W w
  ge : W.heap.size ≤ B
  box : w.heap[B]? = some (.cells #[.int .i64 n, v] 40 (0, 0))
  own : w.ownsRow W.heap.size 4 1 v l.length (bools l)

/-- Where the region stands. -/
structure StT (W : World) (n : Int) (l : List Bool) (D : List Deferred) (ls : Nat → Bool) (a : Act) (w : World) : Prop where
  df : a.defers = D
  below : Below W.heap.size W w
  o54 : ls 5 = true → ls 4 = true
  o76 : ls 7 = true → ls 6 = true
  o75 : ls 7 = true → ls 5 = true
  s4 : ls 4 = true → w.ownsRow W.heap.size 4 1 (slot a 41) l.length (bools l)
  s5 : ls 5 = true → slot a 42 = .agg #[.int .i64 n, slot a 41]
  s6 : ls 6 = true → ∃ B c0 c1, W.heap.size ≤ B ∧ slot a 10 = .pointer (some ⟨B, 0, none⟩) ∧ w.heap[B]? = some (.cells #[c0, c1] 40 (0, 0)) ∧ (ls 7 = true → c0 = .int .i64 n ∧ c1 = slot a 41)

theorem box_not_row {w : World} {b : Nat} {v : Value} {k B : Nat} {xs cs : List Value} (h : w.ownsRow b 4 1 v k xs) (hB : w.heap[B]? = some (.cells cs.toArray 40 (0, 0))) : v.ownBlock ≠ some B := by
  rcases h.2 with ⟨rfl, _⟩ | ⟨g, cap, cur, rfl, _, hg, _⟩
  · intro e; cases e
  · intro e
    cases e
    rw [hB] at hg
    cases hg

def fixT (bx g off cap k : Nat) (n : Int) : Nat → Option (Nat × Value)
  | 0 => some (37, .pointer (some ⟨bx, 0, none⟩))
  | 1 => some (38, .int .i64 n)
  | 2 => some (39, .pointer (some ⟨bx, 1, none⟩))
  | 3 => some (40, .slice (some ⟨g, off, none⟩) k cap)
  | _ => none

def dsT : List Nat := [37, 38, 39, 40, 41, 42, 10]
set_option maxHeartbeats 1000000 in
theorem region_take {id m : Nat} {ops : Array Oper} {Q : Exit → Act → World → Prop} (hR : RT ops) (a : Act) (W : World) (hasz : a.tmps.size = 57) (bx g off cap : Nat) (n : Int) (l : List Bool) (hl : l.length ≤ 1000) (hpos : 0 < l.length)
    (s3 : slot a 3 = .pointer (some ⟨bx, 0, none⟩)) (hbx : bx < W.heap.size) (hg : g < W.heap.size) (b0 : W.cell? ⟨bx, 0, none⟩ = some (.int .i64 n)) (b1 : W.cell? ⟨bx, 1, none⟩ = some (.slice (some ⟨g, off, none⟩) l.length cap))
    (hc : ∀ j u, (bools l)[j]? = some u → W.cell? ⟨g, off + j, none⟩ = some u)
    (hQ : ∀ B v w, Copied W n l B v w → Q .normal (((((((a.put (some 37) (.pointer (some ⟨bx, 0, none⟩))).put (some 38) (.int .i64 n)).put (some 39) (.pointer (some ⟨bx, 1, none⟩))).put (some 40) (.slice (some ⟨g, off, none⟩) l.length cap)).put (some 41) v).put (some 42) (.agg #[.int .i64 n, v])).put (some 10) (.pointer (some ⟨B, 0, none⟩))) w) :
    (Code.region id ops true).wpIn Fence.wide m Tryz.prog Q a W := by
  refine region_plan (fun _ => trivial) (by kernel_rfl) 8 57 hR.size hR.acy (ambA dsT a) (fixT bx g off cap l.length n) (StT W n l a.defers) a W hasz ?_ ?_ ?_ ?_ ?_ ?_
  · exact amb_start
  · exact ⟨rfl, (Below.refl _ _).drew, nofun, nofun, nofun, nofun, nofun, nofun⟩
  · intro i d u hf
    have hi : i < 4 := by
      rcases Nat.lt_or_ge i 4 with h | h
      · exact h
      · exfalso
        match i, h with
        | i + 4, _ => cases hf
    have hoth : ∀ j d' u', fixT bx g off cap l.length n j = some (d', u') → j ≠ i → d' ≠ d := by
      intro j d' u' hj hne
      have hj4 : j < 4 := by
        rcases Nat.lt_or_ge j 4 with h | h
        · exact h
        · exfalso
          match j, h with
          | j + 4, _ => cases hj
      have : i = 0 ∨ i = 1 ∨ i = 2 ∨ i = 3 := by omega
      have : j = 0 ∨ j = 1 ∨ j = 2 ∨ j = 3 := by omega
      rcases ‹i = 0 ∨ i = 1 ∨ i = 2 ∨ i = 3› with rfl | rfl | rfl | rfl <;> rcases ‹j = 0 ∨ j = 1 ∨ j = 2 ∨ j = 3› with rfl | rfl | rfl | rfl <;> cases hf <;> cases hj <;> first | exact absurd rfl hne | decide
    have : i = 0 ∨ i = 1 ∨ i = 2 ∨ i = 3 := by omega
    rcases this with rfl | rfl | rfl | rfl <;> cases hf
    · obtain ⟨o, e, ho, hd, hgd⟩ := hR.o0
      exact ⟨by decide, by decide, amb_in (by decide), hoth, o, e, hd, hgd, by simp [ho], fun ls a w hk hdp hS => x_field ho (.inl rfl) ((hk.1 3 _ (amb_out (by decide))).trans s3)⟩
    · obtain ⟨o, e, ho, hd, hgd, d0⟩ := hR.o1
      exact ⟨by decide, by decide, amb_in (by decide), hoth, o, e, hd, hgd, by simp [ho], fun ls a w hk hdp hS => x_loadi ho (hk.2 0 _ _ rfl (hdp 0 d0)) (((bcell hS.below).1 _ _ hbx).trans b0)⟩
    · obtain ⟨o, e, ho, hd, hgd⟩ := hR.o2
      exact ⟨by decide, by decide, amb_in (by decide), hoth, o, e, hd, hgd, by simp [ho], fun ls a w hk hdp hS => x_field ho (.inr rfl) ((hk.1 3 _ (amb_out (by decide))).trans s3)⟩
    · obtain ⟨o, e, ho, hd, hgd, d2⟩ := hR.o3
      exact ⟨by decide, by decide, amb_in (by decide), hoth, o, e, hd, hgd, by simp [ho], fun ls a w hk hdp hS => x_loadb ho (hk.2 2 _ _ rfl (hdp 2 d2)) (((bcell hS.below).1 _ _ hbx).trans b1)⟩
  · intro i d u hf ls a w hl hS
    have hi : i = 0 ∨ i = 1 ∨ i = 2 ∨ i = 3 := by
      rcases Nat.lt_or_ge i 4 with h | h
      · omega
      · exfalso
        match i, h with
        | i + 4, _ => cases hf
    have h4 : ∀ j, 4 ≤ j → upd ls i j = ls j := fun j hj => upd_other (by omega)
    have hsl : ∀ s, s = 41 ∨ s = 42 ∨ s = 10 → slot (a.put (some d) u) s = slot a s := by
      intro s hs
      refine slot_other u ?_
      rcases hi with rfl | rfl | rfl | rfl <;> cases hf <;> omega
    refine ⟨(defers_put _).trans hS.df, hS.below, ?_, ?_, ?_, ?_, ?_, ?_⟩
    · rw [h4 5 (by omega), h4 4 (by omega)]; exact hS.o54
    · rw [h4 7 (by omega), h4 6 (by omega)]; exact hS.o76
    · rw [h4 7 (by omega), h4 5 (by omega)]; exact hS.o75
    · rw [h4 4 (by omega), hsl 41 (by simp)]; exact hS.s4
    · rw [h4 5 (by omega), hsl 41 (by simp), hsl 42 (by simp)]; exact hS.s5
    · rw [h4 6 (by omega), h4 7 (by omega), hsl 41 (by simp), hsl 10 (by simp)]; exact hS.s6
  · intro i hi hf
    have : i = 4 ∨ i = 5 ∨ i = 6 ∨ i = 7 := by
      rcases Nat.lt_or_ge i 4 with h | h
      · exfalso
        have : i = 0 ∨ i = 1 ∨ i = 2 ∨ i = 3 := by omega
        rcases this with rfl | rfl | rfl | rfl <;> cases hf
      · omega
    have hfd : ∀ d, d = 41 ∨ d = 42 ∨ d = 10 → ∀ j d' u', fixT bx g off cap l.length n j = some (d', u') → d' ≠ d := by
      intro d hd j d' u' hj
      match j with
      | 0 => cases hj; omega
      | 1 => cases hj; omega
      | 2 => cases hj; omega
      | 3 => cases hj; omega
      | j + 4 => cases hj
    rcases this with rfl | rfl | rfl | rfl
    · obtain ⟨o, e, ho, hd, hgd, d3⟩ := hR.o4
      refine ⟨o, e, fun d hd' => by rw [hd] at hd'; cases hd'; exact ⟨amb_in (by decide), hfd _ (by simp)⟩, fun ls a w hun hT hk hdp hS K hK => ?_⟩
      refine opIn_enter (fun _ => trivial) rfl e hgd (by simp [ho]) (x_clone ho rfl) ?_
      rw [show a.eval (.tmp 40) = _ from hk.2 3 _ _ rfl (hdp 3 d3)]
      refine (callsIn_wide.2 (clone_any g off cap l w hl (hide fun j u hj => (hS.below.cell (p := ⟨g, off + j, none⟩) hg).trans (hc j u hj)) (Nat.lt_of_lt_of_le hg hS.below.size))).mono ?_
      rintro e' w' ⟨v, rfl, hown, hb⟩
      refine ⟨v, rfl, hK v w' ?_⟩
      rw [hd]
      have h5 : ls 5 = false := by cases h : ls 5 with | false => rfl | true => rw [hS.o54 h] at hun; cases hun
      have h7 : ls 7 = false := by cases h : ls 7 with | false => rfl | true => rw [hS.o75 h] at h5; cases h5
      have hsz := hS.below.size
      refine ⟨(defers_put _).trans hS.df, hS.below.trans (hb.mono hsz), ?_, ?_, ?_, ?_, ?_, ?_⟩
      · rw [upd_other (by decide), h5]; nofun
      · rw [upd_other (by decide), h7]; nofun
      · rw [upd_other (by decide), h7]; nofun
      · intro _; rw [slot_same v (by rw [hT]; decide)]; exact own_less hown hsz
      · rw [upd_other (by decide), h5]; nofun
      · rw [upd_other (by decide), upd_other (show 7 ≠ 4 by decide), h7, slot_other v (show 41 ≠ 10 by decide)]
        intro h6
        obtain ⟨B, c0, c1, hB, e10, hbk, _⟩ := hS.s6 h6
        exact ⟨B, c0, c1, hB, e10, (hb.block B (Array.getElem?_eq_some_iff.1 hbk).1).trans hbk, nofun⟩
    · obtain ⟨o, e, ho, hd, hgd, d1, d4⟩ := hR.o5
      refine ⟨o, e, fun d hd' => by rw [hd] at hd'; cases hd'; exact ⟨amb_in (by decide), hfd _ (by simp)⟩, fun ls a w hun hT hk hdp hS K hK => ?_⟩
      have hown := hS.s4 (hdp 4 d4)
      obtain ⟨A, c, hv⟩ := (Row.of_own hown).form
      have h7 : ls 7 = false := by cases h : ls 7 with | false => rfl | true => rw [hS.o75 h] at hun; cases hun
      refine opIn_value (fun _ => trivial) e hgd (by simp [ho]) (x_build ho (hk.2 1 _ _ rfl (hdp 1 d1)) hv) ?_
      refine hK _ _ ?_
      rw [hd]
      refine ⟨(defers_put _).trans hS.df, hS.below, ?_, ?_, ?_, ?_, ?_, ?_⟩
      · intro _; rw [upd_other (by decide)]; exact hdp 4 d4
      · rw [upd_other (by decide), h7]; nofun
      · rw [upd_other (by decide), h7]; nofun
      · intro _; rw [slot_other _ (show 42 ≠ 41 by decide)]; exact hown
      · intro _; rw [slot_same _ (by rw [hT]; decide), slot_other _ (show 42 ≠ 41 by decide), hv]
      · rw [upd_other (by decide), upd_other (show 7 ≠ 5 by decide), h7, slot_other _ (show 42 ≠ 10 by decide)]
        intro h6
        obtain ⟨B, c0, c1, hB, e10, hbk, _⟩ := hS.s6 h6
        exact ⟨B, c0, c1, hB, e10, hbk, nofun⟩
    · obtain ⟨o, e, ho, hd, hgd⟩ := hR.o6
      refine ⟨o, e, fun d hd' => by rw [hd] at hd'; cases hd'; exact ⟨amb_in (by decide), hfd _ (by simp)⟩, fun ls a w hun hT hk hdp hS K hK => ?_⟩
      have h7 : ls 7 = false := by cases h : ls 7 with | false => rfl | true => rw [hS.o76 h] at hun; cases hun
      refine opIn_value (fun _ => trivial) e hgd (by simp [ho]) (x_alloc ho) ?_
      refine hK _ _ ?_
      rw [hd]
      refine ⟨(defers_put _).trans hS.df, hS.below.alloc hS.below.size _, ?_, ?_, ?_, ?_, ?_, ?_⟩
      · rw [upd_other (show 5 ≠ 6 by decide), upd_other (show 4 ≠ 6 by decide)]; exact hS.o54
      · rw [upd_other (by decide), h7]; nofun
      · rw [upd_other (by decide), h7]; nofun
      · rw [upd_other (by decide), slot_other _ (show 10 ≠ 41 by decide)]; intro h; exact (hS.s4 h).alloc _
      · rw [upd_other (by decide), slot_other _ (show 10 ≠ 41 by decide), slot_other _ (show 10 ≠ 42 by decide)]; exact hS.s5
      · intro _
        rw [upd_other (show 7 ≠ 6 by decide), h7]
        exact ⟨w.heap.size, _, _, hS.below.size, slot_same _ (by rw [hT]; decide), heap_alloc_new w _, nofun⟩
    · obtain ⟨o, e, ho, hd, hgd, d5, d6⟩ := hR.o7
      refine ⟨o, e, (fun d hd' => by rw [hd] at hd'; cases hd'), fun ls a w hun hT hk hdp hS K hK => ?_⟩
      have h4 := hS.o54 (hdp 5 d5)
      have hown := hS.s4 h4
      obtain ⟨A, c, hv⟩ := (Row.of_own hown).form
      obtain ⟨B, c0, c1, hB, e10, hbk, _⟩ := hS.s6 (hdp 6 d6)
      have h42 := hS.s5 (hdp 5 d5)
      rw [hv] at h42
      refine opIn_skip (fun _ => trivial) e hgd (by simp [ho]) (x_store ho e10 h42 hbk) ?_
      refine hK _ _ ?_
      rw [hd]
      have hnb := box_not_row (cs := [c0, c1]) hown hbk
      refine ⟨(defers_put _).trans hS.df, (hS.below.setCell (p := ⟨B, 0, none⟩) hB _).setCell (p := ⟨B, 1, none⟩) hB _, ?_, ?_, ?_, ?_, ?_, ?_⟩
      · intro _; rw [upd_other (by decide)]; exact h4
      · intro _; rw [upd_other (by decide)]; exact hdp 6 d6
      · intro _; rw [upd_other (by decide)]; exact hdp 5 d5
      · intro _
        exact ownsRow_setCell_other (ownsRow_setCell_other hown hnb _) hnb _
      · intro _; exact hS.s5 (hdp 5 d5)
      · intro _
        exact ⟨B, _, _, hB, e10, heap_set2 hbk _ _, fun _ => ⟨rfl, hv.symm⟩⟩
  · intro ls a w hall hT hk hS
    obtain ⟨B, c0, c1, hB, e10, hbk, h7⟩ := hS.s6 (hall 6 (by decide))
    obtain ⟨rfl, rfl⟩ := h7 (hall 7 (by decide))
    have h42 := hS.s5 (hall 5 (by decide))
    have h := hQ B _ w ⟨hS.below, hB, hbk, hS.s4 (hall 4 (by decide))⟩
    refine Eq.mp (congrArg (fun x => Q .normal x w) ?_) h
    refine act_ext (by simp only [size_put]; omega) ?_ (by simp only [defers_put]; exact hS.df.symm)
    intro s hs
    simp only [size_put] at hs
    have e0 := hk.2 0 _ _ rfl (hall 0 (by decide))
    have e1 := hk.2 1 _ _ rfl (hall 1 (by decide))
    have e2 := hk.2 2 _ _ rfl (hall 2 (by decide))
    have e3 := hk.2 3 _ _ rfl (hall 3 (by decide))
    by_cases q10 : s = 10
    · subst q10; rw [slot_same _ (by simp only [size_put]; exact hs)]; exact e10.symm
    rw [slot_other _ (Ne.symm q10)]
    by_cases q42 : s = 42
    · subst q42; rw [slot_same _ (by simp only [size_put]; exact hs)]; exact h42.symm
    rw [slot_other _ (Ne.symm q42)]
    by_cases q41 : s = 41
    · subst q41; rw [slot_same _ (by simp only [size_put]; exact hs)]
    rw [slot_other _ (Ne.symm q41)]
    by_cases q40 : s = 40
    · subst q40; rw [slot_same _ (by simp only [size_put]; exact hs)]; exact e3.symm
    rw [slot_other _ (Ne.symm q40)]
    by_cases q39 : s = 39
    · subst q39; rw [slot_same _ (by simp only [size_put]; exact hs)]; exact e2.symm
    rw [slot_other _ (Ne.symm q39)]
    by_cases q38 : s = 38
    · subst q38; rw [slot_same _ (by simp only [size_put]; exact hs)]; exact e1.symm
    rw [slot_other _ (Ne.symm q38)]
    by_cases q37 : s = 37
    · subst q37; rw [slot_same _ hs]; exact e0.symm
    rw [slot_other _ (Ne.symm q37)]
    exact (hk.1 s _ (amb_out (by simp only [dsT, List.mem_cons, List.not_mem_nil, or_false]; omega))).symm

end

section

open Go.RowKit Go.Shelf

structure RR (ops : Array Oper) : Prop where
  size : ops.size = 9
  acy : acyB ops = true
  o0 : ∃ o, ops[0]? = some o ∧ o.op = .fieldAddr 40 (.tmp 3) 0 ∧ o.dst = some 43 ∧ o.guard = none
  o1 : ∃ o, ops[1]? = some o ∧ o.op = .load 3 (.tmp 43) ∧ o.dst = some 44 ∧ o.guard = none ∧ depOn o 0 = true
  o2 : ∃ o, ops[2]? = some o ∧ o.op = .buildSlice 38 0 #[] ∧ o.dst = some 45 ∧ o.guard = none
  o3 : ∃ o, ops[3]? = some o ∧ o.op = .fieldAddr 40 (.tmp 3) 1 ∧ o.dst = some 46 ∧ o.guard = none
  o4 : ∃ o, ops[4]? = some o ∧ o.op = .load 38 (.tmp 46) ∧ o.dst = some 47 ∧ o.guard = none ∧ depOn o 3 = true
  o5 : ∃ o, ops[5]? = some o ∧ o.op = .call { callee := .builtin .append, args := #[.tmp 45, .tmp 47], argTypes := #[38, 38] } ∧ o.dst = some 48 ∧ o.guard = none ∧ depOn o 2 = true ∧ depOn o 4 = true
  o6 : ∃ o, ops[6]? = some o ∧ o.op = .build 40 #[(0, .tmp 44), (1, .tmp 48)] ∧ o.dst = some 49 ∧ o.guard = none ∧ depOn o 1 = true ∧ depOn o 5 = true
  o7 : ∃ o, ops[7]? = some o ∧ o.op = .alloc 40 ∧ o.dst = some 10 ∧ o.guard = none
  o8 : ∃ o, ops[8]? = some o ∧ o.op = .store 40 (.tmp 10) (.tmp 49) ∧ o.dst = none ∧ o.guard = none ∧ depOn o 6 = true ∧ depOn o 7 = true

theorem x_empty {w : World} {ρ : Operand → Value} {o : Oper} (ho : o.op = .buildSlice 38 0 #[]) : (execOp ρ o).run Tryz.prog w = .ok (.value (.slice (some ⟨w.heap.size, 0, none⟩) 0 0)) (w.alloc (.cells #[] 4)) := by
  unfold execOp; rw [ho]; simp [go_sem]

/-- Where the region stands. -/
structure StR (W : World) (n : Int) (l : List Bool) (D : List Deferred) (ls : Nat → Bool) (a : Act) (w : World) : Prop where
  df : a.defers = D
  below : Below W.heap.size W w
  o52 : ls 5 = true → ls 2 = true
  o65 : ls 6 = true → ls 5 = true
  o87 : ls 8 = true → ls 7 = true
  o86 : ls 8 = true → ls 6 = true
  s2 : ls 2 = true → ls 5 = false → w.ownsRow W.heap.size 4 1 (slot a 45) 0 []
  s5 : ls 5 = true → w.ownsRow W.heap.size 4 1 (slot a 48) l.length (bools l)
  s6 : ls 6 = true → slot a 49 = .agg #[.int .i64 n, slot a 48]
  s7 : ls 7 = true → ∃ B c0 c1, W.heap.size ≤ B ∧ slot a 10 = .pointer (some ⟨B, 0, none⟩) ∧ w.heap[B]? = some (.cells #[c0, c1] 40 (0, 0)) ∧ (ls 8 = true → c0 = .int .i64 n ∧ c1 = slot a 48)

def fixR (bx g off cap k : Nat) (n : Int) : Nat → Option (Nat × Value)
  | 0 => some (43, .pointer (some ⟨bx, 0, none⟩))
  | 1 => some (44, .int .i64 n)
  | 3 => some (46, .pointer (some ⟨bx, 1, none⟩))
  | 4 => some (47, .slice (some ⟨g, off, none⟩) k cap)
  | _ => none
theorem fixR_some {bx g off cap k : Nat} {n : Int} {i d : Nat} {u : Value} (h : fixR bx g off cap k n i = some (d, u)) : (i = 0 ∧ d = 43) ∨ (i = 1 ∧ d = 44) ∨ (i = 3 ∧ d = 46) ∨ (i = 4 ∧ d = 47) := by
  unfold fixR at h
  split at h <;> cases h <;> simp
theorem fixR_none {bx g off cap k : Nat} {n : Int} {i : Nat} (hi : i < 9) (h : fixR bx g off cap k n i = none) : i = 2 ∨ i = 5 ∨ i = 6 ∨ i = 7 ∨ i = 8 := by
  have : i = 0 ∨ i = 1 ∨ i = 2 ∨ i = 3 ∨ i = 4 ∨ i = 5 ∨ i = 6 ∨ i = 7 ∨ i = 8 := by omega
  rcases this with rfl | rfl | rfl | rfl | rfl | rfl | rfl | rfl | rfl <;> first | (cases h; done) | simp
theorem no_of {b c : Bool} (h : b = true → c = true) (hc : c = false) : b = false := by
  cases b with
  | false => rfl
  | true => rw [h rfl] at hc; cases hc

def dsR : List Nat := [43, 44, 45, 46, 47, 48, 49, 10]
set_option maxHeartbeats 1000000 in
theorem region_rtake {id m : Nat} {ops : Array Oper} {Q : Exit → Act → World → Prop} (hR : RR ops) (a : Act) (W : World) (hasz : a.tmps.size = 68) (bx g off cap : Nat) (n : Int) (l : List Bool) (hl : l.length ≤ 1000) (hpos : 0 < l.length)
    (s3 : slot a 3 = .pointer (some ⟨bx, 0, none⟩)) (hbx : bx < W.heap.size) (hg : g < W.heap.size) (b0 : W.cell? ⟨bx, 0, none⟩ = some (.int .i64 n)) (b1 : W.cell? ⟨bx, 1, none⟩ = some (.slice (some ⟨g, off, none⟩) l.length cap))
    (hc : ∀ j u, (bools l)[j]? = some u → W.cell? ⟨g, off + j, none⟩ = some u)
    (hQ : ∀ u B v w, Copied W n l B v w → Q .normal ((((((((a.put (some 43) (.pointer (some ⟨bx, 0, none⟩))).put (some 44) (.int .i64 n)).put (some 45) u).put (some 46) (.pointer (some ⟨bx, 1, none⟩))).put (some 47) (.slice (some ⟨g, off, none⟩) l.length cap)).put (some 48) v).put (some 49) (.agg #[.int .i64 n, v])).put (some 10) (.pointer (some ⟨B, 0, none⟩))) w) :
    (Code.region id ops true).wpIn Fence.wide m Tryz.prog Q a W := by
  obtain ⟨i0, hi0, hz0, hz1, hz2⟩ := info_bool'
  refine region_plan (fun _ => trivial) (by kernel_rfl) 9 68 hR.size hR.acy (ambA dsR a) (fixR bx g off cap l.length n) (StR W n l a.defers) a W hasz ?_ ?_ ?_ ?_ ?_ ?_
  · exact amb_start
  · exact ⟨rfl, (Below.refl _ _).drew, nofun, nofun, nofun, nofun, nofun, nofun, nofun, nofun⟩
  · intro i d u hf
    have hoth : ∀ j d' u', fixR bx g off cap l.length n j = some (d', u') → j ≠ i → d' ≠ d := by
      intro j d' u' hj hne
      have h1 := fixR_some hf
      have h2 := fixR_some hj
      omega
    rcases fixR_some hf with ⟨rfl, _⟩ | ⟨rfl, _⟩ | ⟨rfl, _⟩ | ⟨rfl, _⟩ <;> cases hf
    · obtain ⟨o, e, ho, hd, hgd⟩ := hR.o0
      exact ⟨by decide, by decide, amb_in (by decide), hoth, o, e, hd, hgd, by simp [ho], fun ls a w hk hdp hS => x_field ho (.inl rfl) ((hk.1 3 _ (amb_out (by decide))).trans s3)⟩
    · obtain ⟨o, e, ho, hd, hgd, d0⟩ := hR.o1
      exact ⟨by decide, by decide, amb_in (by decide), hoth, o, e, hd, hgd, by simp [ho], fun ls a w hk hdp hS => x_loadi ho (hk.2 0 _ _ rfl (hdp 0 d0)) (((bcell hS.below).1 _ _ hbx).trans b0)⟩
    · obtain ⟨o, e, ho, hd, hgd⟩ := hR.o3
      exact ⟨by decide, by decide, amb_in (by decide), hoth, o, e, hd, hgd, by simp [ho], fun ls a w hk hdp hS => x_field ho (.inr rfl) ((hk.1 3 _ (amb_out (by decide))).trans s3)⟩
    · obtain ⟨o, e, ho, hd, hgd, d2⟩ := hR.o4
      exact ⟨by decide, by decide, amb_in (by decide), hoth, o, e, hd, hgd, by simp [ho], fun ls a w hk hdp hS => x_loadb ho (hk.2 3 _ _ rfl (hdp 3 d2)) (((bcell hS.below).1 _ _ hbx).trans b1)⟩
  · intro i d u hf ls a w hl hS
    have hid := fixR_some hf
    have h4 : ∀ j, j = 2 ∨ 5 ≤ j → upd ls i j = ls j := fun j hj => upd_other (by omega)
    have hsl : ∀ s, s = 45 ∨ s = 48 ∨ s = 49 ∨ s = 10 → slot (a.put (some d) u) s = slot a s := fun s hs => slot_other u (by omega)
    refine ⟨(defers_put _).trans hS.df, hS.below, ?_, ?_, ?_, ?_, ?_, ?_, ?_, ?_⟩
    · rw [h4 5 (by omega), h4 2 (by omega)]; exact hS.o52
    · rw [h4 6 (by omega), h4 5 (by omega)]; exact hS.o65
    · rw [h4 8 (by omega), h4 7 (by omega)]; exact hS.o87
    · rw [h4 8 (by omega), h4 6 (by omega)]; exact hS.o86
    · rw [h4 2 (by omega), h4 5 (by omega), hsl 45 (by simp)]; exact hS.s2
    · rw [h4 5 (by omega), hsl 48 (by simp)]; exact hS.s5
    · rw [h4 6 (by omega), hsl 48 (by simp), hsl 49 (by simp)]; exact hS.s6
    · rw [h4 7 (by omega), h4 8 (by omega), hsl 48 (by simp), hsl 10 (by simp)]; exact hS.s7
  · intro i hi hf
    have hfd : ∀ d, d = 45 ∨ d = 48 ∨ d = 49 ∨ d = 10 → ∀ j d' u', fixR bx g off cap l.length n j = some (d', u') → d' ≠ d := by
      intro d hd j d' u' hj
      have := fixR_some hj
      omega
    rcases fixR_none hi hf with rfl | rfl | rfl | rfl | rfl
    · obtain ⟨o, e, ho, hd, hgd⟩ := hR.o2
      refine ⟨o, e, (fun d hd' => by rw [hd] at hd'; cases hd'; exact ⟨amb_in (by decide), hfd _ (by simp)⟩), fun ls a w hun hT hk hdp hS K hK => ?_⟩
      have h5 := no_of hS.o52 hun
      have h6 := no_of hS.o65 h5
      have h8 := no_of hS.o86 h6
      refine opIn_value (fun _ => trivial) e hgd (by simp [ho]) (x_empty ho) (hK _ _ ?_)
      rw [hd]
      refine ⟨(defers_put _).trans hS.df, hS.below.alloc hS.below.size _, ?_, ?_, ?_, ?_, ?_, ?_, ?_, ?_⟩
      · rw [upd_other (show 5 ≠ 2 by decide), h5]; nofun
      · rw [upd_other (show 6 ≠ 2 by decide), h6]; nofun
      · rw [upd_other (show 8 ≠ 2 by decide), h8]; nofun
      · rw [upd_other (show 8 ≠ 2 by decide), h8]; nofun
      · intro _ _; rw [slot_same _ (by rw [hT]; decide)]; exact own_lit w [] 4 W.heap.size 1 0 hS.below.size rfl (by unfold maxLen; omega)
      · rw [upd_other (show 5 ≠ 2 by decide), h5]; nofun
      · rw [upd_other (show 6 ≠ 2 by decide), h6]; nofun
      · rw [upd_other (show 7 ≠ 2 by decide), upd_other (show 8 ≠ 2 by decide), h8, slot_other _ (show 45 ≠ 10 by decide)]
        intro h7
        obtain ⟨B, c0, c1, hB, e10, hbk, _⟩ := hS.s7 h7
        exact ⟨B, c0, c1, hB, e10, (Below.heap_alloc _ _ _ (Array.getElem?_eq_some_iff.1 hbk).1).trans hbk, nofun⟩
    · obtain ⟨o, e, ho, hd, hgd, d2, d4⟩ := hR.o5
      refine ⟨o, e, (fun d hd' => by rw [hd] at hd'; cases hd'; exact ⟨amb_in (by decide), hfd _ (by simp)⟩), fun ls a w hun hT hk hdp hS K hK => ?_⟩
      have hrow := hS.s2 (hdp 2 d2) hun
      have e47 : slot a 47 = _ := hk.2 4 _ _ rfl (hdp 4 d4)
      have h6 := no_of hS.o65 hun
      have h8 := no_of hS.o86 h6
      have hsz := hS.below.size
      obtain ⟨v', w', hr, hown', hgr, _, hat⟩ := run_append_own_at (P := Tryz.prog) w W.heap.size 38 o.type 4 i0 (.bool false) 1 1 Tryz.underlying38 hi0 hz0 hz1 hz2 rfl (by decide) (slot a 45) 0 [] hrow
        ⟨g, off, none⟩ l.length cap (bools l) (by simp [bools]) (fun j u hj => by rw [show (⟨g, off, none⟩ : Addr).add j = ⟨g, off + j, none⟩ by unfold Addr.add; split <;> simp_all]; exact (hS.below.cell (p := ⟨g, off + j, none⟩) hg).trans (hc j u hj)) (bools_one l) (by unfold maxLen; omega) (by omega) hsz
      rw [Nat.zero_add, List.nil_append] at hown'
      refine opIn_value (fun _ => trivial) e hgd (by simp [ho]) (v := v') (w' := w') ?_ (hK _ _ ?_)
      · unfold execOp
        simp only [ho, resolve, invoke, builtin, Sem.run_bind, Sem.run_pure, Result.andThen_ok, List.map_toArray, List.map_cons, List.map_nil, eval_slot, e47, hr]
      rw [hd]
      have hblk : ∀ k, (slot a 45).ownBlock = some k → W.heap.size ≤ k := fun k hk' => (hrow.lt k hk').1
      refine ⟨(defers_put _).trans hS.df, hS.below.grown hgr hsz hblk, ?_, ?_, ?_, ?_, ?_, ?_, ?_, ?_⟩
      · intro _; rw [upd_other (show 2 ≠ 5 by decide)]; exact hdp 2 d2
      · intro _; exact upd_same _ _
      · rw [upd_other (show 8 ≠ 5 by decide), h8]; nofun
      · rw [upd_other (show 8 ≠ 5 by decide), h8]; nofun
      · rw [upd_same]; nofun
      · intro _; rw [slot_same _ (by rw [hT]; decide)]; exact hown'
      · rw [upd_other (show 6 ≠ 5 by decide), h6]; nofun
      · rw [upd_other (show 7 ≠ 5 by decide), upd_other (show 8 ≠ 5 by decide), h8, slot_other _ (show 48 ≠ 10 by decide)]
        intro h7
        obtain ⟨B, c0, c1, hB, e10, hbk, _⟩ := hS.s7 h7
        exact ⟨B, c0, c1, hB, e10, (hgr.block B (Array.getElem?_eq_some_iff.1 hbk).1 (fun e' => box_not_row (cs := [c0, c1]) hrow hbk e'.symm)).trans hbk, nofun⟩
    · obtain ⟨o, e, ho, hd, hgd, d1, d5⟩ := hR.o6
      refine ⟨o, e, (fun d hd' => by rw [hd] at hd'; cases hd'; exact ⟨amb_in (by decide), hfd _ (by simp)⟩), fun ls a w hun hT hk hdp hS K hK => ?_⟩
      have hown := hS.s5 (hdp 5 d5)
      obtain ⟨A, c, hv⟩ := (Row.of_own hown).form
      have h8 := no_of hS.o86 hun
      refine opIn_value (fun _ => trivial) e hgd (by simp [ho]) (x_build ho (hk.2 1 _ _ rfl (hdp 1 d1)) hv) (hK _ _ ?_)
      rw [hd]
      refine ⟨(defers_put _).trans hS.df, hS.below, ?_, ?_, ?_, ?_, ?_, ?_, ?_, ?_⟩
      · rw [upd_other (show 5 ≠ 6 by decide), upd_other (show 2 ≠ 6 by decide)]; exact hS.o52
      · intro _; rw [upd_other (show 5 ≠ 6 by decide)]; exact hdp 5 d5
      · rw [upd_other (show 8 ≠ 6 by decide), h8]; nofun
      · rw [upd_other (show 8 ≠ 6 by decide), h8]; nofun
      · rw [upd_other (show 2 ≠ 6 by decide), upd_other (show 5 ≠ 6 by decide), slot_other _ (show 49 ≠ 45 by decide)]; exact hS.s2
      · intro _; rw [slot_other _ (show 49 ≠ 48 by decide)]; exact hown
      · intro _; rw [slot_same _ (by rw [hT]; decide), slot_other _ (show 49 ≠ 48 by decide), hv]
      · rw [upd_other (show 7 ≠ 6 by decide), upd_other (show 8 ≠ 6 by decide), h8, slot_other _ (show 49 ≠ 10 by decide)]
        intro h7
        obtain ⟨B, c0, c1, hB, e10, hbk, _⟩ := hS.s7 h7
        exact ⟨B, c0, c1, hB, e10, hbk, nofun⟩
    · obtain ⟨o, e, ho, hd, hgd⟩ := hR.o7
      refine ⟨o, e, (fun d hd' => by rw [hd] at hd'; cases hd'; exact ⟨amb_in (by decide), hfd _ (by simp)⟩), fun ls a w hun hT hk hdp hS K hK => ?_⟩
      have h8 := no_of hS.o87 hun
      refine opIn_value (fun _ => trivial) e hgd (by simp [ho]) (x_alloc ho) (hK _ _ ?_)
      rw [hd]
      refine ⟨(defers_put _).trans hS.df, hS.below.alloc hS.below.size _, ?_, ?_, ?_, ?_, ?_, ?_, ?_, ?_⟩
      · rw [upd_other (show 5 ≠ 7 by decide), upd_other (show 2 ≠ 7 by decide)]; exact hS.o52
      · rw [upd_other (show 6 ≠ 7 by decide), upd_other (show 5 ≠ 7 by decide)]; exact hS.o65
      · rw [upd_other (show 8 ≠ 7 by decide), h8]; nofun
      · rw [upd_other (show 8 ≠ 7 by decide), h8]; nofun
      · rw [upd_other (show 2 ≠ 7 by decide), upd_other (show 5 ≠ 7 by decide), slot_other _ (show 10 ≠ 45 by decide)]; intro h h'; exact (hS.s2 h h').alloc _
      · rw [upd_other (show 5 ≠ 7 by decide), slot_other _ (show 10 ≠ 48 by decide)]; intro h; exact (hS.s5 h).alloc _
      · rw [upd_other (show 6 ≠ 7 by decide), slot_other _ (show 10 ≠ 48 by decide), slot_other _ (show 10 ≠ 49 by decide)]; exact hS.s6
      · intro _
        rw [upd_other (show 8 ≠ 7 by decide), h8]
        exact ⟨w.heap.size, _, _, hS.below.size, slot_same _ (by rw [hT]; decide), heap_alloc_new w _, nofun⟩
    · obtain ⟨o, e, ho, hd, hgd, d6, d7⟩ := hR.o8
      refine ⟨o, e, (fun d hd' => by rw [hd] at hd'; cases hd'), fun ls a w hun hT hk hdp hS K hK => ?_⟩
      have h5 := hS.o65 (hdp 6 d6)
      have hown := hS.s5 h5
      obtain ⟨A, c, hv⟩ := (Row.of_own hown).form
      obtain ⟨B, c0, c1, hB, e10, hbk, _⟩ := hS.s7 (hdp 7 d7)
      have h49 := hS.s6 (hdp 6 d6)
      rw [hv] at h49
      refine opIn_skip (fun _ => trivial) e hgd (by simp [ho]) (x_store ho e10 h49 hbk) (hK _ _ ?_)
      rw [hd]
      have hnb := box_not_row (cs := [c0, c1]) hown hbk
      refine ⟨(defers_put _).trans hS.df, (hS.below.setCell (p := ⟨B, 0, none⟩) hB _).setCell (p := ⟨B, 1, none⟩) hB _, ?_, ?_, ?_, ?_, ?_, ?_, ?_, ?_⟩
      · intro _; rw [upd_other (show 2 ≠ 8 by decide)]; exact hS.o52 h5
      · intro _; rw [upd_other (show 5 ≠ 8 by decide)]; exact h5
      · intro _; rw [upd_other (show 7 ≠ 8 by decide)]; exact hdp 7 d7
      · intro _; rw [upd_other (show 6 ≠ 8 by decide)]; exact hdp 6 d6
      · rw [upd_other (show 5 ≠ 8 by decide), h5]; nofun
      · intro _
        exact ownsRow_setCell_other (ownsRow_setCell_other hown hnb _) hnb _
      · intro _; exact hS.s6 (hdp 6 d6)
      · intro _
        exact ⟨B, _, _, hB, e10, heap_set2 hbk _ _, fun _ => ⟨rfl, hv.symm⟩⟩
  · intro ls a w hall hT hk hS
    obtain ⟨B, c0, c1, hB, e10, hbk, h8⟩ := hS.s7 (hall 7 (by decide))
    obtain ⟨rfl, rfl⟩ := h8 (hall 8 (by decide))
    have h49 := hS.s6 (hall 6 (by decide))
    have h := hQ (slot a 45) B _ w ⟨hS.below, hB, hbk, hS.s5 (hall 5 (by decide))⟩
    refine Eq.mp (congrArg (fun x => Q .normal x w) ?_) h
    refine act_ext (by simp only [size_put]; omega) ?_ (by simp only [defers_put]; exact hS.df.symm)
    intro s hs
    simp only [size_put] at hs
    have e0 := hk.2 0 _ _ rfl (hall 0 (by decide))
    have e1 := hk.2 1 _ _ rfl (hall 1 (by decide))
    have e3 := hk.2 3 _ _ rfl (hall 3 (by decide))
    have e4 := hk.2 4 _ _ rfl (hall 4 (by decide))
    by_cases q10 : s = 10
    · subst q10; rw [slot_same _ (by simp only [size_put]; exact hs)]; exact e10.symm
    rw [slot_other _ (Ne.symm q10)]
    by_cases q49 : s = 49
    · subst q49; rw [slot_same _ (by simp only [size_put]; exact hs)]; exact h49.symm
    rw [slot_other _ (Ne.symm q49)]
    by_cases q48 : s = 48
    · subst q48; rw [slot_same _ (by simp only [size_put]; exact hs)]
    rw [slot_other _ (Ne.symm q48)]
    by_cases q47 : s = 47
    · subst q47; rw [slot_same _ (by simp only [size_put]; exact hs)]; exact e4.symm
    rw [slot_other _ (Ne.symm q47)]
    by_cases q46 : s = 46
    · subst q46; rw [slot_same _ (by simp only [size_put]; exact hs)]; exact e3.symm
    rw [slot_other _ (Ne.symm q46)]
    by_cases q45 : s = 45
    · subst q45; rw [slot_same _ (by simp only [size_put]; exact hs)]
    rw [slot_other _ (Ne.symm q45)]
    by_cases q44 : s = 44
    · subst q44; rw [slot_same _ (by simp only [size_put]; exact hs)]; exact e1.symm
    rw [slot_other _ (Ne.symm q44)]
    by_cases q43 : s = 43
    · subst q43; rw [slot_same _ hs]; exact e0.symm
    rw [slot_other _ (Ne.symm q43)]
    exact (hk.1 s _ (amb_out (by simp only [dsR, List.mem_cons, List.not_mem_nil, or_false]; omega))).symm

end

section

open Go.RowKit Go.Shelf

theorem results_ctt {fn : Func} {p u s : Tmp} {ty : TypeId} (h : fn.results = #[.cell p ty, .tmp u, .tmp s]) (tmps : Array Value) (P : Program) (w : World) :
    (results fn tmps).run P w =
      ((asAddr (tmps.getD p undef)).run P w).andThen fun a w₁ => ((loadVar ty a).run P w₁).andThen fun v w₂ => .ok (.tuple #[v, tmps.getD u undef, tmps.getD s undef]) w₂ := by
  simp only [results, h]
  simp [Sem.run_bind, Result.andThen]
theorem results_ccc {fn : Func} {p u s : Tmp} {ty tu ts : TypeId} (h : fn.results = #[.cell p ty, .cell u tu, .cell s ts]) (tmps : Array Value) (P : Program) (w : World) :
    (results fn tmps).run P w =
      ((asAddr (tmps.getD p undef)).run P w).andThen fun a w₁ => ((loadVar ty a).run P w₁).andThen fun v w₂ =>
        ((asAddr (tmps.getD u undef)).run P w₂).andThen fun a' w₃ => ((loadVar tu a').run P w₃).andThen fun v' w₄ =>
          ((asAddr (tmps.getD s undef)).run P w₄).andThen fun a'' w₅ => ((loadVar ts a'').run P w₅).andThen fun v'' w₆ => .ok (.tuple #[v, v', v'']) w₆ := by
  simp only [results, h]
  simp [Sem.run_bind, Result.andThen]

theorem step_frozen {w1 w2 : World} (xs : List Value) {t : TypeId} (hb2 : Below (w1.alloc (.cells xs.toArray t)).heap.size (w1.alloc (.cells xs.toArray t)) w2) (j : Nat) : w2.frozen? ⟨w1.heap.size, j, none⟩ = false := by
  rw [hb2.frozen (p := ⟨w1.heap.size, j, none⟩) (by simp)]
  unfold World.frozen?
  rw [show (⟨w1.heap.size, j, none⟩ : Addr).block = w1.heap.size from rfl, heap_alloc_new]
  simp

def setT (l : List Bool) (i : Int) : List Bool := l.set i.toNat true
def takE (n : Int) (l : List Bool) (i num : Int) : Int := if ¬ inp n l i = 0 then inp n l i else if l.getD i.toNat false = true then 21 else if ¬ num = n + 1 then 22 else if n = 1099511627776 then 17 else 0
def takL (n : Int) (l : List Bool) (i num : Int) : List Bool := if takE n l i num = 0 then (if has false (setT l i) = true then setT l i else falses l.length) else []
def takN (n : Int) (l : List Bool) (i num : Int) : Int := if takE n l i num = 0 then (if has false (setT l i) = true then n else num) else 0
def takA (n : Int) (l : List Bool) (i num : Int) : Bool := if takE n l i num = 0 then !has false (setT l i) else false

theorem tak_bad {n : Int} {l : List Bool} {i num : Int} (h : ¬ takE n l i num = 0) : takL n l i num = [] ∧ takN n l i num = 0 ∧ takA n l i num = false := ⟨if_neg h, if_neg h, if_neg h⟩
theorem tak_part {n : Int} {l : List Bool} {i num : Int} (h : takE n l i num = 0) (h2 : has false (setT l i) = true) : takL n l i num = setT l i ∧ takN n l i num = n ∧ takA n l i num = false := by
  simp [takL, takN, takA, h, h2]
theorem tak_full {n : Int} {l : List Bool} {i num : Int} (h : takE n l i num = 0) (h2 : has false (setT l i) = false) : takL n l i num = falses l.length ∧ takN n l i num = num ∧ takA n l i num = true := by
  simp [takL, takN, takA, h, h2]
theorem tak_zero {n : Int} {l : List Bool} {i num : Int} (h : takE n l i num = 0) : inp n l i = 0 ∧ l.getD i.toNat false = false ∧ num = n + 1 ∧ ¬ n = 1099511627776 := by
  unfold takE at h
  split at h
  · rename_i h1; exact absurd h h1
  · split at h
    · cases h
    · split at h
      · cases h
      · split at h
        · cases h
        · rename_i h1 h2 h3 h4
          exact ⟨by omega, by simpa using h2, by omega, h4⟩

/-- What Take hands back. -/
def RetTak (w : World) (n : Int) (l : List Bool) (i num : Int) (e : Ending) (w' : World) : Prop := RetAl w (takN n l i num) (takL n l i num) #[.bool (takA n l i num), .int .i64 (takE n l i num)] e w'
theorem ret_bad {w w' : World} {n : Int} {l : List Bool} {i num c : Int} (hc : takE n l i num = c) (h : ¬ c = 0) (hb : Below w.heap.size w w') :
    RetTak w n l i num (.returned (.tuple #[.agg #[.int .i64 0, .slice none 0 0], .bool false, .int .i64 c])) w' := by
  subst hc
  obtain ⟨h1, h2, h3⟩ := tak_bad h
  unfold RetTak
  rw [h1, h2, h3]
  exact ⟨_, rfl, row_nil _ _, hb, fun k hk => by cases hk⟩

/-- The flag of the input is set in a copy's row. -/
theorem set_row {w : World} {base g c : Nat} {l : List Bool} {k : Nat} (h : w.ownsRow base 4 1 (.slice (some ⟨g, 0, none⟩) l.length c) l.length (bools l)) (hk : k < l.length) :
    Row (w.setCell ⟨g, k, none⟩ (.bool true)) w.heap.size 1 (.slice (some ⟨g, 0, none⟩) (l.set k true).length c) (l.set k true).length (bools (l.set k true)) := by
  obtain ⟨g', c', e, hb, hg, hnc, hc⟩ := own_cells h (by omega)
  cases e
  refine ⟨by simp [bools], .inr ⟨g, 0, c, rfl, hg, by simpa using hnc, fun j u hj => ?_⟩⟩
  rw [Nat.zero_add]
  by_cases e : j = k
  · subst e
    have hu : u = .bool true := by simp [bools, hk] at hj; exact hj.symm
    rw [hu]
    exact World.cell?_setCell_same' _ _ _ (by rw [hc j _ (by simp [bools, hk]; rfl)]; rfl)
  · rw [World.cell?_setCell_other _ _ _ _ (by intro e'; injection e' with _ e' _; exact e e'.symm)]
    refine hc j u ?_
    simpa [bools, List.getElem?_set, Ne.symm e] using hj

theorem row_set_other {w : World} {B sz m n g off c : Nat} {xs : List Value} (h : Row w B sz (.slice (some ⟨g, off, none⟩) m c) n xs) {a : Addr} (ha : a.block ≠ g) (u : Value) : Row (w.setCell a u) B sz (.slice (some ⟨g, off, none⟩) m c) n xs := by
  refine ⟨h.1, ?_⟩
  rcases h.2 with ⟨h0, _⟩ | ⟨g', off', cap', e, hg, hn, hc⟩
  · cases h0
  · cases e
    exact .inr ⟨g, off, c, rfl, hg, hn, fun j u' hj => by rw [World.cell?_setCell_other _ _ _ _ (by rintro rfl; exact ha rfl)]; exact hc j u' hj⟩

end

section

open Go.RowKit Go.Shelf
set_option maxHeartbeats 1000000 in
theorem ptake_bad (n : Int) (A : Option Addr) (cap : Nat) (l : List Bool) (i num : Int) (w : World) (hl : l.length ≤ 1000) (hv : Row w w.heap.size 1 (.slice A l.length cap) l.length (bools l)) (hc : ¬ inp n l i = 0) :
    Calls Tryz.prog 33 #[.agg #[.int .i64 n, .slice A l.length cap], .int .i64 i, .int .i64 num] w (RetTak w n l i num) := by
  have HV := hide ((((hv.laid (.cells #[.int .i64 n, .slice A l.length cap] 40)).laid (.cells #[.int .i64 0, .slice none 0 0] 40)).laid (.cells #[.bool false] 4)).laid (.cells #[.int .i64 0] 61))
  clear hv
  have HK := hide (@input_any n (.slice A l.length cap) l i)
  have HE : Hid (takE n l i num = inp n l i) := hide (by unfold takE; rw [if_pos hc])
  have t1 : (inp n l i != 0) = true := by rw [bne_iff_ne]; exact hc
  have HN := hide hc
  clear hc
  generalize inp n l i = c at *
  go_enter Tryz.func33, Tryz.ntmps33
  go_wp2_with fail
  refine (HK.out _ hl HV.out).mono ?_
  rintro e w1 ⟨rfl, hb⟩
  have hbw : Below w.heap.size w w1 := bthen (((((Below.refl w.heap.size w).alloc (Nat.le_refl _) _).alloc (by simp only [World.size_alloc]; omega) _).alloc (by simp only [World.size_alloc]; omega) _).alloc (by simp only [World.size_alloc]; omega) _) hb
  obtain ⟨-, hz4, hx4⟩ := step_box [.int .i64 0] hb
  have v0 := hx4 0 _ rfl
  have fz8 := step_frozen [.int .i64 0] hb 0
  have hb3 := step_box [.int .i64 0] hb |>.1
  obtain ⟨-, hz3, hx3⟩ := step_box [.bool false] hb3
  have u0 := hx3 0 _ rfl
  have fz7 := step_frozen [.bool false] hb3 0
  have hb2 := step_box [.bool false] hb3 |>.1
  obtain ⟨-, hz2, hx2⟩ := step_box [.int .i64 0, .slice none 0 0] hb2
  have y0 := hx2 0 _ rfl
  have y1 := hx2 1 _ rfl
  have fz60 := step_frozen [.int .i64 0, .slice none 0 0] hb2 0
  have fz61 := step_frozen [.int .i64 0, .slice none 0 0] hb2 1
  have hb1 := step_box [.int .i64 0, .slice none 0 0] hb2 |>.1
  obtain ⟨-, hz, hx1⟩ := step_box [.int .i64 n, .slice A l.length cap] hb1
  have x0 := hx1 0 _ rfl
  have x1 := hx1 1 _ rfl
  simp only [World.size_alloc] at v0 u0 y0 y1 fz8 fz7 fz60 fz61 hz4 hz3 hz2
  clear hx1 hx2 hx3 hx4 hb1 hb2 hb3
  go_wp2
  refine bodyPost_ret (v := .tuple #[.agg #[.int .i64 0, .slice none 0 0], .bool false, .int .i64 (c)]) (by rw [results_ccc rfl]; go_simp) rfl ?_; exact ret_bad HE.out HN.out ((((hbw.setCell (p := ⟨w.heap.size + 1, 0, none⟩) (by simp) _).setCell (p := ⟨w.heap.size + 1, 1, none⟩) (by simp) _).setCell (p := ⟨w.heap.size + 1 + 1, 0, none⟩) (by show w.heap.size ≤ w.heap.size + 1 + 1; omega) _).setCell (p := ⟨w.heap.size + 1 + 1 + 1, 0, none⟩) (by show w.heap.size ≤ w.heap.size + 1 + 1 + 1; omega) _)
set_option maxHeartbeats 1000000 in
theorem ptake_no (n : Int) (A : Option Addr) (cap : Nat) (l : List Bool) (k : Nat) (num : Int) (w : World) (hl : l.length ≤ 1000) (hv : Row w w.heap.size 1 (.slice A l.length cap) l.length (bools l)) (hc : inp n l k = 0) (hk : k < l.length) (hbad : ¬ takE n l k num = 0) :
    Calls Tryz.prog 33 #[.agg #[.int .i64 n, .slice A l.length cap], .int .i64 (k : Int), .int .i64 num] w (RetTak w n l k num) := by
  have HV := hide ((((hv.laid (.cells #[.int .i64 n, .slice A l.length cap] 40)).laid (.cells #[.int .i64 0, .slice none 0 0] 40)).laid (.cells #[.bool false] 4)).laid (.cells #[.int .i64 0] 61))
  clear hv
  have HK := hide (@input_any n (.slice A l.length cap) l k)
  have HG : Hid (l.getD k false = l[k]) := hide (by simp [hk])
  have HE : Hid (takE n l k num = if l[k] = true then 21 else if ¬ num = n + 1 then 22 else if n = 1099511627776 then 17 else 0) := hide (by unfold takE; rw [if_neg (by rw [hc]; simp), Int.toNat_natCast, HG.out])
  have hr := (chk_zero (inp_zero hc).1).2.1
  rw [hc] at HK
  have HBAD := hide hbad
  clear hc hbad
  go_enter Tryz.func33, Tryz.ntmps33
  go_wp2_with fail
  refine (HK.out _ hl HV.out).mono ?_
  rintro e w1 ⟨rfl, hb⟩
  have hbw : Below w.heap.size w w1 := bthen (((((Below.refl w.heap.size w).alloc (Nat.le_refl _) _).alloc (by simp only [World.size_alloc]; omega) _).alloc (by simp only [World.size_alloc]; omega) _).alloc (by simp only [World.size_alloc]; omega) _) hb
  obtain ⟨-, hz4, hx4⟩ := step_box [.int .i64 0] hb
  have v0 := hx4 0 _ rfl
  have fz8 := step_frozen [.int .i64 0] hb 0
  have hb3 := step_box [.int .i64 0] hb |>.1
  obtain ⟨-, hz3, hx3⟩ := step_box [.bool false] hb3
  have u0 := hx3 0 _ rfl
  have fz7 := step_frozen [.bool false] hb3 0
  have hb2 := step_box [.bool false] hb3 |>.1
  obtain ⟨-, hz2, hx2⟩ := step_box [.int .i64 0, .slice none 0 0] hb2
  have y0 := hx2 0 _ rfl
  have y1 := hx2 1 _ rfl
  have fz60 := step_frozen [.int .i64 0, .slice none 0 0] hb2 0
  have fz61 := step_frozen [.int .i64 0, .slice none 0 0] hb2 1
  have hb1 := step_box [.int .i64 0, .slice none 0 0] hb2 |>.1
  obtain ⟨-, hz, hx1⟩ := step_box [.int .i64 n, .slice A l.length cap] hb1
  have x0 := hx1 0 _ rfl
  have x1 := hx1 1 _ rfl
  simp only [World.size_alloc] at v0 u0 y0 y1 fz8 fz7 fz60 fz61 hz4 hz3 hz2
  clear hx1 hx2 hx3 hx4 hb1 hb2 hb3
  obtain ⟨g, off, cap', e1, hg, hcell⟩ := HV.out.flag hb hk
  cases e1
  clear hb
  cases hlk : l[k]
  · rw [hlk] at hcell HE
    by_cases hnum : num = n + 1
    · by_cases hmax : n = 1099511627776
      · have HC : Hid (takE n l k num = 17) := hide (by rw [HE.out, if_neg (by decide), if_neg (by omega), if_pos hmax])
        have u1 : (num != n + 1) = false := by rw [bne_eq_false_iff_eq]; exact hnum
        have u2 : (n == 1099511627776) = true := by rw [beq_iff_eq]; exact hmax
        clear hnum hmax
        go_wp2
        refine bodyPost_ret (v := .tuple #[.agg #[.int .i64 0, .slice none 0 0], .bool false, .int .i64 (17)]) (by rw [results_ccc rfl]; go_simp) rfl ?_; exact ret_bad HC.out (by decide) ((((hbw.setCell (p := ⟨w.heap.size + 1, 0, none⟩) (by simp) _).setCell (p := ⟨w.heap.size + 1, 1, none⟩) (by simp) _).setCell (p := ⟨w.heap.size + 1 + 1, 0, none⟩) (by show w.heap.size ≤ w.heap.size + 1 + 1; omega) _).setCell (p := ⟨w.heap.size + 1 + 1 + 1, 0, none⟩) (by show w.heap.size ≤ w.heap.size + 1 + 1 + 1; omega) _)
      · exact absurd (by rw [HE.out, if_neg (by decide), if_neg (by omega), if_neg hmax]) HBAD.out
    · have HC : Hid (takE n l k num = 22) := hide (by rw [HE.out, if_neg (by decide), if_pos hnum])
      have u1 : (num != n + 1) = true := by rw [bne_iff_ne]; exact hnum
      clear hnum
      go_wp2
      refine bodyPost_ret (v := .tuple #[.agg #[.int .i64 0, .slice none 0 0], .bool false, .int .i64 (22)]) (by rw [results_ccc rfl]; go_simp) rfl ?_; exact ret_bad HC.out (by decide) ((((hbw.setCell (p := ⟨w.heap.size + 1, 0, none⟩) (by simp) _).setCell (p := ⟨w.heap.size + 1, 1, none⟩) (by simp) _).setCell (p := ⟨w.heap.size + 1 + 1, 0, none⟩) (by show w.heap.size ≤ w.heap.size + 1 + 1; omega) _).setCell (p := ⟨w.heap.size + 1 + 1 + 1, 0, none⟩) (by show w.heap.size ≤ w.heap.size + 1 + 1 + 1; omega) _)
  · rw [hlk] at hcell HE
    have HC : Hid (takE n l k num = 21) := hide (by rw [HE.out, if_pos rfl])
    go_wp2
    refine bodyPost_ret (v := .tuple #[.agg #[.int .i64 0, .slice none 0 0], .bool false, .int .i64 (21)]) (by rw [results_ccc rfl]; go_simp) rfl ?_; exact ret_bad HC.out (by decide) ((((hbw.setCell (p := ⟨w.heap.size + 1, 0, none⟩) (by simp) _).setCell (p := ⟨w.heap.size + 1, 1, none⟩) (by simp) _).setCell (p := ⟨w.heap.size + 1 + 1, 0, none⟩) (by show w.heap.size ≤ w.heap.size + 1 + 1; omega) _).setCell (p := ⟨w.heap.size + 1 + 1 + 1, 0, none⟩) (by show w.heap.size ≤ w.heap.size + 1 + 1 + 1; omega) _)

end

section

open Go.RowKit Go.Shelf
attribute [local go_sem] Oper.semAt_some
/-- The same cell written in both worlds. -/
theorem below_set_both {m : Nat} {a b : World} (h : Below m a b) (p : Addr) (v : Value) : Below m (a.setCell p v) (b.setCell p v) := by
  refine ⟨h.os, h.tape, h.output, ?_, fun k hk => ?_⟩
  · have := h.size; simpa [World.setCell] using this
  · have hb := h.block k hk
    by_cases e : k = p.block
    · subst e
      show (b.heap.modify p.block _)[p.block]? = (a.heap.modify p.block _)[p.block]?
      rw [Array.getElem?_modify, Array.getElem?_modify, if_pos rfl, if_pos rfl, hb]
    · rw [Below.heap_setCell _ _ _ _ e, Below.heap_setCell _ _ _ _ e, hb]

theorem all_true {l : List Bool} (h : has false l = false) {k : Nat} (hk : k < l.length) : l.getD k true = true := by
  have h1 : ¬ (false = l[k]) := by
    have := List.any_eq_false.1 h l[k] (List.getElem_mem hk)
    simpa using this
  have : l[k] = true := by cases e : l[k]; (exact absurd e.symm h1); rfl
  simp [hk, this]
theorem sel_none {l : List Bool} (h : has false l = false) : ∀ k, k ≤ l.length → k ≤ 8 → sel l k = []
  | 0, _, _ => by simp [sel]
  | k + 1, h1, h2 => by rw [sel_miss (by omega) (all_true h (by omega))]; exact sel_none h k (by omega) (by omega)
theorem sel_some {l : List Bool} {m : Nat} (hm : l.length = m) (h8 : m ≤ 8) (h : has false l = true) : sel l m ≠ [] := by
  obtain ⟨y, hy, he⟩ := List.any_eq_true.1 h
  obtain ⟨j, hj, hjy⟩ := List.getElem_of_mem hy
  have hy' : y = false := by simpa using he
  subst hy'
  have h1 := sel_hit (l := l) (k := j) (by omega) (by simp [hj, hjy])
  have hp := sel_pre l (k := j + 1) (m := m) (by omega)
  intro h0
  rw [h0, h1] at hp
  simp at hp
/-- A loop over one value a round, where the code that takes the yielded value over does nothing. -/
theorem rangeFunc_one {F : Fence} {n : Nat} {P : Program} {α : Type} {g : Operand} {p : Tmp} {body : Code} {Q : Exit → Act → World → Prop} {a : Act} {w : World}
    (hro : F.round = none) (h1 : 1 ≤ n) {gf : Nat} {lb : Array Value} (hg : a.eval g = .func (.func gf) #[] lb) (hFg : F.fn gf) (eg : ∀ args w, (callFunc gf args).run P w = .ok (.enter gf args) w)
    {v : α → Value} {Kp : World → World → Prop} {S Sp : List α → Prop} {N : Nat} {w0 : World} (hseq : SeqStopsK F (n - 1) P gf lb (fun x => #[v x]) Kp S Sp N w0)
    (hKt : ∀ {A B C : World}, Kp A B → Kp B C → Kp A C) (hKb : ∀ (W : World) (l : Nat) (o o' : Obj), w.heap.size ≤ l → W.heap[l]? = some o → o.isCells = false → o.isWalk = false → Kp W (W.putObj l o')) (hb0 : Below w0.heap.size w0 w)
    (I : List α → World → Prop) (Ix : Code → List α → World → Prop) (hI : OwnFrom w.heap.size I) (hIx : ∀ c, OwnFrom w.heap.size (Ix c)) (h0 : I [] w)
    (hbody : ∀ (l : Nat) (pre : List α) (x : α) (W : World), I pre W → pre.length < N → body.wpIn (F.inRound l) (n - 1 - 1) P (ownPostG w.heap.size Kp I Ix (pre ++ [x]) W) { tmps := a.tmps.setIfInBounds p (v x), defers := [] } W)
    (hdone : ∀ (D : Nat) (xs : List α) (W : World), w.heap.size ≤ D → S xs → I xs W → W.heap[D]? = some (.deferred (some [])) → Q .normal { a with defers := { target := .collected D, args := #[] } :: a.defers } W)
    (hstop : ∀ (D : Nat) (c : Code) (pre : List α) (W : World), w.heap.size ≤ D → Sp pre → Ix c pre W → W.heap[D]? = some (.deferred (some [])) → c.wpIn F n P Q { a with defers := { target := .collected D, args := #[] } :: a.defers } W) :
    (Code.rangeFunc g #[p] Code.skip body).wpIn F n P Q a w :=
  wpIn_rangeFunc_ownG hro h1 hg hFg eg hseq hKt hKb hb0 (fun _ => rfl) I Ix hI hIx h0 (fun x => { tmps := a.tmps.setIfInBounds p (v x), defers := [] }) (fun l x W K hK => by refine wpIn_skip ?_; simpa [Exit.then] using hK) hbody hdone hstop

theorem keepsFrom_set {B : Nat} {W W' : World} (h : KeepsFrom B W W') {p : Addr} (hp : p.block < B) (v : Value) : KeepsFrom B W (W'.setCell p v) :=
  h.trans ⟨by simp [World.setCell], fun k o hk h _ => by rw [Below.heap_setCell _ _ _ _ (by omega)]; exact h⟩

theorem cell_putObj {W : World} {D : Nat} {ds : List Deferred} (hD : W.heap[D]? = some (.deferred (some ds))) (o' : Obj) {p : Addr} (hc : W.cell? p ≠ none) : (W.putObj D o').cell? p = W.cell? p := by
  refine World.cell?_of_block ?_
  have hne : p.block ≠ D := fun e => hc (by simp [World.cell?, e, hD])
  have hlt : p.block < W.heap.size := by
    rcases Nat.lt_or_ge p.block W.heap.size with h | h
    · exact h
    · exact absurd (by simp [World.cell?, h]) hc
  exact (grownBy_putObj' W D o').block _ hlt (fun e => by injection e with e; exact hne e)
theorem _root_.Go.Proofs.YtppaiihcaajkaaaGreat.Row.putObj {W : World} {B sz n : Nat} {v : Value} {xs : List Value} (h : Row W B sz v n xs) {D : Nat} {ds : List Deferred} (hD : W.heap[D]? = some (.deferred (some ds))) (o' : Obj) : Row (W.putObj D o') B sz v n xs := by
  refine ⟨h.1, ?_⟩
  rcases h.2 with h0 | ⟨g, off, cap, rfl, hg, hn, hc⟩
  · exact .inl h0
  · exact .inr ⟨g, off, cap, rfl, hg, hn, fun j u hj => by have := hc j u hj; rw [cell_putObj hD o' (by rw [this]; simp)]; exact this⟩
theorem heap_putObj_size (W : World) (D : Nat) (o' : Obj) : (W.putObj D o').heap.size = W.heap.size := by simp [World.putObj]
/-- The end of Take behind its loop: the mark is taken off, the three results lie in their cells. -/
theorem leave_take {F : Fence} {n : Nat} {P : Program} {fn : Func} {R : Ending → World → Prop} {tmps : Array Value} {D o : Nat} {x y : Value} {b : Bool} {c : Int} {W : World} (hfn : fn.results = #[.cell 6 40, .cell 7 4, .cell 8 61])
    (hla : ∀ w' : World, w'.cell? ⟨o, 0, none⟩ = some x → w'.cell? ⟨o, 1, none⟩ = some y → (loadVar 40 ⟨o, 0, none⟩).run P w' = .ok (.agg #[x, y]) w') (hlb : ∀ w' : World, w'.cell? ⟨o + 1, 0, none⟩ = some (.bool b) → (loadVar 4 ⟨o + 1, 0, none⟩).run P w' = .ok (.bool b) w') (hlc : ∀ w' : World, w'.cell? ⟨o + 1 + 1, 0, none⟩ = some (.int .i64 c) → (loadVar 61 ⟨o + 1 + 1, 0, none⟩).run P w' = .ok (.int .i64 c) w')
    (t6 : tmps.getD 6 undef = .pointer (some ⟨o, 0, none⟩)) (t7 : tmps.getD 7 undef = .pointer (some ⟨o + 1, 0, none⟩)) (t8 : tmps.getD 8 undef = .pointer (some ⟨o + 1 + 1, 0, none⟩))
    (hD : W.heap[D]? = some (.deferred (some []))) (c0 : W.cell? ⟨o, 0, none⟩ = some x) (c1 : W.cell? ⟨o, 1, none⟩ = some y) (c7 : W.cell? ⟨o + 1, 0, none⟩ = some (.bool b)) (c8 : W.cell? ⟨o + 1 + 1, 0, none⟩ = some (.int .i64 c))
    (hR : R (.returned (.tuple #[.agg #[x, y], .bool b, .int .i64 c])) (W.putObj D (.deferred none))) :
    bodyPostM F n P fn R .ret { tmps := tmps, defers := [{ target := .collected D, args := #[] }] } W := by
  refine ⟨by simp, .inl ⟨_, _, rfl, run_takeDeferred hD, ?_⟩⟩
  refine ⟨_, ?_, hR⟩
  have k0 := (cell_putObj hD (.deferred none) (by rw [c0]; simp)).trans c0
  have k1 := (cell_putObj hD (.deferred none) (by rw [c1]; simp)).trans c1
  have k7 := (cell_putObj hD (.deferred none) (by rw [c7]; simp)).trans c7
  have k8 := (cell_putObj hD (.deferred none) (by rw [c8]; simp)).trans c8
  rw [results_ccc hfn, t6, t7, t8]
  simp only [asAddr, Sem.run_pure, Result.andThen, hla _ k0 k1, hlb _ k7, hlc _ k8]

set_option maxRecDepth 100000 in
set_option maxHeartbeats 2000000 in
theorem ptake_yes (n : Int) (A : Option Addr) (cap : Nat) (l : List Bool) (k : Nat) (num : Int) (w : World) (hl : l.length ≤ 1000) (hv : Row w w.heap.size 1 (.slice A l.length cap) l.length (bools l)) (hk : k < l.length) (hok : takE n l k num = 0) :
    Calls Tryz.prog 33 #[.agg #[.int .i64 n, .slice A l.length cap], .int .i64 (k : Int), .int .i64 num] w (RetTak w n l k num) := by
  have HV := hide ((((hv.laid (.cells #[.int .i64 n, .slice A l.length cap] 40)).laid (.cells #[.int .i64 0, .slice none 0 0] 40)).laid (.cells #[.bool false] 4)).laid (.cells #[.int .i64 0] 61))
  clear hv
  have HK := hide (@input_any n (.slice A l.length cap) l k)
  obtain ⟨hc, hlk, hnum, hmax⟩ := tak_zero hok
  have HC := hide hok
  rw [hc] at HK
  have h8 := (chk_zero (inp_zero hc).1).1
  have hr := (chk_zero (inp_zero hc).1).2.1
  rw [Int.toNat_natCast] at hlk
  have hlk' : l[k] = false := by simpa [hk] using hlk
  have u1 : (num != n + 1) = false := by rw [bne_eq_false_iff_eq]; exact hnum
  have u2 : (n == 1099511627776) = false := by rw [beq_eq_false_iff_ne]; exact hmax
  clear hc hok hlk hmax hnum
  refine callsIn_wide.1 (callsIn_of_wp_marks (F := Fence.wide) (n := 10) Tryz.func33 rfl trivial ?_ rfl)
  simp only [Tryz.ntmps33, List.size_toArray, List.length_cons, List.length_nil, Nat.reduceAdd, Nat.reduceSub, Array.replicate_succ, Array.replicate_zero, List.push_toArray, List.append_toArray, List.nil_append, List.cons_append]
  refine wpIn_wide.2 ?_
  go_wp2_with fail
  refine (HK.out _ hl HV.out).mono ?_
  rintro e w1 ⟨rfl, hb⟩
  have hbw : Below w.heap.size w w1 := bthen (((((Below.refl w.heap.size w).alloc (Nat.le_refl _) _).alloc (by simp only [World.size_alloc]; omega) _).alloc (by simp only [World.size_alloc]; omega) _).alloc (by simp only [World.size_alloc]; omega) _) hb
  obtain ⟨-, hz4, hx4⟩ := step_box [.int .i64 0] hb
  have v0 := hx4 0 _ rfl
  have fz8 := step_frozen [.int .i64 0] hb 0
  have hb3 := step_box [.int .i64 0] hb |>.1
  obtain ⟨-, hz3, hx3⟩ := step_box [.bool false] hb3
  have u0 := hx3 0 _ rfl
  have fz7 := step_frozen [.bool false] hb3 0
  have hb2 := step_box [.bool false] hb3 |>.1
  obtain ⟨-, hz2, hx2⟩ := step_box [.int .i64 0, .slice none 0 0] hb2
  have y0 := hx2 0 _ rfl
  have y1 := hx2 1 _ rfl
  have fz60 := step_frozen [.int .i64 0, .slice none 0 0] hb2 0
  have fz61 := step_frozen [.int .i64 0, .slice none 0 0] hb2 1
  have hb1 := step_box [.int .i64 0, .slice none 0 0] hb2 |>.1
  obtain ⟨-, hz, hx1⟩ := step_box [.int .i64 n, .slice A l.length cap] hb1
  have x0 := hx1 0 _ rfl
  have x1 := hx1 1 _ rfl
  simp only [World.size_alloc] at v0 u0 y0 y1 fz8 fz7 fz60 fz61 hz4 hz3 hz2
  clear hx1 hx2 hx3 hx4 hb1 hb2 hb3
  obtain ⟨g, off, cap', e1, hg, hcell⟩ := HV.out.flag hb hk
  cases e1
  have HR := hide (HV.out.grow hb)
  have hg1 : g < w1.heap.size := Nat.lt_of_lt_of_le hg hb.size
  clear hb
  rw [hlk'] at hcell
  go_wp2
  refine (wpIn_wide (n := 10)).1 ?_
  obtain ⟨g2, off2, cap2, e2, -, -, hcs⟩ := HR.out.at_ (by omega)
  cases e2
  refine region_take ⟨rfl, by kernel_rfl, ⟨_, rfl, rfl, rfl, rfl⟩, ⟨_, rfl, rfl, rfl, rfl, (by kernel_rfl)⟩, ⟨_, rfl, rfl, rfl, rfl⟩, ⟨_, rfl, rfl, rfl, rfl, (by kernel_rfl)⟩, ⟨_, rfl, rfl, rfl, rfl, (by kernel_rfl)⟩, ⟨_, rfl, rfl, rfl, rfl, (by kernel_rfl), (by kernel_rfl)⟩, ⟨_, rfl, rfl, rfl, rfl⟩, ⟨_, rfl, rfl, rfl, rfl, (by kernel_rfl), (by kernel_rfl)⟩⟩ _ w1 rfl w.heap.size g off cap n l hl (by omega) rfl hz hg1 x0 x1 hcs ?_
  intro B v w2 hCo
  have HBl := hide hCo.below
  have hB := hCo.ge
  have bx0 : w2.cell? ⟨B, 0, none⟩ = some (.int .i64 n) := by simp [World.cell?, hCo.box]
  have bx1 : w2.cell? ⟨B, 1, none⟩ = some v := by simp [World.cell?, hCo.box]
  obtain ⟨gv, cv, rfl, hgv, hgl, -, hcv⟩ := own_cells hCo.own (by omega)
  have ck := hcv k _ (by simp [bools, hk]; rfl)
  rw [hlk'] at ck
  have fk : w2.frozen? ⟨gv, k, none⟩ = false := by
    obtain ⟨_, h2⟩ := hCo.own
    rcases h2 with ⟨h2, _⟩ | ⟨g', cap', cur, h2, _, h3, _⟩
    · cases h2
    · cases h2; simp [World.frozen?, h3]
  have HS := hide (set_row hCo.own hk)
  have hne : B ≠ gv := fun e => box_not_row (cs := [.int .i64 n, .slice (some ⟨gv, 0, none⟩) l.length cv]) hCo.own hCo.box (by rw [e]; rfl)
  have hBlt : B < w2.heap.size := (Array.getElem?_eq_some_iff.1 hCo.box).1
  clear hcs hcv hCo
  simp only [Act.put]
  have hB3 : Below w1.heap.size w1 (w2.setCell ⟨gv, k, none⟩ (.bool true)) := HBl.out.setCell (p := ⟨gv, k, none⟩) hgv _
  have bx0' : (w2.setCell ⟨gv, k, none⟩ (.bool true)).cell? ⟨B, 0, none⟩ = some (.int .i64 n) := by rw [World.cell?_setCell_other _ _ _ _ (by intro e'; injection e' with e' _ _; exact hne (by first | exact e' | exact e'.symm))]; exact bx0
  have bx1' : (w2.setCell ⟨gv, k, none⟩ (.bool true)).cell? ⟨B, 1, none⟩ = some (.slice (some ⟨gv, 0, none⟩) l.length cv) := by rw [World.cell?_setCell_other _ _ _ _ (by intro e'; injection e' with e' _ _; exact hne (by first | exact e' | exact e'.symm))]; exact bx1
  have hs3 : (w2.setCell ⟨gv, k, none⟩ (.bool true)).heap.size = w2.heap.size := by simp [World.setCell]
  have HS3 : Hid (Row (w2.setCell ⟨gv, k, none⟩ (.bool true)) (w2.setCell ⟨gv, k, none⟩ (.bool true)).heap.size 1 (.slice (some ⟨gv, 0, none⟩) l.length cv) (setT l k).length (bools (setT l k))) := hide (by
    have := HS.out; unfold setT; rw [Int.toNat_natCast, hs3]; simpa using this)
  have hlT : (setT l (k : Int)).length = l.length := by simp [setT]
  go_wp2_with fail
  refine (free_any n _ _ _ l.length cv rfl).mono ?_
  rintro e w4 ⟨rfl, hw4⟩
  go_wp2_with fail
  have hB34 : Below (w2.setCell ⟨gv, k, none⟩ (.bool true)).heap.size (w2.setCell ⟨gv, k, none⟩ (.bool true)) w4 := by rw [← hw4]; exact (Below.refl _ _).alloc (Nat.le_refl _) _
  have hsz4 : w4.heap.size = w2.heap.size + 1 := by rw [← hw4, World.size_alloc, hs3]
  have HS4 := hide (HS3.out.grow hB34)
  have hcb := cells_lit (w2.setCell ⟨gv, k, none⟩ (.bool true)) [.int .i64 n, .slice (some ⟨gv, 0, none⟩) l.length cv] 40
  rw [hw4, hs3] at hcb
  have q0 := hcb 0 _ rfl
  have q1 := hcb 1 _ rfl
  rw [hs3] at hB34
  have m0 := ((bcell (w1 := w4) (W := w2.setCell ⟨gv, k, none⟩ (.bool true)) (by rw [hs3]; exact hB34)).1 B 0 (by rw [hs3]; exact hBlt)).trans bx0'
  have m1 := ((bcell (w1 := w4) (W := w2.setCell ⟨gv, k, none⟩ (.bool true)) (by rw [hs3]; exact hB34)).1 B 1 (by rw [hs3]; exact hBlt)).trans bx1'
  have h14 : Below w1.heap.size w1 w4 := hB3.trans (hB34.mono (by have := HBl.out.size; omega))
  have c60 := ((bcell h14).1 _ 0 (by omega)).trans y0
  have c61 := ((bcell h14).1 _ 1 (by omega)).trans y1
  have c7 := ((bcell h14).1 _ 0 (by omega)).trans u0
  have c8 := ((bcell h14).1 _ 0 (by omega)).trans v0
  have d60 := ((bcell h14).2 _ 0 (by omega)).trans fz60
  have d61 := ((bcell h14).2 _ 1 (by omega)).trans fz61
  have d7 := ((bcell h14).2 _ 0 (by omega)).trans fz7
  have d8 := ((bcell h14).2 _ 0 (by omega)).trans fz8
  have e31 := ((bcell h14).1 _ 1 hz).trans x1
  have HW4 := hide (hbw.trans (h14.mono hbw.size))
  have HCS : Hid (∀ j u, (bools (setT l k))[j]? = some u → w4.cell? ⟨gv, 0 + j, none⟩ = some u) := hide (by
    have h4 := HS4.out
    rw [hlT] at h4
    obtain ⟨g', o', c', e', -, -, hh⟩ := h4.at_ (by omega)
    cases e'; exact hh)
  obtain ⟨Ws, hWs⟩ : ∃ Ws, ((((w4.setCell ⟨w.heap.size + 1, 0, none⟩ (.int .i64 n)).setCell ⟨w.heap.size + 1, 1, none⟩ (.slice (some ⟨gv, 0, none⟩) l.length cv)).setCell ⟨w.heap.size + 1 + 1, 0, none⟩ (.bool false)).setCell ⟨w.heap.size + 1 + 1 + 1, 0, none⟩ (.int .i64 0)) = Ws := ⟨_, rfl⟩
  have hszS : Ws.heap.size = w4.heap.size := by rw [← hWs]; simp [World.setCell]
  have HWS := hide hWs
  have HW1 := hide hw4
  clear hWs hw4 bx0 bx1 bx0' bx1' ck fk HS HS3 hs3 hcb hB34 h14 hB3 HR HV HK hcell x0 x1 y0 y1 u0 v0 fz8 fz7 fz60 fz61
  have h48 : gv < w4.heap.size := by omega
  have h49 : w.heap.size + 1 + 1 + 1 < w4.heap.size := by have := HBl.out.size; omega
  have h4B : w1.heap.size ≤ w4.heap.size := by have := HBl.out.size; omega
  rename_i K hK'
  refine (wpIn_wide (n := 10)).1 ?_
  refine rangeFunc_one rfl (by omega) (gf := 63) (lb := #[.pointer (some ⟨w2.heap.size, 0, none⟩)]) rfl trivial (enters_of Tryz.func63 (by kernel_rfl) rfl)
    (free_stops 9 (by omega) w2.heap.size (fun k => k = w2.heap.size ∨ k = gv) n gv 0 cv l.length (setT l k) hlT h8.2 w4 (.inl rfl) (.inr rfl) (by rintro k (rfl | rfl) <;> omega) q0 q1 HCS.out) KeepS.trans (keepS_b (n := w4.heap.size) (by rintro k (rfl | rfl) <;> omega)) (Below.refl _ _)
    (fun (pre : List (Fin 8)) W => pre = [] ∧ Below w4.heap.size w4 W)
    (fun c pre W => (c = .ret ∧ pre ≠ []) ∧ Below w4.heap.size Ws W)
    (OwnFrom.and (ownFrom_pure _ (fun pre => pre = [])) (ownFrom_below (Nat.le_refl _) (Nat.le_refl _)))
    (fun c => OwnFrom.and (ownFrom_pure _ (fun pre => c = .ret ∧ pre ≠ [])) (ownFrom_below (by omega) (Nat.le_refl _)))
    ⟨rfl, Below.refl _ _⟩
    ?body ?done ?stop
  case body =>
    rintro L pre x W ⟨rfl, hB⟩ hlt
    have hszW := hB.size
    have b0 := ((bcell hB).1 B 0 (by omega)).trans m0
    have b1 := ((bcell hB).1 B 1 (by omega)).trans m1
    have r60 := ((bcell hB).1 _ 0 (by omega)).trans c60
    have r61 := ((bcell hB).1 _ 1 (by omega)).trans c61
    have r7 := ((bcell hB).1 _ 0 (by omega)).trans c7
    have r8 := ((bcell hB).1 _ 0 (by omega)).trans c8
    have f60 := ((bcell hB).2 _ 0 (by omega)).trans d60
    have f61 := ((bcell hB).2 _ 1 (by omega)).trans d61
    have f7 := ((bcell hB).2 _ 0 (by omega)).trans d7
    have f8 := ((bcell hB).2 _ 0 (by omega)).trans d8
    gi_wp2
    refine ⟨keepsFrom_set (keepsFrom_set (keepsFrom_set (keepsFrom_set (KeepsFrom.refl _ _) (p := ⟨w.heap.size + 1, 0, none⟩) (by show w.heap.size + 1 < _; omega) _) (p := ⟨w.heap.size + 1, 1, none⟩) (by show w.heap.size + 1 < _; omega) _) (p := ⟨w.heap.size + 1 + 1, 0, none⟩) (by show w.heap.size + 1 + 1 < _; omega) _) (p := ⟨w.heap.size + 1 + 1 + 1, 0, none⟩) (by show w.heap.size + 1 + 1 + 1 < _; omega) _, ⟨rfl, by simp⟩, ?_⟩
    rw [← HWS.out]
    exact below_set_both (below_set_both (below_set_both (below_set_both hB _ _) _ _) _ _) _ _
  case done =>
    rintro D ys W hD hys ⟨rfl, hB⟩ hK
    have hh : has false (setT l k) = false := by
      cases h : has false (setT l k)
      · rfl
      · exact absurd hys.symm (sel_some hlT h8.2 h)
    have HP := hide (tak_full HC.out hh)
    have HD := hide hK
    clear hh hys hK
    have hszW := hB.size
    have r31 := ((bcell hB).1 _ 1 (by omega)).trans e31
    have r60 := ((bcell hB).1 _ 0 (by omega)).trans c60
    have r61 := ((bcell hB).1 _ 1 (by omega)).trans c61
    have r7 := ((bcell hB).1 _ 0 (by omega)).trans c7
    have r8 := ((bcell hB).1 _ 0 (by omega)).trans c8
    have f60 := ((bcell hB).2 _ 0 (by omega)).trans d60
    have f61 := ((bcell hB).2 _ 1 (by omega)).trans d61
    have f7 := ((bcell hB).2 _ 0 (by omega)).trans d7
    have f8 := ((bcell hB).2 _ 0 (by omega)).trans d8
    have HBW := hide hB
    clear hB c60 c61 c7 c8 d60 d61 d7 d8 e31 m0 m1 q0 q1
    have hmk := make_bools l.length hl
    have hB4 : Below W.heap.size W (W.alloc (.cells (bools (falses l.length)).toArray 4)) := (Below.refl _ _).alloc (Nat.le_refl _) _
    have s60 := ((bcell hB4).1 (w.heap.size + 1) 0 (by omega)).trans r60
    have s61 := ((bcell hB4).1 (w.heap.size + 1) 1 (by omega)).trans r61
    have s7 := ((bcell hB4).1 (w.heap.size + 1 + 1) 0 (by omega)).trans r7
    have s8 := ((bcell hB4).1 (w.heap.size + 1 + 1 + 1) 0 (by omega)).trans r8
    have g60 := ((bcell hB4).2 (w.heap.size + 1) 0 (by omega)).trans f60
    have g61 := ((bcell hB4).2 (w.heap.size + 1) 1 (by omega)).trans f61
    have g7 := ((bcell hB4).2 (w.heap.size + 1 + 1) 0 (by omega)).trans f7
    have g8 := ((bcell hB4).2 (w.heap.size + 1 + 1 + 1) 0 (by omega)).trans f8
    clear hB4
    refine hK' _ _ ?_
    go_wp2
    refine leave_take (o := w.heap.size + 1) (x := .int .i64 num) (y := .slice (some ⟨W.heap.size, 0, none⟩) l.length l.length) (b := true) (c := 0) rfl (fun w' h0 h1 => by go_simp) (fun w' h0 => by go_simp) (fun w' h0 => by go_simp) rfl rfl rfl ?_ (by go_simp) (by go_simp) (by go_simp) (by go_simp) ?_
    · rw [Below.heap_setCell _ _ _ _ (by show D ≠ w.heap.size + 1 + 1 + 1; omega), Below.heap_setCell _ _ _ _ (by show D ≠ w.heap.size + 1 + 1; omega), Below.heap_setCell _ _ _ _ (by show D ≠ w.heap.size + 1; omega), Below.heap_setCell _ _ _ _ (by show D ≠ w.heap.size + 1; omega), Below.heap_alloc _ _ _ (Array.getElem?_eq_some_iff.1 HD.out).1]; exact HD.out
    · unfold RetTak
      rw [HP.out.1, HP.out.2.1, HP.out.2.2, HC.out]
      have hDl : D < W.heap.size := (Array.getElem?_eq_some_iff.1 HD.out).1
      refine ⟨_, rfl, ?_, ?_, fun k hk => by simp [Value.ownBlock] at hk; have := Nat.le_trans HW4.out.size HBW.out.size; omega⟩
      · have hr0 := row_new' (w := W) l.length 4 (Below.refl _ _)
        have hr1 := row_set_other (row_set_other (row_set_other (row_set_other hr0 (a := ⟨w.heap.size + 1, 0, none⟩) (by show w.heap.size + 1 ≠ W.heap.size; omega) (.int .i64 num)) (a := ⟨w.heap.size + 1, 1, none⟩) (by show w.heap.size + 1 ≠ W.heap.size; omega) (.slice (some ⟨W.heap.size, 0, none⟩) l.length l.length)) (a := ⟨w.heap.size + 1 + 1, 0, none⟩) (by show w.heap.size + 1 + 1 ≠ W.heap.size; omega) (.bool true)) (a := ⟨w.heap.size + 1 + 1 + 1, 0, none⟩) (by show w.heap.size + 1 + 1 + 1 ≠ W.heap.size; omega) (.int .i64 0)
        have hr2 := hr1.putObj (D := D) (ds := []) (by rw [Below.heap_setCell _ _ _ _ (by show D ≠ w.heap.size + 1 + 1 + 1; omega), Below.heap_setCell _ _ _ _ (by show D ≠ w.heap.size + 1 + 1; omega), Below.heap_setCell _ _ _ _ (by show D ≠ w.heap.size + 1; omega), Below.heap_setCell _ _ _ _ (by show D ≠ w.heap.size + 1; omega), Below.heap_alloc _ _ _ hDl]; exact HD.out) (.deferred none)
        exact hr2.more (by rw [heap_putObj_size]; simp [World.setCell])
      · have hq : Below w.heap.size w W := HW4.out.trans (HBW.out.mono HW4.out.size)
        have hw4 := HW4.out.size
        have hq2 := ((((hq.alloc (by omega) (.cells (bools (falses l.length)).toArray 4)).setCell (p := ⟨w.heap.size + 1, 0, none⟩) (by show w.heap.size ≤ w.heap.size + 1; omega) (.int .i64 num)).setCell (p := ⟨w.heap.size + 1, 1, none⟩) (by show w.heap.size ≤ w.heap.size + 1; omega) (.slice (some ⟨W.heap.size, 0, none⟩) l.length l.length)).setCell (p := ⟨w.heap.size + 1 + 1, 0, none⟩) (by show w.heap.size ≤ w.heap.size + 1 + 1; omega) (.bool true)).setCell (p := ⟨w.heap.size + 1 + 1 + 1, 0, none⟩) (by show w.heap.size ≤ w.heap.size + 1 + 1 + 1; omega) (.int .i64 0)
        refine hq2.trans (belowK_b (w := w) (Nat.le_refl _) _ D (.deferred (some [])) _ (by omega) ?_ rfl rfl)
        rw [Below.heap_setCell _ _ _ _ (by show D ≠ w.heap.size + 1 + 1 + 1; omega), Below.heap_setCell _ _ _ _ (by show D ≠ w.heap.size + 1 + 1; omega), Below.heap_setCell _ _ _ _ (by show D ≠ w.heap.size + 1; omega), Below.heap_setCell _ _ _ _ (by show D ≠ w.heap.size + 1; omega), Below.heap_alloc _ _ _ hDl]; exact HD.out
  case stop =>
    rintro D c pre W hD hpre ⟨⟨rfl, hne⟩, hB⟩ hK
    have hh : has false (setT l k) = true := by
      cases h : has false (setT l k)
      · exact absurd (List.prefix_nil.1 (by rw [← sel_none h l.length (by omega) h8.2]; exact hpre)) hne
      · rfl
    have HP := hide (tak_part HC.out hh)
    have HD := hide hK
    clear hh hpre hK
    refine wpIn_wide.2 ?_
    go_wp2
    refine leave_take (o := w.heap.size + 1) (x := .int .i64 n) (y := .slice (some ⟨gv, 0, none⟩) l.length cv) (b := false) (c := 0) rfl (fun w' h0 h1 => by go_simp) (fun w' h0 => by go_simp) (fun w' h0 => by go_simp) rfl rfl rfl HD.out ?_ ?_ ?_ ?_ ?_
    · refine (hB.cell (p := ⟨w.heap.size + 1, 0, none⟩) (by show w.heap.size + 1 < _; omega)).trans ?_; rw [← HWS.out]; go_simp
    · refine (hB.cell (p := ⟨w.heap.size + 1, 1, none⟩) (by show w.heap.size + 1 < _; omega)).trans ?_; rw [← HWS.out]; go_simp
    · refine (hB.cell (p := ⟨w.heap.size + 1 + 1, 0, none⟩) (by show w.heap.size + 1 + 1 < _; omega)).trans ?_; rw [← HWS.out]; go_simp
    · refine (hB.cell (p := ⟨w.heap.size + 1 + 1 + 1, 0, none⟩) (by show w.heap.size + 1 + 1 + 1 < _; omega)).trans ?_; rw [← HWS.out]; go_simp
    · unfold RetTak
      rw [HP.out.1, HP.out.2.1, HP.out.2.2, HC.out]
      have hDl : D < W.heap.size := (Array.getElem?_eq_some_iff.1 HD.out).1
      have hw4 := HW4.out.size
      refine ⟨_, rfl, ?_, ?_, fun k hk => by simp [Value.ownBlock] at hk; have := hw4; omega⟩
      · have hr1 := row_set_other (row_set_other (row_set_other (row_set_other HS4.out (a := ⟨w.heap.size + 1, 0, none⟩) (by show w.heap.size + 1 ≠ gv; omega) (.int .i64 n)) (a := ⟨w.heap.size + 1, 1, none⟩) (by show w.heap.size + 1 ≠ gv; omega) (.slice (some ⟨gv, 0, none⟩) l.length cv)) (a := ⟨w.heap.size + 1 + 1, 0, none⟩) (by show w.heap.size + 1 + 1 ≠ gv; omega) (.bool false)) (a := ⟨w.heap.size + 1 + 1 + 1, 0, none⟩) (by show w.heap.size + 1 + 1 + 1 ≠ gv; omega) (.int .i64 0)
        rw [HWS.out] at hr1
        exact ((hr1.below hB).putObj HD.out (.deferred none)).more (by rw [heap_putObj_size]; have := hB.size; omega)
      · have hq2 := (((HW4.out.setCell (p := ⟨w.heap.size + 1, 0, none⟩) (by show w.heap.size ≤ w.heap.size + 1; omega) (.int .i64 n)).setCell (p := ⟨w.heap.size + 1, 1, none⟩) (by show w.heap.size ≤ w.heap.size + 1; omega) (.slice (some ⟨gv, 0, none⟩) l.length cv)).setCell (p := ⟨w.heap.size + 1 + 1, 0, none⟩) (by show w.heap.size ≤ w.heap.size + 1 + 1; omega) (.bool false)).setCell (p := ⟨w.heap.size + 1 + 1 + 1, 0, none⟩) (by show w.heap.size ≤ w.heap.size + 1 + 1 + 1; omega) (.int .i64 0)
        rw [HWS.out] at hq2
        exact (hq2.trans (hB.mono hw4)).trans (belowK_b (w := w) (Nat.le_refl _) W D _ _ (by omega) HD.out rfl rfl)

theorem take_any (n : Int) (v : Value) (l : List Bool) (i num : Int) (w : World) (hl : l.length ≤ 1000) (hv : Row w w.heap.size 1 v l.length (bools l)) :
    Calls Tryz.prog 33 #[.agg #[.int .i64 n, v], .int .i64 i, .int .i64 num] w (RetTak w n l i num) := by
  obtain ⟨A, cap, rfl⟩ := hv.form
  by_cases hc : inp n l i = 0
  · obtain ⟨hc1, h0, h1⟩ := inp_zero hc
    obtain ⟨k, rfl⟩ := Int.eq_ofNat_of_zero_le h0
    by_cases hok : takE n l k num = 0
    · exact ptake_yes n A cap l k num w hl hv (by omega) hok
    · exact ptake_no n A cap l k num w hl hv hc (by omega) hok
  · exact ptake_bad n A cap l i num w hl hv hc

end
end Go.Proofs.YtppaiihcaajkaaaGreat.Bar
