/- 'out[w] = append(out[w], g)' in a round: one region that draws its order. -/
import Derived.Test.YtoafjlfidgjgbaaGrid
import Derived.Test.YtoafjlfidgjgbaaReg
import Derived.RangeFuncBox
namespace Go.Proofs.Ytoafjlfidgjgbaa
open Go.RowKit
set_option linter.unusedVariables false
set_option linter.unusedSimpArgs false

def depOn (o : Oper) (j : Nat) : Bool := o.after.any fun e => e.on == j && Region.binds .any e
theorem dep_listed {ops : Array Oper} {listed : Array Bool} {i j : Nat} {o : Oper} (h : i ∈ Region.ready .any ops listed) (ho : ops[i]? = some o) (hd : depOn o j = true) : listed.getD j false = true := by
  obtain ⟨_, _, h3⟩ := ready_mem h
  unfold depOn at hd
  rw [Array.any_eq_true'] at hd
  obtain ⟨e, he, hb⟩ := hd
  simp only [Bool.and_eq_true, beq_iff_eq] at hb
  have := h3 o ho e he hb.2
  rwa [hb.1] at this

structure R10 (ops : Array Oper) : Prop where
  size : ops.size = 11
  acy : acyB ops = true
  o0 : ∃ o, ops[0]? = some o ∧ o.op = .load 31 (.tmp 5) ∧ o.dst = some 25 ∧ o.guard = none
  o1 : ∃ o, ops[1]? = some o ∧ o.op = .load 3 (.tmp 6) ∧ o.dst = some 26 ∧ o.guard = none
  o2 : ∃ o, ops[2]? = some o ∧ o.op = .load 31 (.tmp 5) ∧ o.dst = some 27 ∧ o.guard = none
  o3 : ∃ o, ops[3]? = some o ∧ o.op = .load 3 (.tmp 6) ∧ o.dst = some 28 ∧ o.guard = none
  o4 : ∃ o, ops[4]? = some o ∧ o.op = .indexAddr 31 (.tmp 27) (.tmp 28) ∧ o.dst = some 29 ∧ o.guard = none ∧ depOn o 2 = true ∧ depOn o 3 = true
  o5 : ∃ o, ops[5]? = some o ∧ o.op = .load 50 (.tmp 29) ∧ o.dst = some 30 ∧ o.guard = none ∧ depOn o 4 = true
  o6 : ∃ o, ops[6]? = some o ∧ o.op = .move (.tmp 7) ∧ o.dst = some 31 ∧ o.guard = none
  o7 : ∃ o, ops[7]? = some o ∧ o.op = .buildSlice 50 1 #[(0, .tmp 31)] ∧ o.dst = some 32 ∧ o.guard = none ∧ depOn o 6 = true
  o8 : ∃ o, ops[8]? = some o ∧ o.op = .call { callee := .builtin .append, args := #[.tmp 30, .tmp 32], argTypes := #[50, 50] } ∧ o.dst = some 33 ∧ o.guard = none ∧ depOn o 5 = true ∧ depOn o 7 = true
  o9 : ∃ o, ops[9]? = some o ∧ o.op = .indexAddr 31 (.tmp 25) (.tmp 26) ∧ o.dst = some 34 ∧ o.guard = none ∧ depOn o 0 = true ∧ depOn o 1 = true ∧ depOn o 8 = true
  o10 : ∃ o, ops[10]? = some o ∧ o.op = .store 50 (.tmp 34) (.tmp 33) ∧ o.dst = none ∧ o.guard = none ∧ ∀ j, j < 10 → depOn o j = true

section
variable {w : World} {ρ : Operand → Value}
theorem xload_s {o : Oper} (ho : o.op = .load 31 (.tmp 5)) {p : Addr} {v : Value} (h : ρ (.tmp 5) = .pointer (some p)) (hc : w.cell? p = some v) : (execOp ρ o).run Try.prog w = .ok (.value v) w := by
  unfold execOp; rw [ho]; simp [go_sem, h, hc]
theorem xload_i {o : Oper} (ho : o.op = .load 3 (.tmp 6)) {p : Addr} {v : Value} (h : ρ (.tmp 6) = .pointer (some p)) (hc : w.cell? p = some v) : (execOp ρ o).run Try.prog w = .ok (.value v) w := by
  unfold execOp; rw [ho]; simp [go_sem, h, hc]
theorem xload_r {o : Oper} (ho : o.op = .load 50 (.tmp 29)) {p : Addr} {v : Value} (h : ρ (.tmp 29) = .pointer (some p)) (hc : w.cell? p = some v) : (execOp ρ o).run Try.prog w = .ok (.value v) w := by
  unfold execOp; rw [ho]; simp [go_sem, h, hc]
theorem xindex {o : Oper} {s t : Nat} (ho : o.op = .indexAddr 31 (.tmp s) (.tmp t)) {b n k : Nat} (hk : k < n) (h : ρ (.tmp s) = .slice (some ⟨b, 0, none⟩) n n) (h' : ρ (.tmp t) = .int .i64 (k : Int)) :
    (execOp ρ o).run Try.prog w = .ok (.value (.pointer (some ⟨b, k, none⟩))) w := by
  have h2 : (k : Int) < (n : Int) := by omega
  unfold execOp; rw [ho]; simp [go_sem, h, h', hk, h2]
theorem xmove {o : Oper} {s : Nat} (ho : o.op = .move (.tmp s)) {v : Value} (h : ρ (.tmp s) = v) : (execOp ρ o).run Try.prog w = .ok (.value v) w := by
  unfold execOp; rw [ho]; simp [go_sem, h]
theorem xbuild {o : Oper} (ho : o.op = .buildSlice 50 1 #[(0, .tmp 31)]) {x : Int} (h : ρ (.tmp 31) = .int .i64 x) :
    (execOp ρ o).run Try.prog w = .ok (.value (.slice (some ⟨w.heap.size, 0, none⟩) 1 1)) (w.alloc (.cells #[.int .i64 x] 3)) := by
  unfold execOp; rw [ho]; simp [go_sem, h]
theorem xstore {o : Oper} (ho : o.op = .store 50 (.tmp 34) (.tmp 33)) {p g : Addr} {n c : Nat} {u : Value} (h : ρ (.tmp 34) = .pointer (some p)) (h' : ρ (.tmp 33) = .slice (some g) n c) (hc : w.cell? p = some u) (hf : w.frozen? p = false) :
    (execOp ρ o).run Try.prog w = .ok .skip (w.setCell p (.slice (some g) n c)) := by
  unfold execOp; rw [ho]; simp [go_sem, h, h', hc, hf]
end

/-- What the append has left: the new slice v', the world W1. -/
structure Apd (W : World) (base : Nat) (v : Value) (l : List Int) (x : Int) (v' : Value) (W1 : World) : Prop where
  own : W1.ownsRow base 3 1 v' (l.length + 1) (ints l ++ [.int .i64 x])
  grown : W.grownBy W1 v.ownBlock
  at_ : v'.ownBlock = v.ownBlock ∨ v'.ownBlock = some (W.heap.size + 1)

/-- Where the world stands, by whether the literal, the append and the store are over. -/
def Stage (W : World) (base o k : Nat) (v : Value) (l : List Int) (x : Int) (b7 b8 b10 : Bool) (v33 : Value) (w : World) : Prop :=
  match b7, b8, b10 with
  | false, false, false => w = W
  | true, false, false => w = W.alloc (.cells #[.int .i64 x] 3)
  | true, true, false => Apd W base v l x v33 w
  | true, true, true => ∃ v' W1, Apd W base v l x v' W1 ∧ w = W1.setCell ⟨o, k, none⟩ v'
  | _, _, _ => False

structure SlotsOk (listed : Array Bool) (a : Act) (W : World) (B5 B6 o k n : Nat) (x : Int) (v : Value) : Prop where
  lsz : listed.size = 11
  asz : a.tmps.size = 37
  s5 : slot a 5 = .pointer (some ⟨B5, 0, none⟩)
  s6 : slot a 6 = .pointer (some ⟨B6, 0, none⟩)
  s7 : slot a 7 = .int .i64 x
  s25 : listed.getD 0 false = true → slot a 25 = .slice (some ⟨o, 0, none⟩) n n
  s26 : listed.getD 1 false = true → slot a 26 = .int .i64 (k : Int)
  s27 : listed.getD 2 false = true → slot a 27 = .slice (some ⟨o, 0, none⟩) n n
  s28 : listed.getD 3 false = true → slot a 28 = .int .i64 (k : Int)
  s29 : listed.getD 4 false = true → slot a 29 = .pointer (some ⟨o, k, none⟩)
  s30 : listed.getD 5 false = true → slot a 30 = v
  s31 : listed.getD 6 false = true → slot a 31 = .int .i64 x
  s32 : listed.getD 7 false = true → slot a 32 = .slice (some ⟨W.heap.size, 0, none⟩) 1 1
  s34 : listed.getD 9 false = true → slot a 34 = .pointer (some ⟨o, k, none⟩)

theorem listed_same {l : Array Bool} {i : Nat} (h : i < l.size) : (l.setIfInBounds i true).getD i false = true := by simp [h]
theorem listed_other {l : Array Bool} {i j : Nat} (h : i ≠ j) : (l.setIfInBounds i true).getD j false = l.getD j false := by
  simp only [Array.getD_eq_getD_getElem?, Array.getElem?_setIfInBounds, if_neg h]

/-- Listing operation i, whose slot is d, leaves the rest as it was. -/
theorem SlotsOk.put {listed : Array Bool} {a : Act} {W : World} {B5 B6 o k n : Nat} {x : Int} {v : Value} (h : SlotsOk listed a W B5 B6 o k n x v) (i : Nat) (d : Option Nat) (u : Value)
    (hd : d = none ∨ ∃ d', d = some d' ∧ d' ≠ 5 ∧ d' ≠ 6 ∧ d' ≠ 7 ∧ d' < 37)
    (h25 : i = 0 → slot (a.put d u) 25 = .slice (some ⟨o, 0, none⟩) n n) (n25 : i ≠ 0 → d ≠ some 25)
    (h26 : i = 1 → slot (a.put d u) 26 = .int .i64 (k : Int)) (n26 : i ≠ 1 → d ≠ some 26)
    (h27 : i = 2 → slot (a.put d u) 27 = .slice (some ⟨o, 0, none⟩) n n) (n27 : i ≠ 2 → d ≠ some 27)
    (h28 : i = 3 → slot (a.put d u) 28 = .int .i64 (k : Int)) (n28 : i ≠ 3 → d ≠ some 28)
    (h29 : i = 4 → slot (a.put d u) 29 = .pointer (some ⟨o, k, none⟩)) (n29 : i ≠ 4 → d ≠ some 29)
    (h30 : i = 5 → slot (a.put d u) 30 = v) (n30 : i ≠ 5 → d ≠ some 30)
    (h31 : i = 6 → slot (a.put d u) 31 = .int .i64 x) (n31 : i ≠ 6 → d ≠ some 31)
    (h32 : i = 7 → slot (a.put d u) 32 = .slice (some ⟨W.heap.size, 0, none⟩) 1 1) (n32 : i ≠ 7 → d ≠ some 32)
    (h34 : i = 9 → slot (a.put d u) 34 = .pointer (some ⟨o, k, none⟩)) (n34 : i ≠ 9 → d ≠ some 34) :
    SlotsOk (listed.setIfInBounds i true) (a.put d u) W B5 B6 o k n x v := by
  have keep : ∀ s, d ≠ some s → slot (a.put d u) s = slot a s := fun s hs => by
    cases d with
    | none => rfl
    | some d => exact slot_other u (fun e => hs (by rw [e]))
  have step : ∀ (j s : Nat) (val : Value), (i = j → slot (a.put d u) s = val) → (i ≠ j → d ≠ some s) → (listed.getD j false = true → slot a s = val) →
      (listed.setIfInBounds i true).getD j false = true → slot (a.put d u) s = val := fun j s val h1 h2 h3 h4 => by
    by_cases e : i = j
    · exact h1 e
    · rw [listed_other e] at h4
      rw [keep s (h2 e)]; exact h3 h4
  have hne : d ≠ some 5 ∧ d ≠ some 6 ∧ d ≠ some 7 := by
    rcases hd with rfl | ⟨d', rfl, a1, a2, a3, _⟩
    · simp
    · simp [a1, a2, a3]
  exact ⟨by simpa using h.lsz, by rw [size_put]; exact h.asz, by rw [keep _ hne.1]; exact h.s5, by rw [keep _ hne.2.1]; exact h.s6, by rw [keep _ hne.2.2]; exact h.s7,
    step 0 25 _ h25 n25 h.s25, step 1 26 _ h26 n26 h.s26, step 2 27 _ h27 n27 h.s27, step 3 28 _ h28 n28 h.s28, step 4 29 _ h29 n29 h.s29, step 5 30 _ h30 n30 h.s30, step 6 31 _ h31 n31 h.s31,
    step 7 32 _ h32 n32 h.s32, step 9 34 _ h34 n34 h.s34⟩


theorem rep_false (m j : Nat) : (Array.replicate m false).getD j false = false := by
  simp only [Array.getD_eq_getD_getElem?, Array.getElem?_replicate]
  split <;> rfl

theorem rep_no {m j : Nat} {C : Prop} (h : (Array.replicate m false).getD j false = true) : C := by rw [rep_false] at h; cases h

set_option maxHeartbeats 1000000 in
theorem region10 {F : Fence} {n' id : Nat} {ops : Array Oper} {Q : Exit → Act → World → Prop} (hF : ∀ f, F.fn f) (hR : R10 ops) (a : Act) (W : World) (hasz : a.tmps.size = 37) (B5 B6 o k n base : Nat) (x : Int) (L : Nat → List Int)
    (s5 : slot a 5 = .pointer (some ⟨B5, 0, none⟩)) (s6 : slot a 6 = .pointer (some ⟨B6, 0, none⟩)) (s7 : slot a 7 = .int .i64 x)
    (b5 : Boxed W B5 31 (.slice (some ⟨o, 0, none⟩) n n)) (b6 : Boxed W B6 3 (.int .i64 (k : Int))) (hk : k < n)
    (hG : Grid W base o n L) (v : Value) (hv : W.cell? ⟨o, k, none⟩ = some v) (hB6 : v.ownBlock ≠ some B6) (hlen : (L k).length < 1000) (hbase : base ≤ W.heap.size)
    (hQ : ∀ a' v' W1, Apd W.drew base v (L k) x v' W1 → Q .normal a' (W1.setCell ⟨o, k, none⟩ v')) :
    (Code.region id ops true).wpIn F n' Try.prog Q a W := by
  obtain ⟨i0, hi0, hz0, hz1, hz2⟩ := info_parts info_int
  obtain ⟨v2, hv2, hrow⟩ := hG.cell hk
  obtain rfl : v2 = v := by rw [hv] at hv2; cases hv2; rfl
  have hob : o < base := by obtain ⟨_, _, h, _⟩ := hG; exact h
  have hro : v2.ownBlock ≠ some o := fun e => by have := (hrow.lt o e).1; omega
  have hr5 : v2.ownBlock ≠ some B5 := fun e => b5.not_row (by decide) hrow e.symm
  refine wpIn_region_inv (by kernel_rfl) (fun listed a w => SlotsOk listed a W B5 B6 o k n x v2 ∧ Stage W.drew base o k v2 (L k) x (listed.getD 7 false) (listed.getD 8 false) (listed.getD 10 false) (slot a 33) w ∧
      (listed.getD 10 false = true → ∀ j, j < 10 → listed.getD j false = true))
    ⟨⟨by simp [hR.size], hasz, s5, s6, s7, rep_no, rep_no, rep_no, rep_no,
        rep_no, rep_no, rep_no, rep_no, rep_no⟩,
      by simp only [rep_false, Stage], rep_no⟩ ?_ ?_
  · intro listed a w i ⟨hI, hS, hFull⟩ hi K hK
    obtain ⟨hlt, hun, _⟩ := ready_mem hi
    rw [hR.size] at hlt
    have hil : i < listed.size := by rw [hI.lsz]; exact hlt
    have hunf : listed.getD i false = false := by
      simp only [Array.getD_eq_getD_getElem?, Array.getElem?_eq_getElem hil, Option.getD_some] at hun ⊢; exact hun
    have h10 : listed.getD 10 false = false := by
      cases h : listed.getD 10 false with
      | false => rfl
      | true =>
        by_cases e : i = 10
        · subst e; rw [h] at hunf; cases hunf
        · rw [hFull h i (by omega)] at hunf; cases hunf
    have full : ∀ i', i' ≠ 10 → ((listed.setIfInBounds i' true).getD 10 false = true → ∀ j, j < 10 → (listed.setIfInBounds i' true).getD j false = true) := fun i' hne h => by
      rw [listed_other hne, h10] at h; cases h
    -- the cells that are read
    have cells : w.cell? ⟨B5, 0, none⟩ = some (.slice (some ⟨o, 0, none⟩) n n) ∧ w.cell? ⟨B6, 0, none⟩ = some (.int .i64 (k : Int)) ∧ w.cell? ⟨o, k, none⟩ = some v2 ∧ w.frozen? ⟨o, k, none⟩ = false := by
      have hal : ∀ w', W.drew.grownBy w' v2.ownBlock → w'.cell? ⟨B5, 0, none⟩ = some (.slice (some ⟨o, 0, none⟩) n n) ∧ w'.cell? ⟨B6, 0, none⟩ = some (.int .i64 (k : Int)) ∧ w'.cell? ⟨o, k, none⟩ = some v2 ∧ w'.frozen? ⟨o, k, none⟩ = false := fun w' hg =>
        ⟨(World.cell?_of_block (w := W.drew) (hg.block B5 b5.lt (Ne.symm hr5))).trans b5.cell, (World.cell?_of_block (w := W.drew) (hg.block B6 b6.lt (Ne.symm hB6))).trans b6.cell,
          (World.cell?_of_block (w := W.drew) (hg.block o hG.lt (Ne.symm hro))).trans hv, (World.frozen?_of_block (w := W.drew) (hg.block o hG.lt (Ne.symm hro))).trans (hG.frozen k)⟩
      have hS' := hS
      revert hS'
      rw [h10]
      cases h7 : listed.getD 7 false <;> cases h8 : listed.getD 8 false <;> intro hS' <;> simp only [Stage] at hS'
      · subst hS'; exact hal _ ⟨rfl, rfl, rfl, Nat.le_refl _, fun _ _ _ => rfl⟩
      · subst hS'; exact hal _ (World.grownBy_alloc _ _ _)
      · exact hal _ hS'.grown
    obtain ⟨c5, c6, co, cf⟩ := cells
    have hcase : i = 0 ∨ i = 1 ∨ i = 2 ∨ i = 3 ∨ i = 4 ∨ i = 5 ∨ i = 6 ∨ i = 7 ∨ i = 8 ∨ i = 9 ∨ i = 10 := by omega
    rcases hcase with rfl | rfl | rfl | rfl | rfl | rfl | rfl | rfl | rfl | rfl | rfl
    · obtain ⟨o', e, ho, hd, hg⟩ := hR.o0
      refine opIn_value hF e hg (by simp [ho]) (xload_s (ρ := a.eval) ho hI.s5 c5) ?_
      rw [hd]; exact hK _ _ ⟨(hI.put 0 (some 25) _ (.inr ⟨25, rfl, by decide, by decide, by decide, by decide⟩) (by intro h; first | exact absurd h (by decide) | exact slot_same _ (by rw [hI.asz]; decide)) (by intro h; first | exact absurd rfl h | decide) (by intro h; first | exact absurd h (by decide) | exact slot_same _ (by rw [hI.asz]; decide)) (by intro h; first | exact absurd rfl h | decide) (by intro h; first | exact absurd h (by decide) | exact slot_same _ (by rw [hI.asz]; decide)) (by intro h; first | exact absurd rfl h | decide) (by intro h; first | exact absurd h (by decide) | exact slot_same _ (by rw [hI.asz]; decide)) (by intro h; first | exact absurd rfl h | decide) (by intro h; first | exact absurd h (by decide) | exact slot_same _ (by rw [hI.asz]; decide)) (by intro h; first | exact absurd rfl h | decide) (by intro h; first | exact absurd h (by decide) | exact slot_same _ (by rw [hI.asz]; decide)) (by intro h; first | exact absurd rfl h | decide) (by intro h; first | exact absurd h (by decide) | exact slot_same _ (by rw [hI.asz]; decide)) (by intro h; first | exact absurd rfl h | decide) (by intro h; first | exact absurd h (by decide) | exact slot_same _ (by rw [hI.asz]; decide)) (by intro h; first | exact absurd rfl h | decide) (by intro h; first | exact absurd h (by decide) | exact slot_same _ (by rw [hI.asz]; decide)) (by intro h; first | exact absurd rfl h | decide)), (by rw [listed_other (show 0 ≠ 7 by decide), listed_other (show 0 ≠ 8 by decide), listed_other (show 0 ≠ 10 by decide), slot_other _ (show 25 ≠ 33 by decide)]; exact hS), full 0 (by decide)⟩
    · obtain ⟨o', e, ho, hd, hg⟩ := hR.o1
      refine opIn_value hF e hg (by simp [ho]) (xload_i (ρ := a.eval) ho hI.s6 c6) ?_
      rw [hd]; exact hK _ _ ⟨(hI.put 1 (some 26) _ (.inr ⟨26, rfl, by decide, by decide, by decide, by decide⟩) (by intro h; first | exact absurd h (by decide) | exact slot_same _ (by rw [hI.asz]; decide)) (by intro h; first | exact absurd rfl h | decide) (by intro h; first | exact absurd h (by decide) | exact slot_same _ (by rw [hI.asz]; decide)) (by intro h; first | exact absurd rfl h | decide) (by intro h; first | exact absurd h (by decide) | exact slot_same _ (by rw [hI.asz]; decide)) (by intro h; first | exact absurd rfl h | decide) (by intro h; first | exact absurd h (by decide) | exact slot_same _ (by rw [hI.asz]; decide)) (by intro h; first | exact absurd rfl h | decide) (by intro h; first | exact absurd h (by decide) | exact slot_same _ (by rw [hI.asz]; decide)) (by intro h; first | exact absurd rfl h | decide) (by intro h; first | exact absurd h (by decide) | exact slot_same _ (by rw [hI.asz]; decide)) (by intro h; first | exact absurd rfl h | decide) (by intro h; first | exact absurd h (by decide) | exact slot_same _ (by rw [hI.asz]; decide)) (by intro h; first | exact absurd rfl h | decide) (by intro h; first | exact absurd h (by decide) | exact slot_same _ (by rw [hI.asz]; decide)) (by intro h; first | exact absurd rfl h | decide) (by intro h; first | exact absurd h (by decide) | exact slot_same _ (by rw [hI.asz]; decide)) (by intro h; first | exact absurd rfl h | decide)), (by rw [listed_other (show 1 ≠ 7 by decide), listed_other (show 1 ≠ 8 by decide), listed_other (show 1 ≠ 10 by decide), slot_other _ (show 26 ≠ 33 by decide)]; exact hS), full 1 (by decide)⟩
    · obtain ⟨o', e, ho, hd, hg⟩ := hR.o2
      refine opIn_value hF e hg (by simp [ho]) (xload_s (ρ := a.eval) ho hI.s5 c5) ?_
      rw [hd]; exact hK _ _ ⟨(hI.put 2 (some 27) _ (.inr ⟨27, rfl, by decide, by decide, by decide, by decide⟩) (by intro h; first | exact absurd h (by decide) | exact slot_same _ (by rw [hI.asz]; decide)) (by intro h; first | exact absurd rfl h | decide) (by intro h; first | exact absurd h (by decide) | exact slot_same _ (by rw [hI.asz]; decide)) (by intro h; first | exact absurd rfl h | decide) (by intro h; first | exact absurd h (by decide) | exact slot_same _ (by rw [hI.asz]; decide)) (by intro h; first | exact absurd rfl h | decide) (by intro h; first | exact absurd h (by decide) | exact slot_same _ (by rw [hI.asz]; decide)) (by intro h; first | exact absurd rfl h | decide) (by intro h; first | exact absurd h (by decide) | exact slot_same _ (by rw [hI.asz]; decide)) (by intro h; first | exact absurd rfl h | decide) (by intro h; first | exact absurd h (by decide) | exact slot_same _ (by rw [hI.asz]; decide)) (by intro h; first | exact absurd rfl h | decide) (by intro h; first | exact absurd h (by decide) | exact slot_same _ (by rw [hI.asz]; decide)) (by intro h; first | exact absurd rfl h | decide) (by intro h; first | exact absurd h (by decide) | exact slot_same _ (by rw [hI.asz]; decide)) (by intro h; first | exact absurd rfl h | decide) (by intro h; first | exact absurd h (by decide) | exact slot_same _ (by rw [hI.asz]; decide)) (by intro h; first | exact absurd rfl h | decide)), (by rw [listed_other (show 2 ≠ 7 by decide), listed_other (show 2 ≠ 8 by decide), listed_other (show 2 ≠ 10 by decide), slot_other _ (show 27 ≠ 33 by decide)]; exact hS), full 2 (by decide)⟩
    · obtain ⟨o', e, ho, hd, hg⟩ := hR.o3
      refine opIn_value hF e hg (by simp [ho]) (xload_i (ρ := a.eval) ho hI.s6 c6) ?_
      rw [hd]; exact hK _ _ ⟨(hI.put 3 (some 28) _ (.inr ⟨28, rfl, by decide, by decide, by decide, by decide⟩) (by intro h; first | exact absurd h (by decide) | exact slot_same _ (by rw [hI.asz]; decide)) (by intro h; first | exact absurd rfl h | decide) (by intro h; first | exact absurd h (by decide) | exact slot_same _ (by rw [hI.asz]; decide)) (by intro h; first | exact absurd rfl h | decide) (by intro h; first | exact absurd h (by decide) | exact slot_same _ (by rw [hI.asz]; decide)) (by intro h; first | exact absurd rfl h | decide) (by intro h; first | exact absurd h (by decide) | exact slot_same _ (by rw [hI.asz]; decide)) (by intro h; first | exact absurd rfl h | decide) (by intro h; first | exact absurd h (by decide) | exact slot_same _ (by rw [hI.asz]; decide)) (by intro h; first | exact absurd rfl h | decide) (by intro h; first | exact absurd h (by decide) | exact slot_same _ (by rw [hI.asz]; decide)) (by intro h; first | exact absurd rfl h | decide) (by intro h; first | exact absurd h (by decide) | exact slot_same _ (by rw [hI.asz]; decide)) (by intro h; first | exact absurd rfl h | decide) (by intro h; first | exact absurd h (by decide) | exact slot_same _ (by rw [hI.asz]; decide)) (by intro h; first | exact absurd rfl h | decide) (by intro h; first | exact absurd h (by decide) | exact slot_same _ (by rw [hI.asz]; decide)) (by intro h; first | exact absurd rfl h | decide)), (by rw [listed_other (show 3 ≠ 7 by decide), listed_other (show 3 ≠ 8 by decide), listed_other (show 3 ≠ 10 by decide), slot_other _ (show 28 ≠ 33 by decide)]; exact hS), full 3 (by decide)⟩
    · obtain ⟨o', e, ho, hd, hg, d2, d3⟩ := hR.o4
      refine opIn_value hF e hg (by simp [ho]) (xindex (ρ := a.eval) ho hk (hI.s27 (dep_listed hi e d2)) (hI.s28 (dep_listed hi e d3))) ?_
      rw [hd]; exact hK _ _ ⟨(hI.put 4 (some 29) _ (.inr ⟨29, rfl, by decide, by decide, by decide, by decide⟩) (by intro h; first | exact absurd h (by decide) | exact slot_same _ (by rw [hI.asz]; decide)) (by intro h; first | exact absurd rfl h | decide) (by intro h; first | exact absurd h (by decide) | exact slot_same _ (by rw [hI.asz]; decide)) (by intro h; first | exact absurd rfl h | decide) (by intro h; first | exact absurd h (by decide) | exact slot_same _ (by rw [hI.asz]; decide)) (by intro h; first | exact absurd rfl h | decide) (by intro h; first | exact absurd h (by decide) | exact slot_same _ (by rw [hI.asz]; decide)) (by intro h; first | exact absurd rfl h | decide) (by intro h; first | exact absurd h (by decide) | exact slot_same _ (by rw [hI.asz]; decide)) (by intro h; first | exact absurd rfl h | decide) (by intro h; first | exact absurd h (by decide) | exact slot_same _ (by rw [hI.asz]; decide)) (by intro h; first | exact absurd rfl h | decide) (by intro h; first | exact absurd h (by decide) | exact slot_same _ (by rw [hI.asz]; decide)) (by intro h; first | exact absurd rfl h | decide) (by intro h; first | exact absurd h (by decide) | exact slot_same _ (by rw [hI.asz]; decide)) (by intro h; first | exact absurd rfl h | decide) (by intro h; first | exact absurd h (by decide) | exact slot_same _ (by rw [hI.asz]; decide)) (by intro h; first | exact absurd rfl h | decide)), (by rw [listed_other (show 4 ≠ 7 by decide), listed_other (show 4 ≠ 8 by decide), listed_other (show 4 ≠ 10 by decide), slot_other _ (show 29 ≠ 33 by decide)]; exact hS), full 4 (by decide)⟩
    · obtain ⟨o', e, ho, hd, hg, d4⟩ := hR.o5
      refine opIn_value hF e hg (by simp [ho]) (xload_r (ρ := a.eval) ho (hI.s29 (dep_listed hi e d4)) co) ?_
      rw [hd]; exact hK _ _ ⟨(hI.put 5 (some 30) _ (.inr ⟨30, rfl, by decide, by decide, by decide, by decide⟩) (by intro h; first | exact absurd h (by decide) | exact slot_same _ (by rw [hI.asz]; decide)) (by intro h; first | exact absurd rfl h | decide) (by intro h; first | exact absurd h (by decide) | exact slot_same _ (by rw [hI.asz]; decide)) (by intro h; first | exact absurd rfl h | decide) (by intro h; first | exact absurd h (by decide) | exact slot_same _ (by rw [hI.asz]; decide)) (by intro h; first | exact absurd rfl h | decide) (by intro h; first | exact absurd h (by decide) | exact slot_same _ (by rw [hI.asz]; decide)) (by intro h; first | exact absurd rfl h | decide) (by intro h; first | exact absurd h (by decide) | exact slot_same _ (by rw [hI.asz]; decide)) (by intro h; first | exact absurd rfl h | decide) (by intro h; first | exact absurd h (by decide) | exact slot_same _ (by rw [hI.asz]; decide)) (by intro h; first | exact absurd rfl h | decide) (by intro h; first | exact absurd h (by decide) | exact slot_same _ (by rw [hI.asz]; decide)) (by intro h; first | exact absurd rfl h | decide) (by intro h; first | exact absurd h (by decide) | exact slot_same _ (by rw [hI.asz]; decide)) (by intro h; first | exact absurd rfl h | decide) (by intro h; first | exact absurd h (by decide) | exact slot_same _ (by rw [hI.asz]; decide)) (by intro h; first | exact absurd rfl h | decide)), (by rw [listed_other (show 5 ≠ 7 by decide), listed_other (show 5 ≠ 8 by decide), listed_other (show 5 ≠ 10 by decide), slot_other _ (show 30 ≠ 33 by decide)]; exact hS), full 5 (by decide)⟩
    · obtain ⟨o', e, ho, hd, hg⟩ := hR.o6
      refine opIn_value hF e hg (by simp [ho]) (xmove (ρ := a.eval) ho hI.s7) ?_
      rw [hd]; exact hK _ _ ⟨(hI.put 6 (some 31) _ (.inr ⟨31, rfl, by decide, by decide, by decide, by decide⟩) (by intro h; first | exact absurd h (by decide) | exact slot_same _ (by rw [hI.asz]; decide)) (by intro h; first | exact absurd rfl h | decide) (by intro h; first | exact absurd h (by decide) | exact slot_same _ (by rw [hI.asz]; decide)) (by intro h; first | exact absurd rfl h | decide) (by intro h; first | exact absurd h (by decide) | exact slot_same _ (by rw [hI.asz]; decide)) (by intro h; first | exact absurd rfl h | decide) (by intro h; first | exact absurd h (by decide) | exact slot_same _ (by rw [hI.asz]; decide)) (by intro h; first | exact absurd rfl h | decide) (by intro h; first | exact absurd h (by decide) | exact slot_same _ (by rw [hI.asz]; decide)) (by intro h; first | exact absurd rfl h | decide) (by intro h; first | exact absurd h (by decide) | exact slot_same _ (by rw [hI.asz]; decide)) (by intro h; first | exact absurd rfl h | decide) (by intro h; first | exact absurd h (by decide) | exact slot_same _ (by rw [hI.asz]; decide)) (by intro h; first | exact absurd rfl h | decide) (by intro h; first | exact absurd h (by decide) | exact slot_same _ (by rw [hI.asz]; decide)) (by intro h; first | exact absurd rfl h | decide) (by intro h; first | exact absurd h (by decide) | exact slot_same _ (by rw [hI.asz]; decide)) (by intro h; first | exact absurd rfl h | decide)), (by rw [listed_other (show 6 ≠ 7 by decide), listed_other (show 6 ≠ 8 by decide), listed_other (show 6 ≠ 10 by decide), slot_other _ (show 31 ≠ 33 by decide)]; exact hS), full 6 (by decide)⟩
    · obtain ⟨o', e, ho, hd, hg, d6⟩ := hR.o7
      have hS' := hS
      rw [hunf, h10] at hS'
      have h8 : listed.getD 8 false = false := by
        cases h8 : listed.getD 8 false with
        | false => rfl
        | true => rw [h8] at hS'; exact hS'.elim
      rw [h8] at hS'
      have hw : w = W.drew := hS'
      subst hw
      refine opIn_value hF e hg (by simp [ho]) (xbuild (ρ := a.eval) ho (hI.s31 (dep_listed hi e d6))) ?_
      rw [hd]
      exact hK _ _ ⟨(hI.put 7 (some 32) _ (.inr ⟨32, rfl, by decide, by decide, by decide, by decide⟩) (by intro h; first | exact absurd h (by decide) | exact slot_same _ (by rw [hI.asz]; decide)) (by intro h; first | exact absurd rfl h | decide) (by intro h; first | exact absurd h (by decide) | exact slot_same _ (by rw [hI.asz]; decide)) (by intro h; first | exact absurd rfl h | decide) (by intro h; first | exact absurd h (by decide) | exact slot_same _ (by rw [hI.asz]; decide)) (by intro h; first | exact absurd rfl h | decide) (by intro h; first | exact absurd h (by decide) | exact slot_same _ (by rw [hI.asz]; decide)) (by intro h; first | exact absurd rfl h | decide) (by intro h; first | exact absurd h (by decide) | exact slot_same _ (by rw [hI.asz]; decide)) (by intro h; first | exact absurd rfl h | decide) (by intro h; first | exact absurd h (by decide) | exact slot_same _ (by rw [hI.asz]; decide)) (by intro h; first | exact absurd rfl h | decide) (by intro h; first | exact absurd h (by decide) | exact slot_same _ (by rw [hI.asz]; decide)) (by intro h; first | exact absurd rfl h | decide) (by intro h; first | exact absurd h (by decide) | exact slot_same _ (by rw [hI.asz]; decide)) (by intro h; first | exact absurd rfl h | decide) (by intro h; first | exact absurd h (by decide) | exact slot_same _ (by rw [hI.asz]; decide)) (by intro h; first | exact absurd rfl h | decide)), (by rw [listed_same hil, listed_other (show 7 ≠ 8 by decide), listed_other (show 7 ≠ 10 by decide), h8, h10]; exact rfl), full 7 (by decide)⟩
    · obtain ⟨o', e, ho, hd, hg, d5, d7⟩ := hR.o8
      have hS' := hS
      rw [hunf, h10, dep_listed hi e d7] at hS'
      have hw : w = W.drew.alloc (.cells #[.int .i64 x] 3) := hS'
      subst hw
      have e30 := hI.s30 (dep_listed hi e d5)
      have e32 := hI.s32 (dep_listed hi e d7)
      have hrow' : (W.drew.alloc (.cells #[.int .i64 x] 3)).ownsRow base 3 1 v2 (L k).length (ints (L k)) := World.ownsRow.alloc (w := W.drew) hrow _
      obtain ⟨v', w', hr, hown', hgr, _, hat⟩ := run_append_own_at (P := Try.prog) (W.drew.alloc (.cells #[.int .i64 x] 3)) base 50 o'.type 3 i0 (.int .i64 0) 1 8 Try.underlying50 hi0 hz0 hz1 hz2 rfl (by decide) v2 (L k).length (ints (L k)) hrow'
        ⟨W.heap.size, 0, none⟩ 1 1 [.int .i64 x] rfl (cell_one_new W.drew _ _) (by simp [Value.oneCell']) (by unfold maxLen; omega) (by omega) (by simp; omega)
      refine opIn_value hF e hg (by simp [ho]) (v := v') (w' := w') ?_ ?_
      · unfold execOp
        simp only [ho, resolve, invoke, builtin, Sem.run_bind, Sem.run_pure, Result.andThen_ok, List.map_toArray, List.map_cons, List.map_nil, eval_slot, e30, e32, hr]
      · rw [hd]
        refine hK _ _ ⟨(hI.put 8 (some 33) _ (.inr ⟨33, rfl, by decide, by decide, by decide, by decide⟩) (by intro h; first | exact absurd h (by decide) | exact slot_same _ (by rw [hI.asz]; decide)) (by intro h; first | exact absurd rfl h | decide) (by intro h; first | exact absurd h (by decide) | exact slot_same _ (by rw [hI.asz]; decide)) (by intro h; first | exact absurd rfl h | decide) (by intro h; first | exact absurd h (by decide) | exact slot_same _ (by rw [hI.asz]; decide)) (by intro h; first | exact absurd rfl h | decide) (by intro h; first | exact absurd h (by decide) | exact slot_same _ (by rw [hI.asz]; decide)) (by intro h; first | exact absurd rfl h | decide) (by intro h; first | exact absurd h (by decide) | exact slot_same _ (by rw [hI.asz]; decide)) (by intro h; first | exact absurd rfl h | decide) (by intro h; first | exact absurd h (by decide) | exact slot_same _ (by rw [hI.asz]; decide)) (by intro h; first | exact absurd rfl h | decide) (by intro h; first | exact absurd h (by decide) | exact slot_same _ (by rw [hI.asz]; decide)) (by intro h; first | exact absurd rfl h | decide) (by intro h; first | exact absurd h (by decide) | exact slot_same _ (by rw [hI.asz]; decide)) (by intro h; first | exact absurd rfl h | decide) (by intro h; first | exact absurd h (by decide) | exact slot_same _ (by rw [hI.asz]; decide)) (by intro h; first | exact absurd rfl h | decide)), ?_, full 8 (by decide)⟩
        rw [listed_same hil, listed_other (show 8 ≠ 7 by decide), listed_other (show 8 ≠ 10 by decide), dep_listed hi e d7, h10, slot_same _ (by rw [hI.asz]; decide)]
        exact ⟨hown', (World.grownBy_alloc W.drew _ _).trans hgr, by simpa using hat⟩
    · obtain ⟨o', e, ho, hd, hg, d0, d1, _⟩ := hR.o9
      refine opIn_value hF e hg (by simp [ho]) (xindex (ρ := a.eval) ho hk (hI.s25 (dep_listed hi e d0)) (hI.s26 (dep_listed hi e d1))) ?_
      rw [hd]; exact hK _ _ ⟨(hI.put 9 (some 34) _ (.inr ⟨34, rfl, by decide, by decide, by decide, by decide⟩) (by intro h; first | exact absurd h (by decide) | exact slot_same _ (by rw [hI.asz]; decide)) (by intro h; first | exact absurd rfl h | decide) (by intro h; first | exact absurd h (by decide) | exact slot_same _ (by rw [hI.asz]; decide)) (by intro h; first | exact absurd rfl h | decide) (by intro h; first | exact absurd h (by decide) | exact slot_same _ (by rw [hI.asz]; decide)) (by intro h; first | exact absurd rfl h | decide) (by intro h; first | exact absurd h (by decide) | exact slot_same _ (by rw [hI.asz]; decide)) (by intro h; first | exact absurd rfl h | decide) (by intro h; first | exact absurd h (by decide) | exact slot_same _ (by rw [hI.asz]; decide)) (by intro h; first | exact absurd rfl h | decide) (by intro h; first | exact absurd h (by decide) | exact slot_same _ (by rw [hI.asz]; decide)) (by intro h; first | exact absurd rfl h | decide) (by intro h; first | exact absurd h (by decide) | exact slot_same _ (by rw [hI.asz]; decide)) (by intro h; first | exact absurd rfl h | decide) (by intro h; first | exact absurd h (by decide) | exact slot_same _ (by rw [hI.asz]; decide)) (by intro h; first | exact absurd rfl h | decide) (by intro h; first | exact absurd h (by decide) | exact slot_same _ (by rw [hI.asz]; decide)) (by intro h; first | exact absurd rfl h | decide)), (by rw [listed_other (show 9 ≠ 7 by decide), listed_other (show 9 ≠ 8 by decide), listed_other (show 9 ≠ 10 by decide), slot_other _ (show 34 ≠ 33 by decide)]; exact hS), full 9 (by decide)⟩
    · obtain ⟨o', e, ho, hd, hg, dall⟩ := hR.o10
      have hS' := hS
      rw [hunf, dep_listed hi e (dall 7 (by decide)), dep_listed hi e (dall 8 (by decide))] at hS'
      have hA : Apd W.drew base v2 (L k) x (slot a 33) w := hS'
      obtain ⟨g, cap, hv'⟩ := ownsRow_succ hA.own
      refine opIn_skip hF e hg (by simp [ho]) (xstore (ρ := a.eval) ho (hI.s34 (dep_listed hi e (dall 9 (by decide)))) hv' co cf) ?_
      rw [hd]
      refine hK _ _ ⟨(hI.put 10 none _ (.inl rfl) (by intro h; first | exact absurd h (by decide) | exact slot_same _ (by rw [hI.asz]; decide)) (by intro h; first | exact absurd rfl h | decide) (by intro h; first | exact absurd h (by decide) | exact slot_same _ (by rw [hI.asz]; decide)) (by intro h; first | exact absurd rfl h | decide) (by intro h; first | exact absurd h (by decide) | exact slot_same _ (by rw [hI.asz]; decide)) (by intro h; first | exact absurd rfl h | decide) (by intro h; first | exact absurd h (by decide) | exact slot_same _ (by rw [hI.asz]; decide)) (by intro h; first | exact absurd rfl h | decide) (by intro h; first | exact absurd h (by decide) | exact slot_same _ (by rw [hI.asz]; decide)) (by intro h; first | exact absurd rfl h | decide) (by intro h; first | exact absurd h (by decide) | exact slot_same _ (by rw [hI.asz]; decide)) (by intro h; first | exact absurd rfl h | decide) (by intro h; first | exact absurd h (by decide) | exact slot_same _ (by rw [hI.asz]; decide)) (by intro h; first | exact absurd rfl h | decide) (by intro h; first | exact absurd h (by decide) | exact slot_same _ (by rw [hI.asz]; decide)) (by intro h; first | exact absurd rfl h | decide) (by intro h; first | exact absurd h (by decide) | exact slot_same _ (by rw [hI.asz]; decide)) (by intro h; first | exact absurd rfl h | decide)), ?_, fun _ j hj => by rw [listed_other (show 10 ≠ j by omega)]; exact dep_listed hi e (dall j hj)⟩
      rw [listed_same hil, listed_other (show 10 ≠ 7 by decide), listed_other (show 10 ≠ 8 by decide), dep_listed hi e (dall 7 (by decide)), dep_listed hi e (dall 8 (by decide))]
      exact ⟨_, w, hA, by rw [hv']⟩
  · intro listed a w ⟨hI, hS, hFull⟩ hr
    have hall := all_listed hR.acy (by rw [hI.lsz, hR.size]) hr
    rw [hR.size] at hall
    rw [hall 7 (by decide), hall 8 (by decide), hall 10 (by decide)] at hS
    obtain ⟨v', W1, hA, hw⟩ := hS
    rw [hw]
    exact hQ a v' W1 hA
end Go.Proofs.Ytoafjlfidgjgbaa
