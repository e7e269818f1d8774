/- The drawn region of Take: the copy of the aligner. -/
import Derived.Test.YtjahjefkfcifhaaBClone
import Derived.Test.YtjahjefkfcifhaaPlan
import Derived.RangeFuncBox
namespace Go.Proofs.Ytjahjefkfcifhaa
open Go.RowKit Go.Shelf
set_option linter.unusedVariables false
set_option linter.unusedSimpArgs false

theorem own_less {w : World} {b b' : Nat} {e : TypeId} {sz n : Nat} {v : Value} {xs : List Value} (h : w.ownsRow b e sz v n xs) (hb : b' ≤ b) : w.ownsRow b' e sz v n xs := by
  refine ⟨h.1, ?_⟩
  rcases h.2 with h0 | ⟨g, cap, cur, r, hg, s⟩
  · exact .inl h0
  · exact .inr ⟨g, cap, cur, r, by omega, s⟩

structure RT (ops : Array Oper) : Prop where
  size : ops.size = 8
  acy : acyB ops = true
  o0 : ∃ o, ops[0]? = some o ∧ o.op = .fieldAddr 24 (.tmp 3) 0 ∧ o.dst = some 37 ∧ o.guard = none
  o1 : ∃ o, ops[1]? = some o ∧ o.op = .load 3 (.tmp 37) ∧ o.dst = some 38 ∧ o.guard = none ∧ depOn o 0 = true
  o2 : ∃ o, ops[2]? = some o ∧ o.op = .fieldAddr 24 (.tmp 3) 1 ∧ o.dst = some 39 ∧ o.guard = none
  o3 : ∃ o, ops[3]? = some o ∧ o.op = .load 22 (.tmp 39) ∧ o.dst = some 40 ∧ o.guard = none ∧ depOn o 2 = true
  o4 : ∃ o, ops[4]? = some o ∧ o.op = .call { callee := .value (.func 30), args := #[.tmp 40], argTypes := #[22] } ∧ o.dst = some 41 ∧ o.guard = none ∧ depOn o 3 = true
  o5 : ∃ o, ops[5]? = some o ∧ o.op = .build 24 #[(0, .tmp 38), (1, .tmp 41)] ∧ o.dst = some 42 ∧ o.guard = none ∧ depOn o 1 = true ∧ depOn o 4 = true
  o6 : ∃ o, ops[6]? = some o ∧ o.op = .alloc 24 ∧ o.dst = some 10 ∧ o.guard = none
  o7 : ∃ o, ops[7]? = some o ∧ o.op = .store 24 (.tmp 10) (.tmp 42) ∧ o.dst = none ∧ o.guard = none ∧ depOn o 5 = true ∧ depOn o 6 = true

section
variable {w : World} {ρ : Operand → Value}
theorem x_field {o : Oper} {s f : Nat} (ho : o.op = .fieldAddr 24 (.tmp s) f) {b : Nat} (hf : f = 0 ∨ f = 1) (h : ρ (.tmp s) = .pointer (some ⟨b, 0, none⟩)) : (execOp ρ o).run Try.prog w = .ok (.value (.pointer (some ⟨b, f, none⟩))) w := by
  rcases hf with rfl | rfl <;> (unfold execOp; rw [ho]; simp [go_sem, h])
theorem x_loadi {o : Oper} {s : Nat} (ho : o.op = .load 3 (.tmp s)) {p : Addr} {v : Value} (h : ρ (.tmp s) = .pointer (some p)) (hc : w.cell? p = some v) : (execOp ρ o).run Try.prog w = .ok (.value v) w := by
  unfold execOp; rw [ho]; simp [go_sem, h, hc]
theorem x_loadb {o : Oper} {s : Nat} (ho : o.op = .load 22 (.tmp s)) {p : Addr} {v : Value} (h : ρ (.tmp s) = .pointer (some p)) (hc : w.cell? p = some v) : (execOp ρ o).run Try.prog w = .ok (.value v) w := by
  unfold execOp; rw [ho]; simp [go_sem, h, hc]
theorem x_clone {o : Oper} {s : Nat} (ho : o.op = .call { callee := .value (.func 30), args := #[.tmp s], argTypes := #[22] }) (hfn : ρ (.func 30) = .func (.func 30) #[] #[]) : (execOp ρ o).run Try.prog w = .ok (.enter 30 #[ρ (.tmp s)]) w := by
  unfold execOp; rw [ho]; simp [go_sem, hfn]
theorem x_build {o : Oper} {s t : Nat} (ho : o.op = .build 24 #[(0, .tmp s), (1, .tmp t)]) {n : Int} {A : Option Addr} {k c : Nat} (h : ρ (.tmp s) = .int .i64 n) (h' : ρ (.tmp t) = .slice A k c) : (execOp ρ o).run Try.prog w = .ok (.value (.agg #[.int .i64 n, .slice A k c])) w := by
  unfold execOp; rw [ho]; simp [go_sem, h, h']
theorem x_alloc {o : Oper} (ho : o.op = .alloc 24) : (execOp ρ o).run Try.prog w = .ok (.value (.pointer (some ⟨w.heap.size, 0, none⟩))) (w.alloc (.cells #[.int .i64 0, .slice none 0 0] 24)) := by
  unfold execOp; rw [ho]; simp [go_sem]
theorem x_store {o : Oper} {s t : Nat} (ho : o.op = .store 24 (.tmp s) (.tmp t)) {b : Nat} {n : Int} {A : Option Addr} {k c : Nat} {c0 c1 : Value} (h : ρ (.tmp s) = .pointer (some ⟨b, 0, none⟩)) (h' : ρ (.tmp t) = .agg #[.int .i64 n, .slice A k c])
    (hb : w.heap[b]? = some (.cells #[c0, c1] 24 (0, 0))) : (execOp ρ o).run Try.prog w = .ok .skip ((w.setCell ⟨b, 0, none⟩ (.int .i64 n)).setCell ⟨b, 1, none⟩ (.slice A k c)) := by
  have e0 : w.cell? ⟨b, 0, none⟩ = some c0 := by simp [World.cell?, hb]
  have e1 : w.cell? ⟨b, 1, none⟩ = some c1 := by simp [World.cell?, hb]
  have z0 : w.frozen? ⟨b, 0, none⟩ = false := by simp [World.frozen?, hb]
  have z1 : w.frozen? ⟨b, 1, none⟩ = false := by simp [World.frozen?, hb]
  unfold execOp; rw [ho]; simp [go_sem, h, h', e0, e1, z0, z1]
end
theorem heap_set2 {w : World} {b : Nat} {c0 c1 : Value} {t : TypeId} (hb : w.heap[b]? = some (.cells #[c0, c1] t (0, 0))) (u v : Value) :
    ((w.setCell ⟨b, 0, none⟩ u).setCell ⟨b, 1, none⟩ v).heap[b]? = some (.cells #[u, v] t (0, 0)) := by
  have h1 := heap_setCell_same w b 0 _ t u hb
  have h2 := heap_setCell_same (w.setCell ⟨b, 0, none⟩ u) b 1 _ t v h1
  rw [h2]
  rfl

/-- What the copy leaves: a new block with the number and the new slice; the slice's row is the call's own. -/
structure Copied (W : World) (n : Int) (l : List Bool) (B : Nat) (v : Value) (w : World) : Prop where
  below : Below W.heap.size W w
  ge : W.heap.size ≤ B
  box : w.heap[B]? = some (.cells #[.int .i64 n, v] 24 (0, 0))
  own : w.ownsRow W.heap.size 4 1 v l.length (bools l)

/-- Where the region stands. -/
structure StT (W : World) (n : Int) (l : List Bool) (D : List Deferred) (ls : Nat → Bool) (a : Act) (w : World) : Prop where
  df : a.defers = D
  below : Below W.heap.size W w
  o54 : ls 5 = true → ls 4 = true
  o76 : ls 7 = true → ls 6 = true
  o75 : ls 7 = true → ls 5 = true
  s4 : ls 4 = true → w.ownsRow W.heap.size 4 1 (slot a 41) l.length (bools l)
  s5 : ls 5 = true → slot a 42 = .agg #[.int .i64 n, slot a 41]
  s6 : ls 6 = true → ∃ B c0 c1, W.heap.size ≤ B ∧ slot a 10 = .pointer (some ⟨B, 0, none⟩) ∧ w.heap[B]? = some (.cells #[c0, c1] 24 (0, 0)) ∧ (ls 7 = true → c0 = .int .i64 n ∧ c1 = slot a 41)

theorem box_not_row {w : World} {b : Nat} {v : Value} {k B : Nat} {xs cs : List Value} (h : w.ownsRow b 4 1 v k xs) (hB : w.heap[B]? = some (.cells cs.toArray 24 (0, 0))) : v.ownBlock ≠ some B := by
  rcases h.2 with ⟨rfl, _⟩ | ⟨g, cap, cur, rfl, _, hg, _⟩
  · intro e; cases e
  · intro e
    cases e
    rw [hB] at hg
    cases hg

def fixT (bx g off cap k : Nat) (n : Int) : Nat → Option (Nat × Value)
  | 0 => some (37, .pointer (some ⟨bx, 0, none⟩))
  | 1 => some (38, .int .i64 n)
  | 2 => some (39, .pointer (some ⟨bx, 1, none⟩))
  | 3 => some (40, .slice (some ⟨g, off, none⟩) k cap)
  | _ => none

def dsT : List Nat := [37, 38, 39, 40, 41, 42, 10]
set_option maxHeartbeats 1000000 in
theorem region_take {id m : Nat} {ops : Array Oper} {Q : Exit → Act → World → Prop} (hR : RT ops) (a : Act) (W : World) (hasz : a.tmps.size = 57) (bx g off cap : Nat) (n : Int) (l : List Bool) (hl : l.length ≤ 1000) (hpos : 0 < l.length)
    (s3 : slot a 3 = .pointer (some ⟨bx, 0, none⟩)) (hbx : bx < W.heap.size) (hg : g < W.heap.size) (b0 : W.cell? ⟨bx, 0, none⟩ = some (.int .i64 n)) (b1 : W.cell? ⟨bx, 1, none⟩ = some (.slice (some ⟨g, off, none⟩) l.length cap))
    (hc : ∀ j u, (bools l)[j]? = some u → W.cell? ⟨g, off + j, none⟩ = some u)
    (hQ : ∀ B v w, Copied W n l B v w → Q .normal (((((((a.put (some 37) (.pointer (some ⟨bx, 0, none⟩))).put (some 38) (.int .i64 n)).put (some 39) (.pointer (some ⟨bx, 1, none⟩))).put (some 40) (.slice (some ⟨g, off, none⟩) l.length cap)).put (some 41) v).put (some 42) (.agg #[.int .i64 n, v])).put (some 10) (.pointer (some ⟨B, 0, none⟩))) w) :
    (Code.region id ops true).wpIn Fence.wide m Try.prog Q a W := by
  refine region_plan (fun _ => trivial) (by kernel_rfl) 8 57 hR.size hR.acy (ambA dsT a) (fixT bx g off cap l.length n) (StT W n l a.defers) a W hasz ?_ ?_ ?_ ?_ ?_ ?_
  · exact amb_start
  · exact ⟨rfl, (Below.refl _ _).drew, nofun, nofun, nofun, nofun, nofun, nofun⟩
  · intro i d u hf
    have hi : i < 4 := by
      rcases Nat.lt_or_ge i 4 with h | h
      · exact h
      · exfalso
        match i, h with
        | i + 4, _ => cases hf
    have hoth : ∀ j d' u', fixT bx g off cap l.length n j = some (d', u') → j ≠ i → d' ≠ d := by
      intro j d' u' hj hne
      have hj4 : j < 4 := by
        rcases Nat.lt_or_ge j 4 with h | h
        · exact h
        · exfalso
          match j, h with
          | j + 4, _ => cases hj
      have : i = 0 ∨ i = 1 ∨ i = 2 ∨ i = 3 := by omega
      have : j = 0 ∨ j = 1 ∨ j = 2 ∨ j = 3 := by omega
      rcases ‹i = 0 ∨ i = 1 ∨ i = 2 ∨ i = 3› with rfl | rfl | rfl | rfl <;> rcases ‹j = 0 ∨ j = 1 ∨ j = 2 ∨ j = 3› with rfl | rfl | rfl | rfl <;> cases hf <;> cases hj <;> first | exact absurd rfl hne | decide
    have : i = 0 ∨ i = 1 ∨ i = 2 ∨ i = 3 := by omega
    rcases this with rfl | rfl | rfl | rfl <;> cases hf
    · obtain ⟨o, e, ho, hd, hgd⟩ := hR.o0
      exact ⟨by decide, by decide, amb_in (by decide), hoth, o, e, hd, hgd, by simp [ho], fun ls a w hk hdp hS => x_field ho (.inl rfl) ((hk.1 3 _ (amb_out (by decide))).trans s3)⟩
    · obtain ⟨o, e, ho, hd, hgd, d0⟩ := hR.o1
      exact ⟨by decide, by decide, amb_in (by decide), hoth, o, e, hd, hgd, by simp [ho], fun ls a w hk hdp hS => x_loadi ho (hk.2 0 _ _ rfl (hdp 0 d0)) (((bcell hS.below).1 _ _ hbx).trans b0)⟩
    · obtain ⟨o, e, ho, hd, hgd⟩ := hR.o2
      exact ⟨by decide, by decide, amb_in (by decide), hoth, o, e, hd, hgd, by simp [ho], fun ls a w hk hdp hS => x_field ho (.inr rfl) ((hk.1 3 _ (amb_out (by decide))).trans s3)⟩
    · obtain ⟨o, e, ho, hd, hgd, d2⟩ := hR.o3
      exact ⟨by decide, by decide, amb_in (by decide), hoth, o, e, hd, hgd, by simp [ho], fun ls a w hk hdp hS => x_loadb ho (hk.2 2 _ _ rfl (hdp 2 d2)) (((bcell hS.below).1 _ _ hbx).trans b1)⟩
  · intro i d u hf ls a w hl hS
    have hi : i = 0 ∨ i = 1 ∨ i = 2 ∨ i = 3 := by
      rcases Nat.lt_or_ge i 4 with h | h
      · omega
      · exfalso
        match i, h with
        | i + 4, _ => cases hf
    have h4 : ∀ j, 4 ≤ j → upd ls i j = ls j := fun j hj => upd_other (by omega)
    have hsl : ∀ s, s = 41 ∨ s = 42 ∨ s = 10 → slot (a.put (some d) u) s = slot a s := by
      intro s hs
      refine slot_other u ?_
      rcases hi with rfl | rfl | rfl | rfl <;> cases hf <;> omega
    refine ⟨(defers_put _).trans hS.df, hS.below, ?_, ?_, ?_, ?_, ?_, ?_⟩
    · rw [h4 5 (by omega), h4 4 (by omega)]; exact hS.o54
    · rw [h4 7 (by omega), h4 6 (by omega)]; exact hS.o76
    · rw [h4 7 (by omega), h4 5 (by omega)]; exact hS.o75
    · rw [h4 4 (by omega), hsl 41 (by simp)]; exact hS.s4
    · rw [h4 5 (by omega), hsl 41 (by simp), hsl 42 (by simp)]; exact hS.s5
    · rw [h4 6 (by omega), h4 7 (by omega), hsl 41 (by simp), hsl 10 (by simp)]; exact hS.s6
  · intro i hi hf
    have : i = 4 ∨ i = 5 ∨ i = 6 ∨ i = 7 := by
      rcases Nat.lt_or_ge i 4 with h | h
      · exfalso
        have : i = 0 ∨ i = 1 ∨ i = 2 ∨ i = 3 := by omega
        rcases this with rfl | rfl | rfl | rfl <;> cases hf
      · omega
    have hfd : ∀ d, d = 41 ∨ d = 42 ∨ d = 10 → ∀ j d' u', fixT bx g off cap l.length n j = some (d', u') → d' ≠ d := by
      intro d hd j d' u' hj
      match j with
      | 0 => cases hj; omega
      | 1 => cases hj; omega
      | 2 => cases hj; omega
      | 3 => cases hj; omega
      | j + 4 => cases hj
    rcases this with rfl | rfl | rfl | rfl
    · obtain ⟨o, e, ho, hd, hgd, d3⟩ := hR.o4
      refine ⟨o, e, fun d hd' => by rw [hd] at hd'; cases hd'; exact ⟨amb_in (by decide), hfd _ (by simp)⟩, fun ls a w hun hT hk hdp hS K hK => ?_⟩
      refine opIn_enter (fun _ => trivial) rfl e hgd (by simp [ho]) (x_clone ho rfl) ?_
      rw [show a.eval (.tmp 40) = _ from hk.2 3 _ _ rfl (hdp 3 d3)]
      refine (callsIn_wide.2 (clone_any g off cap l w hl (hide fun j u hj => (hS.below.cell (p := ⟨g, off + j, none⟩) hg).trans (hc j u hj)) (Nat.lt_of_lt_of_le hg hS.below.size))).mono ?_
      rintro e' w' ⟨v, rfl, hown, hb⟩
      refine ⟨v, rfl, hK v w' ?_⟩
      rw [hd]
      have h5 : ls 5 = false := by cases h : ls 5 with | false => rfl | true => rw [hS.o54 h] at hun; cases hun
      have h7 : ls 7 = false := by cases h : ls 7 with | false => rfl | true => rw [hS.o75 h] at h5; cases h5
      have hsz := hS.below.size
      refine ⟨(defers_put _).trans hS.df, hS.below.trans (hb.mono hsz), ?_, ?_, ?_, ?_, ?_, ?_⟩
      · rw [upd_other (by decide), h5]; nofun
      · rw [upd_other (by decide), h7]; nofun
      · rw [upd_other (by decide), h7]; nofun
      · intro _; rw [slot_same v (by rw [hT]; decide)]; exact own_less hown hsz
      · rw [upd_other (by decide), h5]; nofun
      · rw [upd_other (by decide), upd_other (show 7 ≠ 4 by decide), h7, slot_other v (show 41 ≠ 10 by decide)]
        intro h6
        obtain ⟨B, c0, c1, hB, e10, hbk, _⟩ := hS.s6 h6
        exact ⟨B, c0, c1, hB, e10, (hb.block B (Array.getElem?_eq_some_iff.1 hbk).1).trans hbk, nofun⟩
    · obtain ⟨o, e, ho, hd, hgd, d1, d4⟩ := hR.o5
      refine ⟨o, e, fun d hd' => by rw [hd] at hd'; cases hd'; exact ⟨amb_in (by decide), hfd _ (by simp)⟩, fun ls a w hun hT hk hdp hS K hK => ?_⟩
      have hown := hS.s4 (hdp 4 d4)
      obtain ⟨A, c, hv⟩ := (Row.of_own hown).form
      have h7 : ls 7 = false := by cases h : ls 7 with | false => rfl | true => rw [hS.o75 h] at hun; cases hun
      refine opIn_value (fun _ => trivial) e hgd (by simp [ho]) (x_build ho (hk.2 1 _ _ rfl (hdp 1 d1)) hv) ?_
      refine hK _ _ ?_
      rw [hd]
      refine ⟨(defers_put _).trans hS.df, hS.below, ?_, ?_, ?_, ?_, ?_, ?_⟩
      · intro _; rw [upd_other (by decide)]; exact hdp 4 d4
      · rw [upd_other (by decide), h7]; nofun
      · rw [upd_other (by decide), h7]; nofun
      · intro _; rw [slot_other _ (show 42 ≠ 41 by decide)]; exact hown
      · intro _; rw [slot_same _ (by rw [hT]; decide), slot_other _ (show 42 ≠ 41 by decide), hv]
      · rw [upd_other (by decide), upd_other (show 7 ≠ 5 by decide), h7, slot_other _ (show 42 ≠ 10 by decide)]
        intro h6
        obtain ⟨B, c0, c1, hB, e10, hbk, _⟩ := hS.s6 h6
        exact ⟨B, c0, c1, hB, e10, hbk, nofun⟩
    · obtain ⟨o, e, ho, hd, hgd⟩ := hR.o6
      refine ⟨o, e, fun d hd' => by rw [hd] at hd'; cases hd'; exact ⟨amb_in (by decide), hfd _ (by simp)⟩, fun ls a w hun hT hk hdp hS K hK => ?_⟩
      have h7 : ls 7 = false := by cases h : ls 7 with | false => rfl | true => rw [hS.o76 h] at hun; cases hun
      refine opIn_value (fun _ => trivial) e hgd (by simp [ho]) (x_alloc ho) ?_
      refine hK _ _ ?_
      rw [hd]
      refine ⟨(defers_put _).trans hS.df, hS.below.alloc hS.below.size _, ?_, ?_, ?_, ?_, ?_, ?_⟩
      · rw [upd_other (show 5 ≠ 6 by decide), upd_other (show 4 ≠ 6 by decide)]; exact hS.o54
      · rw [upd_other (by decide), h7]; nofun
      · rw [upd_other (by decide), h7]; nofun
      · rw [upd_other (by decide), slot_other _ (show 10 ≠ 41 by decide)]; intro h; exact (hS.s4 h).alloc _
      · rw [upd_other (by decide), slot_other _ (show 10 ≠ 41 by decide), slot_other _ (show 10 ≠ 42 by decide)]; exact hS.s5
      · intro _
        rw [upd_other (show 7 ≠ 6 by decide), h7]
        exact ⟨w.heap.size, _, _, hS.below.size, slot_same _ (by rw [hT]; decide), heap_alloc_new w _, nofun⟩
    · obtain ⟨o, e, ho, hd, hgd, d5, d6⟩ := hR.o7
      refine ⟨o, e, (fun d hd' => by rw [hd] at hd'; cases hd'), fun ls a w hun hT hk hdp hS K hK => ?_⟩
      have h4 := hS.o54 (hdp 5 d5)
      have hown := hS.s4 h4
      obtain ⟨A, c, hv⟩ := (Row.of_own hown).form
      obtain ⟨B, c0, c1, hB, e10, hbk, _⟩ := hS.s6 (hdp 6 d6)
      have h42 := hS.s5 (hdp 5 d5)
      rw [hv] at h42
      refine opIn_skip (fun _ => trivial) e hgd (by simp [ho]) (x_store ho e10 h42 hbk) ?_
      refine hK _ _ ?_
      rw [hd]
      have hnb := box_not_row (cs := [c0, c1]) hown hbk
      refine ⟨(defers_put _).trans hS.df, (hS.below.setCell (p := ⟨B, 0, none⟩) hB _).setCell (p := ⟨B, 1, none⟩) hB _, ?_, ?_, ?_, ?_, ?_, ?_⟩
      · intro _; rw [upd_other (by decide)]; exact h4
      · intro _; rw [upd_other (by decide)]; exact hdp 6 d6
      · intro _; rw [upd_other (by decide)]; exact hdp 5 d5
      · intro _
        exact ownsRow_setCell_other (ownsRow_setCell_other hown hnb _) hnb _
      · intro _; exact hS.s5 (hdp 5 d5)
      · intro _
        exact ⟨B, _, _, hB, e10, heap_set2 hbk _ _, fun _ => ⟨rfl, hv.symm⟩⟩
  · intro ls a w hall hT hk hS
    obtain ⟨B, c0, c1, hB, e10, hbk, h7⟩ := hS.s6 (hall 6 (by decide))
    obtain ⟨rfl, rfl⟩ := h7 (hall 7 (by decide))
    have h42 := hS.s5 (hall 5 (by decide))
    have h := hQ B _ w ⟨hS.below, hB, hbk, hS.s4 (hall 4 (by decide))⟩
    refine Eq.mp (congrArg (fun x => Q .normal x w) ?_) h
    refine act_ext (by simp only [size_put]; omega) ?_ (by simp only [defers_put]; exact hS.df.symm)
    intro s hs
    simp only [size_put] at hs
    have e0 := hk.2 0 _ _ rfl (hall 0 (by decide))
    have e1 := hk.2 1 _ _ rfl (hall 1 (by decide))
    have e2 := hk.2 2 _ _ rfl (hall 2 (by decide))
    have e3 := hk.2 3 _ _ rfl (hall 3 (by decide))
    by_cases q10 : s = 10
    · subst q10; rw [slot_same _ (by simp only [size_put]; exact hs)]; exact e10.symm
    rw [slot_other _ (Ne.symm q10)]
    by_cases q42 : s = 42
    · subst q42; rw [slot_same _ (by simp only [size_put]; exact hs)]; exact h42.symm
    rw [slot_other _ (Ne.symm q42)]
    by_cases q41 : s = 41
    · subst q41; rw [slot_same _ (by simp only [size_put]; exact hs)]
    rw [slot_other _ (Ne.symm q41)]
    by_cases q40 : s = 40
    · subst q40; rw [slot_same _ (by simp only [size_put]; exact hs)]; exact e3.symm
    rw [slot_other _ (Ne.symm q40)]
    by_cases q39 : s = 39
    · subst q39; rw [slot_same _ (by simp only [size_put]; exact hs)]; exact e2.symm
    rw [slot_other _ (Ne.symm q39)]
    by_cases q38 : s = 38
    · subst q38; rw [slot_same _ (by simp only [size_put]; exact hs)]; exact e1.symm
    rw [slot_other _ (Ne.symm q38)]
    by_cases q37 : s = 37
    · subst q37; rw [slot_same _ hs]; exact e0.symm
    rw [slot_other _ (Ne.symm q37)]
    exact (hk.1 s _ (amb_out (by simp only [dsT, List.mem_cons, List.not_mem_nil, or_false]; omega))).symm
end Go.Proofs.Ytjahjefkfcifhaa
