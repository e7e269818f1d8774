/- punctuation: closures, latest, Implies. punctuation: latest; slices.ContainsFunc, Contains. -/
import Derived.Test.YtppaiihcaajkaaaGreatKPunM
namespace Go.Proofs.YtppaiihcaajkaaaGreat
open Go.RowKit
set_option linter.unusedVariables false
set_option linter.unusedSimpArgs false
def impB (a b : Pnt) : Bool := decide (a.s ≤ b.s) && decide (b.t ≤ a.t)
def latI (mark : Int) (l : List Pnt) (seq : Int) : Int := (l.filter fun p => decide (p.s ≤ seq)).foldl (fun k p => max k p.t) mark
theorem foldl_take {α β : Type} {l : List α} {j : Nat} (f : β → α → β) (z : β) (h : j < l.length) : (l.take (j + 1)).foldl f z = f ((l.take j).foldl f z) l[j] := by
  rw [List.take_succ_eq_append_getElem h, List.foldl_append]; rfl
section
variable (w : World)
set_option maxHeartbeats 4000000 in
theorem latb_any (p : Pnt) (c : Nat) (seq : Int) (hc : w.cell? ⟨c, 0, none⟩ = some (.int .i64 seq)) : Calls Tryz.prog 127 #[.agg #[.int .i64 p.s, .int .i64 p.t], .pointer (some ⟨c, 0, none⟩)] w (RetBV (decide (p.s ≤ seq)) w) := by
  have lc := World.block_lt_of_cell? w _ hc
  obtain ⟨s, t⟩ := p
  go_enter Tryz.func127, Tryz.ntmps127
  go_wp2
  go_ret
  exact ⟨rfl, below_laid _⟩
set_option maxHeartbeats 4000000 in
theorem setb_any (p : Pnt) (c d : Nat) (next mark : Int) (hc : w.cell? ⟨c, 0, none⟩ = some (.int .i64 next)) (hd : w.cell? ⟨d, 3, none⟩ = some (.int .i64 mark)) : Calls Tryz.prog 117 #[.agg #[.int .i64 p.s, .int .i64 p.t], .pointer (some ⟨c, 0, none⟩), .pointer (some ⟨d, 0, none⟩)] w (RetBV (decide (next < p.s) && decide (mark < p.t)) w) := by
  have lc := World.block_lt_of_cell? w _ hc
  have ld := World.block_lt_of_cell? w _ hd
  obtain ⟨s, t⟩ := p
  cases t1 : decide (next < s) <;> cases t2 : decide (mark < t)
  all_goals
    simp only [t1, t2]
    go_enter Tryz.func117, Tryz.ntmps117
    go_wp2
    go_ret
    exact ⟨rfl, below_laid _⟩
set_option maxHeartbeats 4000000 in
theorem impl_any (p r : Pnt) : Calls Tryz.prog 120 #[.agg #[.int .i64 p.s, .int .i64 p.t], .agg #[.int .i64 r.s, .int .i64 r.t]] w (RetBV (impB p r) w) := by
  obtain ⟨s, t⟩ := p
  obtain ⟨s', t'⟩ := r
  unfold impB
  cases t1 : decide (s ≤ s') <;> cases t2 : decide (t' ≤ t)
  all_goals
    simp only [t1, t2]
    go_enter Tryz.func120, Tryz.ntmps120
    go_wp2
    go_ret
    exact ⟨rfl, bthen (below_laid _) (below_laid _)⟩
set_option maxHeartbeats 4000000 in
theorem addb1_any (p r : Pnt) (c : Nat) (hc : w.cell? ⟨c, 0, none⟩ = some (.int .i64 r.s)) (hd : w.cell? ⟨c, 1, none⟩ = some (.int .i64 r.t)) : Calls Tryz.prog 119 #[.agg #[.int .i64 p.s, .int .i64 p.t], .pointer (some ⟨c, 0, none⟩)] w (RetBV (impB p r) w) := by
  have lc := World.block_lt_of_cell? w _ hc
  have HI := hide (fun w' => impl_any w' p r)
  obtain ⟨X, hX⟩ : ∃ X, impB p r = X := ⟨_, rfl⟩
  rw [hX] at HI ⊢
  clear hX
  obtain ⟨s, t⟩ := p
  obtain ⟨s', t'⟩ := r
  simp only at hc hd HI
  go_enter Tryz.func119, Tryz.ntmps119
  go_wp2_with (go_at_call 120; refine (HI.out _).mono ?_; rintro e1 w1 ⟨rfl, hb1⟩)
  go_ret
  exact ⟨rfl, bthen (below_laid _) hb1⟩
set_option maxHeartbeats 4000000 in
theorem addb2_any (p r : Pnt) (c : Nat) (hc : w.cell? ⟨c, 0, none⟩ = some (.int .i64 r.s)) (hd : w.cell? ⟨c, 1, none⟩ = some (.int .i64 r.t)) : Calls Tryz.prog 121 #[.agg #[.int .i64 p.s, .int .i64 p.t], .pointer (some ⟨c, 0, none⟩)] w (RetBV (!impB r p) w) := by
  have lc := World.block_lt_of_cell? w _ hc
  have HI := hide (fun w' => impl_any w' r p)
  obtain ⟨X, hX⟩ : ∃ X, impB r p = X := ⟨_, rfl⟩
  rw [hX] at HI ⊢
  clear hX
  obtain ⟨s, t⟩ := p
  obtain ⟨s', t'⟩ := r
  simp only at hc hd HI
  cases X
  all_goals
    go_enter Tryz.func121, Tryz.ntmps121
    go_wp2_with (go_at_call 120; refine (HI.out _).mono ?_; rintro e1 w1 ⟨rfl, hb1⟩)
    go_ret
    exact ⟨rfl, bthen (below_laid _) hb1⟩
set_option maxHeartbeats 4000000 in
theorem addb3_any (p r : Pnt) (h1 : inI (p.s - r.s)) : Calls Tryz.prog 123 #[.agg #[.int .i64 p.s, .int .i64 p.t], .agg #[.int .i64 r.s, .int .i64 r.t]] w (Ret (.int .i64 (p.s - r.s)) w) := by
  obtain ⟨s, t⟩ := p
  obtain ⟨s', t'⟩ := r
  unfold inI at h1
  simp only at h1 ⊢
  have hw : IntKind.i64.wrap (s - s') = s - s' := by rw [IntKind.wrap_i64]; omega
  go_enter Tryz.func123, Tryz.ntmps123
  go_wp2
  go_ret
  exact Ret.int rfl (bthen (below_laid _) (below_laid _))
end
end Go.Proofs.YtppaiihcaajkaaaGreat

namespace Go.Proofs.YtppaiihcaajkaaaGreat
open Go.RowKit
set_option linter.unusedVariables false
set_option linter.unusedSimpArgs false
def RetNP (P : Int → Prop) (w : World) (e : Ending) (w' : World) : Prop := ∃ n, e = .returned (.int .i64 n) ∧ P n ∧ Below w.heap.size w w'
section
variable (w : World)
set_option maxRecDepth 100000 in
set_option maxHeartbeats 8000000 in
theorem latest_any (mark seq : Int) (l : List Pnt) (B : Option Addr) (b : Nat) (hl : Lst w (· < w.heap.size) 2 RPn (.slice B l.length b) l) (hm4 : l.length ≤ 1000) :
    Calls Tryz.prog 113 #[.int .i64 mark, .slice B l.length b, .int .i64 seq] w (Ret (.int .i64 (latI mark l seq)) w) := by
  have HF := hide (filA_any (w.alloc (.cells #[.int .i64 seq] 3)) l B b w.heap.size (fun p => decide (p.s ≤ seq)) (hl.below rd_Pn (below_laid _)) hm4 (hide fun w1 p hb => latb_any w1 p w.heap.size seq (keep1 hb (cells_lit w [.int .i64 seq] 3 0 _ rfl))))
  have HB0 := hide (below_laid (w := w) (.cells #[.int .i64 seq] 3))
  obtain ⟨L, hL⟩ : ∃ L, l.filter (fun p => decide (p.s ≤ seq)) = L := ⟨_, rfl⟩
  have HLL := hide (show latI mark l seq = L.foldl (fun k p => max k p.t) mark by unfold latI; rw [hL])
  have HLN := hide (show L.length ≤ 1000 by rw [← hL]; exact Nat.le_trans (List.length_filter_le _ _) hm4)
  obtain ⟨R, hR⟩ : ∃ R, latI mark l seq = R := ⟨_, rfl⟩
  rw [hR] at HLL ⊢
  rw [hL] at HF
  clear hl hL hR hm4
  obtain ⟨n0, hn0⟩ : ∃ n0, l.length = n0 := ⟨_, rfl⟩
  rw [hn0] at HF ⊢
  clear hn0
  go_enter Tryz.func113, Tryz.ntmps113
  go_wp2_with (go_at_call 116; refine HF.out.mono ?_; rintro e1 w1 ⟨v, rfl, hg, hb1⟩; obtain ⟨A1, c1, rfl⟩ := hg.form; have HL1 := hide (hg.lst rd_Pn (by decide) (by have := HLN.out; unfold maxLen; omega)); have HB1 := hide (bthen HB0.out hb1); clear hg hb1)
  obtain ⟨m, hm⟩ : ∃ m, L.length = m := ⟨_, rfl⟩
  have hm4 := HLN.out
  rw [hm] at HL1 hm4 ⊢
  have HM := hide hm
  clear hm
  go_loopw [0, 13] (fun k i wr => ∃ (j : Nat) (y : Int), j ≤ m ∧ i = .int .i64 j ∧ k = .int .i64 y ∧ Hid ((L.take j).foldl (fun k p => max k p.t) mark = y) ∧ Hid (Below w1.heap.size w1 wr)) (fun _ i _ => m - (intOf i).toNat)
  case atStart => exact ⟨0, mark, by omega, rfl, rfl, hide rfl, hide (Below.refl _ _)⟩
  case round =>
    obtain ⟨j, y, hj, rfl, rfl, HY, HB⟩ := hrel
    by_cases hlt : j < m
    · have hjl : j < L.length := by rw [HM.out]; exact hlt
      obtain ⟨g, off, xs, e2, hg', hxl, hc, hR⟩ := HL1.out.at_ hjl
      cases e2
      have HYS := hide (foldl_take (fun (k : Int) (p : Pnt) => max k p.t) mark hjl)
      obtain ⟨n, hn⟩ : ∃ n, L[j] = n := ⟨_, rfl⟩
      rw [hn] at hR HYS
      obtain ⟨s, t⟩ := n
      obtain ⟨rfl, -⟩ := hR
      have k0 := keep1 HB.out (hc 0 _ rfl)
      have k1 := keep1 HB.out (hc 1 _ rfl)
      rw [Nat.add_zero] at k0
      simp only at k0 k1
      have hu0 : (0 : Int) ≤ (j : Int) := by omega
      have hu1 : (j : Int) < (m : Int) := by omega
      clear hn hc hxl
      go_wp2
      go_roundw
      case rel => exact ⟨j + 1, max y t, by omega, by go_num, by congr 1; split <;> omega, hide (by rw [HYS.out, HY.out]), hide (HB.out.alloc HB.out.size _)⟩
      case measure => simp [intOf]; omega
    · obtain rfl : j = m := by omega
      have HE := hide (show y = R by rw [← HY.out, List.take_of_length_le (by rw [HM.out]; exact Nat.le_refl _), HLL.out])
      go_wp2
      go_ret
      exact Ret.int HE.out (HB1.out.trans (HB.out.mono HB1.out.size))
def RetK (p : Bool) (w : World) (e : Ending) (w' : World) : Prop := ∃ k : Int, e = .returned (.int .i64 k) ∧ (0 ≤ k ↔ p = true) ∧ Below w.heap.size w w'
theorem any_take {α : Type} {l : List α} {j : Nat} {f : α → Bool} (h : j < l.length) : (l.take (j + 1)).any f = ((l.take j).any f || f l[j]) := by
  rw [List.take_succ_eq_append_getElem h, List.any_append]; simp
theorem any_hit {α : Type} {l : List α} {j : Nat} {f : α → Bool} (h : j < l.length) (hf : f l[j] = true) : l.any f = true := List.any_eq_true.2 ⟨l[j], List.getElem_mem h, hf⟩
set_option maxRecDepth 100000 in
set_option maxHeartbeats 8000000 in
theorem idxf_any (l : List Pnt) (B : Option Addr) (b c0 : Nat) (f : Pnt → Bool) (hl : Lst w (· < w.heap.size) 2 RPn (.slice B l.length b) l)
    (HF : Hid (∀ w1 (p : Pnt), Below w.heap.size w w1 → Calls Tryz.prog 119 #[.agg #[.int .i64 p.s, .int .i64 p.t], .pointer (some ⟨c0, 0, none⟩)] w1 (RetBV (f p) w1))) :
    Calls Tryz.prog 129 #[.slice B l.length b, .func (.func 119) #[] #[.pointer (some ⟨c0, 0, none⟩)]] w (RetK (l.any f) w) := by
  have hlen := hl.len
  unfold maxLen at hlen
  have HL := hide (fun (w1 : World) (hb : Below w.heap.size w w1) => hl.below rd_Pn hb)
  obtain ⟨m, hm⟩ : ∃ m, l.length = m := ⟨_, rfl⟩
  obtain ⟨R, hR⟩ : ∃ R, l.any f = R := ⟨_, rfl⟩
  have HR := hide hR
  rw [hm] at HL hlen ⊢
  rw [hR]
  have HM := hide hm
  clear hl hm hR
  go_enter Tryz.func129, Tryz.ntmps129
  go_wp2
  go_loopw [8] (fun i wr => ∃ (j : Nat), j ≤ m ∧ i = .int .i64 j ∧ Hid ((l.take j).any f = false) ∧ Hid (Below w.heap.size w wr)) (fun i _ => m - (intOf i).toNat)
  case atStart => exact ⟨0, by omega, rfl, hide (by simp), hide (Below.refl _ _)⟩
  case round =>
    obtain ⟨j, hj, rfl, HY, HB⟩ := hrel
    by_cases hlt : j < m
    · have hjl : j < l.length := by rw [HM.out]; exact hlt
      obtain ⟨g, off, xs, e2, hg', hxl, hc, hR⟩ := (HL.out wr HB.out).at_ hjl
      cases e2
      have HYS := hide (any_take (f := f) hjl)
      have HHT := hide (fun h => any_hit (f := f) hjl h)
      obtain ⟨n, hn⟩ : ∃ n, l[j] = n := ⟨_, rfl⟩
      rw [hn] at hR HYS HHT
      obtain ⟨rfl, -⟩ := hR
      have k0 := hc 0 _ rfl
      have k1 := hc 1 _ rfl
      rw [Nat.add_zero] at k0
      have hu0 : (0 : Int) ≤ (j : Int) := by omega
      have hu1 : (j : Int) < (m : Int) := by omega
      have HFC := hide (HF.out wr n HB.out)
      clear hn hc hxl
      cases hf : f n
      · rw [hf] at HFC
        have HE := hide (show (l.take (j + 1)).any f = false by rw [HYS.out, HY.out, hf]; rfl)
        clear hf
        go_wp2_with (go_at_call 119; refine HFC.out.mono ?_; rintro e1 w1 ⟨rfl, hb1⟩; have HB1 := hide hb1; clear hb1)
        go_roundw
        case rel => exact ⟨j + 1, by omega, by go_num, HE, hide (bthen HB.out HB1.out)⟩
        case measure => simp [intOf]; omega
      · rw [hf] at HFC
        have HE := hide (HHT.out hf)
        clear hf
        go_wp2_with (go_at_call 119; refine HFC.out.mono ?_; rintro e1 w1 ⟨rfl, hb1⟩; have HB1 := hide hb1; clear hb1)
        go_ret
        exact ⟨_, rfl, ⟨fun _ => by rw [← HR.out]; exact HE.out, fun _ => hu0⟩, bthen HB.out HB1.out⟩
    · obtain rfl : j = m := by omega
      have HE := hide (show R = false by rw [← HR.out, ← HY.out, List.take_of_length_le (by rw [HM.out]; exact Nat.le_refl _)])
      go_wp2
      go_ret
      exact ⟨_, rfl, by rw [HE.out]; simp, HB.out⟩
set_option maxHeartbeats 4000000 in
theorem contf_any (l : List Pnt) (B : Option Addr) (b c0 : Nat) (f : Pnt → Bool) (hl : Lst w (· < w.heap.size) 2 RPn (.slice B l.length b) l)
    (HF : Hid (∀ w1 (p : Pnt), Below w.heap.size w w1 → Calls Tryz.prog 119 #[.agg #[.int .i64 p.s, .int .i64 p.t], .pointer (some ⟨c0, 0, none⟩)] w1 (RetBV (f p) w1))) :
    Calls Tryz.prog 118 #[.slice B l.length b, .func (.func 119) #[] #[.pointer (some ⟨c0, 0, none⟩)]] w (RetBV (l.any f) w) := by
  have HI := hide (idxf_any w l B b c0 f hl HF)
  obtain ⟨m, hm⟩ : ∃ m, l.length = m := ⟨_, rfl⟩
  obtain ⟨R, hR⟩ : ∃ R, l.any f = R := ⟨_, rfl⟩
  rw [hm, hR] at HI
  rw [hm, hR]
  clear hl HF hm hR
  go_enter Tryz.func118, Tryz.ntmps118
  go_wp2_with (go_at_call 129; refine HI.out.mono ?_; rintro e1 w1 ⟨k, rfl, hk, hb1⟩; have HK := hide hk; clear hk)
  go_ret
  exact ⟨congrArg (fun b => Ending.returned (.bool b)) (show decide (0 ≤ k) = R by rw [Bool.eq_iff_iff, decide_eq_true_eq]; exact HK.out), hb1⟩
set_option maxRecDepth 100000 in
set_option maxHeartbeats 8000000 in
theorem idxi_any (l : List Int) (A : Option Addr) (a : Nat) (n : Int) (hl : Lst w (· < w.heap.size) 1 RIn (.slice A l.length a) l) : Calls Tryz.prog 126 #[.slice A l.length a, .int .i64 n] w (RetNP (fun k => l = [] → k < 0) w) := by
  have hlen := hl.len
  unfold maxLen at hlen
  have HL := hide hl
  obtain ⟨m, hm⟩ : ∃ m, l.length = m := ⟨_, rfl⟩
  rw [hm] at HL hlen ⊢
  have HM := hide hm
  clear hl hm
  go_enter Tryz.func126, Tryz.ntmps126
  go_wp2
  go_loop [8] (fun i => ∃ (j : Nat), j ≤ m ∧ i = .int .i64 j) (fun i => m - (intOf i).toNat)
  case atStart => exact ⟨0, by omega, rfl⟩
  case round =>
    obtain ⟨j, hj, rfl⟩ := hrel
    by_cases hlt : j < m
    · have hjl : j < l.length := by rw [HM.out]; exact hlt
      obtain ⟨g, off, xs, e2, hg', hxl, hc, hR⟩ := HL.out.at_ hjl
      cases e2
      obtain ⟨y, hy⟩ : ∃ y, l[j] = y := ⟨_, rfl⟩
      rw [hy] at hR
      obtain ⟨rfl, -⟩ := hR
      have k0 := hc 0 _ rfl
      rw [Nat.mul_one, Nat.add_zero] at k0
      have hu0 : (0 : Int) ≤ (j : Int) := by omega
      have hu1 : (j : Int) < (m : Int) := by omega
      clear hy hc hxl
      by_cases h : n = y
      · subst h
        go_wp2
        go_ret
        exact ⟨_, rfl, fun h => by rw [← HM.out, h] at hlt; simp at hlt, Below.refl _ _⟩
      · have t1 : (n == y) = false := beq_eq_false_iff_ne.2 h
        go_wp2
        go_round
        case rel => exact ⟨j + 1, by omega, by go_num⟩
        case measure => simp [intOf]; omega
    · obtain rfl : j = m := by omega
      go_wp2
      go_ret
      exact ⟨_, rfl, fun _ => by decide, Below.refl _ _⟩
set_option maxHeartbeats 4000000 in
theorem conti_any (l : List Int) (A : Option Addr) (a : Nat) (n : Int) (hl : Lst w (· < w.heap.size) 1 RIn (.slice A l.length a) l) : Calls Tryz.prog 112 #[.slice A l.length a, .int .i64 n] w (RetBP (fun f => l = [] → f = false) w) := by
  have HI := hide (idxi_any w l A a n hl)
  obtain ⟨m, hm⟩ : ∃ m, l.length = m := ⟨_, rfl⟩
  rw [hm] at HI ⊢
  clear hl hm
  go_enter Tryz.func112, Tryz.ntmps112
  go_wp2_with (go_at_call 126; refine HI.out.mono ?_; rintro e1 w1 ⟨k, rfl, hk, hb1⟩)
  go_ret
  exact ⟨_, rfl, fun h => by have := hk h; simp; omega, hb1⟩
end
end Go.Proofs.YtppaiihcaajkaaaGreat
