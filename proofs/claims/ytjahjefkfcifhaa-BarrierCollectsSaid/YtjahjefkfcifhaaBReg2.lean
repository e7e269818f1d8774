/- The drawn region of the reference's Take: the copy of the aligner. -/
import Derived.Test.YtjahjefkfcifhaaBReg
namespace Go.Proofs.Ytjahjefkfcifhaa
open Go.RowKit Go.Shelf
set_option linter.unusedVariables false
set_option linter.unusedSimpArgs false

structure RR (ops : Array Oper) : Prop where
  size : ops.size = 9
  acy : acyB ops = true
  o0 : ∃ o, ops[0]? = some o ∧ o.op = .fieldAddr 24 (.tmp 3) 0 ∧ o.dst = some 43 ∧ o.guard = none
  o1 : ∃ o, ops[1]? = some o ∧ o.op = .load 3 (.tmp 43) ∧ o.dst = some 44 ∧ o.guard = none ∧ depOn o 0 = true
  o2 : ∃ o, ops[2]? = some o ∧ o.op = .buildSlice 22 0 #[] ∧ o.dst = some 45 ∧ o.guard = none
  o3 : ∃ o, ops[3]? = some o ∧ o.op = .fieldAddr 24 (.tmp 3) 1 ∧ o.dst = some 46 ∧ o.guard = none
  o4 : ∃ o, ops[4]? = some o ∧ o.op = .load 22 (.tmp 46) ∧ o.dst = some 47 ∧ o.guard = none ∧ depOn o 3 = true
  o5 : ∃ o, ops[5]? = some o ∧ o.op = .call { callee := .builtin .append, args := #[.tmp 45, .tmp 47], argTypes := #[22, 22] } ∧ o.dst = some 48 ∧ o.guard = none ∧ depOn o 2 = true ∧ depOn o 4 = true
  o6 : ∃ o, ops[6]? = some o ∧ o.op = .build 24 #[(0, .tmp 44), (1, .tmp 48)] ∧ o.dst = some 49 ∧ o.guard = none ∧ depOn o 1 = true ∧ depOn o 5 = true
  o7 : ∃ o, ops[7]? = some o ∧ o.op = .alloc 24 ∧ o.dst = some 10 ∧ o.guard = none
  o8 : ∃ o, ops[8]? = some o ∧ o.op = .store 24 (.tmp 10) (.tmp 49) ∧ o.dst = none ∧ o.guard = none ∧ depOn o 6 = true ∧ depOn o 7 = true

theorem x_empty {w : World} {ρ : Operand → Value} {o : Oper} (ho : o.op = .buildSlice 22 0 #[]) : (execOp ρ o).run Try.prog w = .ok (.value (.slice (some ⟨w.heap.size, 0, none⟩) 0 0)) (w.alloc (.cells #[] 4)) := by
  unfold execOp; rw [ho]; simp [go_sem]

/-- Where the region stands. -/
structure StR (W : World) (n : Int) (l : List Bool) (D : List Deferred) (ls : Nat → Bool) (a : Act) (w : World) : Prop where
  df : a.defers = D
  below : Below W.heap.size W w
  o52 : ls 5 = true → ls 2 = true
  o65 : ls 6 = true → ls 5 = true
  o87 : ls 8 = true → ls 7 = true
  o86 : ls 8 = true → ls 6 = true
  s2 : ls 2 = true → ls 5 = false → w.ownsRow W.heap.size 4 1 (slot a 45) 0 []
  s5 : ls 5 = true → w.ownsRow W.heap.size 4 1 (slot a 48) l.length (bools l)
  s6 : ls 6 = true → slot a 49 = .agg #[.int .i64 n, slot a 48]
  s7 : ls 7 = true → ∃ B c0 c1, W.heap.size ≤ B ∧ slot a 10 = .pointer (some ⟨B, 0, none⟩) ∧ w.heap[B]? = some (.cells #[c0, c1] 24 (0, 0)) ∧ (ls 8 = true → c0 = .int .i64 n ∧ c1 = slot a 48)

def fixR (bx g off cap k : Nat) (n : Int) : Nat → Option (Nat × Value)
  | 0 => some (43, .pointer (some ⟨bx, 0, none⟩))
  | 1 => some (44, .int .i64 n)
  | 3 => some (46, .pointer (some ⟨bx, 1, none⟩))
  | 4 => some (47, .slice (some ⟨g, off, none⟩) k cap)
  | _ => none
theorem fixR_some {bx g off cap k : Nat} {n : Int} {i d : Nat} {u : Value} (h : fixR bx g off cap k n i = some (d, u)) : (i = 0 ∧ d = 43) ∨ (i = 1 ∧ d = 44) ∨ (i = 3 ∧ d = 46) ∨ (i = 4 ∧ d = 47) := by
  unfold fixR at h
  split at h <;> cases h <;> simp
theorem fixR_none {bx g off cap k : Nat} {n : Int} {i : Nat} (hi : i < 9) (h : fixR bx g off cap k n i = none) : i = 2 ∨ i = 5 ∨ i = 6 ∨ i = 7 ∨ i = 8 := by
  have : i = 0 ∨ i = 1 ∨ i = 2 ∨ i = 3 ∨ i = 4 ∨ i = 5 ∨ i = 6 ∨ i = 7 ∨ i = 8 := by omega
  rcases this with rfl | rfl | rfl | rfl | rfl | rfl | rfl | rfl | rfl <;> first | (cases h; done) | simp
theorem no_of {b c : Bool} (h : b = true → c = true) (hc : c = false) : b = false := by
  cases b with
  | false => rfl
  | true => rw [h rfl] at hc; cases hc

def dsR : List Nat := [43, 44, 45, 46, 47, 48, 49, 10]
set_option maxHeartbeats 1000000 in
theorem region_rtake {id m : Nat} {ops : Array Oper} {Q : Exit → Act → World → Prop} (hR : RR ops) (a : Act) (W : World) (hasz : a.tmps.size = 68) (bx g off cap : Nat) (n : Int) (l : List Bool) (hl : l.length ≤ 1000) (hpos : 0 < l.length)
    (s3 : slot a 3 = .pointer (some ⟨bx, 0, none⟩)) (hbx : bx < W.heap.size) (hg : g < W.heap.size) (b0 : W.cell? ⟨bx, 0, none⟩ = some (.int .i64 n)) (b1 : W.cell? ⟨bx, 1, none⟩ = some (.slice (some ⟨g, off, none⟩) l.length cap))
    (hc : ∀ j u, (bools l)[j]? = some u → W.cell? ⟨g, off + j, none⟩ = some u)
    (hQ : ∀ u B v w, Copied W n l B v w → Q .normal ((((((((a.put (some 43) (.pointer (some ⟨bx, 0, none⟩))).put (some 44) (.int .i64 n)).put (some 45) u).put (some 46) (.pointer (some ⟨bx, 1, none⟩))).put (some 47) (.slice (some ⟨g, off, none⟩) l.length cap)).put (some 48) v).put (some 49) (.agg #[.int .i64 n, v])).put (some 10) (.pointer (some ⟨B, 0, none⟩))) w) :
    (Code.region id ops true).wpIn Fence.wide m Try.prog Q a W := by
  obtain ⟨i0, hi0, hz0, hz1, hz2⟩ := info_bool'
  refine region_plan (fun _ => trivial) (by kernel_rfl) 9 68 hR.size hR.acy (ambA dsR a) (fixR bx g off cap l.length n) (StR W n l a.defers) a W hasz ?_ ?_ ?_ ?_ ?_ ?_
  · exact amb_start
  · exact ⟨rfl, (Below.refl _ _).drew, nofun, nofun, nofun, nofun, nofun, nofun, nofun, nofun⟩
  · intro i d u hf
    have hoth : ∀ j d' u', fixR bx g off cap l.length n j = some (d', u') → j ≠ i → d' ≠ d := by
      intro j d' u' hj hne
      have h1 := fixR_some hf
      have h2 := fixR_some hj
      omega
    rcases fixR_some hf with ⟨rfl, _⟩ | ⟨rfl, _⟩ | ⟨rfl, _⟩ | ⟨rfl, _⟩ <;> cases hf
    · obtain ⟨o, e, ho, hd, hgd⟩ := hR.o0
      exact ⟨by decide, by decide, amb_in (by decide), hoth, o, e, hd, hgd, by simp [ho], fun ls a w hk hdp hS => x_field ho (.inl rfl) ((hk.1 3 _ (amb_out (by decide))).trans s3)⟩
    · obtain ⟨o, e, ho, hd, hgd, d0⟩ := hR.o1
      exact ⟨by decide, by decide, amb_in (by decide), hoth, o, e, hd, hgd, by simp [ho], fun ls a w hk hdp hS => x_loadi ho (hk.2 0 _ _ rfl (hdp 0 d0)) (((bcell hS.below).1 _ _ hbx).trans b0)⟩
    · obtain ⟨o, e, ho, hd, hgd⟩ := hR.o3
      exact ⟨by decide, by decide, amb_in (by decide), hoth, o, e, hd, hgd, by simp [ho], fun ls a w hk hdp hS => x_field ho (.inr rfl) ((hk.1 3 _ (amb_out (by decide))).trans s3)⟩
    · obtain ⟨o, e, ho, hd, hgd, d2⟩ := hR.o4
      exact ⟨by decide, by decide, amb_in (by decide), hoth, o, e, hd, hgd, by simp [ho], fun ls a w hk hdp hS => x_loadb ho (hk.2 3 _ _ rfl (hdp 3 d2)) (((bcell hS.below).1 _ _ hbx).trans b1)⟩
  · intro i d u hf ls a w hl hS
    have hid := fixR_some hf
    have h4 : ∀ j, j = 2 ∨ 5 ≤ j → upd ls i j = ls j := fun j hj => upd_other (by omega)
    have hsl : ∀ s, s = 45 ∨ s = 48 ∨ s = 49 ∨ s = 10 → slot (a.put (some d) u) s = slot a s := fun s hs => slot_other u (by omega)
    refine ⟨(defers_put _).trans hS.df, hS.below, ?_, ?_, ?_, ?_, ?_, ?_, ?_, ?_⟩
    · rw [h4 5 (by omega), h4 2 (by omega)]; exact hS.o52
    · rw [h4 6 (by omega), h4 5 (by omega)]; exact hS.o65
    · rw [h4 8 (by omega), h4 7 (by omega)]; exact hS.o87
    · rw [h4 8 (by omega), h4 6 (by omega)]; exact hS.o86
    · rw [h4 2 (by omega), h4 5 (by omega), hsl 45 (by simp)]; exact hS.s2
    · rw [h4 5 (by omega), hsl 48 (by simp)]; exact hS.s5
    · rw [h4 6 (by omega), hsl 48 (by simp), hsl 49 (by simp)]; exact hS.s6
    · rw [h4 7 (by omega), h4 8 (by omega), hsl 48 (by simp), hsl 10 (by simp)]; exact hS.s7
  · intro i hi hf
    have hfd : ∀ d, d = 45 ∨ d = 48 ∨ d = 49 ∨ d = 10 → ∀ j d' u', fixR bx g off cap l.length n j = some (d', u') → d' ≠ d := by
      intro d hd j d' u' hj
      have := fixR_some hj
      omega
    rcases fixR_none hi hf with rfl | rfl | rfl | rfl | rfl
    · obtain ⟨o, e, ho, hd, hgd⟩ := hR.o2
      refine ⟨o, e, (fun d hd' => by rw [hd] at hd'; cases hd'; exact ⟨amb_in (by decide), hfd _ (by simp)⟩), fun ls a w hun hT hk hdp hS K hK => ?_⟩
      have h5 := no_of hS.o52 hun
      have h6 := no_of hS.o65 h5
      have h8 := no_of hS.o86 h6
      refine opIn_value (fun _ => trivial) e hgd (by simp [ho]) (x_empty ho) (hK _ _ ?_)
      rw [hd]
      refine ⟨(defers_put _).trans hS.df, hS.below.alloc hS.below.size _, ?_, ?_, ?_, ?_, ?_, ?_, ?_, ?_⟩
      · rw [upd_other (show 5 ≠ 2 by decide), h5]; nofun
      · rw [upd_other (show 6 ≠ 2 by decide), h6]; nofun
      · rw [upd_other (show 8 ≠ 2 by decide), h8]; nofun
      · rw [upd_other (show 8 ≠ 2 by decide), h8]; nofun
      · intro _ _; rw [slot_same _ (by rw [hT]; decide)]; exact own_lit w [] 4 W.heap.size 1 0 hS.below.size rfl (by unfold maxLen; omega)
      · rw [upd_other (show 5 ≠ 2 by decide), h5]; nofun
      · rw [upd_other (show 6 ≠ 2 by decide), h6]; nofun
      · rw [upd_other (show 7 ≠ 2 by decide), upd_other (show 8 ≠ 2 by decide), h8, slot_other _ (show 45 ≠ 10 by decide)]
        intro h7
        obtain ⟨B, c0, c1, hB, e10, hbk, _⟩ := hS.s7 h7
        exact ⟨B, c0, c1, hB, e10, (Below.heap_alloc _ _ _ (Array.getElem?_eq_some_iff.1 hbk).1).trans hbk, nofun⟩
    · obtain ⟨o, e, ho, hd, hgd, d2, d4⟩ := hR.o5
      refine ⟨o, e, (fun d hd' => by rw [hd] at hd'; cases hd'; exact ⟨amb_in (by decide), hfd _ (by simp)⟩), fun ls a w hun hT hk hdp hS K hK => ?_⟩
      have hrow := hS.s2 (hdp 2 d2) hun
      have e47 : slot a 47 = _ := hk.2 4 _ _ rfl (hdp 4 d4)
      have h6 := no_of hS.o65 hun
      have h8 := no_of hS.o86 h6
      have hsz := hS.below.size
      obtain ⟨v', w', hr, hown', hgr, _, hat⟩ := run_append_own_at (P := Try.prog) w W.heap.size 22 o.type 4 i0 (.bool false) 1 1 Try.underlying22 hi0 hz0 hz1 hz2 rfl (by decide) (slot a 45) 0 [] hrow
        ⟨g, off, none⟩ l.length cap (bools l) (by simp [bools]) (fun j u hj => by rw [show (⟨g, off, none⟩ : Addr).add j = ⟨g, off + j, none⟩ by unfold Addr.add; split <;> simp_all]; exact (hS.below.cell (p := ⟨g, off + j, none⟩) hg).trans (hc j u hj)) (bools_one l) (by unfold maxLen; omega) (by omega) hsz
      rw [Nat.zero_add, List.nil_append] at hown'
      refine opIn_value (fun _ => trivial) e hgd (by simp [ho]) (v := v') (w' := w') ?_ (hK _ _ ?_)
      · unfold execOp
        simp only [ho, resolve, invoke, builtin, Sem.run_bind, Sem.run_pure, Result.andThen_ok, List.map_toArray, List.map_cons, List.map_nil, eval_slot, e47, hr]
      rw [hd]
      have hblk : ∀ k, (slot a 45).ownBlock = some k → W.heap.size ≤ k := fun k hk' => (hrow.lt k hk').1
      refine ⟨(defers_put _).trans hS.df, hS.below.grown hgr hsz hblk, ?_, ?_, ?_, ?_, ?_, ?_, ?_, ?_⟩
      · intro _; rw [upd_other (show 2 ≠ 5 by decide)]; exact hdp 2 d2
      · intro _; exact upd_same _ _
      · rw [upd_other (show 8 ≠ 5 by decide), h8]; nofun
      · rw [upd_other (show 8 ≠ 5 by decide), h8]; nofun
      · rw [upd_same]; nofun
      · intro _; rw [slot_same _ (by rw [hT]; decide)]; exact hown'
      · rw [upd_other (show 6 ≠ 5 by decide), h6]; nofun
      · rw [upd_other (show 7 ≠ 5 by decide), upd_other (show 8 ≠ 5 by decide), h8, slot_other _ (show 48 ≠ 10 by decide)]
        intro h7
        obtain ⟨B, c0, c1, hB, e10, hbk, _⟩ := hS.s7 h7
        exact ⟨B, c0, c1, hB, e10, (hgr.block B (Array.getElem?_eq_some_iff.1 hbk).1 (fun e' => box_not_row (cs := [c0, c1]) hrow hbk e'.symm)).trans hbk, nofun⟩
    · obtain ⟨o, e, ho, hd, hgd, d1, d5⟩ := hR.o6
      refine ⟨o, e, (fun d hd' => by rw [hd] at hd'; cases hd'; exact ⟨amb_in (by decide), hfd _ (by simp)⟩), fun ls a w hun hT hk hdp hS K hK => ?_⟩
      have hown := hS.s5 (hdp 5 d5)
      obtain ⟨A, c, hv⟩ := (Row.of_own hown).form
      have h8 := no_of hS.o86 hun
      refine opIn_value (fun _ => trivial) e hgd (by simp [ho]) (x_build ho (hk.2 1 _ _ rfl (hdp 1 d1)) hv) (hK _ _ ?_)
      rw [hd]
      refine ⟨(defers_put _).trans hS.df, hS.below, ?_, ?_, ?_, ?_, ?_, ?_, ?_, ?_⟩
      · rw [upd_other (show 5 ≠ 6 by decide), upd_other (show 2 ≠ 6 by decide)]; exact hS.o52
      · intro _; rw [upd_other (show 5 ≠ 6 by decide)]; exact hdp 5 d5
      · rw [upd_other (show 8 ≠ 6 by decide), h8]; nofun
      · rw [upd_other (show 8 ≠ 6 by decide), h8]; nofun
      · rw [upd_other (show 2 ≠ 6 by decide), upd_other (show 5 ≠ 6 by decide), slot_other _ (show 49 ≠ 45 by decide)]; exact hS.s2
      · intro _; rw [slot_other _ (show 49 ≠ 48 by decide)]; exact hown
      · intro _; rw [slot_same _ (by rw [hT]; decide), slot_other _ (show 49 ≠ 48 by decide), hv]
      · rw [upd_other (show 7 ≠ 6 by decide), upd_other (show 8 ≠ 6 by decide), h8, slot_other _ (show 49 ≠ 10 by decide)]
        intro h7
        obtain ⟨B, c0, c1, hB, e10, hbk, _⟩ := hS.s7 h7
        exact ⟨B, c0, c1, hB, e10, hbk, nofun⟩
    · obtain ⟨o, e, ho, hd, hgd⟩ := hR.o7
      refine ⟨o, e, (fun d hd' => by rw [hd] at hd'; cases hd'; exact ⟨amb_in (by decide), hfd _ (by simp)⟩), fun ls a w hun hT hk hdp hS K hK => ?_⟩
      have h8 := no_of hS.o87 hun
      refine opIn_value (fun _ => trivial) e hgd (by simp [ho]) (x_alloc ho) (hK _ _ ?_)
      rw [hd]
      refine ⟨(defers_put _).trans hS.df, hS.below.alloc hS.below.size _, ?_, ?_, ?_, ?_, ?_, ?_, ?_, ?_⟩
      · rw [upd_other (show 5 ≠ 7 by decide), upd_other (show 2 ≠ 7 by decide)]; exact hS.o52
      · rw [upd_other (show 6 ≠ 7 by decide), upd_other (show 5 ≠ 7 by decide)]; exact hS.o65
      · rw [upd_other (show 8 ≠ 7 by decide), h8]; nofun
      · rw [upd_other (show 8 ≠ 7 by decide), h8]; nofun
      · rw [upd_other (show 2 ≠ 7 by decide), upd_other (show 5 ≠ 7 by decide), slot_other _ (show 10 ≠ 45 by decide)]; intro h h'; exact (hS.s2 h h').alloc _
      · rw [upd_other (show 5 ≠ 7 by decide), slot_other _ (show 10 ≠ 48 by decide)]; intro h; exact (hS.s5 h).alloc _
      · rw [upd_other (show 6 ≠ 7 by decide), slot_other _ (show 10 ≠ 48 by decide), slot_other _ (show 10 ≠ 49 by decide)]; exact hS.s6
      · intro _
        rw [upd_other (show 8 ≠ 7 by decide), h8]
        exact ⟨w.heap.size, _, _, hS.below.size, slot_same _ (by rw [hT]; decide), heap_alloc_new w _, nofun⟩
    · obtain ⟨o, e, ho, hd, hgd, d6, d7⟩ := hR.o8
      refine ⟨o, e, (fun d hd' => by rw [hd] at hd'; cases hd'), fun ls a w hun hT hk hdp hS K hK => ?_⟩
      have h5 := hS.o65 (hdp 6 d6)
      have hown := hS.s5 h5
      obtain ⟨A, c, hv⟩ := (Row.of_own hown).form
      obtain ⟨B, c0, c1, hB, e10, hbk, _⟩ := hS.s7 (hdp 7 d7)
      have h49 := hS.s6 (hdp 6 d6)
      rw [hv] at h49
      refine opIn_skip (fun _ => trivial) e hgd (by simp [ho]) (x_store ho e10 h49 hbk) (hK _ _ ?_)
      rw [hd]
      have hnb := box_not_row (cs := [c0, c1]) hown hbk
      refine ⟨(defers_put _).trans hS.df, (hS.below.setCell (p := ⟨B, 0, none⟩) hB _).setCell (p := ⟨B, 1, none⟩) hB _, ?_, ?_, ?_, ?_, ?_, ?_, ?_, ?_⟩
      · intro _; rw [upd_other (show 2 ≠ 8 by decide)]; exact hS.o52 h5
      · intro _; rw [upd_other (show 5 ≠ 8 by decide)]; exact h5
      · intro _; rw [upd_other (show 7 ≠ 8 by decide)]; exact hdp 7 d7
      · intro _; rw [upd_other (show 6 ≠ 8 by decide)]; exact hdp 6 d6
      · rw [upd_other (show 5 ≠ 8 by decide), h5]; nofun
      · intro _
        exact ownsRow_setCell_other (ownsRow_setCell_other hown hnb _) hnb _
      · intro _; exact hS.s6 (hdp 6 d6)
      · intro _
        exact ⟨B, _, _, hB, e10, heap_set2 hbk _ _, fun _ => ⟨rfl, hv.symm⟩⟩
  · intro ls a w hall hT hk hS
    obtain ⟨B, c0, c1, hB, e10, hbk, h8⟩ := hS.s7 (hall 7 (by decide))
    obtain ⟨rfl, rfl⟩ := h8 (hall 8 (by decide))
    have h49 := hS.s6 (hall 6 (by decide))
    have h := hQ (slot a 45) B _ w ⟨hS.below, hB, hbk, hS.s5 (hall 5 (by decide))⟩
    refine Eq.mp (congrArg (fun x => Q .normal x w) ?_) h
    refine act_ext (by simp only [size_put]; omega) ?_ (by simp only [defers_put]; exact hS.df.symm)
    intro s hs
    simp only [size_put] at hs
    have e0 := hk.2 0 _ _ rfl (hall 0 (by decide))
    have e1 := hk.2 1 _ _ rfl (hall 1 (by decide))
    have e3 := hk.2 3 _ _ rfl (hall 3 (by decide))
    have e4 := hk.2 4 _ _ rfl (hall 4 (by decide))
    by_cases q10 : s = 10
    · subst q10; rw [slot_same _ (by simp only [size_put]; exact hs)]; exact e10.symm
    rw [slot_other _ (Ne.symm q10)]
    by_cases q49 : s = 49
    · subst q49; rw [slot_same _ (by simp only [size_put]; exact hs)]; exact h49.symm
    rw [slot_other _ (Ne.symm q49)]
    by_cases q48 : s = 48
    · subst q48; rw [slot_same _ (by simp only [size_put]; exact hs)]
    rw [slot_other _ (Ne.symm q48)]
    by_cases q47 : s = 47
    · subst q47; rw [slot_same _ (by simp only [size_put]; exact hs)]; exact e4.symm
    rw [slot_other _ (Ne.symm q47)]
    by_cases q46 : s = 46
    · subst q46; rw [slot_same _ (by simp only [size_put]; exact hs)]; exact e3.symm
    rw [slot_other _ (Ne.symm q46)]
    by_cases q45 : s = 45
    · subst q45; rw [slot_same _ (by simp only [size_put]; exact hs)]
    rw [slot_other _ (Ne.symm q45)]
    by_cases q44 : s = 44
    · subst q44; rw [slot_same _ (by simp only [size_put]; exact hs)]; exact e1.symm
    rw [slot_other _ (Ne.symm q44)]
    by_cases q43 : s = 43
    · subst q43; rw [slot_same _ hs]; exact e0.symm
    rw [slot_other _ (Ne.symm q43)]
    exact (hk.1 s _ (amb_out (by simp only [dsR, List.mem_cons, List.not_mem_nil, or_false]; omega))).symm
end Go.Proofs.Ytjahjefkfcifhaa
