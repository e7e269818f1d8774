/- The play in memory. tryTypes, tryKeyed. The play in memory: what is not the job's stays. The play in memory: small steps. A row of the job grows. -/
import Derived.Test.YtppaiihcaajkaaaGreatKJobS
import Derived.Test.YtppaiihcaajkaaaGreatKBarB
import Derived.Test.YtppaiihcaajkaaaGreatKChN
import Derived.Test.YtppaiihcaajkaaaGreatXAll
namespace Go.Proofs.YtppaiihcaajkaaaGreat
open Go.RowKit
set_option linter.unusedVariables false
set_option linter.unusedSimpArgs false
/-- The block b holds the 28 cells of a job. -/
structure JBlk (w : World) (b : Nat) (f : Nat → Value) : Prop where
  c : ∀ k, k < 28 → w.cell? ⟨b, k, none⟩ = some (f k)
  fz : ∀ k, w.frozen? ⟨b, k, none⟩ = false
  lt : b < w.heap.size
section
variable {w w' : World} {b : Nat} {f : Nat → Value}
theorem JBlk.keep (h : JBlk w b f) (hb : Below w.heap.size w w') : JBlk w' b f :=
  ⟨fun k hk => keep1 hb (h.c k hk), fun k => ((bcell hb).2 b k h.lt).trans (h.fz k), Nat.lt_of_lt_of_le h.lt hb.size⟩
theorem JBlk.far (h : JBlk w b f) {p : Addr} (hp : p.block ≠ b) (u : Value) : JBlk (w.setCell p u) b f := by
  have hb := Below.heap_setCell w p u b hp.symm
  exact ⟨fun k hk => (World.cell?_of_block (w := w) (a := ⟨b, k, none⟩) hb).trans (h.c k hk), fun k => (World.frozen?_of_block (w := w) (a := ⟨b, k, none⟩) hb).trans (h.fz k), by simpa [World.setCell] using h.lt⟩
theorem JBlk.put (h : JBlk w b f) {k : Nat} (hk : k < 28) (u : Value) : JBlk (w.setCell ⟨b, k, none⟩ u) b (fset f k u) := by
  refine ⟨fun j hj => ?_, fun j => ?_, by simpa [World.setCell] using h.lt⟩
  · rw [fset_at]
    by_cases e : j = k
    · subst e
      rw [if_pos rfl]
      exact World.cell?_setCell_same' _ _ _ (by rw [h.c j hk]; rfl)
    · rw [if_neg e]
      exact (World.cell?_setCell_other _ _ _ _ (by intro hh; injection hh with _ hh _; exact e hh.symm)).trans (h.c j hj)
  · have := h.fz j
    unfold World.frozen? at this ⊢
    simp only [World.setCell]
    rw [Array.getElem?_modify]
    rw [show (⟨b, j, none⟩ : Addr).block = b from rfl] at this
    rw [if_pos rfl]
    revert this
    cases w.heap[b]? with
    | none => simp
    | some o => cases o <;> simp
theorem JBlk.grown (h : JBlk w b f) {row : Option Nat} (hg : w.grownBy w' row) (hne : row ≠ some b) : JBlk w' b f := by
  have hb := hg.block b h.lt (fun e => hne e.symm)
  exact ⟨fun k hk => (World.cell?_of_block (w := w) (a := ⟨b, k, none⟩) hb).trans (h.c k hk), fun k => (World.frozen?_of_block (w := w) (a := ⟨b, k, none⟩) hb).trans (h.fz k), Nat.lt_of_lt_of_le h.lt hg.size⟩
theorem JBlk.same {f' : Nat → Value} (h : JBlk w b f) (he : ∀ k, k < 28 → f' k = f k) : JBlk w b f' := ⟨fun k hk => by rw [he k hk]; exact h.c k hk, h.fz, h.lt⟩
end
def rowJ (J : Job) (j : Nat) : List Itm := if j < 2 then J.sent j else if j < 4 then J.taken (j - 2) else J.later (j - 4)
def qsOf (q : Nat → List Itm) : List Que := [⟨0, 0, q 0⟩, ⟨0, 1, q 1⟩, ⟨1, 0, q 2⟩, ⟨1, 1, q 3⟩]
/-- Memory apart from the job's own blocks. -/
def Sep (w : World) (b : Nat) (f : Nat → Value) : Nat → Prop := fun k => k < w.heap.size ∧ k ≠ b ∧ ∀ j, j < 6 → (f (21 + j)).ownBlock ≠ some k
/-- A reader's cells. -/
def RdAt (w : World) (Z : Nat → Prop) (f : Nat → Value) (J : Job) (i : Nat) : Prop := ∃ A a B c, f (2 + i * 6) = .int .i64 (i : Int) ∧ f (2 + i * 6 + 1) = .int .i64 (J.off i : Int) ∧ f (2 + i * 6 + 2) = .int .i64 (J.trk i).next ∧ f (2 + i * 6 + 3) = .slice A (J.trk i).beyond.length a ∧ f (2 + i * 6 + 4) = .slice B (J.trk i).points.length c ∧ f (2 + i * 6 + 5) = .int .i64 (J.trk i).mark ∧ TrV w Z A a B c (J.trk i)
def QuAt (W0 w : World) (Z : Nat → Prop) (f : Nat → Value) (J : Job) : Prop := ∃ g c, f 14 = .slice (some ⟨g, 0, none⟩) 4 c ∧ Lst w Z 3 (RQu W0) (.slice (some ⟨g, 0, none⟩) 4 c) (qsOf J.q)
def AlAt (w : World) (Z : Nat → Prop) (f : Nat → Value) (J : Job) (i : Nat) : Prop := f (15 + i * 2) = .int .i64 (J.num i) ∧ Lst w Z 1 RBo (f (15 + i * 2 + 1)) (J.blk i)
structure JobAt (W0 : World) (L : Nat → List Msg) (w : World) (b : Nat) (f : Nat → Value) (J : Job) : Prop where
  bl : JBlk w b f
  hw : Below W0.heap.size W0 w
  hb : W0.heap.size ≤ b
  log : ∀ i, i < 2 → Lst W0 (· < W0.heap.size) 9 (RMs W0) (f i) (L i)
  rd : ∀ i, i < 2 → RdAt w (Sep w b f) f J i
  qu : QuAt W0 w (Sep w b f) f J
  al : ∀ i, i < 2 → AlAt w (Sep w b f) f J i
  ins : ∀ i, i < 2 → f (19 + i) = .bool (J.ins i)
  rows : ∀ j, j < 6 → Gq w (fun _ => True) W0.heap.size 58 7 (RIt W0) (f (21 + j)) (rowJ J j)
  ne : ∀ j, j < 6 → (f (21 + j)).ownBlock ≠ some b
  ap : ∀ j j', j < 6 → j' < 6 → j ≠ j' → ∀ k, (f (21 + j)).ownBlock = some k → (f (21 + j')).ownBlock ≠ some k
  ok : f 27 = .bool true
section
variable {W0 w w' : World} {L : Nat → List Msg} {b : Nat} {f f' : Nat → Value} {J J' : Job} {Z Y : Nat → Prop} {i : Nat}
theorem RdAt.keep (hk : Kp Z w w') (h : RdAt w Z f J i) : RdAt w' Z f J i := by
  obtain ⟨A, a, B, c, h0, h1, h2, h3, h4, h5, h6⟩ := h
  exact ⟨A, a, B, c, h0, h1, h2, h3, h4, h5, h6.keep hk⟩
theorem RdAt.more (hz : ∀ k, Z k → Y k) (h : RdAt w Z f J i) : RdAt w Y f J i := by
  obtain ⟨A, a, B, c, h0, h1, h2, h3, h4, h5, h6⟩ := h
  exact ⟨A, a, B, c, h0, h1, h2, h3, h4, h5, h6.more hz⟩
theorem QuAt.keep (hk : Kp Z w w') (h : QuAt W0 w Z f J) : QuAt W0 w' Z f J := by
  obtain ⟨g, c, h0, h1⟩ := h
  exact ⟨g, c, h0, h1.keep rd_Qu hk⟩
theorem QuAt.more (hz : ∀ k, Z k → Y k) (h : QuAt W0 w Z f J) : QuAt W0 w Y f J := by
  obtain ⟨g, c, h0, h1⟩ := h
  exact ⟨g, c, h0, h1.more rd_Qu hz⟩
theorem AlAt.keep (hk : Kp Z w w') (h : AlAt w Z f J i) : AlAt w' Z f J i := ⟨h.1, h.2.keep rd_Bo hk⟩
theorem AlAt.more (hz : ∀ k, Z k → Y k) (h : AlAt w Z f J i) : AlAt w Y f J i := ⟨h.1, h.2.more rd_Bo hz⟩
theorem Sep.lt {k : Nat} (h : Sep w b f k) : k < w.heap.size := h.1
theorem JobAt.keep (h : JobAt W0 L w b f J) (hb : Below w.heap.size w w') : JobAt W0 L w' b f J := by
  have hk : Kp (Sep w b f) w w' := (Kp.of_below hb).less fun k hk => hk.1
  have hm : ∀ k, Sep w b f k → Sep w' b f k := fun k hk => ⟨Nat.lt_of_lt_of_le hk.1 hb.size, hk.2⟩
  exact ⟨h.bl.keep hb, h.hw.trans (hb.mono h.hw.size), h.hb, h.log, fun i hi => ((h.rd i hi).keep hk).more hm, (h.qu.keep hk).more hm, fun i hi => ((h.al i hi).keep hk).more hm, h.ins, fun j hj => (h.rows j hj).keep rd_It hb, h.ne, h.ap, h.ok⟩
theorem gq_it {base : Nat} {te : TypeId} {v : Value} {l : List Itm} (h : Gq w Z base te 7 (RIt W0) v l) (hY : ∀ k, v.ownBlock = some k → Y k) : Gq w Y base te 7 (RIt W0) v l := by
  obtain ⟨xs, h1, -, h3⟩ := h
  exact ⟨xs, h1, hY, h3⟩
theorem Gq.set' {base : Nat} {te : TypeId} {v : Value} {l : List Itm} (h : Gq w Z base te 7 (RIt W0) v l) {c : Nat} {u : Value} (hb : v.ownBlock ≠ some b) : Gq (w.setCell ⟨b, c, none⟩ u) Z base te 7 (RIt W0) v l := by
  obtain ⟨xs, h1, h2, h3⟩ := h
  exact ⟨xs, own_set (p := ⟨b, c, none⟩) h1 hb u, h2, h3⟩
theorem off_below {s d B : Nat} {a c : World} (h : Off s d a c) (hs : B ≤ s) : Below B a c := ⟨h.os, h.tape, h.output, Nat.le_of_eq h.size.symm, fun k hk => h.block k (by omega)⟩
theorem off_gq {s : Nat} {a c : World} {base : Nat} {te : TypeId} {v : Value} {l : List Itm} (h : Off s 1 a c) (hg : Gq a Z base te 7 (RIt W0) v l) (hne : v.ownBlock ≠ some s) : Gq c Z base te 7 (RIt W0) v l := by
  obtain ⟨xs, h1, h2, h3⟩ := hg
  refine ⟨xs, h1.kept (row := some s) ⟨h.os, h.tape, h.output, Nat.le_of_eq h.size.symm, fun k _ hk => h.block k (by have : k ≠ s := fun e => hk (by rw [e]); omega)⟩ ?_, h2, h3⟩
  cases hv : v.ownBlock with
  | none => exact .inl rfl
  | some k => exact .inr (fun hh => hne (by rw [hv, ← hh]))
/-- Behind stores into the job's block. -/
theorem JobAt.turn (h : JobAt W0 L w b f J) (hO : Off b 1 w w') (hB : JBlk w' b f') (hlog : ∀ i, i < 2 → f' i = f i) (hrow : ∀ j, j < 6 → f' (21 + j) = f (21 + j)) (hJ : ∀ j, j < 6 → rowJ J' j = rowJ J j)
    (rd : ∀ i, i < 2 → RdAt w (Sep w b f) f' J' i) (qu : QuAt W0 w (Sep w b f) f' J') (al : ∀ i, i < 2 → AlAt w (Sep w b f) f' J' i) (ins : ∀ i, i < 2 → f' (19 + i) = .bool (J'.ins i)) (ok : f' 27 = .bool true) : JobAt W0 L w' b f' J' := by
  have hk : Kp (Sep w b f) w w' := hO.kp fun k hk => by have := hk.2.1; omega
  have hm : ∀ k, Sep w b f k → Sep w' b f' k := fun k hk => ⟨by rw [hO.size]; exact hk.1, hk.2.1, fun j hj => by rw [hrow j hj]; exact hk.2.2 j hj⟩
  refine ⟨hB, h.hw.trans (off_below hO h.hb), h.hb, fun i hi => by rw [hlog i hi]; exact h.log i hi, fun i hi => ((rd i hi).keep hk).more hm, (qu.keep hk).more hm, fun i hi => ((al i hi).keep hk).more hm, ins, fun j hj => ?_, fun j hj => by rw [hrow j hj]; exact h.ne j hj, fun j j' hj hj' => by rw [hrow j hj, hrow j' hj']; exact h.ap j j' hj hj', ok⟩
  rw [hrow j hj, hJ j hj]
  exact off_gq hO (h.rows j hj) (h.ne j hj)
/-- Behind an append to a row, and the store of its head. -/
theorem JobAt.push {w1 : World} {j : Nat} {v : Value} {x : Itm} (h : JobAt W0 L w b f J) (hj : j < 6) (hg : Gq w1 (fun k => (f (21 + j)).ownBlock = some k ∨ w.heap.size ≤ k) W0.heap.size 58 7 (RIt W0) v (rowJ J j ++ [x])) (hgr : w.grownBy w1 (f (21 + j)).ownBlock)
    (hJ : ∀ j', j' < 6 → rowJ J' j' = if j' = j then rowJ J j ++ [x] else rowJ J j') (ho : J'.off = J.off) (ht : J'.trk = J.trk) (hq : J'.q = J.q) (hn : J'.num = J.num) (hbk : J'.blk = J.blk) (hi : J'.ins = J.ins) :
    JobAt W0 L (w1.setCell ⟨b, 21 + j, none⟩ v) b (fset f (21 + j) v) J' := by
  have hB : JBlk (w1.setCell ⟨b, 21 + j, none⟩ v) b (fset f (21 + j) v) := (h.bl.grown hgr (h.ne j hj)).put (by omega) v
  have hsz : (w1.setCell ⟨b, 21 + j, none⟩ v).heap.size = w1.heap.size := by simp [World.setCell]
  have hbl := h.bl.lt
  have hle := hgr.size
  have hin : ∀ k, v.ownBlock = some k → (f (21 + j)).ownBlock = some k ∨ w.heap.size ≤ k := hg.inY
  have hlow : ∀ j', j' < 6 → ∀ k, (f (21 + j')).ownBlock = some k → k < w.heap.size := fun j' hj' k hk => ((h.rows j' hj').low k hk).2
  have hk : Kp (Sep w b f) w (w1.setCell ⟨b, 21 + j, none⟩ v) := by
    refine Kp.trans (w' := w1) ⟨hle, fun k hk hlt => hgr.block k hlt (fun e => hk.2.2 j hj e.symm)⟩ (Kp.set ⟨b, 21 + j, none⟩ v fun k hk => hk.2.1)
  have hf : ∀ k, k ≠ 21 + j → fset f (21 + j) v k = f k := fun k hk => fset_ne hk
  have hm : ∀ k, Sep w b f k → Sep (w1.setCell ⟨b, 21 + j, none⟩ v) b (fset f (21 + j) v) k := fun k hk => ⟨by rw [hsz]; exact Nat.lt_of_lt_of_le hk.1 hle, hk.2.1, fun j' hj' => by
    rw [fset_at]
    split
    · intro e
      rcases hin k e with e | e
      · exact hk.2.2 j hj e
      · have := hk.1; omega
    · exact hk.2.2 j' hj'⟩
  have hv : v.ownBlock ≠ some b := fun e => by
    rcases hin b e with e | e
    · exact h.ne j hj e
    · omega
  have hbel : Below W0.heap.size w (w1.setCell ⟨b, 21 + j, none⟩ v) := ((Below.refl _ _).grown hgr h.hw.size fun k hk => ((h.rows j hj).low k hk).1).setCell (p := ⟨b, 21 + j, none⟩) h.hb v
  refine ⟨hB, h.hw.trans hbel, h.hb, fun i hi => by rw [hf _ (by omega)]; exact h.log i hi, fun i hi => ?_, ?_, fun i hi => ?_, fun i hi' => by rw [hf _ (by omega), hi]; exact h.ins i hi', fun j' hj' => ?_, fun j' hj' => ?_, fun j1 j2 hj1 hj2 hne k hk1 => ?_, by rw [hf _ (by omega)]; exact h.ok⟩
  · obtain ⟨A, a, B, c, h0, h1, h2, h3, h4, h5, h6⟩ := h.rd i hi
    refine ⟨A, a, B, c, ?_, ?_, ?_, ?_, ?_, ?_, ?_⟩
    · rw [hf _ (by omega)]; exact h0
    · rw [hf _ (by omega), ho]; exact h1
    · rw [hf _ (by omega), ht]; exact h2
    · rw [hf _ (by omega), ht]; exact h3
    · rw [hf _ (by omega), ht]; exact h4
    · rw [hf _ (by omega), ht]; exact h5
    · rw [ht]; exact (h6.keep hk).more hm
  · obtain ⟨g, c, h0, h1⟩ := h.qu
    exact ⟨g, c, by rw [hf _ (by omega)]; exact h0, by rw [hq]; exact (h1.keep rd_Qu hk).more rd_Qu hm⟩
  · obtain ⟨h0, h1⟩ := h.al i hi
    exact ⟨by rw [hf _ (by omega), hn]; exact h0, by rw [hf _ (by omega), hbk]; exact (h1.keep rd_Bo hk).more rd_Bo hm⟩
  · rw [hJ j' hj', fset_at]
    by_cases e : j' = j
    · subst e
      rw [if_pos rfl, if_pos rfl]
      exact (gq_it hg fun _ _ => trivial).set' (fun e => hv e)
    · rw [if_neg e, if_neg (by omega)]
      have h1 := h.rows j' hj'
      have h2 : Gq w1 (fun _ => True) W0.heap.size 58 7 (RIt W0) (f (21 + j')) (rowJ J j') := by
        obtain ⟨xs, h3, h4, h5⟩ := h1
        refine ⟨xs, h3.kept hgr ?_, h4, h5⟩
        cases ho' : (f (21 + j')).ownBlock with
        | none => exact .inl rfl
        | some k => exact .inr (fun hh => h.ap j' j hj' hj e k ho' (by rw [← hh]))
      exact h2.set' (h.ne j' hj')
  · rw [fset_at]
    split
    · exact hv
    · exact h.ne j' hj'
  · rw [fset_at] at hk1 ⊢
    split at hk1
    · rename_i e1
      obtain rfl : j1 = j := by omega
      rw [if_neg (by omega)]
      rcases hin k hk1 with e | e
      · exact h.ap j1 j2 hj1 hj2 hne k e
      · intro e2
        have := hlow j2 hj2 k e2
        omega
    · split
      · rename_i e1 e2
        obtain rfl : j2 = j := by omega
        intro e3
        rcases hin k e3 with e | e
        · exact h.ap j1 j2 hj1 hj2 hne k hk1 e
        · have := hlow j1 hj1 k hk1
          omega
      · exact h.ap j1 j2 hj1 hj2 hne k hk1
end
end Go.Proofs.YtppaiihcaajkaaaGreat

namespace Go.Proofs.YtppaiihcaajkaaaGreat
open Go.RowKit
set_option linter.unusedVariables false
set_option linter.unusedSimpArgs false
def RetTy (w : World) (e : Ending) (w' : World) : Prop := ∃ v, e = .returned v ∧ There RSc 2 w' v TT ∧ Below w.heap.size w w'
def RetKyd (q t : Int) (s : ByteArray) (w : World) (e : Ending) (w' : World) : Prop := ∃ A c, e = .returned (.agg #[.int .i64 0, .int .i64 q, .int .i64 0, .int .i64 t, .slice A 1 c]) ∧ Lst w' (· < w'.heap.size) 3 RV0 (.slice A 1 c) [⟨2, 0, s⟩] ∧ Below w.heap.size w w'
section
variable (w : World)
set_option maxRecDepth 100000 in
set_option maxHeartbeats 8000000 in
theorem ttypes_any : Calls Tryz.prog 23 #[] w (RetTy w) := by
  have HX := Bl.new w [.string ⟨#[115]⟩, .int .i64 2] 103
  have hs : (w.alloc (.cells #[.string ⟨#[115]⟩, .int .i64 2] 103)).heap.size = w.heap.size + 1 := by simp
  have HY := Bl.new (w.alloc (.cells #[.string ⟨#[115]⟩, .int .i64 2] 103)) [.string ⟨#[65]⟩, .slice (some ⟨w.heap.size, 0, none⟩) 1 1] 106
  rw [hs] at HY
  have HZ := hide (And.intro (HX.laid (.cells #[.string ⟨#[65]⟩, .slice (some ⟨w.heap.size, 0, none⟩) 1 1] 106)) HY)
  have HB := hide (bthen (below_laid (w := w) (.cells #[.string ⟨#[115]⟩, .int .i64 2] 103)) (below_laid (.cells #[.string ⟨#[65]⟩, .slice (some ⟨w.heap.size, 0, none⟩) 1 1] 106)))
  clear HX HY hs
  go_enter Tryz.func23, Tryz.ntmps23
  go_wp2
  go_ret
  exact ⟨_, rfl, lst_one (y := (⟨⟨#[65]⟩, [⟨⟨#[115]⟩, 2⟩]⟩ : Scx)) HZ.out.2 ⟨_, rfl, by unfold maxLen; decide, lst_one (y := (⟨⟨#[115]⟩, 2⟩ : Fdx)) HZ.out.1 ⟨rfl, by unfold maxLen; decide⟩ HZ.out.1.lt⟩ HZ.out.2.lt, HB.out⟩
set_option maxRecDepth 100000 in
set_option maxHeartbeats 8000000 in
theorem tkeyed_any (q t : Int) (s : ByteArray) (hs : s.size ≤ 64) : Calls Tryz.prog 9 #[.int .i64 q, .int .i64 t, .string s] w (RetKyd q t s w) := by
  have HS := hide hs
  have HF := hide (fun (c : List Value) => show Bl ((w.alloc (.cells c.toArray 51)).alloc (.cells #[.int .i64 2, .int .i64 0, .string s] 72)) (w.heap.size + 1) [.int .i64 2, .int .i64 0, .string s] ∧ Below w.heap.size w ((w.alloc (.cells c.toArray 51)).alloc (.cells #[.int .i64 2, .int .i64 0, .string s] 72)) by
    have HY := Bl.new (w.alloc (.cells c.toArray 51)) [.int .i64 2, .int .i64 0, .string s] 72
    rw [show (w.alloc (.cells c.toArray 51)).heap.size = w.heap.size + 1 by simp] at HY
    exact ⟨HY, bthen (below_laid _) (below_laid _)⟩)
  clear hs
  go_enter Tryz.func9, Tryz.ntmps9
  go_wp2
  refine bodyPost_ret (v := .agg #[.int .i64 0, .int .i64 q, .int .i64 0, .int .i64 t, .slice (some ⟨w.heap.size + 1, 0, none⟩) 1 1]) (by rw [results_c rfl]; go_simp) rfl ?_
  have h := HF.out [.int .i64 0, .int .i64 q, .int .i64 0, .int .i64 t, .slice (some ⟨w.heap.size + 1, 0, none⟩) 1 1]
  exact ⟨_, _, rfl, lst_one (y := (⟨2, 0, s⟩ : V3)) h.1 ⟨rfl, ⟨show inI 2 by unfold inI; decide, inI0⟩, show s.size ≤ maxLen by have := HS.out; unfold maxLen; omega⟩ h.1.lt, h.2⟩
end
end Go.Proofs.YtppaiihcaajkaaaGreat

namespace Go.Proofs.YtppaiihcaajkaaaGreat
open Go.RowKit
set_option linter.unusedVariables false
set_option linter.unusedSimpArgs false
structure JTo (b : Nat) (w : World) (f : Nat → Value) (w' : World) (f' : Nat → Value) : Prop where
  kp : Kp (Sep w b f) w w'
  sep : ∀ k, Sep w b f k → Sep w' b f' k
section
variable {W0 w w' w1 w2 : World} {L : Nat → List Msg} {b : Nat} {f f' f1 f2 : Nat → Value} {J J' : Job}
theorem JTo.refl : JTo b w f w f := ⟨⟨Nat.le_refl _, fun _ _ _ => rfl⟩, fun _ h => h⟩
theorem JTo.trans (h : JTo b w f w1 f1) (h' : JTo b w1 f1 w2 f2) : JTo b w f w2 f2 :=
  ⟨⟨Nat.le_trans h.kp.1 h'.kp.1, fun k hk hlt => (h'.kp.2 k (h.sep k hk) (Nat.lt_of_lt_of_le hlt h.kp.1)).trans (h.kp.2 k hk hlt)⟩, fun k hk => h'.sep k (h.sep k hk)⟩
theorem JTo.size (h : JTo b w f w' f') : w.heap.size ≤ w'.heap.size := h.kp.1
theorem jto_below (hb : Below w.heap.size w w') : JTo b w f w' f := ⟨(Kp.of_below hb).less fun k hk => hk.1, fun k hk => ⟨Nat.lt_of_lt_of_le hk.1 hb.size, hk.2⟩⟩
theorem jto_off (hO : Off b 1 w w') (hrow : ∀ j, j < 6 → f' (21 + j) = f (21 + j)) : JTo b w f w' f' :=
  ⟨hO.kp fun k hk => by have := hk.2.1; omega, fun k hk => ⟨by rw [hO.size]; exact hk.1, hk.2.1, fun j hj => by rw [hrow j hj]; exact hk.2.2 j hj⟩⟩
theorem jto_push {j : Nat} {v : Value} (h : JobAt W0 L w b f J) (hj : j < 6) (hin : ∀ k, v.ownBlock = some k → (f (21 + j)).ownBlock = some k ∨ w.heap.size ≤ k) (hgr : w.grownBy w1 (f (21 + j)).ownBlock) : JTo b w f (w1.setCell ⟨b, 21 + j, none⟩ v) (fset f (21 + j) v) := by
  have hle := hgr.size
  refine ⟨Kp.trans (w' := w1) ⟨hle, fun k hk hlt => hgr.block k hlt (fun e => hk.2.2 j hj e.symm)⟩ (Kp.set ⟨b, 21 + j, none⟩ v fun k hk => hk.2.1), fun k hk => ⟨?_, hk.2.1, fun j' hj' => ?_⟩⟩
  · have : (w1.setCell ⟨b, 21 + j, none⟩ v).heap.size = w1.heap.size := by simp [World.setCell]
    rw [this]; exact Nat.lt_of_lt_of_le hk.1 hle
  · rw [fset_at]
    split
    · intro e
      rcases hin k e with e | e
      · exact hk.2.2 j hj e
      · have := hk.1; omega
    · exact hk.2.2 j' hj'
theorem Bl.jto {g : Nat} {xs : List Value} (h : Bl w g xs) (hs : Sep w b f g) (ht : JTo b w f w' f') : Bl w' g xs := by
  have hb := ht.kp.2 g hs h.lt
  exact ⟨fun j x hx => (World.cell?_of_block (w := w) (a := ⟨g, j, none⟩) hb).trans (h.c j x hx), fun j => (World.frozen?_of_block (w := w) (a := ⟨g, j, none⟩) hb).trans (h.f j), Nat.lt_of_lt_of_le h.lt ht.kp.1⟩
theorem Lst.jto {α : Type} {R : World → (Nat → Prop) → List Value → α → Prop} (hR : Rd R) {Z : Nat → Prop} {sz : Nat} {v : Value} {l : List α} (h : Lst w Z sz R v l) (hs : ∀ k, Z k → Sep w b f k) (ht : JTo b w f w' f') : Lst w' Z sz R v l := h.keep hR (ht.kp.less hs)
/-- New memory is not the job's. -/
theorem JobAt.new (h : JobAt W0 L w b f J) {k : Nat} (h1 : w.heap.size ≤ k) (h2 : k < w'.heap.size) : Sep w' b f k :=
  ⟨h2, fun e => by have := h.bl.lt; omega, fun j hj e => by have := ((h.rows j hj).low k e).2; omega⟩
end
/-- What a method of the job leaves. -/
def RetJ (W0 : World) (L : Nat → List Msg) (b : Nat) (f : Nat → Value) (J' : Job) (w : World) (e : Ending) (w' : World) : Prop := e = .returned (.tuple #[]) ∧ ∃ f', JobAt W0 L w' b f' J' ∧ JTo b w f w' f'
/-- How a list of the workers' numbers lies. -/
theorem qs_ok {q : Nat → List Itm} (h1 : ∀ k, k < 4 → ∀ x ∈ q k, ItemOK x) (h2 : ∀ k, k < 4 → (q k).length ≤ 4000) : QsOK (qsOf q) := by
  refine ⟨rfl, fun j h => ?_, fun c hc x hx => ?_, fun c hc => ?_⟩
  · have : j = 0 ∨ j = 1 ∨ j = 2 ∨ j = 3 := by simp [qsOf] at h; omega
    rcases this with rfl | rfl | rfl | rfl <;> exact ⟨rfl, rfl⟩
  · simp only [qsOf, List.mem_cons, List.not_mem_nil, or_false] at hc
    rcases hc with rfl | rfl | rfl | rfl
    · exact h1 0 (by omega) x hx
    · exact h1 1 (by omega) x hx
    · exact h1 2 (by omega) x hx
    · exact h1 3 (by omega) x hx
  · simp only [qsOf, List.mem_cons, List.not_mem_nil, or_false] at hc
    rcases hc with rfl | rfl | rfl | rfl
    · exact h2 0 (by omega)
    · exact h2 1 (by omega)
    · exact h2 2 (by omega)
    · exact h2 3 (by omega)
theorem qs_put {q : Nat → List Itm} {k : Nat} (hk : k < 4) (l : List Itm) : putQ (qsOf q) k l = qsOf (fset q k l) := by
  have : k = 0 ∨ k = 1 ∨ k = 2 ∨ k = 3 := by omega
  rcases this with rfl | rfl | rfl | rfl <;> rfl
theorem qs_at {q : Nat → List Itm} {k : Nat} (hk : k < (qsOf q).length) : (qsOf q)[k].l = q k := by
  have : k = 0 ∨ k = 1 ∨ k = 2 ∨ k = 3 := by simp [qsOf] at hk; omega
  rcases this with rfl | rfl | rfl | rfl <;> rfl
end Go.Proofs.YtppaiihcaajkaaaGreat

namespace Go.Proofs.YtppaiihcaajkaaaGreat
open Go.RowKit
set_option linter.unusedVariables false
set_option linter.unusedSimpArgs false
section
variable {W0 w w' w1 : World} {L : Nat → List Msg} {b : Nat} {f f' : Nat → Value} {J J' : Job}
theorem JobAt.ghost (h : JobAt W0 L w b f J) (a : Nat → List Itm) : JobAt W0 L w b f { J with all := a } := ⟨h.bl, h.hw, h.hb, h.log, h.rd, h.qu, h.al, h.ins, h.rows, h.ne, h.ap, h.ok⟩
theorem off_one (b k : Nat) (u : Value) (w : World) : Off b 1 w (w.setCell ⟨b, k, none⟩ u) := Off.set Off.refl (by constructor <;> simp)
theorem JobAt.okput (h : JobAt W0 L w b f J) : JobAt W0 L (w.setCell ⟨b, 27, none⟩ (.bool true)) b f J ∧ JTo b w f (w.setCell ⟨b, 27, none⟩ (.bool true)) f := by
  have hB : JBlk (w.setCell ⟨b, 27, none⟩ (.bool true)) b f := (h.bl.put (by omega) (.bool true)).same fun k hk => by
    rw [fset_at]; split
    · rename_i e; rw [e, h.ok]
    · rfl
  exact ⟨h.turn (off_one b 27 _ w) hB (fun _ _ => rfl) (fun _ _ => rfl) (fun _ _ => rfl) h.rd h.qu h.al h.ins h.ok, jto_off (off_one b 27 _ w) fun _ _ => rfl⟩
/-- New queues are stored. -/
theorem JobAt.quput (h : JobAt W0 L w b f J) {g c : Nat} {q : Nat → List Itm} {Z : Nat → Prop} (hl : Lst w Z 3 (RQu W0) (.slice (some ⟨g, 0, none⟩) 4 c) (qsOf q)) (hz : ∀ k, Z k → Sep w b f k) :
    JobAt W0 L (w.setCell ⟨b, 14, none⟩ (.slice (some ⟨g, 0, none⟩) 4 c)) b (fset f 14 (.slice (some ⟨g, 0, none⟩) 4 c)) { J with q := q } ∧ JTo b w f (w.setCell ⟨b, 14, none⟩ (.slice (some ⟨g, 0, none⟩) 4 c)) (fset f 14 (.slice (some ⟨g, 0, none⟩) 4 c)) := by
  have hf : ∀ k, k ≠ 14 → fset f 14 (.slice (some ⟨g, 0, none⟩) 4 c) k = f k := fun k hk => fset_ne hk
  refine ⟨h.turn (off_one b 14 _ w) (h.bl.put (by omega) _) (fun i hi => hf _ (by omega)) (fun j hj => hf _ (by omega)) (fun _ _ => rfl) (fun i hi => ?_) ⟨g, c, fset_same, hl.more rd_Qu hz⟩ (fun i hi => ?_) (fun i hi => by rw [hf _ (by omega)]; exact h.ins i hi) (by rw [hf _ (by omega)]; exact h.ok), jto_off (off_one b 14 _ w) fun j hj => hf _ (by omega)⟩
  · obtain ⟨A, a, B, c', h0, h1, h2, h3, h4, h5, h6⟩ := h.rd i hi
    refine ⟨A, a, B, c', ?_, ?_, ?_, ?_, ?_, ?_, h6⟩ <;> rw [hf _ (by omega)] <;> assumption
  · obtain ⟨h0, h1⟩ := h.al i hi
    exact ⟨by rw [hf _ (by omega)]; exact h0, by rw [hf _ (by omega)]; exact h1⟩
theorem JobAt.sepw (h : JobAt W0 L w b f J) {Z : Nat → Prop} (hz : ∀ k, Z k → w.heap.size ≤ k ∧ k < w'.heap.size) : ∀ k, Z k → Sep w' b f k := fun k hk => h.new (hz k hk).1 (hz k hk).2
end
def sendT (J : Job) (i : Nat) (x : Itm) (j : Nat) : Job := ((routeN x).take j).foldl (fun J t => send1 J i t x) J
theorem route_at {x : Itm} {j : Nat} (hj : j < (routeI x).length) : ∃ t : Nat, t < 2 ∧ (routeI x)[j] = (t : Int) ∧ (routeN x).take (j + 1) = (routeN x).take j ++ [t] := by
  have hl : (routeN x).length = (routeI x).length := by unfold routeN; simp
  have hj' : j < (routeN x).length := by rw [hl]; exact hj
  have hc : ((routeI x)[j] = 0 ∨ (routeI x)[j] = 1) := by
    have hm := List.getElem_mem hj
    generalize (routeI x)[j] = z at hm
    unfold routeI at hm
    split at hm
    · rcases wkrI_two x.e with h | h <;> rw [h] at hm <;> simp at hm <;> omega
    · simp at hm; omega
  have hn : (routeN x)[j] = ((routeI x)[j]).toNat := List.getElem_map _
  refine ⟨(routeN x)[j], by rw [hn]; omega, by rw [hn]; omega, ?_⟩
  rw [List.take_succ_eq_append_getElem hj']
theorem sendT_succ {J : Job} {i t j : Nat} {x : Itm} (h : (routeN x).take (j + 1) = (routeN x).take j ++ [t]) : sendT J i x (j + 1) = send1 (sendT J i x j) i t x := by
  unfold sendT
  rw [h, List.foldl_append]
  rfl
theorem sendT_all {J : Job} {i : Nat} {x : Itm} : sendT J i x (routeI x).length = sendJ J i x := by
  unfold sendT sendJ
  rw [List.take_of_length_le (by unfold routeN; simp)]
theorem route_len (x : Itm) : (routeI x).length ≤ 2 := by
  unfold routeI
  split <;> simp
theorem send1_len {J : Job} {i t : Nat} {x : Itm} (k : Nat) : ((send1 J i t x).q k).length ≤ (J.q k).length + 1 := by
  show (fset J.q (2 * i + t) (J.q (2 * i + t) ++ [x]) k).length ≤ _
  rw [fset_at]
  split
  · rename_i e; subst e; simp
  · omega
theorem sendT_q {J : Job} {i : Nat} {x : Itm} (hx : ItemOK x) (hg : ∀ k, k < 4 → ∀ y ∈ J.q k, ItemOK y) (hi : i < 2) : ∀ j, (∀ k, ((sendT J i x j).q k).length ≤ (J.q k).length + j) ∧ ∀ k, k < 4 → ∀ y ∈ (sendT J i x j).q k, ItemOK y
  | 0 => ⟨fun k => Nat.le_refl _, hg⟩
  | j + 1 => by
    obtain ⟨h1, h2⟩ := sendT_q hx hg hi j
    by_cases hj : j < (routeI x).length
    · obtain ⟨t, ht, -, he⟩ := route_at hj
      rw [sendT_succ he]
      refine ⟨fun k => ?_, fun k hk y hy => ?_⟩
      · have := @send1_len (sendT J i x j) i t x k
        have := h1 k
        omega
      · have hy' : y ∈ fset (sendT J i x j).q (2 * i + t) ((sendT J i x j).q (2 * i + t) ++ [x]) k := hy
        rw [fset_at] at hy'
        split at hy'
        · rcases List.mem_append.1 hy' with hy' | hy'
          · exact h2 _ (by omega) y hy'
          · rw [List.mem_singleton.1 hy']; exact hx
        · exact h2 k hk y hy'
    · have he : sendT J i x (j + 1) = sendT J i x j := by
        unfold sendT
        rw [List.take_of_length_le (by unfold routeN; simp; omega), List.take_of_length_le (by unfold routeN; simp; omega)]
      rw [he]
      exact ⟨fun k => Nat.le_succ_of_le (h1 k), h2⟩
end Go.Proofs.YtppaiihcaajkaaaGreat

namespace Go.Proofs.YtppaiihcaajkaaaGreat
open Go.RowKit
set_option linter.unusedVariables false
set_option linter.unusedSimpArgs false
theorem cell_grown {w w' : World} {r : Option Nat} {p : Addr} {v : Value} (h : w.cell? p = some v) (hg : w.grownBy w' r) (hne : r ≠ some p.block) : w'.cell? p = some v :=
  (World.cell?_of_block (w := w) (a := p) (hg.block p.block (World.block_lt_of_cell? w p h) (fun e => hne e.symm))).trans h
/-- An item in a box of new memory. -/
def ItB (B : Nat) (xs : List Value) : World → Value → Prop := fun w u => ∃ g, u = .slice (some ⟨g, 0, none⟩) 1 1 ∧ B ≤ g ∧ Bl w g xs
/-- The row, as it is, and grown. -/
def RowP (W0 : World) (r : Option Nat) (B : Nat) (l : List Itm) : World → Value → Prop := fun w u => Gq w (fun k => r = some k ∨ B ≤ k) W0.heap.size 58 7 (RIt W0) u l
theorem ItB.grown {B : Nat} {xs : List Value} {w w' : World} {u : Value} {r : Option Nat} (h : ItB B xs w u) (hg : w.grownBy w' r) (hr : ∀ k, r = some k → k < B) : ItB B xs w' u := by
  obtain ⟨g, e, h1, h2⟩ := h
  exact ⟨g, e, h1, h2.grown hg fun e => by have := hr g e; omega⟩
theorem oper_append_gq {α : Type} {R : World → (Nat → Prop) → List Value → α → Prop} (hR : Rd R) {P : Program} {o : Oper} {a : Act} {K : Act → World → Prop} {Q : Exit → Act → World → Prop} {W : World} (hgd : o.guard = none) (s x : Operand) (t : TypeId)
    (ho : o.op = .call { callee := .builtin .append, args := #[s, x], argTypes := #[t, t] })
    (Y : Nat → Prop) (base : Nat) (e : TypeId) (i : TypeInfo) (z : Value) (sz bytes : Nat) (ht : P.underlying t = some (.slice e)) (hi : P.info? e = some i) (hz : i.zero = some z)
    (hsize : i.size = sz) (hby : i.bytes = bytes) (hzs : z.cells.size = sz) (hsz : 0 < sz)
    (v : Value) (l : List α) (hs : a.eval s = v) (hg : Gq W Y base e sz R v l)
    (g : Nat) (hx : a.eval x = .slice (some ⟨g, 0, none⟩) 1 1) (ys : List Value) (hyl : ys.length = sz) (hcell : ∀ j u, ys[j]? = some u → W.cell? ⟨g, j, none⟩ = some u) (h1 : ∀ y ∈ ys, y.oneCell' = true)
    (y : α) (hy : R W (fun b => Y b ∧ b < W.heap.size ∧ v.ownBlock ≠ some b) ys y) (hY : ∀ b, W.heap.size ≤ b → Y b)
    (hn : l.length < 1099511627776) (hb100 : bytes ≤ 128) (hbase : base ≤ W.heap.size)
    (h : ∀ v' w', Gq w' Y base e sz R v' (l ++ [y]) → W.grownBy w' v.ownBlock → Below base W w' → K (a.put o.dst v') w') : Oper.wp P o a W K Q := by
  have key := step_append_gq (P := P) (ops := #[]) (Q := Q) (E := False) hR hgd s x t ho Y base e i z sz bytes ht hi hz hsize hby hzs hsz v l hs hg g hx ys hyl hcell h1 y hy hY hn hb100 hbase h
  rwa [if_pos (by simp [Region.wanted, hgd])] at key
theorem it_one {A : Option Addr} {c : Nat} {x : Itm} : ∀ y ∈ ([.int .i64 x.k, .int .i64 x.e.a, .int .i64 x.e.b, .int .i64 x.e.c, .int .i64 x.e.d, .slice A x.e.vs.length c, .int .i64 x.n] : List Value), y.oneCell' = true := by simp [Value.oneCell']
end Go.Proofs.YtppaiihcaajkaaaGreat
