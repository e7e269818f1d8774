/- The writer of an encoding in memory: a struct with a slice of bytes of its own, and an error. -/
import Derived.Test.YtofdcgojgcnopaaGreatCPlain
namespace Go.Proofs.YtofdcgojgcnopaaGreat
open Go.RowKit
set_option linter.unusedVariables false
set_option linter.unusedSimpArgs false
def bytes (l : Bs) : List Value := l.map fun b => .int .u8 (b.toNat : Int)
theorem bytes_app (l m : Bs) : bytes (l ++ m) = bytes l ++ bytes m := List.map_append
theorem bytes_len (l : Bs) : (bytes l).length = l.length := List.length_map ..
theorem bytes_one (l : Bs) : ∀ u ∈ bytes l, u.oneCell' = true := by
  intro u hu
  obtain ⟨b, -, rfl⟩ := List.mem_map.1 hu
  rfl
/-- The writer at F has written o, and has the error e; v is its slice. -/
structure WrV (w : World) (F : Nat) (v : Value) (o : Bs) (e : Int) : Prop where
  c0 : w.cell? ⟨F, 0, none⟩ = some v
  c1 : w.cell? ⟨F, 1, none⟩ = some (.int .i64 e)
  f0 : w.frozen? ⟨F, 0, none⟩ = false
  f1 : w.frozen? ⟨F, 1, none⟩ = false
  own : w.ownsRow (F + 1) 5 1 v o.length (bytes o)
def Wr (w : World) (F : Nat) (o : Bs) (e : Int) : Prop := ∃ v, WrV w F v o e
/-- A block that is neither the writer's nor its slice's. -/
def Fr (F : Nat) (w : World) (b : Nat) : Prop := b < w.heap.size ∧ b ≠ F ∧ ∀ v, w.cell? ⟨F, 0, none⟩ = some v → v.ownBlock ≠ some b
/-- Nothing but the writer has turned, of what there was. -/
structure Wt (F : Nat) (w w' : World) : Prop where
  low : Below F w w'
  free : ∀ b, Fr F w b → w'.heap[b]? = w.heap[b]? ∧ Fr F w' b
section
variable {F : Nat} {w w' w'' : World} {o : Bs} {e : Int} {v : Value}
theorem WrV.lt (h : WrV w F v o e) : F < w.heap.size := World.block_lt_of_cell? w ⟨F, 0, none⟩ h.c0
theorem Wr.lt (h : Wr w F o e) : F < w.heap.size := by obtain ⟨v, h⟩ := h; exact h.lt
theorem WrV.row (h : WrV w F v o e) : ∀ k, v.ownBlock = some k → F + 1 ≤ k ∧ k < w.heap.size := h.own.lt
theorem Wt.refl : Wt F w w := ⟨Below.refl _ _, fun b hb => ⟨rfl, hb⟩⟩
theorem Wt.trans (h : Wt F w w') (h' : Wt F w' w'') : Wt F w w'' := ⟨h.low.trans h'.low, fun b hb => ⟨(h'.free b (h.free b hb).2).1.trans (h.free b hb).1, (h'.free b (h.free b hb).2).2⟩⟩
theorem Wt.undrew (h : Wt F w.drew w') : Wt F w w' := ⟨below_undrew h.low, fun b hb => h.free b hb⟩
theorem Wt.size (h : Wt F w w') : w.heap.size ≤ w'.heap.size := h.low.size
theorem Wt.of_below (hb : Below w.heap.size w w') (hF : F < w.heap.size) : Wt F w w' := by
  refine ⟨hb.mono (Nat.le_of_lt hF), fun b hf => ⟨hb.block b hf.1, Nat.lt_of_lt_of_le hf.1 hb.size, hf.2.1, fun v hv => hf.2.2 v ?_⟩⟩
  rw [← hb.cell (p := ⟨F, 0, none⟩) hF]; exact hv
theorem WrV.keep (h : WrV w F v o e) (hb : Below w.heap.size w w') : WrV w' F v o e :=
  ⟨keep1 hb h.c0, keep1 hb h.c1, (hb.frozen (p := ⟨F, 0, none⟩) h.lt).trans h.f0, (hb.frozen (p := ⟨F, 1, none⟩) h.lt).trans h.f1,
   h.own.kept (row := none) ⟨hb.os, hb.tape, hb.output, hb.size, fun k hk _ => hb.block k hk⟩ (by cases v.ownBlock <;> simp)⟩
theorem Wr.keep (h : Wr w F o e) (hb : Below w.heap.size w w') : Wr w' F o e := by obtain ⟨v, h⟩ := h; exact ⟨v, h.keep hb⟩
theorem Wr.laid (h : Wr w F o e) (ob : Obj) : Wr (w.alloc ob) F o e := h.keep (below_laid ob)
theorem Wt.laid (h : Wr w F o e) (ob : Obj) : Wt F w (w.alloc ob) := Wt.of_below (below_laid ob) h.lt
/-- A block that was just laid. -/
theorem Fr.new (h : Wr w F o e) (ob : Obj) : Fr F (w.alloc ob) w.heap.size := by
  obtain ⟨v, h⟩ := h
  refine ⟨by simp, fun he => absurd h.lt (by omega), fun v' hv' hk => ?_⟩
  rw [(h.keep (below_laid ob)).c0] at hv'
  cases hv'
  have := (h.row _ hk).2
  omega
/-- A box: its cells, which the writer does not touch. -/
def Bx (F : Nat) (w : World) (b : Nat) (xs : List Value) : Prop := Fr F w b ∧ ∀ c u, xs[c]? = some u → w.cell? ⟨b, c, none⟩ = some u
theorem Bx.keep {b : Nat} {xs : List Value} (h : Bx F w b xs) (ht : Wt F w w') : Bx F w' b xs := by
  obtain ⟨h1, h2⟩ := ht.free b h.1
  exact ⟨h2, fun c u hu => (World.cell?_of_block (w := w) (a := ⟨b, c, none⟩) h1).trans (h.2 c u hu)⟩
theorem Bx.new (h : Wr w F o e) (xs : List Value) (t : TypeId) : Bx F (w.alloc (.cells xs.toArray t)) w.heap.size xs := ⟨Fr.new h _, cells_lit w xs t⟩
theorem Wt.kp (h : Wt F w w') : Kp (· < F) w w' := Kp.lowBelow h.low (fun _ hb => hb)
/-- The slice is stored back. -/
theorem WrV.store {w1 w2 : World} {v' : Value} {o' : Bs} (h : WrV w F v o e) (hb : Below w.heap.size w w1) (hown : w2.ownsRow (F + 1) 5 1 v' o'.length (bytes o')) (hg : w1.grownBy w2 v.ownBlock)
    (hat : v'.ownBlock = v.ownBlock ∨ ∃ b, v'.ownBlock = some b ∧ w.heap.size ≤ b) : Wr (w2.setCell ⟨F, 0, none⟩ v') F o' e ∧ Wt F w (w2.setCell ⟨F, 0, none⟩ v') := by
  have hF := h.lt
  have hs1 := hb.size
  have hs2 := hg.size
  have hrow : some F ≠ v.ownBlock := fun he => by have := (h.row F he.symm).1; omega
  have hblk : w2.heap[F]? = w.heap[F]? := (hg.block F (by omega) hrow).trans (hb.block F hF)
  have hrow' : ∀ k, v'.ownBlock = some k → k ≠ F := fun k hk => by have := (hown.lt k hk).1; omega
  have c0 : w2.cell? ⟨F, 0, none⟩ = some v := (World.cell?_of_block (w := w) hblk).trans h.c0
  have c1 : w2.cell? ⟨F, 1, none⟩ = some (.int .i64 e) := (World.cell?_of_block (w := w) hblk).trans h.c1
  have hset : (w2.setCell ⟨F, 0, none⟩ v').cell? ⟨F, 0, none⟩ = some v' := World.cell?_setCell_same' _ _ _ (by rw [c0]; rfl)
  have hsz : (w2.setCell ⟨F, 0, none⟩ v').heap.size = w2.heap.size := by simp [World.setCell]
  refine ⟨⟨v', hset, ?_, ?_, ?_, ?_⟩, ?_, fun b hf => ⟨?_, ?_, hf.2.1, fun u hu => ?_⟩⟩
  · rw [World.cell?_setCell_other _ _ _ _ (by intro e'; injection e' with _ e' _; cases e')]; exact c1
  · rw [World.frozen?_setCell]; exact (World.frozen?_of_block (w := w) hblk).trans h.f0
  · rw [World.frozen?_setCell]; exact (World.frozen?_of_block (w := w) hblk).trans h.f1
  · refine hown.kept (row := some F) ⟨rfl, rfl, rfl, by rw [hsz]; exact Nat.le_refl _, fun k _ hk => Below.heap_setCell w2 ⟨F, 0, none⟩ v' k (fun hh => hk (by rw [hh]))⟩ ?_
    cases hv : v'.ownBlock with
    | none => exact .inl rfl
    | some k => exact .inr (fun hh => hrow' k hv (by injection hh))
  · exact (((hb.mono (Nat.le_of_lt hF)).grown hg (by omega) (fun k hk => by have := (h.row k hk).1; omega))).setCell (p := ⟨F, 0, none⟩) (Nat.le_refl _) _
  · rw [Below.heap_setCell w2 ⟨F, 0, none⟩ v' b hf.2.1, hg.block b (by have := hf.1; omega) (fun hh => hf.2.2 v h.c0 hh.symm)]
    exact hb.block b hf.1
  · rw [hsz]; have := hf.1; omega
  · rw [hset] at hu
    cases hu
    intro hk
    rcases hat with h1 | ⟨k, h1, h2⟩
    · rw [h1] at hk; exact hf.2.2 v h.c0 hk
    · rw [h1] at hk
      injection hk with hk
      have := hf.1
      omega
/-- The error is stored. -/
theorem Wr.fail (h : Wr w F o e) (e' : Int) : Wr (w.setCell ⟨F, 1, none⟩ (.int .i64 e')) F o e' ∧ Wt F w (w.setCell ⟨F, 1, none⟩ (.int .i64 e')) := by
  obtain ⟨v, h⟩ := h
  have hsz : (w.setCell ⟨F, 1, none⟩ (.int .i64 e')).heap.size = w.heap.size := by simp [World.setCell]
  have c0 : (w.setCell ⟨F, 1, none⟩ (.int .i64 e')).cell? ⟨F, 0, none⟩ = some v := by
    rw [World.cell?_setCell_other _ _ _ _ (by intro e'; injection e' with _ e' _; cases e')]; exact h.c0
  refine ⟨⟨v, c0, World.cell?_setCell_same' _ _ _ (by rw [h.c1]; rfl), ?_, ?_, ?_⟩, (Below.refl _ _).setCell (p := ⟨F, 1, none⟩) (Nat.le_refl _) _, fun b hf => ⟨Below.heap_setCell w ⟨F, 1, none⟩ _ b hf.2.1, by rw [hsz]; exact hf.1, hf.2.1, fun u hu => ?_⟩⟩
  · rw [World.frozen?_setCell]; exact h.f0
  · rw [World.frozen?_setCell]; exact h.f1
  · refine h.own.kept (row := some F) ⟨rfl, rfl, rfl, by rw [hsz]; exact Nat.le_refl _, fun k _ hk => Below.heap_setCell w ⟨F, 1, none⟩ _ k (fun hh => hk (by rw [hh]))⟩ ?_
    cases hv : v.ownBlock with
    | none => exact .inl rfl
    | some k => exact .inr (fun hh => by have := (h.row k hv).1; injection hh with hh; omega)
  · rw [c0] at hu; cases hu; exact hf.2.2 v h.c0
end
/-- What a writer writes: the error that was there stays; else the encoding is behind what was written, or its error is noted. At most n bytes more. -/
def Wd (r : Ex Bs) (n : Nat) (o : Bs) (e : Int) (o' : Bs) (e' : Int) : Prop :=
  (e ≠ 0 → e' = e) ∧ (e = 0 → match r with | .ok b => o' = o ++ b ∧ e' = 0 | .error c => e' = c ∧ c ≠ 0) ∧ o'.length ≤ o.length + n
theorem Wd.and {r r' : Ex Bs} {n m : Nat} {o o' o'' : Bs} {e e' e'' : Int} (h : Wd r n o e o' e') (h' : Wd r' m o' e' o'' e'') : Wd (andE r r') (n + m) o e o'' e'' := by
  obtain ⟨h1, h2, h3⟩ := h
  obtain ⟨h4, h5, h6⟩ := h'
  refine ⟨fun he => ?_, fun he => ?_, by omega⟩
  · have := h1 he; rw [h4 (by rw [this]; exact he), this]
  · have h2 := h2 he
    cases r with
    | error c => simp only [andE] at *; obtain ⟨rfl, hc⟩ := h2; exact ⟨h4 hc, hc⟩
    | ok b =>
      obtain ⟨rfl, rfl⟩ := h2
      have h7 := h5 rfl
      clear h5
      cases r' with
      | error c => exact h7
      | ok b' => simp only [andE] at *; obtain ⟨rfl, rfl⟩ := h7; exact ⟨List.append_assoc .., rfl⟩
theorem Wd.more {r : Ex Bs} {n m : Nat} {o o' : Bs} {e e' : Int} (h : Wd r n o e o' e') (hn : n ≤ m) : Wd r m o e o' e' := ⟨h.1, h.2.1, by have := h.2.2; omega⟩
theorem Wd.num {n : Int} (hn : inI n) (o : Bs) (e : Int) : Wd (eN n) 10 o e (o ++ num n) e := ⟨fun _ => rfl, fun h => ⟨rfl, h⟩, by rw [List.length_append]; have := num_len hn; omega⟩
theorem Wd.raw {n : Nat} {b : Bs} (hb : b.length ≤ n) (o : Bs) (e : Int) : Wd (.ok b) n o e (o ++ b) e := ⟨fun _ => rfl, fun h => ⟨rfl, h⟩, by rw [List.length_append]; omega⟩
theorem Wd.skip {o : Bs} {e : Int} : Wd (.ok []) 0 o e o e := ⟨fun _ => rfl, fun h => ⟨by simp, h⟩, Nat.le_refl _⟩
theorem Wd.stop {r : Ex Bs} {n : Nat} {o : Bs} {e : Int} (he : e ≠ 0) : Wd r n o e o e := ⟨fun _ => rfl, fun h => absurd h he, Nat.le_add_right _ _⟩
/-- A call that writes r behind o. -/
def Wrs (F : Nat) (r : Ex Bs) (n : Nat) (o : Bs) (e : Int) (w : World) (en : Ending) (w' : World) : Prop := en = .returned (.tuple #[]) ∧ ∃ o' e', Wd r n o e o' e' ∧ Wr w' F o' e' ∧ Wt F w w'
end Go.Proofs.YtofdcgojgcnopaaGreat
