/- A slice of slices of integers that the call has made. -/
import Derived.Test.YtoafjlfidgjgbaaMoves
import Derived.RangeFuncBox
namespace Go.Proofs.Ytoafjlfidgjgbaa
open Go.RowKit
set_option linter.unusedVariables false
set_option linter.unusedSimpArgs false

def Grid (W : World) (base o q : Nat) (L : Nat → List Int) : Prop :=
  ∃ vs : List Value, vs.length = q ∧ o < base ∧ W.heap[o]? = some (.cells vs.toArray 50 (0, 0)) ∧
    (∀ i v, vs[i]? = some v → W.ownsRow base 3 1 v (L i).length (ints (L i))) ∧
    (∀ (i j : Nat) (u v : Value), i ≠ j → vs[i]? = some u → vs[j]? = some v → u.ownBlock = none ∨ u.ownBlock ≠ v.ownBlock)

theorem own_notrow {W : World} {base : Nat} {te : TypeId} {sz n : Nat} {v : Value} {xs : List Value} (h : W.ownsRow base te sz v n xs) {row : Option Nat}
    (hr : ∀ r, row = some r → ∃ ob : Obj, W.heap[r]? = some ob ∧ ob.isCells = false) : v.ownBlock = none ∨ v.ownBlock ≠ row := by
  rcases h.2 with ⟨rfl, _⟩ | ⟨g, cap, cur, rfl, _, hg, _⟩
  · exact .inl rfl
  · refine .inr fun e => ?_
    obtain ⟨ob, ho, hc⟩ := hr g e.symm
    rw [hg] at ho; cases ho; cases hc

theorem Grid.kept {W W' : World} {base o q : Nat} {L : Nat → List Int} {row : Option Nat} (h : Grid W base o q L) (hg : W.grownBy W' row)
    (hr : ∀ r, row = some r → ∃ ob : Obj, W.heap[r]? = some ob ∧ ob.isCells = false) : Grid W' base o q L := by
  obtain ⟨vs, h1, h2, h3, h4, h5⟩ := h
  refine ⟨vs, h1, h2, ?_, fun i v hv => (h4 i v hv).kept hg (own_notrow (h4 i v hv) hr), h5⟩
  rw [hg.block o (Array.getElem?_eq_some_iff.1 h3).1 (fun e => by
    obtain ⟨ob, ho, hc⟩ := hr o e.symm
    rw [h3] at ho; cases ho; cases hc)]
  exact h3
theorem Grid.same {W W' : World} {base o q : Nat} {L : Nat → List Int} (h : Grid W base o q L) (hg : W.grownBy W' none) : Grid W' base o q L := h.kept hg (fun _ e => by cases e)
theorem Grid.alloc {W : World} {base o q : Nat} {L : Nat → List Int} (h : Grid W base o q L) (ob : Obj) : Grid (W.alloc ob) base o q L := h.same (World.grownBy_alloc W ob none)
theorem Grid.below {W W' : World} {base o q : Nat} {L : Nat → List Int} (h : Grid W base o q L) (hb : Below W.heap.size W W') : Grid W' base o q L :=
  h.same ⟨hb.os, hb.tape, hb.output, hb.size, fun k hk _ => hb.block k hk⟩
theorem Grid.cell {W : World} {base o q : Nat} {L : Nat → List Int} (h : Grid W base o q L) {i : Nat} (hi : i < q) :
    ∃ v, W.cell? ⟨o, i, none⟩ = some v ∧ W.ownsRow base 3 1 v (L i).length (ints (L i)) := by
  obtain ⟨vs, h1, h2, h3, h4, h5⟩ := h
  have hl : i < vs.length := by omega
  exact ⟨vs[i], by rw [cell_of_row W o i _ _ _ h3]; simp [hl], h4 i _ (List.getElem?_eq_getElem hl)⟩
theorem Grid.lt {W : World} {base o q : Nat} {L : Nat → List Int} (h : Grid W base o q L) : o < W.heap.size := by
  obtain ⟨vs, h1, h2, h3, h4, h5⟩ := h
  exact (Array.getElem?_eq_some_iff.1 h3).1
theorem Grid.frozen {W : World} {base o q : Nat} {L : Nat → List Int} (h : Grid W base o q L) (i : Nat) : W.frozen? ⟨o, i, none⟩ = false := by
  obtain ⟨vs, h1, h2, h3, h4, h5⟩ := h
  simp [World.frozen?, h3]
theorem Grid.congr {W : World} {base o q : Nat} {L L' : Nat → List Int} (h : Grid W base o q L) (hL : ∀ i, i < q → L i = L' i) : Grid W base o q L' := by
  obtain ⟨vs, h1, h2, h3, h4, h5⟩ := h
  refine ⟨vs, h1, h2, h3, fun i v hv => ?_, h5⟩
  have hi : i < q := by have := (List.getElem?_eq_some_iff.1 hv).1; omega
  rw [← hL i hi]; exact h4 i v hv

/-- 'o[i] = append(o[i], x)': the append's world W1, then the store. -/
theorem Grid.push {W W1 : World} {base o q i : Nat} {L : Nat → List Int} {x : Int} {v v' : Value} {nb : Nat} (h : Grid W base o q L) (hi : i < q) (hv : W.cell? ⟨o, i, none⟩ = some v)
    (hown : W1.ownsRow base 3 1 v' ((L i).length + 1) (ints (L i) ++ [.int .i64 x])) (hg : W.grownBy W1 v.ownBlock) (hnb : W.heap.size ≤ nb) (hat : v'.ownBlock = v.ownBlock ∨ v'.ownBlock = some nb) :
    Grid (W1.setCell ⟨o, i, none⟩ v') base o q (fun k => if k = i then L k ++ [x] else L k) := by
  obtain ⟨vs, h1, h2, h3, h4, h5⟩ := h
  have hl : i < vs.length := by omega
  obtain rfl : vs[i] = v := by rw [cell_of_row W o i _ _ _ h3] at hv; simpa [hl] using hv
  have hvi : vs[i]? = some vs[i] := List.getElem?_eq_getElem hl
  have hrow := h4 i _ hvi
  have hW1 : W1.heap[o]? = some (.cells vs.toArray 50 (0, 0)) := by
    rw [hg.block o (Array.getElem?_eq_some_iff.1 h3).1 (fun e => by have := (hrow.lt o e.symm).1; omega)]; exact h3
  refine ⟨vs.set i v', by simpa using h1, h2, ?_, ?_, ?_⟩
  · rw [heap_setCell_same W1 o i _ _ v' hW1]; simp
  · intro k u hu
    by_cases e : k = i
    · subst e
      rw [List.getElem?_set_self hl] at hu
      cases hu
      simp only [if_true]
      refine ownsRow_setCell_below ?_ (a := ⟨o, k, none⟩) h2 _
      rw [List.length_append, ints_app]; exact hown
    · rw [List.getElem?_set_ne (Ne.symm e)] at hu
      simp only [e, if_false]
      refine ownsRow_setCell_below ?_ (a := ⟨o, i, none⟩) h2 _
      exact (h4 k u hu).kept hg (h5 k i u _ e hu hvi)
  · have hlt : ∀ (k : Nat) (u : Value), vs[k]? = some u → u.ownBlock = none ∨ u.ownBlock ≠ some nb := fun k u hu => by
      cases hb : u.ownBlock with
      | none => exact .inl rfl
      | some g => exact .inr (fun e => by injection e with e; have := ((h4 k u hu).lt g hb).2; omega)
    intro k j u w hkj hu hw
    by_cases ek : k = i
    · subst ek
      rw [List.getElem?_set_self hl] at hu; cases hu
      rw [List.getElem?_set_ne hkj] at hw
      rcases hat with e | e
      · rw [e]; exact h5 k j _ w hkj hvi hw
      · rw [e]
        refine .inr (fun e' => ?_)
        rcases hlt j w hw with h | h
        · rw [h] at e'; cases e'
        · exact h e'.symm
    · rw [List.getElem?_set_ne (Ne.symm ek)] at hu
      by_cases ej : j = i
      · subst ej
        rw [List.getElem?_set_self hl] at hw; cases hw
        rcases hat with e | e
        · rw [e]; exact h5 k j u _ hkj hu hvi
        · rw [e]; exact hlt k u hu
      · rw [List.getElem?_set_ne (Ne.symm ej)] at hw
        exact h5 k j u w hkj hu hw

/-- n nil slices. -/
def nils (n : Nat) : Array Value := (List.replicate n (Value.slice none 0 0)).toArray
theorem madeCells_one (x : Value) (n : Nat) : madeCells #[x] n = (List.replicate n x).toArray := by
  apply Array.ext
  · simp [madeCells]
  · intro i h1 h2
    simp [madeCells, Nat.mod_one]
theorem info_slice : (Try.prog.info? 50).map (fun i => (i.zero, i.size, i.bytes)) = some (some (.slice none 0 0), 1, 24) := by kernel_rfl
theorem info_int : (Try.prog.info? 3).map (fun i => (i.zero, i.size, i.bytes)) = some (some (.int .i64 0), 1, 8) := by kernel_rfl
theorem make_nils (n : Nat) (hn : n ≤ 1000) (w : World) : (Instr.makeSlice 31 (.int .i64 (n : Int)) (.int .i64 (n : Int))).run Try.prog w = .ok (.slice (some ⟨w.heap.size, 0, none⟩) n n) (w.alloc (.cells (nils n) 50)) := by
  obtain ⟨i0, hi0, hz0, hz1, hz2⟩ := info_parts info_slice
  have hr := run_make (P := Try.prog) w 31 50 i0 _ Try.underlying31 hi0 hz0 .i64 .i64 (n : Int) (n : Int) (by omega) (by omega) (by rw [hz2]; omega) (by omega)
  rw [hz1] at hr
  simp only [Int.toNat_natCast, Nat.mul_one, Value.cells, madeCells_one] at hr
  exact hr
theorem grid_new (n : Nat) (w : World) : Grid (w.alloc (.cells (nils n) 50)) (w.heap.size + 1) w.heap.size n (fun _ => []) := by
  refine ⟨List.replicate n (.slice none 0 0), by simp, by omega, heap_alloc_new w _, fun i v hv => ?_, fun i j u v _ hu _ => ?_⟩
  · rw [List.getElem?_replicate] at hv
    split at hv
    · cases hv; exact World.ownsRow_nil _ _ _ _
    · cases hv
  · rw [List.getElem?_replicate] at hu
    split at hu
    · cases hu; exact .inl rfl
    · cases hu

section
variable {P : Program}
/-- 'wpList_append_one', with the frame to the block. -/
theorem wpList_append_at {ops : Array Oper} {rest : List Oper} {o : Oper} {a : Act} {Q : Exit → Act → World → Prop} {wr : World} (hgd : o.guard = none) (s x : Operand) (t : TypeId)
    (ho : o.op = .call { callee := .builtin .append, args := #[s, x], argTypes := #[t, t] })
    (base : Nat) (e : TypeId) (i : TypeInfo) (z : Value) (bytes : Nat) (ht : P.underlying t = some (.slice e)) (hi : P.info? e = some i) (hz : i.zero = some z)
    (ys : List Value) (hsize : i.size = ys.length) (hby : i.bytes = bytes) (hzs : z.cells.size = ys.length) (hsz : 0 < ys.length)
    (v : Value) (n : Nat) (xs : List Value) (hs : a.eval s = v) (hown : wr.ownsRow base e ys.length v n xs)
    (te : TypeId) (hx : a.eval x = .slice (some ⟨wr.heap.size, 0, none⟩) 1 1) (h1 : ∀ y ∈ ys, y.oneCell' = true)
    (hn : n < 1099511627776) (hb100 : bytes ≤ 100) (hbase : base ≤ wr.heap.size)
    (h : ∀ v' w', w'.ownsRow base e ys.length v' (n + 1) (xs ++ ys) → wr.grownBy w' v.ownBlock → (v'.ownBlock = v.ownBlock ∨ v'.ownBlock = some (wr.heap.size + 1)) → wpList P ops Q rest (a.put o.dst v') w') :
    wpList P ops Q (o :: rest) a (wr.alloc (.cells ys.toArray te)) := by
  refine wpList_append_own_at (wr.alloc (.cells ys.toArray te)) hgd s x t ho base e i z ys.length bytes ht hi hz hsize hby hzs hsz v n xs hs (hown.alloc _) ⟨wr.heap.size, 0, none⟩ 1 1 ys hx (by simp) ?_ h1 (by unfold maxLen; omega) ?_ (by simp; omega) ?_
  · intro j u hj
    rw [show (⟨wr.heap.size, 0, none⟩ : Addr).add j = ⟨wr.heap.size, j, none⟩ by unfold Addr.add; split <;> simp_all]
    rw [World.cell?_alloc_at _ _ _ _ rfl]
    simpa using hj
  · calc (n + 1) * bytes ≤ 1099511627776 * 100 := Nat.mul_le_mul (by omega) hb100
      _ ≤ 140737488355328 := by omega
  · intro v' w' hown' hg _ hat
    exact h v' w' hown' ((World.grownBy_alloc wr _ _).trans hg) (by simpa using hat)
end

/-- Which worker a key group has, as a number. -/
theorem owner_nat {n k : Nat} (h1 : 1 ≤ n) (h8 : n ≤ 8) (hk : k < 16) : ((k : Int) * n / 16 = ((k * n / 16 : Nat) : Int)) ∧ k * n / 16 < n := by
  refine ⟨by simp, ?_⟩
  have : k * n ≤ 15 * n := Nat.mul_le_mul_right _ (by omega)
  omega
/-- The key groups of worker i of n, among the first k. -/
def own_ (n k i : Nat) : List Int := ((List.range k).filter fun g => g * n / 16 == i).map fun (g : Nat) => (g : Int)
theorem own_succ (n k i : Nat) : own_ n (k + 1) i = if i = k * n / 16 then own_ n k i ++ [(k : Int)] else own_ n k i := by
  unfold own_
  rw [List.range_succ, List.filter_append, List.map_append]
  by_cases h : i = k * n / 16
  · rw [if_pos h]; simp [h]
  · rw [if_neg h]
    have : (k * n / 16 == i) = false := by rw [beq_eq_false_iff_ne]; exact fun e => h e.symm
    simp [this]
theorem own_len (n k i : Nat) : (own_ n k i).length ≤ k := by
  unfold own_
  rw [List.length_map]
  exact Nat.le_trans (List.length_filter_le _ _) (by simp)
end Go.Proofs.Ytoafjlfidgjgbaa
