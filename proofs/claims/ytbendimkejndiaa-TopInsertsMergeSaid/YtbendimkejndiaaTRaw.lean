/- Lists as bare cells. -/
import Derived.Test.YtbendimkejndiaaTSeq
import Derived.Deep.Slices
namespace Go.Proofs.Ytbendimkejndiaa
open Go.RowKit Go.Deep
set_option linter.unusedVariables false
set_option linter.unusedSimpArgs false
/-- The bare cells of an element. -/
def RWq (_ : World) (_ : Nat → Prop) (xs c : List Value) : Prop := xs = c ∧ ∀ u ∈ xs, u.oneCell' = true
theorem rd_Wq : Rd RWq := ⟨fun _ h => h, fun _ h => h⟩
/-- Each cell of an element is one cell. -/
def One {α : Type} (R : World → (Nat → Prop) → List Value → α → Prop) : Prop := ∀ {w Z xs x}, R w Z xs x → ∀ u ∈ xs, u.oneCell' = true
section
variable {α : Type} {R : World → (Nat → Prop) → List Value → α → Prop} {w w' : World} {Z : Nat → Prop} {sz : Nat} {v v' : Value} {l : List α}
theorem flat_get {sz : Nat} (hsz : 0 < sz) : ∀ {cells : List (List Value)} {j : Nat} {u : Value}, (∀ c ∈ cells, c.length = sz) → cells.flatten[j]? = some u → ∃ c, cells[j / sz]? = some c ∧ c[j % sz]? = some u
  | [], j, u, _, h => by simp at h
  | c :: cells, j, u, hc, h => by
    have hl := hc c (List.mem_cons_self ..)
    rw [List.flatten_cons] at h
    by_cases hj : j < sz
    · rw [List.getElem?_append_left (by omega)] at h
      exact ⟨c, by rw [Nat.div_eq_of_lt hj]; rfl, by rw [Nat.mod_eq_of_lt hj]; exact h⟩
    · rw [List.getElem?_append_right (by omega), hl] at h
      obtain ⟨d, h1, h2⟩ := flat_get hsz (fun c hx => hc c (List.mem_cons_of_mem _ hx)) h
      refine ⟨d, ?_, ?_⟩
      · rw [show j / sz = (j - sz) / sz + 1 by rw [← Nat.sub_add_cancel (show sz ≤ j by omega), Nat.add_div_right _ hsz, Nat.add_sub_cancel]]
        simpa using h1
      · rw [show j % sz = (j - sz) % sz by rw [Nat.mod_eq_sub_mod (by omega)]]
        exact h2
/-- The cells of a list. -/
theorem lst_raw (hO : One R) (h : Lst w Z sz R v l) : ∃ cells : List (List Value), Lst w Z sz RWq v cells ∧ cells.length = l.length ∧ ∀ j (hj : j < l.length), ∃ xs, cells[j]? = some xs ∧ xs.length = sz ∧ R w Z xs l[j] := by
  have hX : ∀ j, j < l.length → ∃ xs : List Value, ∃ hj : j < l.length, ∃ g off cap, v = .slice (some ⟨g, off, none⟩) l.length cap ∧ Z g ∧ xs.length = sz ∧ (∀ c u, xs[c]? = some u → w.cell? ⟨g, off + j * sz + c, none⟩ = some u) ∧ R w Z xs l[j] := by
    intro j hj
    obtain ⟨g, off, cap, xs, e, hz, hl, hc, hr⟩ := h.2 j hj
    exact ⟨xs, hj, g, off, cap, e, hz, hl, hc, hr⟩
  obtain ⟨X, hX⟩ := choose_lt hX
  refine ⟨(List.range l.length).map X, ⟨?_, fun j hj => ?_⟩, by simp, fun j hj => ?_⟩
  · obtain ⟨A, cap, e, h1, h2⟩ := h.1
    exact ⟨A, cap, by simpa using e, by simpa using h1, by simpa using h2⟩
  · have hj' : j < l.length := by simpa using hj
    obtain ⟨_, g, off, cap, e, hz, hl, hc, hr⟩ := hX j hj'
    exact ⟨g, off, cap, X j, by simpa using e, hz, hl, hc, by simp [RWq]; exact hO hr⟩
  · obtain ⟨_, g, off, cap, e, hz, hl, hc, hr⟩ := hX j hj
    exact ⟨X j, by simp [hj], hl, hr⟩
theorem raw_len_all {l : List (List Value)} (h : Lst w Z sz RWq v l) : ∀ c ∈ l, c.length = sz := by
  intro c hc
  obtain ⟨j, hj, rfl⟩ := List.getElem_of_mem hc
  obtain ⟨_, _, _, xs, _, _, hl, _, hr⟩ := h.2 j hj
  rw [← hr.1]; exact hl
theorem raw_one {l : List (List Value)} (h : Lst w Z sz RWq v l) : ∀ u ∈ l.flatten, u.oneCell' = true := by
  intro u hu
  obtain ⟨c, hc, hu⟩ := List.mem_flatten.1 hu
  obtain ⟨j, hj, rfl⟩ := List.getElem_of_mem hc
  obtain ⟨_, _, _, xs, _, _, _, _, hr⟩ := h.2 j hj
  exact hr.2 u (by rw [hr.1]; exact hu)
theorem raw_cells {l : List (List Value)} {A : Option Addr} {n cap : Nat} (hsz : 0 < sz) (h : Lst w Z sz RWq (.slice A n cap) l) {ad : Addr} (hA : A = some ad) : ∀ j u, l.flatten[j]? = some u → w.cell? (ad.add j) = some u := by
  intro j u hu
  obtain ⟨c, h1, h2⟩ := flat_get hsz (raw_len_all h) hu
  have hj := (List.getElem?_eq_some_iff.1 h1).1
  obtain ⟨g, off, cap', xs, e, hz, hl, hc, hr⟩ := h.2 (j / sz) hj
  have e1 : A = some ⟨g, off, none⟩ := by injection e
  rw [hA] at e1
  injection e1 with e1
  subst e1
  have e2 : xs = c := by rw [hr.1]; exact (List.getElem?_eq_some_iff.1 h1).2
  subst e2
  have h3 := hc (j % sz) u h2
  rw [show (⟨g, off, none⟩ : Addr).add j = ⟨g, off + j / sz * sz + j % sz, none⟩ by
    have := Nat.div_add_mod' j sz
    unfold Addr.add; split <;> simp_all <;> omega]
  exact h3
end
section
variable {P : Program} {w : World}
theorem run_append_none (base : Nat) (t ty e : TypeId) (i : TypeInfo) (size : Nat) (ht : P.underlying t = some (.slice e)) (hi : P.info? e = some i)
    (v : Value) (n : Nat) (xs : List Value) (hown : w.ownsRow base e size v n xs) (c : Nat) : (Builtin.append_ #[t, t] ty #[v, .slice none 0 c]).run P w = .ok v w := by
  rcases hown.2 with ⟨rfl, rfl⟩ | ⟨g, cap, cur, rfl, _, _, hnc, _⟩
  · simp [Builtin.append_, run_underlying ht, sizeOf, typeInfo, hi, Builtin.lenOf, Builtin.firstCells]
  · simp [Builtin.append_, run_underlying ht, sizeOf, typeInfo, hi, Builtin.lenOf, Builtin.firstCells, hnc, storeCells]
/-- append(s, x...) of a list of bare cells. -/
theorem wpList_append_lst {ops : Array Oper} {rest : List Oper} {o : Oper} {a : Act} {Q : Exit → Act → World → Prop} {Z : Nat → Prop} (hgd : o.guard = none) (s x : Operand) (t : TypeId)
    (ho : o.op = .call { callee := .builtin .append, args := #[s, x], argTypes := #[t, t] })
    (base : Nat) (e : TypeId) (i : TypeInfo) (z : Value) (size bytes : Nat) (ht : P.underlying t = some (.slice e)) (hi : P.info? e = some i) (hz : i.zero = some z)
    (hsize : i.size = size) (hby : i.bytes = bytes) (hzs : z.cells.size = size) (hsz : 0 < size)
    (v : Value) (n : Nat) (xs : List Value) (hs : a.eval s = v) (hown : w.ownsRow base e size v n xs)
    (A : Option Addr) (m c : Nat) (cells : List (List Value)) (hx : a.eval x = .slice A m c) (hl : Lst w Z size RWq (.slice A m c) cells)
    (hm : m ≤ 1000000) (hn : n ≤ 1000000) (hb100 : bytes ≤ 128) (hbase : base ≤ w.heap.size)
    (h : ∀ v' w', w'.ownsRow base e size v' (n + m) (xs ++ cells.flatten) → w.grownBy w' v.ownBlock → wpList P ops Q rest (a.put o.dst v') w') :
    wpList P ops Q (o :: rest) a w := by
  obtain ⟨A', c', e0, hlc, hmm⟩ := hl.1
  injection e0 with hA' hm' hc'
  subst hA' hm' hc'
  refine wpList_plain hgd fun K hK => ?_
  have key : ∃ v' w', (Builtin.append_ #[t, t] o.type #[v, .slice A cells.length c]).run P w = .ok v' w' ∧ w'.ownsRow base e size v' (n + cells.length) (xs ++ cells.flatten) ∧ w.grownBy w' v.ownBlock := by
    cases A with
    | none =>
      have h0 : cells = [] := by
        cases cells with
        | nil => rfl
        | cons x l =>
          obtain ⟨g, off, cap, xs, e0, -⟩ := hl.2 0 (by simp)
          cases e0
      subst h0
      exact ⟨v, w, run_append_none base t o.type e i size ht hi v n xs hown c, by simpa using hown, World.grownBy.refl w _⟩
    | some ad =>
      have hbb : (n + cells.length) * bytes ≤ 140737488355328 := by
        calc (n + cells.length) * bytes ≤ 2000000 * 128 := Nat.mul_le_mul (by omega) hb100
          _ ≤ 140737488355328 := by omega
      obtain ⟨v', w', hr, h2, h3, -, -⟩ := run_append_own_at (P := P) w base t o.type e i z size bytes ht hi hz hsize hby hzs hsz v n xs hown ad cells.length c cells.flatten
        (by have hall := raw_len_all hl; rw [List.length_flatten, List.map_congr_left (g := fun _ => size) (fun x hx => hall x hx), List.map_const', List.sum_replicate_nat])
        (raw_cells hsz hl rfl) (raw_one hl) (by unfold maxLen; omega) hbb hbase
      exact ⟨v', w', hr, h2, h3⟩
  obtain ⟨v', w', hr, h2, h3⟩ := key
  unfold Oper.wp execOp
  simp only [ho, resolve, invoke, builtin, Sem.run_bind, Sem.run_pure, Result.andThen_ok, List.map_toArray, List.map_cons, List.map_nil, hs, hx, hr]
  exact hK _ _ (h v' w' h2 h3)
end
end Go.Proofs.Ytbendimkejndiaa
