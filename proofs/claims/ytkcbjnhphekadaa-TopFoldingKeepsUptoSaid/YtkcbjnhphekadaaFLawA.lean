/- Arguments, opened: event types, queries, environments. The law, plainly. -/
import Derived.Test.YtkcbjnhphekadaaFTT
import Derived.Test.YtkcbjnhphekadaaFSchA
import Derived.Test.YtkcbjnhphekadaaRows
import Derived.OpenShut
namespace Go.Proofs.Ytkcbjnhphekadaa
open Go.ChangeShapes Go.WideShapes Go.ChangeAt Go.RowKit Go.Deep
set_option linter.unusedVariables false
set_option linter.unusedSimpArgs false
section
variable {H : Type}
theorem bulk_part {d : DataW H} {l : List (DataW H)} (h : d ∈ l) : Rows.uptoBulk d ≤ Rows.uptoBulkAll l := by
  induction l with
  | nil => cases h
  | cons x r ih =>
    simp only [Rows.uptoBulkAll]
    cases List.mem_cons.1 h with
    | inl e => subst e; omega
    | inr e => have := ih e; omega
theorem bulk_sum {α : Type} {p : α → Nat} {X : Nat → α} {D : Nat → DataW H} : ∀ {l : List Nat}, (∀ i ∈ l, p (X i) ≤ Rows.uptoBulk (D i)) → ((l.map X).map p).sum ≤ Rows.uptoBulkAll (l.map D)
  | [], _ => by simp [Rows.uptoBulkAll]
  | i :: l, h => by
    have h1 := h i (by simp)
    have h2 := bulk_sum (l := l) fun j hj => h j (by simp [hj])
    simp only [List.map_cons, List.sum_cons, Rows.uptoBulkAll]
    omega
theorem nodesL_sum : ∀ l : List Tr, nodesL l = (l.map nodesT).sum
  | [] => by rw [nodesL]; rfl
  | t :: l => by rw [nodesL, nodesL_sum l]; rfl
end
section
variable {P : Program} {H : Type} {enc : TypeId × Value → H} {w : World} {base : Nat} {sp : Nat → Bool} {held : Bool} {α : Type}
/-- A slice that reads, whose elements read; the elements' weights. -/
theorem lst_trod_b {R : World → (Nat → Prop) → List Value → α → Prop} {t e : TypeId} {sz : Nat} [Inhabited α] (p : α → Nat) (N : Nat) (hu : P.underlying t = some (.slice e)) (hc : P.cellsOf e = sz) (hsz : 0 < sz)
    (hR : ∀ {fuel cs x}, DataW.trod enc P w base sp held fuel e cs = some x → Rows.uptoBulk x.1 < N → ∃ d : α, R w (· < w.heap.size) cs d ∧ p d ≤ Rows.uptoBulk x.1)
    {fuel : Nat} {cs : List Value} {x : DataW H × List MemPlace} (h : DataW.trod enc P w base sp held fuel t cs = some x) (hN : Rows.uptoBulk x.1 ≤ N) : ∃ v l, cs = [v] ∧ Lst w (· < w.heap.size) sz R v (l : List α) ∧ (l.map p).sum + 1 ≤ Rows.uptoBulk x.1 := by
  rcases open_slice hu h with ⟨e1, hxe⟩ | ⟨a, len, cap, m, n, D, Pl, e1, -, hl, hm, hmm, hxe, hx⟩
  · exact ⟨_, [], e1, Lst.nil, by rw [hxe]; simp [Rows.uptoBulk]⟩
  · have hlm : len ≤ m := by rw [hmm]; split <;> omega
    have hbk : Rows.uptoBulk x.1 = Rows.uptoBulkAll ((List.range len).map D) + Rows.uptoBulkAll ((List.range (m - len)).map fun j => D (len + j)) + 1 := by rw [hxe]; simp only [Rows.uptoBulk]
    have hD : ∀ i, i < len → Rows.uptoBulk (D i) < N := by
      intro i hi
      have := bulk_part (d := D i) (l := (List.range len).map D) (List.mem_map.2 ⟨i, by simpa using hi, rfl⟩)
      omega
    rcases Nat.eq_zero_or_pos len with h0 | hpos
    · subst h0
      exact ⟨_, [], e1, ⟨⟨_, cap, rfl, Nat.zero_le _, Nat.zero_le _⟩, fun j hj => absurd hj (Nat.not_lt_zero _)⟩, by rw [hbk]; simp⟩
    obtain ⟨g, off, spot⟩ := a
    have hs0 : spot = none ∧ g < w.heap.size := by
      obtain ⟨cs', h1, h2⟩ := hx 0 (by omega)
      rw [hc] at h1
      obtain ⟨-, hlen, hcc⟩ := World.cells?_some h1
      have h0 := hcc 0 (by omega)
      rw [List.getElem?_eq_getElem (by omega)] at h0
      have e0 : ((⟨g, off, spot⟩ : Addr).add (0 * sz)).add 0 = ⟨g, off, spot⟩ := by simp [Addr.add]
      rw [e0] at h0
      refine ⟨?_, World.block_lt_of_cell? w _ h0⟩
      cases spot with
      | none => rfl
      | some z =>
        exfalso
        unfold World.cell? at h0
        split at h0
        · simp at h0
        · cases h0
    obtain ⟨rfl, hg⟩ := hs0
    have hX : ∀ i, i < len → ∃ y : α, (∃ xs : List Value, xs.length = sz ∧ (∀ c u, xs[c]? = some u → w.cell? ⟨g, off + i * sz + c, none⟩ = some u) ∧ R w (· < w.heap.size) xs y) ∧ p y ≤ Rows.uptoBulk (D i) := by
      intro i hi
      obtain ⟨cs', h1, h2⟩ := hx i (by omega)
      rw [hc] at h1
      obtain ⟨d, hd, hp⟩ := hR h2 (hD i hi)
      obtain ⟨-, hlen, hcc⟩ := World.cells?_some h1
      refine ⟨d, ⟨cs', hlen, fun c u hu => ?_, hd⟩, hp⟩
      have hcl := (List.getElem?_eq_some_iff.1 hu).1
      have := hcc c (by omega)
      rw [hu] at this
      rwa [show ((⟨g, off, none⟩ : Addr).add (i * sz)).add c = ⟨g, off + i * sz + c, none⟩ by simp only [Addr.add]; (repeat' split) <;> simp_all <;> omega] at this
    obtain ⟨X, hX⟩ := choose_lt hX
    refine ⟨_, (List.range len).map X, e1, ⟨⟨some ⟨g, off, none⟩, cap, by simp, by simpa using hl, by simp; omega⟩, fun j hj => ?_⟩, ?_⟩
    · have hj' : j < len := by simpa using hj
      obtain ⟨⟨xs, h1, h2, h3⟩, -⟩ := hX j hj'
      exact ⟨g, off, cap, xs, by simp, hg, h1, h2, by simpa using h3⟩
    · have := bulk_sum (p := p) (X := X) (D := D) (l := List.range len) fun i hi => (hX i (by simpa using hi)).2
      rw [hbk]
      omega
end
section
variable {H : Type} {enc : TypeId × Value → H} {w : World} {base : Nat} {sp : Nat → Bool} {held : Bool}
theorem len2 {α : Type} {l : List α} (h : l.length = 2) : ∃ a b, l = [a, b] := by
  match l, h with
  | [a, b], _ => exact ⟨a, b, rfl⟩
theorem len3 {α : Type} {l : List α} (h : l.length = 3) : ∃ a b c, l = [a, b, c] := by
  match l, h with
  | [a, b, c], _ => exact ⟨a, b, c, rfl⟩
theorem len5 {α : Type} {l : List α} (h : l.length = 5) : ∃ a b c d e, l = [a, b, c, d, e] := by
  match l, h with
  | [a, b, c, d, e], _ => exact ⟨a, b, c, d, e, rfl⟩
theorem len6 {α : Type} {l : List α} (h : l.length = 6) : ∃ a b c d e f, l = [a, b, c, d, e, f] := by
  match l, h with
  | [a, b, c, d, e, f], _ => exact ⟨a, b, c, d, e, f, rfl⟩
theorem len8 {α : Type} {l : List α} (h : l.length = 8) : ∃ a b c d e f g i, l = [a, b, c, d, e, f, g, i] := by
  match l, h with
  | [a, b, c, d, e, f, g, i], _ => exact ⟨a, b, c, d, e, f, g, i, rfl⟩
theorem cl_int : Try.prog.cellsOf 3 = 1 := by kernel_rfl
theorem cl_string : Try.prog.cellsOf 9 = 1 := by kernel_rfl
theorem cl_value : Try.prog.cellsOf 28 = 3 := by kernel_rfl
theorem cl_event : Try.prog.cellsOf 50 = 5 := by kernel_rfl
theorem cl_values : Try.prog.cellsOf 48 = 1 := by kernel_rfl
theorem cl_field : Try.prog.cellsOf 110 = 2 := by kernel_rfl
theorem cl_fields : Try.prog.cellsOf 90 = 1 := by kernel_rfl
theorem cl_schema : Try.prog.cellsOf 92 = 2 := by kernel_rfl
theorem cl_variable : Try.prog.cellsOf 65 = 2 := by kernel_rfl
theorem cl_vars : Try.prog.cellsOf 23 = 1 := by kernel_rfl
theorem cl_expr : Try.prog.cellsOf 30 = 8 := by kernel_rfl
theorem cl_exprs : Try.prog.cellsOf 26 = 1 := by kernel_rfl
theorem cl_env : Try.prog.cellsOf 37 = 1 := by kernel_rfl
theorem cl_eventss : Try.prog.cellsOf 35 = 1 := by kernel_rfl
theorem cl_events : Try.prog.cellsOf 60 = 1 := by kernel_rfl
theorem cl_query : Try.prog.cellsOf 34 = 18 := by kernel_rfl
theorem wf_inX {n : Int} (h : (Lit.int .i64 n).wf = true) : inX n := by
  unfold inX
  simpa [Lit.wf, IntKind.min, IntKind.max, IntKind.bits, IntKind.signed] using h
theorem trod_i {fuel : Nat} {c : Value} {x : DataW H × List MemPlace} (h : DataW.trod enc Try.prog w base sp held fuel 3 [c] = some x) : ∃ n, c = .int .i64 n ∧ inX n := by
  obtain ⟨n, e, -, hw⟩ := DataW.trod_int Try.underlying3 h
  simp only [List.cons.injEq, and_true] at e
  exact ⟨n, e, wf_inX hw⟩
theorem trod_s {fuel : Nat} {c : Value} {x : DataW H × List MemPlace} (h : DataW.trod enc Try.prog w base sp held fuel 9 [c] = some x) : ∃ s : ByteArray, c = .string s ∧ s.size ≤ maxLen := by
  obtain ⟨s, e, -, hs⟩ := DataW.trod_string Try.underlying9 h
  simp only [List.cons.injEq, and_true] at e
  exact ⟨s, e, hs⟩
theorem trod_val {fuel : Nat} {cs : List Value} {x : DataW H × List MemPlace} (h : DataW.trod enc Try.prog w base sp held fuel 28 cs = some x) : ∃ d : V3, RVx w (· < w.heap.size) cs d ∧ okX d := by
  obtain ⟨xs, n, -, -, hlen, hxl, hf⟩ := DataW.trod_struct Try.underlying28 h
  rw [cl_value] at hlen
  obtain ⟨c0, c1, c2, rfl⟩ := len3 hlen
  obtain ⟨y0, y1, y2, rfl⟩ := len3 hxl
  have h0 : DataW.trod enc Try.prog w base sp held n 3 [c0] = some y0 := by have := hf 0 _ rfl; simpa [cl_int] using this
  have h1 : DataW.trod enc Try.prog w base sp held n 3 [c1] = some y1 := by have := hf 1 _ rfl; simpa [cl_int] using this
  have h2 : DataW.trod enc Try.prog w base sp held n 9 [c2] = some y2 := by have := hf 2 _ rfl; simpa [cl_string] using this
  obtain ⟨q, rfl, hq⟩ := trod_i h0
  obtain ⟨m, rfl, hm⟩ := trod_i h1
  obtain ⟨s, rfl, hs⟩ := trod_s h2
  exact ⟨⟨q, m, s⟩, ⟨rfl, hs⟩, hq, hm, hs⟩
theorem trod_event {fuel : Nat} {cs : List Value} {x : DataW H × List MemPlace} (h : DataW.trod enc Try.prog w base sp held fuel 50 cs = some x) : ∃ d : Evx, REx w (· < w.heap.size) cs d := by
  obtain ⟨xs, n, -, -, hlen, hxl, hf⟩ := DataW.trod_struct Try.underlying50 h
  rw [cl_event] at hlen
  obtain ⟨c0, c1, c2, c3, c4, rfl⟩ := len5 hlen
  obtain ⟨y0, y1, y2, y3, y4, rfl⟩ := len5 hxl
  have h0 : DataW.trod enc Try.prog w base sp held n 3 [c0] = some y0 := by have := hf 0 _ rfl; simpa [cl_int] using this
  have h1 : DataW.trod enc Try.prog w base sp held n 3 [c1] = some y1 := by have := hf 1 _ rfl; simpa [cl_int] using this
  have h2 : DataW.trod enc Try.prog w base sp held n 3 [c2] = some y2 := by have := hf 2 _ rfl; simpa [cl_int] using this
  have h3 : DataW.trod enc Try.prog w base sp held n 3 [c3] = some y3 := by have := hf 3 _ rfl; simpa [cl_int] using this
  have h4 : DataW.trod enc Try.prog w base sp held n 48 [c4] = some y4 := by have := hf 4 _ rfl; simpa [cl_values] using this
  obtain ⟨a, rfl, ha⟩ := trod_i h0
  obtain ⟨b, rfl, hb⟩ := trod_i h1
  obtain ⟨c, rfl, hc⟩ := trod_i h2
  obtain ⟨d, rfl, hd⟩ := trod_i h3
  obtain ⟨v, l, e, hl⟩ := lst_trod (R := RVx) Try.underlying48 cl_value (by decide) (fun h => by obtain ⟨d, h1, -⟩ := trod_val h; exact ⟨d, h1⟩) h4
  simp only [List.cons.injEq, and_true] at e
  subst e
  exact ⟨⟨a, b, c, d, l⟩, c4, rfl, hl⟩
theorem trod_events {fuel : Nat} {cs : List Value} {x : DataW H × List MemPlace} (h : DataW.trod enc Try.prog w base sp held fuel 60 cs = some x) : ∃ l : List Evx, RLx w (· < w.heap.size) cs l := by
  obtain ⟨v, l, e, hl⟩ := lst_trod (R := REx) Try.underlying60 cl_event (by decide) (fun h => trod_event h) h
  exact ⟨l, v, e, hl⟩
theorem trod_field {fuel : Nat} {cs : List Value} {x : DataW H × List MemPlace} (h : DataW.trod enc Try.prog w base sp held fuel 110 cs = some x) : ∃ d : Fdx, RFd w (· < w.heap.size) cs d := by
  obtain ⟨xs, n, -, -, hlen, hxl, hf⟩ := DataW.trod_struct Try.underlying110 h
  rw [cl_field] at hlen
  obtain ⟨c0, c1, rfl⟩ := len2 hlen
  obtain ⟨y0, y1, rfl⟩ := len2 hxl
  have h0 : DataW.trod enc Try.prog w base sp held n 9 [c0] = some y0 := by have := hf 0 _ rfl; simpa [cl_string] using this
  have h1 : DataW.trod enc Try.prog w base sp held n 3 [c1] = some y1 := by have := hf 1 _ rfl; simpa [cl_int] using this
  obtain ⟨s, rfl, hs⟩ := trod_s h0
  obtain ⟨k, rfl, -⟩ := trod_i h1
  exact ⟨⟨s, k⟩, rfl, hs⟩
theorem trod_schema {fuel : Nat} {cs : List Value} {x : DataW H × List MemPlace} (h : DataW.trod enc Try.prog w base sp held fuel 92 cs = some x) : ∃ d : Scx, RSc w (· < w.heap.size) cs d := by
  obtain ⟨xs, n, -, -, hlen, hxl, hf⟩ := DataW.trod_struct Try.underlying92 h
  rw [cl_schema] at hlen
  obtain ⟨c0, c1, rfl⟩ := len2 hlen
  obtain ⟨y0, y1, rfl⟩ := len2 hxl
  have h0 : DataW.trod enc Try.prog w base sp held n 9 [c0] = some y0 := by have := hf 0 _ rfl; simpa [cl_string] using this
  have h1 : DataW.trod enc Try.prog w base sp held n 90 [c1] = some y1 := by have := hf 1 _ rfl; simpa [cl_fields] using this
  obtain ⟨s, rfl, hs⟩ := trod_s h0
  obtain ⟨v, l, e, hl⟩ := lst_trod (R := RFd) Try.underlying90 cl_field (by decide) (fun h => trod_field h) h1
  simp only [List.cons.injEq, and_true] at e
  subst e
  exact ⟨⟨s, l⟩, c1, rfl, hs, hl⟩
theorem trod_var {fuel : Nat} {cs : List Value} {x : DataW H × List MemPlace} (h : DataW.trod enc Try.prog w base sp held fuel 65 cs = some x) : ∃ d : Vrx, RVr w (· < w.heap.size) cs d := by
  obtain ⟨xs, n, -, -, hlen, hxl, hf⟩ := DataW.trod_struct Try.underlying65 h
  rw [cl_variable] at hlen
  obtain ⟨c0, c1, rfl⟩ := len2 hlen
  obtain ⟨y0, y1, rfl⟩ := len2 hxl
  have h0 : DataW.trod enc Try.prog w base sp held n 9 [c0] = some y0 := by have := hf 0 _ rfl; simpa [cl_string] using this
  have h1 : DataW.trod enc Try.prog w base sp held n 3 [c1] = some y1 := by have := hf 1 _ rfl; simpa [cl_int] using this
  obtain ⟨s, rfl, hs⟩ := trod_s h0
  obtain ⟨k, rfl, -⟩ := trod_i h1
  exact ⟨⟨s, k⟩, rfl⟩
instance : Inhabited Tr := ⟨.mk ⟨0, 0, 0, 0, V3.z⟩ []⟩
theorem trod_expr : ∀ (N fuel : Nat) (cs : List Value) (x : DataW H × List MemPlace), DataW.trod enc Try.prog w base sp held fuel 30 cs = some x → Rows.uptoBulk x.1 ≤ N → ∃ t : Tr, RTx w (· < w.heap.size) cs t ∧ nodesT t ≤ Rows.uptoBulk x.1 := by
  intro N
  induction N using Nat.strongRecOn with
  | _ N ih =>
    intro fuel cs x h hN
    obtain ⟨xs, n, -, hxe, hlen, hxl, hf⟩ := DataW.trod_struct Try.underlying30 h
    rw [cl_expr] at hlen
    obtain ⟨c0, c1, c2, c3, c4, c5, c6, c7, rfl⟩ := len8 hlen
    obtain ⟨y0, y1, y2, y3, y4, y5, rfl⟩ := len6 hxl
    have h0 : DataW.trod enc Try.prog w base sp held n 3 [c0] = some y0 := by have := hf 0 _ rfl; simpa [cl_int] using this
    have h1 : DataW.trod enc Try.prog w base sp held n 26 [c1] = some y1 := by have := hf 1 _ rfl; simpa [cl_exprs] using this
    have h2 : DataW.trod enc Try.prog w base sp held n 3 [c2] = some y2 := by have := hf 2 _ rfl; simpa [cl_int] using this
    have h3 : DataW.trod enc Try.prog w base sp held n 3 [c3] = some y3 := by have := hf 3 _ rfl; simpa [cl_int] using this
    have h4 : DataW.trod enc Try.prog w base sp held n 3 [c4] = some y4 := by have := hf 4 _ rfl; simpa [cl_int] using this
    have h5 : DataW.trod enc Try.prog w base sp held n 28 [c5, c6, c7] = some y5 := by have := hf 5 _ rfl; simpa [cl_value] using this
    have hbk : Rows.uptoBulk y1.1 < Rows.uptoBulk x.1 := by rw [hxe]; simp [Rows.uptoBulk, Rows.uptoBulkAll]; omega
    obtain ⟨a0, rfl, b0⟩ := trod_i h0
    obtain ⟨a2, rfl, b2⟩ := trod_i h2
    obtain ⟨a3, rfl, b3⟩ := trod_i h3
    obtain ⟨a4, rfl, b4⟩ := trod_i h4
    obtain ⟨d, ⟨e5, -⟩, b5, b6, b7⟩ := trod_val h5
    obtain ⟨v, l, e, hl, hs⟩ := lst_trod_b (R := RTx) nodesT (Rows.uptoBulk y1.1) Try.underlying26 cl_expr (by decide) (fun {fuel cs x'} h' hlt => ih (Rows.uptoBulk x'.1) (by omega) fuel cs x' h' (Nat.le_refl _)) h1 (Nat.le_refl _)
    simp only [List.cons.injEq, and_true] at e e5
    subst e
    obtain ⟨rfl, rfl, rfl⟩ := e5
    refine ⟨.mk ⟨a0, a2, a3, a4, d⟩ l, RTx.of (d := ⟨a0, a2, a3, a4, d⟩) hl ⟨b0, b2, b3, b4, b5, b6, b7⟩, ?_⟩
    rw [nodesT, nodesL_sum]
    omega
set_option maxRecDepth 100000 in
theorem slice_form {r : Reach} {b0 : Nat} {t e : TypeId} {v : Value} (ht : Try.prog.underlying t = some (.slice e)) (hval : Value.okWide Try.prog w r b0 t v) : ∃ A l c, v = .slice A l c := by
  unfold Value.okWide at hval
  simp only [ht] at hval
  unfold Cell.okWide Cell.ok at hval
  simp only [ht] at hval
  split at hval <;> first | exact ⟨_, _, _, rfl⟩ | (simp_all; done) | skip
  all_goals (first | exact hval.elim | skip)
  all_goals (split at hval <;> first | exact ⟨_, _, _, rfl⟩ | exact hval.elim | simp_all)
set_option maxRecDepth 100000 in
theorem open_types {r : Reach} {b0 : Nat} {v : Value} {d : DataW H} {ps : List MemPlace} (hval : Value.okWide Try.prog w r b0 22 v) (hd : DataW.Trod enc Try.prog w base sp held 22 v d ps) : ∃ T : List Scx, There RSc 2 w v T := by
  obtain ⟨A, l, c, rfl⟩ := slice_form Try.underlying22 hval
  obtain ⟨fuel, hf⟩ := hd
  obtain ⟨v, l, e, hl⟩ := lst_trod (R := RSc) Try.underlying22 cl_schema (by decide) (fun h => trod_schema h) hf
  have e' : [Value.slice A _ c] = [v] := e
  simp only [List.cons.injEq, and_true] at e'
  subst e'
  exact ⟨l, hl⟩
set_option maxRecDepth 100000 in
theorem open_env {r : Reach} {b0 : Nat} {v : Value} {d : DataW H} {ps : List MemPlace} (hval : Value.okWide Try.prog w r b0 37 v) (hd : DataW.Trod enc Try.prog w base sp held 37 v d ps) : ∃ (u : Value) (E : List (List Evx)), v = .agg #[u] ∧ There RLx 1 w u E := by
  obtain ⟨cs, rfl, hsz⟩ := okWide_struct Try.underlying37 hval
  obtain ⟨fuel, hf⟩ := hd
  obtain ⟨l⟩ := cs
  obtain ⟨xs, n, -, hxe, hlen, hxl, hff⟩ := DataW.trod_struct Try.underlying37 hf
  rw [cl_env] at hlen
  have hlen : l.length = 1 := hlen
  match l, hlen with
  | [c0], _ =>
    match xs, hxl with
    | [y0], _ =>
      have h0 : DataW.trod enc Try.prog w base sp held n 35 [c0] = some y0 := by have := hff 0 _ rfl; simpa [cl_eventss, Value.cells] using this
      obtain ⟨v, l, e, hl⟩ := lst_trod (R := RLx) Try.underlying35 cl_events (by decide) (fun h => trod_events h) h0
      simp only [List.cons.injEq, and_true] at e
      subst e
      exact ⟨c0, l, rfl, hl⟩
set_option maxRecDepth 100000 in
theorem open_query {r : Reach} {b0 : Nat} {v : Value} {d : DataW H} {ps : List MemPlace} (hval : Value.okWide Try.prog w r b0 34 v) (hd : DataW.Trod enc Try.prog w base sp held 34 v d ps) :
    ∃ (c0 c2 c3 c4 c5 c6 c7 c8 c9 c10 c11 c12 c13 c14 c15 c16 : Value) (v1 v17 : Value) (V : List Vrx) (L : List Tr), v = .agg #[c0, v1, c2, c3, c4, c5, c6, c7, c8, c9, c10, c11, c12, c13, c14, c15, c16, v17] ∧ There RVr 2 w v1 V ∧ There RTx 8 w v17 L ∧ nodesL L ≤ Rows.uptoBulk d := by
  obtain ⟨cs, rfl, hsz⟩ := okWide_struct Try.underlying34 hval
  obtain ⟨fuel, hf⟩ := hd
  obtain ⟨l⟩ := cs
  obtain ⟨xs, n, -, hxe, hlen, hxl, hff⟩ := DataW.trod_struct Try.underlying34 hf
  rw [cl_query] at hlen
  have hlen : l.length = 18 := hlen
  match l, hlen with
  | [c0, v1, c2, c3, c4, c5, c6, c7, c8, c9, c10, c11, c12, c13, c14, c15, c16, v17], _ =>
    obtain ⟨y0, y1, y2, y3, y4, rfl⟩ := len5 hxl
    have h1 : DataW.trod enc Try.prog w base sp held n 23 [v1] = some y1 := by have := hff 1 _ rfl; simpa [cl_vars, Value.cells] using this
    have h4 : DataW.trod enc Try.prog w base sp held n 26 [v17] = some y4 := by have := hff 4 _ rfl; simpa [cl_exprs, Value.cells] using this
    have hd1 : d = .agg [y0.1, y1.1, y2.1, y3.1, y4.1] := (Prod.mk.inj hxe).1
    have hbk : Rows.uptoBulk y4.1 ≤ Rows.uptoBulk d := by rw [hd1]; simp [Rows.uptoBulk, Rows.uptoBulkAll]; omega
    obtain ⟨v, l, e, hl⟩ := lst_trod (R := RVr) Try.underlying23 cl_variable (by decide) (fun h => trod_var h) h1
    obtain ⟨u, k, e', hk, hs⟩ := lst_trod_b (R := RTx) nodesT (Rows.uptoBulk y4.1) Try.underlying26 cl_expr (by decide) (fun {fuel cs x'} h' _ => trod_expr _ fuel cs x' h' (Nat.le_refl _)) h4 (Nat.le_refl _)
    simp only [List.cons.injEq, and_true] at e e'
    subst e
    subst e'
    exact ⟨c0, c2, c3, c4, c5, c6, c7, c8, c9, c10, c11, c12, c13, c14, c15, c16, v1, v17, l, k, rfl, hl, hk, by rw [nodesL_sum]; omega⟩
end
end Go.Proofs.Ytkcbjnhphekadaa

namespace Go.Proofs.Ytkcbjnhphekadaa
open Go.RowKit
set_option linter.unusedVariables false
set_option linter.unusedSimpArgs false
theorem of_z {k : Int} {L : List V3} {o : V3} (h : ofE k L o ≠ 0) : ofV k L o = V3.z := by
  unfold ofE at h
  unfold ofV
  split
  · rfl
  · rename_i h1
    rw [if_neg h1] at h
    split
    · rfl
    · rename_i h2
      rw [if_neg h2] at h
      split
      · rfl
      · rename_i h3
        rw [if_neg h3] at h
        unfold rs
        rw [if_neg h]
theorem of_canon {k : Int} {L : List V3} {o : V3} (h : ofE k L o = 0) (hq : (ofV k L o).q = 1) : checkC (ofV k L o).q (ofV k L o).n (ofV k L o).s.size = 0 := by
  unfold ofE at h
  unfold ofV at hq ⊢
  split at h
  · omega
  · rename_i h1
    rw [if_neg h1] at hq ⊢
    split at h
    · omega
    · rename_i h2
      rw [if_neg h2] at hq ⊢
      split at h
      · rename_i h3; exact absurd h h3
      · rename_i h3
        rw [if_neg h3] at hq ⊢
        unfold rs at hq ⊢
        rw [if_pos h] at hq ⊢
        unfold rsE at h
        split at h
        · rename_i h4; exact absurd h h4
        · rename_i h4
          have hg := (good_iff (fld k L)).1 (by omega)
          have ho := (wr_ok h).1
          obtain ⟨-, -, -, hg⟩ := hg
          unfold rsG at hq ⊢
          split
          · rename_i h5; rw [if_pos h5] at hq; simp at hq
          · rename_i h5
            rw [if_neg h5] at hq
            split
            · exact ho
            · rename_i h6
              rw [if_neg h6] at hq
              simp only at hq
              split at hg
              · omega
              · split at hg
                · omega
                · exact hg.1
theorem leaf_z {E : List (List Evx)} {d : Nd} (h : leafE E d ≠ 0) : leafV E d = V3.z := by
  have h' := h
  unfold leafE at h
  unfold leafV
  by_cases h0 : d.op = 0
  · rw [if_pos h0] at h; omega
  · rw [if_neg h0] at h ⊢
    by_cases h3 : d.op = 3
    · rw [if_pos h3] at h; omega
    · rw [if_neg h3] at h ⊢
      by_cases h4 : d.op = 4
      · rw [if_pos h4] at h ⊢
        unfold totE at h
        unfold totV
        by_cases hc : colB d.field (evsQ E d.var) = true
        · rw [if_pos hc] at h ⊢; exact of_z h
        · rw [if_neg hc]
      · rw [if_neg h4] at h ⊢
        by_cases hl : (evsQ E d.var).length = 0
        · rw [if_pos hl]
        · rw [if_neg hl] at h ⊢
          by_cases h2 : d.op = 2
          · rw [if_pos h2] at h; omega
          · rw [if_neg h2, if_neg h']
theorem leaf_can {E : List (List Evx)} {d : Nd} (hn : nodeE 16 8 d 0 = 0) (h : leafE E d = 0) (hq : (leafV E d).q = 1) : ∃ b, leafV E d = flagQ b := by
  have h' := h
  unfold leafE at h
  unfold leafV at hq ⊢
  by_cases h0 : d.op = 0
  · rw [if_pos h0] at hq ⊢
    exact canon_check (node_const hn h0) hq
  · rw [if_neg h0] at h hq ⊢
    by_cases h3 : d.op = 3
    · rw [if_pos h3] at hq; simp at hq
    · rw [if_neg h3] at h hq ⊢
      by_cases h4 : d.op = 4
      · rw [if_pos h4] at h hq ⊢
        unfold totE at h
        unfold totV at hq ⊢
        by_cases hc : colB d.field (evsQ E d.var) = true
        · rw [if_pos hc] at h hq ⊢
          exact canon_check (of_canon h hq) hq
        · rw [if_neg hc] at h; omega
      · rw [if_neg h4] at h hq ⊢
        by_cases hl : (evsQ E d.var).length = 0
        · rw [if_pos hl] at h; omega
        · rw [if_neg hl] at h hq ⊢
          by_cases h2 : d.op = 2
          · rw [if_pos h2] at hq; simp at hq
          · rw [if_neg h2] at h hq ⊢
            rw [if_pos h'] at hq ⊢
            split at h
            · rename_i h9; exact absurd h h9
            · exact canon_check h hq
theorem leafs (T : List Scx) (V : List Vrx) (E : List (List Evx)) : Leafs (leafK T V) (evLV E) 16 8 where
  kc d h := by unfold leafK; rw [if_pos h]
  vc d h := leaf_const E h
  can d hn h hq := leaf_can hn h hq
theorem eval_z {E : List (List Evx)} {t : Tr} (hok : OkT 16 8 t) (h : (evalT (evLV E) t).2 ≠ 0) : (evalT (evLV E) t).1 = V3.z := by
  obtain ⟨d, args⟩ := t
  rcases ok_cases hok with ⟨rfl, -⟩ | ⟨a, rfl, -, -⟩ | ⟨a, b, rfl, -, -, -, -⟩
  · rw [eval_0] at h ⊢
    exact leaf_z h
  · rw [eval_1] at h ⊢
    split
    · rfl
    · rename_i h1
      rw [if_neg h1] at h
      split
      · rfl
      · rename_i h2
        rw [if_neg h2] at h
        exact absurd rfl h
  · rw [eval_2] at h ⊢
    split
    · rfl
    · rename_i h1
      rw [if_neg h1] at h
      split
      · rfl
      · rename_i h2
        rw [if_neg h2] at h
        split
        · rfl
        · rename_i h3
          rw [if_neg h3] at h
          exact absurd rfl h
section
variable {T : List Scx} {V : List Vrx} {E : List (List Evx)} {t : Tr}
/-- What a kind without an error says of an expression, and of its folded form. -/
structure Folds (T : List Scx) (V : List Vrx) (E : List (List Evx)) (t X : Tr) : Prop where
  gt : GoodT t
  gx : GoodT X
  ex : foldE t = X
  kx : kindE T V X = kindE T V t
  cx : checkE X = 0
  ct : checkE t = 0
  nx : nodesT X ≤ 64
  ev : evalE E t = 0 → evalE E X = 0 ∧ evalV E X = evalV E t
  ez : evalE E t ≠ 0 → evalV E t = V3.z
theorem folds_of (h : (kindE T V t).2 = 0) : Folds T V E t (foldT t) := by
  unfold kindE at h
  split at h
  · rename_i h1; exact absurd h h1
  · rename_i h1
    split at h
    · cases h
    · rename_i h2
      split at h
      · cases h
      · rename_i h3
        split at h
        · rename_i h4; exact absurd h h4
        · rename_i h4
          have hc : checkE t = 0 := by omega
          have hg := check_good.1 hc
          have hF := fold_law (leafs T V E) t hg.ok h
          have hgx : GoodT (foldT t) := ⟨hF.ok, Nat.le_trans hF.nd hg.nd, Nat.le_trans hF.dp hg.dp⟩
          have hcx := check_good.2 hgx
          refine ⟨hg, hgx, by unfold foldE; rw [if_neg (by simpa using hc)], ?_, hcx, hc, hgx.nd, fun he => ?_, fun he => ?_⟩
          · unfold kindE
            rw [if_neg h1, if_neg h2, if_neg h3, if_neg (by simpa using hcx), if_neg h1, if_neg h2, if_neg h3, if_neg h4, hF.kd]
          · unfold evalE at he
            rw [if_neg h4] at he
            have e := hF.ev he
            unfold evalE evalV
            rw [if_neg (by simpa using hcx), if_neg (by simpa using hcx), if_neg h4, e]
            exact ⟨he, rfl⟩
          · unfold evalE at he
            unfold evalV
            rw [if_neg h4] at he ⊢
            exact eval_z hg.ok he
def notT (t : Tr) : Tr := .mk ⟨12, 0, 0, 0, V3.z⟩ [t]
theorem not_tx {w : World} {xs : List Value} {b : Nat} (h : Tx w xs t) (hb : b < w.heap.size) (hl : xs.length = 8) (hc : ∀ c u, xs[c]? = some u → w.cell? ⟨b, c, none⟩ = some u) :
    Tx w [.int .i64 12, .slice (some ⟨b, 0, none⟩) 1 1, .int .i64 0, .int .i64 0, .int .i64 0, .int .i64 0, .int .i64 0, .string ⟨#[]⟩] (notT t) := by
  refine RTx.of (d := ⟨12, 0, 0, 0, V3.z⟩) ⟨⟨_, 1, rfl, by simp, by simp [maxLen]⟩, fun j hj => ?_⟩ ⟨by simp [inX], by simp [inX], by simp [inX], by simp [inX], by simp [inX, V3.z], by simp [inX, V3.z], Nat.zero_le _⟩
  have hj0 : j = 0 := by simp at hj; omega
  subst hj0
  exact ⟨b, 0, 1, xs, rfl, hb, hl, fun c u hu => by rw [Nat.zero_mul, Nat.add_zero, Nat.zero_add]; exact hc c u hu, h⟩
theorem truth_not {X : Tr} (h : Folds T V E t X) (he : evalE E t = 0) (hq : (evalV E t).q = 1) (hc : checkE (notT t) = 0) : (truthB E (notT t) == truthB E X) = false := by
  have hct := h.ct
  have hv : evalV E t = (evalT (evLV E) t).1 := by unfold evalV; rw [if_neg (by simpa using hct)]
  have hee : (evalT (evLV E) t).2 = 0 := by unfold evalE at he; rwa [if_neg (by simpa using hct)] at he
  rw [hv] at hq
  obtain ⟨b, hb⟩ := eval_canon (leafs T V E) h.gt.ok hee hq
  obtain ⟨ex, vx⟩ := h.ev he
  have hX : truthB E X = b := by
    unfold truthB
    rw [ex, vx, hv, hb]
    cases b <;> rfl
  have hN : truthB E (notT t) = !b := by
    unfold truthB evalE evalV
    rw [if_neg (by simpa using hc), if_neg (by simpa using hc)]
    have e1 : evalT (evLV E) (notT t) = (flagQ (!b), 0) := by
      unfold notT
      rw [eval_1, if_neg (by simpa using hee), hb]
      cases b <;> rfl
    rw [e1]
    cases b <;> rfl
  rw [hX, hN]
  cases b <;> rfl
end
end Go.Proofs.Ytkcbjnhphekadaa
