/- Arguments, opened: coordinators, readers, operators; each list within the reach. -/
import Derived.Test.YtihbonndinnohaaQPlain
import Derived.SizedLaws
import Derived.Deep.Slices
namespace Go.Proofs.Ytihbonndinnohaa
open Go.ChangeShapes Go.WideShapes Go.ChangeAt Go.RowKit Go.Deep
set_option linter.unusedVariables false
set_option linter.unusedSimpArgs false
/-- A datum whose strings, slices and maps are all within the reach. -/
def Sz {H : Type} (P : Program) (t : TypeId) (d : DataW H) : Prop := ∀ n ∈ DataW.weights P t d, n ≤ reachBytes
theorem weights_all {H : Type} {P : Program} {e : TypeId} : ∀ {l : List (DataW H)} {d : DataW H}, d ∈ l → ∀ n ∈ d.weights P e, n ∈ DataW.weightsAll P e l
  | x :: l, d, hd, n, hn => by
    simp only [DataW.weightsAll, List.mem_append]
    rcases List.mem_cons.1 hd with rfl | h
    · exact .inl hn
    · exact .inr (weights_all h n hn)
theorem Sz.part {H : Type} {P : Program} {t : TypeId} {fs : Array Field} {parts : List (DataW H)} (hu : P.underlying t = some (.struct fs)) (h : Sz P t (.agg parts)) {i : Nat} {f : Field} {d : DataW H} (hf : fs[i]? = some f) (hd : parts[i]? = some d) : Sz P f.type d := by
  intro n hn
  refine h n ?_
  simp only [DataW.weights, hu]
  exact DataW.weights_mem_each (by simpa using congrArg (Option.map (·.type)) hf) hd n hn
section
variable {P : Program} {H : Type} {enc : TypeId × Value → H} {w : World} {base : Nat} {sp : Nat → Bool} {held : Bool} {α : Type}
/-- A slice that reads and is within the reach, whose elements read. -/
theorem lst_trod_s {R : World → (Nat → Prop) → List Value → α → Prop} {t e : TypeId} {sz bytes : Nat} [Inhabited α] (hu : P.underlying t = some (.slice e)) (hc : P.cellsOf e = sz) (hsz : 0 < sz) (hby : P.bytesOf e = bytes)
    (hR : ∀ {fuel cs x}, DataW.trod enc P w base sp held fuel e cs = some x → Sz P e x.1 → ∃ d : α, R w (· < w.heap.size) cs d)
    {fuel : Nat} {cs : List Value} {x : DataW H × List MemPlace} (h : DataW.trod enc P w base sp held fuel t cs = some x) (hS : Sz P t x.1) : ∃ v l, cs = [v] ∧ Lst w (· < w.heap.size) sz R v (l : List α) ∧ l.length * bytes ≤ reachBytes := by
  rcases open_slice hu h with ⟨e1, -⟩ | ⟨a, len, cap, m, n, D, Pl, e1, -, hl, hm, hmm, hxe, hx⟩
  · exact ⟨_, [], e1, Lst.nil, by simp⟩
  · have hlm : len ≤ m := by rw [hmm]; split <;> omega
    have hW : (len + (m - len)) * bytes ≤ reachBytes := by
      refine hS _ ?_
      rw [hxe]
      simp [DataW.weights, hu, hby]
    have hlen : len * bytes ≤ reachBytes := Nat.le_trans (Nat.mul_le_mul_right _ (by omega)) hW
    have hD : ∀ i, i < len → Sz P e (D i) := by
      intro i hi n hn
      refine hS n ?_
      rw [hxe]
      simp only [DataW.weights, hu]
      refine List.mem_cons_of_mem _ (List.mem_append_left _ (weights_all (d := D i) ?_ n hn))
      exact List.mem_map.2 ⟨i, by simpa using hi, rfl⟩
    rcases Nat.eq_zero_or_pos len with h0 | hpos
    · subst h0
      exact ⟨_, [], e1, ⟨⟨_, cap, rfl, Nat.zero_le _, Nat.zero_le _⟩, fun j hj => absurd hj (Nat.not_lt_zero _)⟩, by simp⟩
    obtain ⟨g, off, spot⟩ := a
    have hs0 : spot = none ∧ g < w.heap.size := by
      obtain ⟨cs', h1, h2⟩ := hx 0 (by omega)
      rw [hc] at h1
      obtain ⟨-, hlen, hcc⟩ := World.cells?_some h1
      have h0 := hcc 0 (by omega)
      rw [List.getElem?_eq_getElem (by omega)] at h0
      have e0 : ((⟨g, off, spot⟩ : Addr).add (0 * sz)).add 0 = ⟨g, off, spot⟩ := by simp [Addr.add]
      rw [e0] at h0
      refine ⟨?_, World.block_lt_of_cell? w _ h0⟩
      cases spot with
      | none => rfl
      | some z =>
        exfalso
        unfold World.cell? at h0
        split at h0
        · simp at h0
        · cases h0
    obtain ⟨rfl, hg⟩ := hs0
    have hX : ∀ i, i < len → ∃ y : α, ∃ xs : List Value, xs.length = sz ∧ (∀ c u, xs[c]? = some u → w.cell? ⟨g, off + i * sz + c, none⟩ = some u) ∧ R w (· < w.heap.size) xs y := by
      intro i hi
      obtain ⟨cs', h1, h2⟩ := hx i (by omega)
      rw [hc] at h1
      obtain ⟨d, hd⟩ := hR h2 (hD i hi)
      obtain ⟨-, hlen, hcc⟩ := World.cells?_some h1
      refine ⟨d, cs', hlen, fun c u hu => ?_, hd⟩
      have hcl := (List.getElem?_eq_some_iff.1 hu).1
      have := hcc c (by omega)
      rw [hu] at this
      rwa [show ((⟨g, off, none⟩ : Addr).add (i * sz)).add c = ⟨g, off + i * sz + c, none⟩ by simp only [Addr.add]; (repeat' split) <;> simp_all <;> omega] at this
    obtain ⟨X, hX⟩ := choose_lt hX
    refine ⟨_, (List.range len).map X, e1, ⟨⟨some ⟨g, off, none⟩, cap, by simp, by simpa using hl, by simp; omega⟩, fun j hj => ?_⟩, by simpa using hlen⟩
    have hj' : j < len := by simpa using hj
    obtain ⟨xs, h1, h2, h3⟩ := hX j hj'
    exact ⟨g, off, cap, xs, by simp, hg, h1, h2, by simpa using h3⟩
theorem trod_slf {t e : TypeId} (hu : P.underlying t = some (.slice e)) {fuel : Nat} {c : Value} {x : DataW H × List MemPlace} (h : DataW.trod enc P w base sp held fuel t [c] = some x) : ∃ A n k, c = .slice A n k := by
  rcases open_slice hu h with ⟨e1, -⟩ | ⟨a, len, cap, m, n, D, Pl, e1, -⟩
  · simp only [List.cons.injEq, and_true] at e1; exact ⟨_, _, _, e1⟩
  · simp only [List.cons.injEq, and_true] at e1; exact ⟨_, _, _, e1⟩
end
section
variable {H : Type} {enc : TypeId × Value → H} {w : World} {base : Nat} {sp : Nat → Bool} {held : Bool}
theorem lenn2 {α : Type} {l : List α} (h : l.length = 2) : ∃ a b, l = [a, b] := by match l, h with | [a, b], _ => exact ⟨a, b, rfl⟩
theorem lenn3 {α : Type} {l : List α} (h : l.length = 3) : ∃ a b c, l = [a, b, c] := by match l, h with | [a, b, c], _ => exact ⟨a, b, c, rfl⟩
theorem lenn4 {α : Type} {l : List α} (h : l.length = 4) : ∃ a b c d, l = [a, b, c, d] := by match l, h with | [a, b, c, d], _ => exact ⟨a, b, c, d, rfl⟩
theorem lenn6 {α : Type} {l : List α} (h : l.length = 6) : ∃ a b c d e f, l = [a, b, c, d, e, f] := by match l, h with | [a, b, c, d, e, f], _ => exact ⟨a, b, c, d, e, f, rfl⟩
theorem lenn8 {α : Type} {l : List α} (h : l.length = 8) : ∃ a b c d e f g i, l = [a, b, c, d, e, f, g, i] := by match l, h with | [a, b, c, d, e, f, g, i], _ => exact ⟨a, b, c, d, e, f, g, i, rfl⟩
theorem c_int : Try.prog.cellsOf 3 = 1 := by kernel_rfl
theorem c_bool : Try.prog.cellsOf 4 = 1 := by kernel_rfl
theorem c_string : Try.prog.cellsOf 9 = 1 := by kernel_rfl
theorem c_value : Try.prog.cellsOf 96 = 3 := by kernel_rfl
theorem c_engine : Try.prog.cellsOf 100 = 4 := by kernel_rfl
theorem c_tracker : Try.prog.cellsOf 66 = 4 := by kernel_rfl
theorem c_reader : Try.prog.cellsOf 68 = 6 := by kernel_rfl
theorem c_keyed : Try.prog.cellsOf 102 = 8 := by kernel_rfl
theorem c_operator : Try.prog.cellsOf 42 = 2 := by kernel_rfl
theorem c_attempt : Try.prog.cellsOf 51 = 4 := by kernel_rfl
theorem c_coord : Try.prog.cellsOf 24 = 3 := by kernel_rfl
theorem c_ints : Try.prog.cellsOf 39 = 1 := by kernel_rfl
theorem c_bools : Try.prog.cellsOf 49 = 1 := by kernel_rfl
theorem c_points : Try.prog.cellsOf 64 = 1 := by kernel_rfl
theorem c_events : Try.prog.cellsOf 97 = 1 := by kernel_rfl
theorem c_configs : Try.prog.cellsOf 98 = 1 := by kernel_rfl
theorem c_keyeds : Try.prog.cellsOf 40 = 1 := by kernel_rfl
theorem c_readers : Try.prog.cellsOf 25 = 1 := by kernel_rfl
theorem c_operators : Try.prog.cellsOf 48 = 1 := by kernel_rfl
theorem c_attempts : Try.prog.cellsOf 22 = 1 := by kernel_rfl
theorem y_int : Try.prog.bytesOf 3 = 8 := by kernel_rfl
theorem y_bool : Try.prog.bytesOf 4 = 1 := by kernel_rfl
theorem y_reader : Try.prog.bytesOf 68 = 80 := by kernel_rfl
theorem y_keyed : Try.prog.bytesOf 102 = 120 := by kernel_rfl
theorem y_operator : Try.prog.bytesOf 42 = 48 := by kernel_rfl
theorem y_attempt : Try.prog.bytesOf 51 = 80 := by kernel_rfl
theorem wf_inQ {n : Int} (h : (Lit.int .i64 n).wf = true) : inQ n := by
  unfold inQ
  simpa [Lit.wf, IntKind.min, IntKind.max, IntKind.bits, IntKind.signed] using h
theorem trodq_i {fuel : Nat} {c : Value} {x : DataW H × List MemPlace} (h : DataW.trod enc Try.prog w base sp held fuel 3 [c] = some x) : ∃ n, c = .int .i64 n ∧ inQ n := by
  obtain ⟨n, e, -, hw⟩ := DataW.trod_int Try.underlying3 h
  simp only [List.cons.injEq, and_true] at e
  exact ⟨n, e, wf_inQ hw⟩
theorem trodq_tracker {fuel : Nat} {cs : List Value} {x : DataW H × List MemPlace} (h : DataW.trod enc Try.prog w base sp held fuel 66 cs = some x) : ∃ (m t : Int) (A D : Option Addr) (n c k e : Nat), cs = [.int .i64 m, .slice A n c, .slice D k e, .int .i64 t] := by
  obtain ⟨xs, n, -, -, hlen, hxl, hf⟩ := DataW.trod_struct Try.underlying66 h
  rw [c_tracker] at hlen
  obtain ⟨c0, c1, c2, c3, rfl⟩ := lenn4 hlen
  obtain ⟨y0, y1, y2, y3, rfl⟩ := lenn4 hxl
  have h0 : DataW.trod enc Try.prog w base sp held n 3 [c0] = some y0 := by have := hf 0 _ rfl; simpa [c_int] using this
  have h1 : DataW.trod enc Try.prog w base sp held n 39 [c1] = some y1 := by have := hf 1 _ rfl; simpa [c_ints] using this
  have h2 : DataW.trod enc Try.prog w base sp held n 64 [c2] = some y2 := by have := hf 2 _ rfl; simpa [c_points] using this
  have h3 : DataW.trod enc Try.prog w base sp held n 3 [c3] = some y3 := by have := hf 3 _ rfl; simpa [c_int] using this
  obtain ⟨m, rfl, -⟩ := trodq_i h0
  obtain ⟨A, a, a', rfl⟩ := trod_slf Try.underlying39 h1
  obtain ⟨D, b, b', rfl⟩ := trod_slf Try.underlying64 h2
  obtain ⟨t, rfl, -⟩ := trodq_i h3
  exact ⟨m, t, A, D, a, a', b, b', rfl⟩
theorem trodq_reader {fuel : Nat} {cs : List Value} {x : DataW H × List MemPlace} (h : DataW.trod enc Try.prog w base sp held fuel 68 cs = some x) : ∃ d : Rq, RRq w (· < w.heap.size) cs d := by
  obtain ⟨xs, n, -, -, hlen, hxl, hf⟩ := DataW.trod_struct Try.underlying68 h
  rw [c_reader] at hlen
  obtain ⟨c0, c1, c2, c3, c4, c5, rfl⟩ := lenn6 hlen
  obtain ⟨y0, y1, y2, rfl⟩ := lenn3 hxl
  have h0 : DataW.trod enc Try.prog w base sp held n 3 [c0] = some y0 := by have := hf 0 _ rfl; simpa [c_int] using this
  have h1 : DataW.trod enc Try.prog w base sp held n 3 [c1] = some y1 := by have := hf 1 _ rfl; simpa [c_int] using this
  have h2 : DataW.trod enc Try.prog w base sp held n 66 [c2, c3, c4, c5] = some y2 := by have := hf 2 _ rfl; simpa [c_tracker] using this
  obtain ⟨s, rfl, -⟩ := trodq_i h0
  obtain ⟨o, rfl, -⟩ := trodq_i h1
  obtain ⟨m, t, A, D, a, a', b, b', e⟩ := trodq_tracker h2
  simp only [List.cons.injEq, and_true] at e
  obtain ⟨rfl, rfl, rfl, rfl⟩ := e
  exact ⟨⟨s, o⟩, m, t, A, D, a, a', b, b', rfl⟩
theorem trodq_engine {fuel : Nat} {cs : List Value} {x : DataW H × List MemPlace} (h : DataW.trod enc Try.prog w base sp held fuel 100 cs = some x) : ∃ (m : Int) (A D E : Option Addr) (n c k e i j : Nat), cs = [.int .i64 m, .slice A n c, .slice D k e, .slice E i j] := by
  obtain ⟨xs, n, -, -, hlen, hxl, hf⟩ := DataW.trod_struct Try.underlying100 h
  rw [c_engine] at hlen
  obtain ⟨c0, c1, c2, c3, rfl⟩ := lenn4 hlen
  obtain ⟨y0, y1, y2, y3, rfl⟩ := lenn4 hxl
  have h0 : DataW.trod enc Try.prog w base sp held n 3 [c0] = some y0 := by have := hf 0 _ rfl; simpa [c_int] using this
  have h1 : DataW.trod enc Try.prog w base sp held n 97 [c1] = some y1 := by have := hf 1 _ rfl; simpa [c_events] using this
  have h2 : DataW.trod enc Try.prog w base sp held n 98 [c2] = some y2 := by have := hf 2 _ rfl; simpa [c_configs] using this
  have h3 : DataW.trod enc Try.prog w base sp held n 97 [c3] = some y3 := by have := hf 3 _ rfl; simpa [c_events] using this
  obtain ⟨m, rfl, -⟩ := trodq_i h0
  obtain ⟨A, a, a', rfl⟩ := trod_slf Try.underlying97 h1
  obtain ⟨D, b, b', rfl⟩ := trod_slf Try.underlying98 h2
  obtain ⟨E, i, j, rfl⟩ := trod_slf Try.underlying97 h3
  exact ⟨m, A, D, E, a, a', b, b', i, j, rfl⟩
theorem trodq_value {fuel : Nat} {cs : List Value} {x : DataW H × List MemPlace} (h : DataW.trod enc Try.prog w base sp held fuel 96 cs = some x) : ∃ (k n : Int) (s : ByteArray), cs = [.int .i64 k, .int .i64 n, .string s] := by
  obtain ⟨xs, n, -, -, hlen, hxl, hf⟩ := DataW.trod_struct Try.underlying96 h
  rw [c_value] at hlen
  obtain ⟨c0, c1, c2, rfl⟩ := lenn3 hlen
  obtain ⟨y0, y1, y2, rfl⟩ := lenn3 hxl
  have h0 : DataW.trod enc Try.prog w base sp held n 3 [c0] = some y0 := by have := hf 0 _ rfl; simpa [c_int] using this
  have h1 : DataW.trod enc Try.prog w base sp held n 3 [c1] = some y1 := by have := hf 1 _ rfl; simpa [c_int] using this
  have h2 : DataW.trod enc Try.prog w base sp held n 9 [c2] = some y2 := by have := hf 2 _ rfl; simpa [c_string] using this
  obtain ⟨q, rfl, -⟩ := trodq_i h0
  obtain ⟨m, rfl, -⟩ := trodq_i h1
  obtain ⟨s, e2, -, hs⟩ := DataW.trod_string Try.underlying9 h2
  simp only [List.cons.injEq, and_true] at e2
  subst e2
  exact ⟨q, m, s, rfl⟩
theorem trodq_keyed {fuel : Nat} {cs : List Value} {x : DataW H × List MemPlace} (h : DataW.trod enc Try.prog w base sp held fuel 102 cs = some x) : ∃ d : Kq, RKq w (· < w.heap.size) cs d := by
  obtain ⟨xs, n, -, -, hlen, hxl, hf⟩ := DataW.trod_struct Try.underlying102 h
  rw [c_keyed] at hlen
  obtain ⟨c0, c1, c2, c3, c4, c5, c6, c7, rfl⟩ := lenn8 hlen
  obtain ⟨y0, y1, y2, rfl⟩ := lenn3 hxl
  have h0 : DataW.trod enc Try.prog w base sp held n 3 [c0] = some y0 := by have := hf 0 _ rfl; simpa [c_int] using this
  have h1 : DataW.trod enc Try.prog w base sp held n 96 [c1, c2, c3] = some y1 := by have := hf 1 _ rfl; simpa [c_value] using this
  have h2 : DataW.trod enc Try.prog w base sp held n 100 [c4, c5, c6, c7] = some y2 := by have := hf 2 _ rfl; simpa [c_engine] using this
  obtain ⟨q, rfl, -⟩ := trodq_i h0
  obtain ⟨k, m, s, e⟩ := trodq_value h1
  simp only [List.cons.injEq, and_true] at e
  obtain ⟨rfl, rfl, rfl⟩ := e
  obtain ⟨t, A, D, E, a, a', b, b', i, j, e⟩ := trodq_engine h2
  simp only [List.cons.injEq, and_true] at e
  obtain ⟨rfl, rfl, rfl, rfl⟩ := e
  exact ⟨⟨q, k, m, s⟩, t, A, D, E, a, a', b, b', i, j, rfl⟩
theorem reach_le {n b : Nat} (h : n * b ≤ reachBytes) (hb : 0 < b) : n ≤ 140737488351232 := by
  have h1 : n * 1 ≤ n * b := Nat.mul_le_mul_left n hb
  have h2 : reachBytes = 140737488351232 := rfl
  omega
theorem trodq_operator {fuel : Nat} {cs : List Value} {x : DataW H × List MemPlace} (h : DataW.trod enc Try.prog w base sp held fuel 42 cs = some x) (hS : Sz Try.prog 42 x.1) : ∃ d : Oq, ROq w (· < w.heap.size) cs d := by
  obtain ⟨xs, n, -, hxe, hlen, hxl, hf⟩ := DataW.trod_struct Try.underlying42 h
  rw [c_operator] at hlen
  obtain ⟨c0, c1, rfl⟩ := lenn2 hlen
  obtain ⟨y0, y1, rfl⟩ := lenn2 hxl
  have h0 : DataW.trod enc Try.prog w base sp held n 39 [c0] = some y0 := by have := hf 0 _ rfl; simpa [c_ints] using this
  have h1 : DataW.trod enc Try.prog w base sp held n 40 [c1] = some y1 := by have := hf 1 _ rfl; simpa [c_keyeds] using this
  rw [hxe] at hS
  have s0 : Sz Try.prog 39 y0.1 := hS.part Try.underlying42 (i := 0) rfl rfl
  have s1 : Sz Try.prog 40 y1.1 := hS.part Try.underlying42 (i := 1) rfl rfl
  obtain ⟨v, l, e, hl, hb⟩ := lst_trod_s (R := RIq) Try.underlying39 c_int (by decide) y_int (fun {fuel cs x} h _ => by
    have hc : cs.length = 1 := by
      obtain ⟨n, e, -, -⟩ := DataW.trod_int Try.underlying3 h
      rw [e]; rfl
    match cs, hc with
    | [c], _ =>
      obtain ⟨n, rfl, -⟩ := trodq_i h
      exact ⟨n, rfl⟩) h0 s0
  obtain ⟨u, k, e', hk, hb'⟩ := lst_trod_s (R := RKq) Try.underlying40 c_keyed (by decide) y_keyed (fun h _ => trodq_keyed h) h1 s1
  simp only [List.cons.injEq, and_true] at e e'
  subst e e'
  exact ⟨⟨l, k⟩, c0, c1, rfl, hl, hk, reach_le hb (by decide), reach_le hb' (by decide)⟩
theorem trodq_attempt {fuel : Nat} {cs : List Value} {x : DataW H × List MemPlace} (h : DataW.trod enc Try.prog w base sp held fuel 51 cs = some x) (hS : Sz Try.prog 51 x.1) : ∃ d : Aq, RAq w (· < w.heap.size) cs d := by
  obtain ⟨xs, n, -, hxe, hlen, hxl, hf⟩ := DataW.trod_struct Try.underlying51 h
  rw [c_attempt] at hlen
  obtain ⟨c0, c1, c2, c3, rfl⟩ := lenn4 hlen
  obtain ⟨y0, y1, y2, y3, rfl⟩ := lenn4 hxl
  have h0 : DataW.trod enc Try.prog w base sp held n 3 [c0] = some y0 := by have := hf 0 _ rfl; simpa [c_int] using this
  have h1 : DataW.trod enc Try.prog w base sp held n 25 [c1] = some y1 := by have := hf 1 _ rfl; simpa [c_readers] using this
  have h2 : DataW.trod enc Try.prog w base sp held n 48 [c2] = some y2 := by have := hf 2 _ rfl; simpa [c_operators] using this
  have h3 : DataW.trod enc Try.prog w base sp held n 49 [c3] = some y3 := by have := hf 3 _ rfl; simpa [c_bools] using this
  rw [hxe] at hS
  have s1 : Sz Try.prog 25 y1.1 := hS.part Try.underlying51 (i := 1) rfl rfl
  have s2 : Sz Try.prog 48 y2.1 := hS.part Try.underlying51 (i := 2) rfl rfl
  have s3 : Sz Try.prog 49 y3.1 := hS.part Try.underlying51 (i := 3) rfl rfl
  obtain ⟨m, rfl, hm⟩ := trodq_i h0
  obtain ⟨v, l, e, hl, -⟩ := lst_trod_s (R := RRq) Try.underlying25 c_reader (by decide) y_reader (fun h _ => trodq_reader h) h1 s1
  obtain ⟨u, k, e', hk, -⟩ := lst_trod_s (R := ROq) Try.underlying48 c_operator (by decide) y_operator (fun h hs => trodq_operator h hs) h2 s2
  obtain ⟨t, b, e2, hb, -⟩ := lst_trod_s (R := RBq) Try.underlying49 c_bool (by decide) y_bool (fun {fuel cs x} h _ => by
    obtain ⟨n, e, -⟩ := DataW.trod_bool Try.underlying4 h
    exact ⟨n, e⟩) h3 s3
  simp only [List.cons.injEq, and_true] at e e' e2
  subst e e' e2
  exact ⟨⟨m, l, k, b⟩, c1, c2, c3, rfl, hl, hk, hb, hm⟩
theorem trodq_coord {fuel : Nat} {cs : List Value} {x : DataW H × List MemPlace} (h : DataW.trod enc Try.prog w base sp held fuel 24 cs = some x) (hS : Sz Try.prog 24 x.1) : ∃ (c : Cq) (u : Value), cs = [.int .i64 c.next, u, .int .i64 c.dur] ∧ Lq w 4 RAq u c.atts ∧ inQ c.next ∧ inQ c.dur := by
  obtain ⟨xs, n, -, hxe, hlen, hxl, hf⟩ := DataW.trod_struct Try.underlying24 h
  rw [c_coord] at hlen
  obtain ⟨c0, c1, c2, rfl⟩ := lenn3 hlen
  obtain ⟨y0, y1, y2, rfl⟩ := lenn3 hxl
  have h0 : DataW.trod enc Try.prog w base sp held n 3 [c0] = some y0 := by have := hf 0 _ rfl; simpa [c_int] using this
  have h1 : DataW.trod enc Try.prog w base sp held n 22 [c1] = some y1 := by have := hf 1 _ rfl; simpa [c_attempts] using this
  have h2 : DataW.trod enc Try.prog w base sp held n 3 [c2] = some y2 := by have := hf 2 _ rfl; simpa [c_int] using this
  rw [hxe] at hS
  have s1 : Sz Try.prog 22 y1.1 := hS.part Try.underlying24 (i := 1) rfl rfl
  obtain ⟨m, rfl, hm⟩ := trodq_i h0
  obtain ⟨k, rfl, hk⟩ := trodq_i h2
  obtain ⟨v, l, e, hl, -⟩ := lst_trod_s (R := RAq) Try.underlying22 c_attempt (by decide) y_attempt (fun h hs => trodq_attempt h hs) h1 s1
  simp only [List.cons.injEq, and_true] at e
  subst e
  exact ⟨⟨m, l, k⟩, c1, rfl, hl, hm, hk⟩
set_option maxRecDepth 100000 in
theorem open_coord {r : Reach} {b0 : Nat} {v : Value} {d : DataW H} {ps : List MemPlace} (hval : Value.okWide Try.prog w r b0 24 v) (hd : DataW.Trod enc Try.prog w base sp held 24 v d ps) (hS : Sz Try.prog 24 d) : ∃ c : Cq, CoV w v c := by
  obtain ⟨cs, rfl, hsz⟩ := okWide_struct Try.underlying24 hval
  obtain ⟨fuel, hf⟩ := hd
  obtain ⟨c, u, e, hl, h1, h2⟩ := trodq_coord hf hS
  exact ⟨c, u, by rw [← Array.toArray_toList (xs := cs)]; exact congrArg (fun l : List Value => Value.agg l.toArray) e, hl, h1, h2⟩
/-- An operator, as a value. -/
def OpV (w : World) (v : Value) (o : Oq) : Prop := ∃ xs, v = .agg xs.toArray ∧ ROq w (· < w.heap.size) xs o
set_option maxRecDepth 100000 in
theorem open_opr {r : Reach} {b0 : Nat} {v : Value} {d : DataW H} {ps : List MemPlace} (hval : Value.okWide Try.prog w r b0 42 v) (hd : DataW.Trod enc Try.prog w base sp held 42 v d ps) (hS : Sz Try.prog 42 d) : ∃ o : Oq, OpV w v o := by
  obtain ⟨cs, rfl, hsz⟩ := okWide_struct Try.underlying42 hval
  obtain ⟨fuel, hf⟩ := hd
  obtain ⟨o, ho⟩ := trodq_operator hf hS
  exact ⟨o, cs.toList, by rw [Array.toArray_toList], ho⟩
set_option maxRecDepth 100000 in
theorem open_rds {r : Reach} {b0 : Nat} {v : Value} {d : DataW H} {ps : List MemPlace} (hval : Value.okWide Try.prog w r b0 25 v) (hd : DataW.Trod enc Try.prog w base sp held 25 v d ps) (hS : Sz Try.prog 25 d) : ∃ l : List Rq, Lq w 6 RRq v l := by
  unfold Value.okWide at hval
  simp only [Try.underlying25] at hval
  obtain ⟨fuel, hf⟩ := hd
  obtain ⟨A, l, c, rfl⟩ : ∃ A l c, v = .slice A l c := by
    unfold Cell.okWide Cell.ok at hval
    simp only [Try.underlying25] at hval
    split at hval <;> first | exact ⟨_, _, _, rfl⟩ | (simp_all; done) | skip
    all_goals (first | exact hval.elim | skip)
    all_goals (split at hval <;> first | exact ⟨_, _, _, rfl⟩ | exact hval.elim | simp_all)
  obtain ⟨v, l, e, hl, -⟩ := lst_trod_s (R := RRq) Try.underlying25 c_reader (by decide) y_reader (fun h _ => trodq_reader h) hf hS
  have e' : [Value.slice A _ c] = [v] := e
  simp only [List.cons.injEq, and_true] at e'
  subst e'
  exact ⟨l, hl⟩
/-- The reach, as each argument has it. -/
theorem sz_arg {P : Program} {ts : List TypeId} {ds : List (DataW H)} (h : (DataW.weightsEach P ts ds).all (· ≤ reachBytes) = true) {j : Nat} {t : TypeId} {d : DataW H} (ht : ts[j]? = some t) (hd : ds[j]? = some d) : Sz P t d := by
  intro n hn
  have := List.all_eq_true.1 h n (DataW.weights_mem_each ht hd n hn)
  simpa using this
end
end Go.Proofs.Ytihbonndinnohaa
