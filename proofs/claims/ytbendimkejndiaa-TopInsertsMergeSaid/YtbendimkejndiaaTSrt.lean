/- Rows of own memory sorted by the library: between the rows' words and the sort's. -/
import Derived.Test.YtbendimkejndiaaTLay
import Derived.Shelf.SlSortCmp.NoneTotal
namespace Go.Proofs.Ytbendimkejndiaa
open Go.Shelf Go.RowKit Go.Sort
set_option linter.unusedVariables false
set_option linter.unusedSimpArgs false
section
variable {α : Type} {enc : α → List Value} {k : Nat}
theorem flat_all (hk : ∀ x, (enc x).length = k) : ∀ l : List α, (l.map enc).flatten.length = l.length * k
  | [] => by simp
  | x :: l => by simp [flat_all hk l, hk, Nat.add_mul, Nat.add_comm]
theorem flat_at (hk : ∀ x, (enc x).length = k) : ∀ (l : List α) (i c : Nat) (hi : i < l.length), c < k → (l.map enc).flatten[i * k + c]? = (enc l[i])[c]?
  | x :: l, 0, c, _, hc => by
    simp only [List.map_cons, List.flatten_cons, Nat.zero_mul, Nat.zero_add, List.getElem_cons_zero]
    rw [List.getElem?_append_left (by rw [hk]; exact hc)]
  | x :: l, i + 1, c, hi, hc => by
    simp only [List.map_cons, List.flatten_cons, List.getElem_cons_succ]
    rw [List.getElem?_append_right (by rw [hk, Nat.succ_mul]; omega), hk, show (i + 1) * k + c - k = i * k + c by rw [Nat.succ_mul]; omega]
    exact flat_at hk l i c (by simpa using hi) hc
end
section
variable {α : Type} [Inhabited α] {enc : α → List Value} {k : Nat}
theorem flatK_list (hk : ∀ x, (enc x).length = k) (d : Array α) : (flatK enc k d).toList = (d.toList.map enc).flatten := by
  apply List.ext_getElem?
  intro t
  by_cases ht : t < d.size * k
  · have k0 : 0 < k := by rcases Nat.eq_zero_or_pos k with h | h; · subst h; simp at ht
                          · exact h
    have hi : t / k < d.size := Nat.div_lt_of_lt_mul (by rw [Nat.mul_comm]; exact ht)
    have hc : t % k < k := Nat.mod_lt _ k0
    have h1 := flat_at hk d.toList (t / k) (t % k) (by simpa using hi) hc
    rw [Nat.div_add_mod' t k] at h1
    have h2 := get_flatK enc k d t ht
    have hs : t < (flatK enc k d).size := by rw [size_flatK]; exact ht
    rw [getElem!_pos _ t hs] at h2
    rw [Array.getElem?_toList, Array.getElem?_eq_getElem hs, h1, h2, getElem!_pos d _ hi]
    have hce : t % k < (enc d[t / k]).length := by rw [hk]; exact hc
    rw [getElem!_pos (enc d[t / k]) _ hce]
    simp [List.getElem?_eq_getElem hce]
  · rw [List.getElem?_eq_none (by simp; omega), List.getElem?_eq_none (by rw [flat_all hk]; simp; omega)]
theorem holdsK_own (hk : ∀ x, (enc x).length = k) {w : World} {base g cap n : Nat} {te : TypeId} {d : Array α} (hown : w.ownsRow base te k (.slice (some ⟨g, 0, none⟩) n cap) n (d.toList.map enc).flatten) : HoldsK enc k w g 0 d := by
  intro j hj
  have hj2 : j < (flatK enc k d).toList.length := by simpa using hj
  have e : (d.toList.map enc).flatten[j]? = some (id (flatK enc k d)[j]!) := by
    rw [← flatK_list hk, List.getElem?_eq_getElem hj2, getElem!_pos _ j hj]; simp
  refine ⟨?_, ?_⟩
  · rw [Nat.zero_add]; exact own_cell hown e
  · rcases hown.2 with ⟨h, -⟩ | ⟨g', cap', cur, h, -, hb, -⟩
    · cases h
    · cases h
      simp [World.frozen?, hb]
theorem take_putCells {F cur : Array Value} (h : F.size ≤ cur.size) : (putCells id 0 F cur).toList.take F.size = F.toList := by
  apply List.ext_getElem?
  intro j
  by_cases hj : j < F.size
  · rw [List.getElem?_take_of_lt hj, Array.getElem?_toList]
    simp [putCells, hj, show j < cur.size by omega]
  · rw [List.getElem?_take_eq_none (by omega), List.getElem?_eq_none (by simp; omega)]
theorem own_sorted (hk : ∀ x, (enc x).length = k) {w : World} {base g cap n m : Nat} {te : TypeId} {os : Array Obj} {xs : List Value} (hown : w.ownsRow base te k (.slice (some ⟨g, 0, none⟩) n cap) n xs) (d : Array α) (hd : d.size = n) :
    (sortWorldK enc k w g 0 m d os).ownsRow base te k (.slice (some ⟨g, 0, none⟩) n cap) n (d.toList.map enc).flatten ∧ w.grownBy (sortWorldK enc k w g 0 m d os) (some g) := by
  rcases hown.2 with ⟨h, -⟩ | ⟨g', cap', cur, h, h1, hb, h2, h3, h4, h5⟩
  · cases h
  cases h
  have hg : g < w.heap.size := (Array.getElem?_eq_some_iff.1 hb).1
  have hsz : (flatK enc k d).size = n * k := by rw [size_flatK, hd]
  refine ⟨⟨by rw [flat_all hk]; simp [hd], .inr ⟨g, cap, putCells id 0 (flatK enc k d) cur, rfl, h1, ?_, h2, h3, by simp [putCells, h4], ?_⟩⟩, ⟨rfl, rfl, rfl, by simp [sortWorldK, putRowK, putRow, mapBlock, Sort.ahead, grow], fun b hb' hne => ?_⟩⟩
  · unfold sortWorldK
    rw [heap_grow_old _ _ (by simpa [putRowK, putRow, mapBlock, Sort.ahead] using hg)]
    simp [putRowK, putRow, mapBlock, Sort.ahead, Array.getElem?_modify, hb, onCells]
  · rw [← hsz, take_putCells (by rw [hsz, h4]; exact Nat.mul_le_mul_right k h2), flatK_list hk]
  · unfold sortWorldK
    rw [heap_grow_old _ _ (by simpa [putRowK, putRow, mapBlock, Sort.ahead] using hb')]
    have : g ≠ b := fun e => hne (by rw [e])
    simp [putRowK, putRow, mapBlock, Sort.ahead, Array.getElem?_modify, this]
/-- What a sort leaves: the row holds the same elements, in order. -/
theorem perm_of {d d' : Array α} (h : PermIn 0 d.size d d') : d'.toList.Perm d.toList := by
  obtain ⟨h1, -, h3⟩ := h
  have e : ∀ a : Array α, a.extract 0 a.size = a := fun a => by simp
  rw [e d, show d.size = d'.size from h1.symm, e d'] at h3
  exact h3
theorem pair_of {lt : α → α → Bool} {d : Array α} (h : SortedIn lt 0 d.size d) : d.toList.Pairwise fun x y => lt y x = false := by
  rw [List.pairwise_iff_getElem]
  intro i j hi hj hij
  have := h i j (Nat.zero_le _) hij (by simpa using hj)
  rwa [getElem!_pos d j (by simpa using hj), getElem!_pos d i (by simpa using hi)] at this
end
/-- A row whose elements read as l: the same, laid out for the sort. -/
theorem gq_laid {β γ : Type} {enc : β × γ → List Value} {k : Nat} (hk : ∀ x, (enc x).length = k) {R : World → (Nat → Prop) → List Value → β → Prop} (hform : ∀ {w Z ys x}, R w Z ys x → ∃ c, ys = enc (x, c))
    {w : World} {Y : Nat → Prop} {base : Nat} {te : TypeId} {v : Value} {l : List β} (hg : Gq w Y base te k R v l) :
    ∃ d : List (β × γ), d.map (·.1) = l ∧ w.ownsRow base te k v l.length (d.map enc).flatten ∧ ∀ p ∈ d, R w (fun b => Y b ∧ b < w.heap.size ∧ v.ownBlock ≠ some b) (enc p) p.1 := by
  obtain ⟨xs, hown, hy, hel⟩ := hg
  have key : ∀ (l : List β) (xs : List Value), xs.length = l.length * k → (∀ j (h : j < l.length), ∃ ys, ys.length = k ∧ (∀ c u, ys[c]? = some u → xs[j * k + c]? = some u) ∧ R w (fun b => Y b ∧ b < w.heap.size ∧ v.ownBlock ≠ some b) ys l[j]) →
      ∃ d : List (β × γ), d.map (·.1) = l ∧ xs = (d.map enc).flatten ∧ ∀ p ∈ d, R w (fun b => Y b ∧ b < w.heap.size ∧ v.ownBlock ≠ some b) (enc p) p.1 := by
    intro l
    induction l with
    | nil => intro xs hx _; exact ⟨[], rfl, by simpa using hx, by simp⟩
    | cons x l ih =>
      intro xs hx hel
      obtain ⟨ys, h1, h2, h3⟩ := hel 0 (by simp)
      obtain ⟨c, rfl⟩ := hform h3
      have hke := hk (x, c)
      have hx' : xs.length = l.length * k + k := by rw [hx, List.length_cons, Nat.succ_mul]
      obtain ⟨d, e1, e2, e3⟩ := ih (xs.drop k) (by rw [List.length_drop]; omega) fun j hj => by
        obtain ⟨zs, g1, g2, g3⟩ := hel (j + 1) (by simpa using hj)
        refine ⟨zs, g1, fun c u hu => ?_, by simpa using g3⟩
        have := g2 c u hu
        rw [List.getElem?_drop]
        rwa [show k + (j * k + c) = (j + 1) * k + c by rw [Nat.succ_mul]; omega]
      refine ⟨(x, c) :: d, by simp [e1], ?_, ?_⟩
      · rw [List.map_cons, List.flatten_cons, ← e2]
        have ht : xs.take k = enc (x, c) := by
          apply List.ext_getElem?
          intro j
          by_cases hj : j < k
          · have hj2 : j < (enc (x, c)).length := by omega
            have := h2 j _ (List.getElem?_eq_getElem hj2)
            rw [List.getElem?_take_of_lt hj, List.getElem?_eq_getElem hj2]
            simpa using this
          · rw [List.getElem?_take_eq_none (by omega), List.getElem?_eq_none (by omega)]
        rw [← ht, List.take_append_drop]
      · intro p hp
        rcases List.mem_cons.1 hp with rfl | hp
        · exact h3
        · exact e3 p hp
  obtain ⟨d, e1, e2, e3⟩ := key l xs hown.1 hel
  subst e2
  exact ⟨d, e1, hown, e3⟩
theorem gq_back {β γ : Type} {enc : β × γ → List Value} {k : Nat} (hk : ∀ x, (enc x).length = k) {R : World → (Nat → Prop) → List Value → β → Prop}
    {w : World} {Y : Nat → Prop} {base : Nat} {te : TypeId} {v : Value} {d : List (β × γ)} (hown : w.ownsRow base te k v d.length (d.map enc).flatten) (hy : ∀ b, v.ownBlock = some b → Y b)
    (h : ∀ p ∈ d, R w (fun b => Y b ∧ b < w.heap.size ∧ v.ownBlock ≠ some b) (enc p) p.1) : Gq w Y base te k R v (d.map (·.1)) := by
  refine ⟨_, by rw [List.length_map]; exact hown, hy, fun j hj => ?_⟩
  have hj' : j < d.length := by simpa using hj
  refine ⟨enc d[j], hk _, fun c u hu => ?_, by rw [List.getElem_map]; exact h _ (List.getElem_mem hj')⟩
  have hc : c < k := by have := (List.getElem?_eq_some_iff.1 hu).1; rw [hk] at this; exact this
  rw [flat_at hk d j c hj' hc]; exact hu
/-- The library's sort over a row of own memory. -/
theorem gq_sort {P : Program} {ρ : Ren} {β γ : Type} [Inhabited β] [Inhabited γ] {enc : β × γ → List Value} {k : Nat} (L : SlLaysF0.n6 P ρ) (aE : ∀ w, (isAgg (ρ.t 24)).run P w = .ok true w) (zE : ∀ w, (Go.sizeOf (ρ.t 24)).run P w = .ok k w)
    (hk : ∀ x, (enc x).length = k) (h1 : ∀ x, ∀ v ∈ enc x, v.oneCell' = true) {R : World → (Nat → Prop) → List Value → β → Prop} (hR : Rd R) (hform : ∀ {w Z ys x}, R w Z ys x → ∃ c, ys = enc (x, c)) (cf : β → β → Int) (hO : SWO (ltOf fun p q : β × γ => cf p.1 q.1)) (g : Nat)
    (eg : ∀ args w, (callFunc g args).run P w = .ok (.enter g args) w) (hcmp : ∀ W (x y : β × γ), Calls P g #[.agg (enc x).toArray, .agg (enc y).toArray] W (RetG (.int .i64 (cf x.1 y.1)) W))
    {w : World} {Y : Nat → Prop} {base : Nat} {te : TypeId} {v : Value} {l : List β} (hg : Gq w Y base te k R v l) (hl : l.length < 4611686018427387904) :
    Calls P (ρ.f 6) #[v, .func (.func g) #[] #[]] w fun e w' => e = .returned (.tuple #[]) ∧ ∃ o : List β, o.Perm l ∧ (o.Pairwise fun x y => ¬ cf y x < 0) ∧ Gq w' Y base te k R v o ∧ w.grownBy w' v.ownBlock := by
  have hy : ∀ b, v.ownBlock = some b → Y b := by obtain ⟨_, _, h, _⟩ := hg; exact h
  obtain ⟨d, rfl, hown, hel⟩ := gq_laid hk hform hg
  rw [List.length_map] at hown hl
  rcases hown.2 with ⟨rfl, h0⟩ | ⟨gb, cap, cur, rfl, hb, hgb, -⟩
  · have hd : d = [] := List.eq_nil_of_length_eq_zero h0
    subst hd
    refine (AnyF.slices_SortFunc_none L none 0 _ w).mono ?_
    rintro e w' ⟨rfl, rfl⟩
    exact ⟨rfl, [], List.Perm.refl _, List.Pairwise.nil, hg, World.grownBy.refl _ _⟩
  · have hH := holdsK_own (d := d.toArray) hk (by simpa using hown)
    have hlt : gb < w.heap.size := (Array.getElem?_eq_some_iff.1 hgb).1
    have hcon := AnyQ.slices_SortFunc L k aE zE enc hk h1 (fun p q => cf p.1 q.1) hO g #[] gb 0 cap d.toArray w eg (fun m os dk hs x y => hcmp _ x y) hH hlt (by simpa using hl)
    rw [List.size_toArray] at hcon
    refine hcon.mono ?_
    rintro e w' ⟨rfl, d', n, os, hp, hs, rfl⟩
    have hsz : d'.size = d.length := by have := hp.1; simpa using this
    obtain ⟨hown', hgr⟩ := own_sorted hk (m := n) (os := os) hown d' hsz
    have hpm : d'.toList.Perm d := by have := perm_of (d := d.toArray) (by simpa using hp); simpa using this
    have hpw := pair_of (by rw [hsz]; exact hs)
    refine ⟨rfl, d'.toList.map (·.1), hpm.map _, ?_, ?_, hgr⟩
    · rw [List.pairwise_map]
      exact hpw.imp fun {x y} h => by simpa [ltOf] using h
    · refine gq_back hk (by have e : d'.toList.length = d.length := by simpa using hsz
                            rw [e]; exact hown') hy fun p hp' => ?_
      have hmem := hpm.mem_iff.1 hp'
      exact hR.more (fun b hb => ⟨hb.1, Nat.lt_of_lt_of_le hb.2.1 hgr.size, hb.2.2⟩) (hR.keep (Kp.less (Y := fun b => Y b ∧ b < w.heap.size ∧ (Value.slice (some ⟨gb, 0, none⟩) d.length cap).ownBlock ≠ some b) ⟨hgr.size, fun b (hb : some gb ≠ some b) hlt => hgr.block b hlt (fun e => hb e.symm)⟩ fun b hb => hb.2.2) (hel p hmem))
end Go.Proofs.Ytbendimkejndiaa
