/- The plain law of TopInsertsMerge: streams, their merging, their parts. -/
import Derived.Test.YtbendimkejndiaaCPlain
namespace Go.Proofs.Ytbendimkejndiaa
set_option linter.unusedVariables false
set_option linter.unusedSimpArgs false
/-- x comes before y. -/
def LtE (x y : Evt) : Prop := x.d < y.d ∨ x.d = y.d ∧ (x.a < y.a ∨ x.a = y.a ∧ x.b < y.b)
/-- One identity. -/
def Idq (x y : Evt) : Prop := x.a = y.a ∧ x.b = y.b
instance (x y : Evt) : Decidable (Idq x y) := inferInstanceAs (Decidable (_ ∧ _))
def Plcd (e : Evt) : Prop := 0 ≤ e.d ∧ e.d ≤ 1099511627776 ∧ 0 ≤ e.a ∧ e.a < 8 ∧ 0 ≤ e.b ∧ e.b ≤ 1099511627776
section
variable {x y z : Evt}
theorem LtE.asym (h : LtE x y) : ¬ LtE y x := by unfold LtE at *; omega
theorem LtE.trans (h : LtE x y) (k : LtE y z) : LtE x z := by unfold LtE at *; omega
theorem LtE.tri (h : ¬ Idq x y) : LtE x y ∨ LtE y x := by unfold LtE Idq at *; omega
end
/-- A list in strict order is known by what it holds. -/
theorem srt_uniq {α : Type} {r : α → α → Prop} (ha : ∀ x y, r x y → ¬ r y x) : ∀ (l m : List α), l.Pairwise r → m.Pairwise r → (∀ x, x ∈ l ↔ x ∈ m) → l = m := by
  intro l
  induction l with
  | nil =>
    intro m _ _ h
    cases m with
    | nil => rfl
    | cons y m => exact absurd ((h y).2 (List.mem_cons_self ..)) List.not_mem_nil
  | cons x l ih =>
    intro m hl hm h
    cases m with
    | nil => exact absurd ((h x).1 (List.mem_cons_self ..)) List.not_mem_nil
    | cons y m =>
      rw [List.pairwise_cons] at hl hm
      have hxy : x = y := by
        rcases List.mem_cons.1 ((h x).1 (List.mem_cons_self ..)) with e | h1
        · exact e
        · rcases List.mem_cons.1 ((h y).2 (List.mem_cons_self ..)) with e | h2
          · exact e.symm
          · exact absurd (hl.1 y h2) (ha _ _ (hm.1 x h1))
      subst hxy
      congr 1
      refine ih m hl.2 hm.2 fun z => ⟨fun hz => ?_, fun hz => ?_⟩
      · rcases List.mem_cons.1 ((h z).1 (List.mem_cons_of_mem _ hz)) with e | h1
        · subst e; exact absurd (hl.1 z hz) (ha _ _ (hl.1 z hz))
        · exact h1
      · rcases List.mem_cons.1 ((h z).2 (List.mem_cons_of_mem _ hz)) with e | h1
        · subst e; exact absurd (hm.1 z hz) (ha _ _ (hm.1 z hz))
        · exact h1
/-- One identity, one event. -/
def Compat (l : List Evt) : Prop := ∀ x ∈ l, ∀ y ∈ l, Idq x y → x = y
/-- A stream. -/
def Strm (l : List Evt) : Prop := (∀ x ∈ l, Plcd x) ∧ l.Pairwise LtE ∧ l.Pairwise fun x y => ¬ Idq x y
/-- out: what l holds, in order. -/
def SrtOf (l out : List Evt) : Prop := out.Pairwise LtE ∧ (∀ x, x ∈ out ↔ x ∈ l) ∧ out.length ≤ l.length
theorem SrtOf.uniq {l m o p : List Evt} (h : SrtOf l o) (k : SrtOf m p) (e : ∀ x, x ∈ l ↔ x ∈ m) : o = p :=
  srt_uniq (fun _ _ h => h.asym) _ _ h.1 k.1 fun x => (h.2.1 x).trans ((e x).trans (k.2.1 x).symm)
theorem strm_of {l : List Evt} (h1 : l.Pairwise LtE) (h2 : ∀ x ∈ l, Plcd x) (h3 : Compat l) : Strm l :=
  ⟨h2, h1, List.Pairwise.imp_of_mem (fun {x y} hx hy h hi => by have := h3 x hx y hy hi; subst this; exact h.asym h) h1⟩
theorem Compat.sub {l m : List Evt} (h : Compat l) (hs : ∀ x ∈ m, x ∈ l) : Compat m := fun x hx y hy => h x (hs x hx) y (hs y hy)
theorem SrtOf.strm {l o : List Evt} (h : SrtOf l o) (h2 : ∀ x ∈ l, Plcd x) (h3 : Compat l) : Strm o :=
  strm_of h.1 (fun x hx => h2 x ((h.2.1 x).1 hx)) (h3.sub fun x hx => (h.2.1 x).1 hx)
theorem Strm.filter {l : List Evt} (h : Strm l) (p : Evt → Bool) : Strm (l.filter p) :=
  ⟨fun x hx => h.1 x (List.mem_filter.1 hx).1, h.2.1.filter _, h.2.2.filter _⟩
theorem Strm.self {l : List Evt} (h : Strm l) : SrtOf l l := ⟨h.2.1, fun _ => Iff.rfl, Nat.le_refl _⟩
/-- The events, each once, in the order in which they come; none if two of one identity differ. -/
noncomputable def stepD (o : List Evt) (e : Evt) : Option (List Evt) :=
  match o.find? (fun f => decide (Idq f e)) with
  | some f => open Classical in if f = e then some o else none
  | none => some (o ++ [e])
noncomputable def ddp (o : List Evt) : List Evt → Option (List Evt)
  | [] => some o
  | e :: l => match stepD o e with | some o' => ddp o' l | none => none
theorem stepD_cases (o : List Evt) (e : Evt) : (∃ f ∈ o, Idq f e ∧ f ≠ e ∧ o.find? (fun f => decide (Idq f e)) = some f ∧ stepD o e = none) ∨ (e ∈ o ∧ o.find? (fun f => decide (Idq f e)) = some e ∧ stepD o e = some o) ∨
    ((∀ f ∈ o, ¬ Idq f e) ∧ o.find? (fun f => decide (Idq f e)) = none ∧ stepD o e = some (o ++ [e])) := by
  unfold stepD
  cases h : o.find? (fun f => decide (Idq f e)) with
  | none => exact .inr (.inr ⟨fun f hf hi => by have := List.find?_eq_none.1 h f hf; simp [hi] at this, rfl, rfl⟩)
  | some f =>
    have hf := List.mem_of_find?_eq_some h
    have hi : Idq f e := by have := List.find?_some h; simpa using this
    by_cases he : f = e
    · subst he; exact .inr (.inl ⟨hf, rfl, if_pos rfl⟩)
    · exact .inl ⟨f, hf, hi, he, rfl, if_neg he⟩
theorem ddp_some : ∀ (l o : List Evt), Compat (o ++ l) → o.Pairwise (fun x y => ¬ Idq x y) → ∃ q, ddp o l = some q ∧ q.Pairwise (fun x y => ¬ Idq x y) ∧ (∀ x, x ∈ q ↔ x ∈ o ++ l) ∧ q.length ≤ o.length + l.length := by
  intro l
  induction l with
  | nil => intro o _ h; exact ⟨o, rfl, h, fun x => by simp, by simp⟩
  | cons e l ih =>
    intro o hc hp
    rcases stepD_cases o e with ⟨f, hf, hi, hne, -, -⟩ | ⟨he, -, hs⟩ | ⟨hn, -, hs⟩
    · exact absurd (hc f (List.mem_append.2 (.inl hf)) e (List.mem_append.2 (.inr (List.mem_cons_self ..))) hi) hne
    · obtain ⟨q, h1, h2, h3, h4⟩ := ih o (hc.sub fun x hx => by rcases List.mem_append.1 hx with h | h <;> simp [h]) hp
      refine ⟨q, by rw [ddp, hs]; exact h1, h2, fun x => (h3 x).trans ?_, by simp; omega⟩
      simp only [List.mem_append, List.mem_cons]
      exact ⟨fun h => h.elim .inl fun h => .inr (.inr h), fun h => h.elim .inl fun h => h.elim (fun h => .inl (h ▸ he)) .inr⟩
    · obtain ⟨q, h1, h2, h3, h4⟩ := ih (o ++ [e]) (hc.sub fun x hx => by simpa using hx) (List.pairwise_append.2 ⟨hp, List.pairwise_singleton .., fun a ha b hb => by obtain rfl := List.mem_singleton.1 hb; exact hn a ha⟩)
      refine ⟨q, by rw [ddp, hs]; exact h1, h2, fun x => (h3 x).trans (by simp), ?_⟩
      simp at h4 ⊢
      omega
theorem ddp_compat : ∀ (l o q : List Evt), ddp o l = some q → Compat o → Compat (o ++ l) := by
  intro l
  induction l with
  | nil => intro o q _ h; simpa using h
  | cons e l ih =>
    intro o q hd hc
    rcases stepD_cases o e with ⟨f, -, -, -, -, hs⟩ | ⟨he, -, hs⟩ | ⟨hn, -, hs⟩
    · rw [ddp, hs] at hd; cases hd
    · rw [ddp, hs] at hd
      exact (ih o q hd hc).sub fun x hx => by
        rcases List.mem_append.1 hx with h | h
        · simp [h]
        · rcases List.mem_cons.1 h with h | h
          · subst h; simp [he]
          · simp [h]
    · rw [ddp, hs] at hd
      refine (ih _ q hd ?_).sub fun x hx => by simpa using hx
      intro x hx y hy hi
      rcases List.mem_append.1 hx with h1 | h1 <;> rcases List.mem_append.1 hy with h2 | h2
      · exact hc x h1 y h2 hi
      · obtain rfl := List.mem_singleton.1 h2; exact absurd hi (hn x h1)
      · obtain rfl := List.mem_singleton.1 h1; exact absurd (by unfold Idq at *; omega) (hn y h2)
      · obtain rfl := List.mem_singleton.1 h1; exact (List.mem_singleton.1 h2).symm
theorem ddp_iff {l : List Evt} : (∃ q, ddp [] l = some q) ↔ Compat l :=
  ⟨fun ⟨q, h⟩ => by simpa using ddp_compat l [] q h (by intro x hx; cases hx), fun h => by obtain ⟨q, h1, -⟩ := ddp_some l [] (by simpa using h) List.Pairwise.nil; exact ⟨q, h1⟩⟩
/-- What the sort of the events, each once, yields. -/
theorem srtOf_perm {l q o : List Evt} (h : ddp [] l = some q) (hp : o.Perm q) (hs : o.Pairwise fun x y => ¬ LtE y x) : SrtOf l o := by
  have hc := ddp_iff.1 ⟨q, h⟩
  obtain ⟨q', h1, h2, h3, h4⟩ := ddp_some l [] (by simpa using hc) List.Pairwise.nil
  rw [h] at h1
  cases h1
  have h5 : o.Pairwise fun x y => ¬ Idq x y := hp.symm.pairwise h2 (fun {x y} h k => h (by unfold Idq at *; omega))
  refine ⟨(hs.and h5).imp fun {x y} ⟨a, b⟩ => (LtE.tri b).resolve_right a, fun x => (hp.mem_iff).trans (by simpa using h3 x), by rw [hp.length_eq]; simpa using h4⟩
/-- The events of a and of s, in order. -/
def Mrg (a s i : List Evt) : Prop := SrtOf (a ++ s) i
theorem mrg_cons {a s i j : List Evt} {e : Evt} (h : Mrg a s i) (k : SrtOf (i ++ [e]) j) : Mrg a (e :: s) j := by
  refine ⟨k.1, fun x => (k.2.1 x).trans ?_, ?_⟩
  · rw [List.mem_append, h.2.1 x]
    simp only [List.mem_append, List.mem_cons, List.not_mem_nil, or_false]
    exact ⟨fun h => h.elim (fun h => h.elim .inl fun h => .inr (.inr h)) fun h => .inr (.inl h), fun h => h.elim (fun h => .inl (.inl h)) fun h => h.elim .inr fun h => .inl (.inr h)⟩
  · have h1 := k.2.2
    have h2 := h.2.2
    simp at h1 h2 ⊢
    omega
/-- The key of an event. -/
def keyOkE (key : List Int) (x : Evt) : Prop := key = [] ∨ (0 ≤ x.c ∧ x.c < key.length ∧ -1 ≤ key.getD x.c.toNat 0 ∧ key.getD x.c.toNat 0 < x.vs.length)
def keyVE (key : List Int) (x : Evt) : Option V3 := if key = [] then some V3.z else if key.getD x.c.toNat 0 < 0 then none else some (x.vs.getD (key.getD x.c.toNat 0).toNat V3.z)
open Classical in
noncomputable def fltE (key : List Int) (k : V3) (l : List Evt) : List Evt := l.filter fun x => decide (keyVE key x = some k)
/-- The keys of l, in order, and the parts. -/
def SplOf (r : V3 → V3 → Prop) (key : List Int) (l : List Evt) (ks : List V3) (ps : List (List Evt)) : Prop := ks.Pairwise r ∧ (∀ k, k ∈ ks ↔ ∃ x ∈ l, keyVE key x = some k) ∧ ps = ks.map fun k => fltE key k l
theorem mem_fltE {key : List Int} {k : V3} {l : List Evt} {x : Evt} : x ∈ fltE key k l ↔ x ∈ l ∧ keyVE key x = some k := by
  unfold fltE
  simp [List.mem_filter]
theorem fltE_nil {r : V3 → V3 → Prop} {key : List Int} {k : V3} {l : List Evt} {ks : List V3} {ps : List (List Evt)} (h : SplOf r key l ks ps) (hk : k ∉ ks) : fltE key k l = [] := by
  refine List.eq_nil_iff_forall_not_mem.2 fun x hx => hk ((h.2.1 k).2 ⟨x, (mem_fltE.1 hx).1, (mem_fltE.1 hx).2⟩)
theorem fltE_mrg {key : List Int} {k : V3} {a b B M : List Evt} (h : SrtOf (a ++ b) B) (hm : SrtOf (fltE key k a ++ fltE key k b) M) : M = fltE key k B := by
  refine srt_uniq (r := LtE) (fun _ _ h => h.asym) _ _ hm.1 (h.1.filter _) fun x => (hm.2.1 x).trans ?_
  rw [mem_fltE, h.2.1 x]
  simp only [List.mem_append, mem_fltE]
  exact ⟨fun h => h.elim (fun h => ⟨.inl h.1, h.2⟩) fun h => ⟨.inr h.1, h.2⟩, fun ⟨h, k⟩ => h.elim (fun h => .inl ⟨h, k⟩) fun h => .inr ⟨h, k⟩⟩
end Go.Proofs.Ytbendimkejndiaa
