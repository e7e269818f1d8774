/- Towards stream.Split: an entry of a map that is read, appended to and stored; the groups. -/
import Derived.Test.YtbendimkejndiaaTKey
import Derived.WideKeyEntry
namespace Go.Proofs.Ytbendimkejndiaa
open Go.RowKit Go.Maps Go.ChangeMaps Go.MapKept Go.WideMaps
set_option linter.unusedVariables false
set_option linter.unusedSimpArgs false
set_option maxRecDepth 1000000 in
theorem v_law : KeyLaw Try.prog 38 := deep_law_laid laid_out (m := 2) (by omega) (of_decide_eq_true (by kernel_rfl)) (by kernel_rfl) v_wide
/-- The entry with the stamp st can be stored to: then f with v at the key. -/
def Ent (t k : TypeId) (b N : Nat) (f : Value → Option Value) (key : Value) (w : World) (st : Nat) : Prop :=
  b < w.heap.size ∧ ∀ (w2 : World) (val : Value), w2.heap[b]? = w.heap[b]? → ∃ w', (Instr.entryStore t (.map (some b)) (goInt st) val).run Try.prog w2 = .ok () w' ∧ MapF k w' b (N + 1) (updF f key val) ∧ w2.grownBy w' (some b)
theorem MapF.of_block {k : TypeId} {w w' : World} {b N : Nat} {f : Value → Option Value} (h : MapF k w b N f) (e : w'.heap[b]? = w.heap[b]?) : MapF k w' b N f := by
  obtain ⟨n, D, ⟨es, clock, hb, hr⟩, hr2⟩ := h
  exact ⟨n, D, ⟨es, clock, by rw [e]; exact hb, hr⟩, hr2⟩
section
variable {k : TypeId} {w : World} {b N : Nat} {f : Value → Option Value}
theorem MapF.entry {t e : TypeId} {z : Value} (h : MapF k w b N f) (K : KeyLaw Try.prog k) (ht : Try.prog.underlying t = some (.map k e)) (hz : ∀ u : World, (zeroValue e).run Try.prog u = .ok z u) (hN : N < maxLen) {key : Value} (hkey : ∃ l, keyOf Try.prog k key = some l) :
    ∃ (st : Nat) (w1 : World), (Instr.mapEntry t (.map (some b)) key).run Try.prog w = .ok (.tuple #[(f key).getD z, goInt st]) w1 ∧ w.grownBy w1 (some b) ∧ Ent t k b N f key w1 st := by
  have hlk := h.look (Keyed.of_law K) ht (hz w) hkey
  have hst := fun val => h.store (Keyed.of_law K) ht hN hkey val
  have hlt := h.lt
  obtain ⟨n, D, ⟨es, clock, hb, F, hs, hD⟩, hr⟩ := h
  obtain ⟨l, hl⟩ := hkey
  obtain ⟨v0, st, es1, clock1, hrun, hv0, hent⟩ := WideElems.entry_then_store K ht hz hb F hl
  have hv : v0 = (f key).getD z := by
    rcases Maps.fit_look false (Keyed.of_law K) ht (hz w) hb F hl with ⟨h1, h2, -⟩ | ⟨e1, y, hm1, hk1, h1, -⟩
    · have e2 : z = (f key).getD z := (Result.ok.inj (hlk.symm.trans h1)).1.symm
      rcases hv0 with ⟨e0, hm, hk, -⟩ | ⟨-, e3⟩
      · exact absurd hk (h2 e0 hm)
      · rw [e3]; exact e2
    · have e2 : e1.val = (f key).getD z := (Result.ok.inj (hlk.symm.trans h1)).1.symm
      rcases hv0 with ⟨e0, hm, hk, e3⟩ | ⟨h2, -⟩
      · have he : e0 = e1 := by
          have hp := ((stamped_iff es clock).1 F.stamped).2.2
          have key2 : ∀ (L : List MapEntry), L.Pairwise (fun x y => x.key ≠ y.key) → e0 ∈ L → e1 ∈ L → e0 = e1 := by
            intro L hL
            induction L with
            | nil => intro h; cases h
            | cons a L ih =>
              intro h0 h1
              obtain ⟨p1, p2⟩ := List.pairwise_cons.1 hL
              rcases List.mem_cons.1 h0 with q1 | q1 <;> rcases List.mem_cons.1 h1 with q2 | q2
              · rw [q1, q2]
              · subst q1; exact absurd (hk.trans hk1.symm) (p1 e1 q2)
              · subst q2; exact absurd (hk1.trans hk.symm) (p1 e0 q1)
              · exact ih p2 q1 q2
          exact key2 _ hp hm hm1
        rw [e3, he]; exact e2
      · exact absurd hk1 (h2 e1 hm1)
  subst hv
  have hlt2 : b < (setBlock w b (.map es1 clock1)).heap.size := by simpa [setBlock] using hlt
  refine ⟨st, _, hrun, ⟨rfl, rfl, rfl, by simp [setBlock], fun i _ hi => heap_setBlock_other hb _ (fun e => hi (by rw [e]))⟩, hlt2, fun w2 val hw2 => ?_⟩
  rw [heap_setBlock_same hb] at hw2
  obtain ⟨es', clock', hr1, hr2⟩ := hent w2 val hw2
  obtain ⟨w', hs1, hs2, -⟩ := hst val
  have hw' : w' = setBlock w b (.map es' clock') := (Result.ok.inj (hs1.symm.trans hr2)).2
  subst hw'
  exact ⟨setBlock w2 b (.map es' clock'), hr1, MapF.of_block (w' := setBlock w2 b (.map es' clock')) hs2 ((heap_setBlock_same hw2 _).trans (heap_setBlock_same hb _).symm), ⟨rfl, rfl, rfl, by simp [setBlock], fun i _ hi => heap_setBlock_other hw2 _ (fun e => hi (by rw [e]))⟩⟩
theorem Ent.keep {t : TypeId} {key : Value} {w' : World} {st : Nat} (h : Ent t k b N f key w st) (hs : w.heap.size ≤ w'.heap.size) (e : w'.heap[b]? = w.heap[b]?) : Ent t k b N f key w' st :=
  ⟨Nat.lt_of_lt_of_le h.1 hs, fun w2 val hw => h.2 w2 val (hw.trans e)⟩
end
def vkv (k : V3) : Value := .agg #[.int .i64 k.q, .int .i64 k.n, .string k.s]
theorem vkv_inj {k k' : V3} : vkv k = vkv k' ↔ k = k' := by
  unfold vkv
  constructor
  · intro h; injection h with h; injection h with h; injection h with h1 h; injection h with h2 h; injection h with h3 _
    injection h1 with _ h1; injection h2 with _ h2; injection h3 with h3
    cases k; cases k'; simp only at h1 h2 h3; rw [h1, h2, h3]
  · intro h; rw [h]
theorem fltE_snoc_same {key : List Int} {k : V3} {L : List Evt} {x : Evt} (h : keyVE key x = some k) : fltE key k (L ++ [x]) = fltE key k L ++ [x] := by
  unfold fltE; rw [List.filter_append]; congr 1; simp [h]
theorem fltE_snoc_other {key : List Int} {k : V3} {L : List Evt} {x : Evt} (h : keyVE key x ≠ some k) : fltE key k (L ++ [x]) = fltE key k L := by
  unfold fltE; rw [List.filter_append]; simp [h]
section
variable {α : Type} {R : World → (Nat → Prop) → List Value → α → Prop} {w w' : World} {Y : Nat → Prop} {base : Nat} {te : TypeId} {sz : Nat} {v : Value} {l : List α}
/-- A list under way, while a row or a block outside of Y turns. -/
theorem Gq.away (hR : Rd R) (h : Gq w Y base te sz R v l) {row : Option Nat} (hg : w.grownBy w' row) (hb : ∀ b, row = some b → ¬ Y b) : Gq w' Y base te sz R v l := by
  cases row with
  | none => exact h.keep hR ⟨hg.os, hg.tape, hg.output, hg.size, fun k hk => hg.block k hk (by simp)⟩
  | some b => exact h.beside hR (hb b rfl) hg
end
/-- What each block is for: some none, for the keys; some (some k), for the events with the key k. -/
abbrev Col := Nat → Option (Option V3)
/-- A list under way, where its blocks are as they were. -/
theorem Gq.held {α : Type} {R : World → (Nat → Prop) → List Value → α → Prop} {w w' : World} {Y : Nat → Prop} {base : Nat} {te : TypeId} {sz : Nat} {v : Value} {l : List α} (hR : Rd R) (h : Gq w Y base te sz R v l) (hs : w.heap.size ≤ w'.heap.size) (hk : ∀ b, Y b → b < w.heap.size → w'.heap[b]? = w.heap[b]?) : Gq w' Y base te sz R v l := by
  obtain ⟨xs, hown, hy, hel⟩ := h
  refine ⟨xs, ⟨hown.1, ?_⟩, hy, fun j hj => ?_⟩
  · rcases hown.2 with h0 | ⟨g, cap, cur, e, h1, h2, h3⟩
    · exact .inl h0
    · refine .inr ⟨g, cap, cur, e, h1, ?_, h3⟩
      rw [hk g (hy g (by rw [e]; rfl)) (Array.getElem?_eq_some_iff.1 h2).1]; exact h2
  · obtain ⟨ys, h1, h2, h3⟩ := hel j hj
    exact ⟨ys, h1, h2, hR.more (fun c hc => ⟨hc.1, Nat.lt_of_lt_of_le hc.2.1 hs, hc.2.2⟩) (hR.keep ⟨hs, fun c hc hlt => hk c hc.1 hlt⟩ h3)⟩
/-- The keys and the groups, of the events L. -/
structure Grp (w : World) (base mb : Nat) (key : List Int) (L : List Evt) (u : Value) (f : Value → Option Value) (col : Col) (ks : List V3) : Prop where
  keys : Gq w (fun b => col b = some none) base 38 3 RV0 u ks
  grp : ∀ k : V3, (f (vkv k) = none ∧ fltE key k L = []) ∨ ∃ v, f (vkv k) = some v ∧ fltE key k L ≠ [] ∧ Gq w (fun b => col b = some (some k)) base 32 5 REv0 v (fltE key k L)
  map : col mb = none
  low : ∀ b, col b ≠ none → base ≤ b
/-- The blocks behind B are the keys' from now on, or those of a group. -/
def recol (col : Col) (B : Nat) (c : Option V3) : Col := fun b => if b < B then col b else some c
theorem recol_low {col : Col} {B : Nat} {c : Option V3} {b : Nat} (h : b < B) : recol col B c b = col b := if_pos h
theorem recol_new {col : Col} {B : Nat} {c : Option V3} {b : Nat} (h : B ≤ b) : recol col B c b = some c := if_neg (by omega)
theorem recol_bound {col : Col} {B base : Nat} {c : Option V3} (h : ∀ b, col b ≠ none → base ≤ b) (hB : base ≤ B) : ∀ b, recol col B c b ≠ none → base ≤ b := by
  intro b hb
  by_cases hlt : b < B
  · rw [recol_low hlt] at hb; exact h b hb
  · omega
section
variable {w w' : World} {base mb : Nat} {key : List Int} {L : List Evt} {u : Value} {f : Value → Option Value} {col col' : Col} {ks : List V3}
theorem Grp.start (w : World) (base mb : Nat) (key : List Int) : Grp w base mb key [] (.slice none 0 0) (fun _ => none) (fun _ => none) [] :=
  ⟨Gq.nil, fun k => .inl ⟨rfl, rfl⟩, rfl, fun _ h => absurd rfl h⟩
theorem Grp.keep (h : Grp w base mb key L u f col ks) (hb : Below w.heap.size w w') : Grp w' base mb key L u f col ks :=
  ⟨h.keys.keep rd_V0 hb, fun k => (h.grp k).imp id fun ⟨v, h1, h3, h4⟩ => ⟨v, h1, h3, h4.keep rd_Ev0 hb⟩, h.map, h.low⟩
/-- The group of a key, be it empty. -/
theorem Grp.at_ (h : Grp w base mb key L u f col ks) (k : V3) : Gq w (fun b => col b = some (some k)) base 32 5 REv0 ((f (vkv k)).getD (.slice none 0 0)) (fltE key k L) := by
  rcases h.grp k with ⟨h1, h3⟩ | ⟨v, h1, -, h4⟩
  · rw [h1, h3]; exact Gq.nil
  · rw [h1]; exact h4
/-- An event without a key. -/
theorem Grp.skip (h : Grp w base mb key L u f col ks) {x : Evt} (hx : keyVE key x = none) : Grp w base mb key (L ++ [x]) u f col ks := by
  refine ⟨h.keys, fun k => ?_, h.map, h.low⟩
  rw [fltE_snoc_other (by rw [hx]; simp)]
  exact h.grp k
/-- A key more. -/
theorem Grp.newkey (h : Grp w base mb key L u f col ks) (hmb : mb < w.heap.size) (hbs : base ≤ w.heap.size) {u' : Value} {ks' : List V3} (hg : Gq w' (fun b => recol col w.heap.size none b = some none) base 38 3 RV0 u' ks') (hgr : w.grownBy w' u.ownBlock) :
    Grp w' base mb key L u' f (recol col w.heap.size none) ks' := by
  refine ⟨hg, fun k => (h.grp k).imp id fun ⟨v, h1, h3, h4⟩ => ⟨v, h1, h3, ?_⟩, by rw [recol_low hmb]; exact h.map, recol_bound h.low hbs⟩
  refine (h4.less rd_Ev0 fun b hb hlt => (recol_low hlt).trans hb).held rd_Ev0 hgr.size fun b hb hlt => hgr.block b hlt fun e => ?_
  rw [recol_low hlt] at hb
  have := h.keys.inY b e.symm
  rw [this] at hb; cases hb
/-- An event more. -/
theorem Grp.add (h : Grp w base mb key L u f col ks) (hmb : mb < w.heap.size) (hbs : base ≤ w.heap.size) {x : Evt} {k : V3} (hx : keyVE key x = some k) {v' : Value} (hg : Gq w' (fun b => recol col w.heap.size (some k) b = some (some k)) base 32 5 REv0 v' (fltE key k L ++ [x]))
    (hs : w.heap.size ≤ w'.heap.size) (hk : ∀ b, b < w.heap.size → b ≠ mb → ((f (vkv k)).getD (.slice none 0 0)).ownBlock ≠ some b → w'.heap[b]? = w.heap[b]?) :
    Grp w' base mb key (L ++ [x]) u (updF f (vkv k) v') (recol col w.heap.size (some k)) ks := by
  have hfar : ∀ (c : Option V3) (b : Nat), c ≠ some k → recol col w.heap.size (some k) b = some c → b < w.heap.size → w'.heap[b]? = w.heap[b]? := by
    intro c b hc hb hlt
    rw [recol_low hlt] at hb
    refine hk b hlt (fun e => ?_) fun e => ?_
    · rw [e, h.map] at hb; cases hb
    · have := (h.at_ k).inY b e
      rw [this] at hb; injection hb with hb; exact hc hb.symm
  refine ⟨(h.keys.less rd_V0 fun b hb hlt => (recol_low hlt).trans hb).held rd_V0 hs fun b hb hlt => hfar none b (by simp) hb hlt, fun k' => ?_, by rw [recol_low hmb]; exact h.map, recol_bound h.low hbs⟩
  by_cases hkk : k' = k
  · subst hkk
    exact .inr ⟨v', by simp [updF], by rw [fltE_snoc_same hx]; simp, by rw [fltE_snoc_same hx]; exact hg⟩
  · have hne : vkv k' ≠ vkv k := fun e => hkk (vkv_inj.1 e)
    rw [fltE_snoc_other (by rw [hx]; simp [Ne.symm hkk]), show updF f (vkv k) v' (vkv k') = f (vkv k') from if_neg hne]
    exact (h.grp k').imp id fun ⟨v, h1, h3, h4⟩ => ⟨v, h1, h3, (h4.less rd_Ev0 fun b hb hlt => (recol_low hlt).trans hb).held rd_Ev0 hs fun b hb hlt => hfar (some k') b (by simp [hkk]) hb hlt⟩
end
/-- The keys are those of the events. -/
def KsOf (key : List Int) (L : List Evt) (ks : List V3) : Prop := ∀ k, k ∈ ks ↔ fltE key k L ≠ []
theorem ksOf_nil (key : List Int) : KsOf key [] [] := fun k => ⟨fun h => absurd h List.not_mem_nil, fun h => absurd rfl h⟩
theorem KsOf.skip {key : List Int} {L : List Evt} {ks : List V3} (h : KsOf key L ks) {x : Evt} (hx : keyVE key x = none) : KsOf key (L ++ [x]) ks := fun k => by
  rw [fltE_snoc_other (by rw [hx]; simp)]; exact h k
theorem KsOf.old {key : List Int} {L : List Evt} {ks : List V3} (h : KsOf key L ks) {x : Evt} {k : V3} (hx : keyVE key x = some k) (hk : fltE key k L ≠ []) : KsOf key (L ++ [x]) ks := fun k' => by
  by_cases hkk : k' = k
  · subst hkk; rw [fltE_snoc_same hx]; exact ⟨fun _ => by simp, fun _ => (h k').2 hk⟩
  · rw [fltE_snoc_other (by rw [hx]; simp [Ne.symm hkk])]; exact h k'
theorem KsOf.new {key : List Int} {L : List Evt} {ks : List V3} (h : KsOf key L ks) {x : Evt} {k : V3} (hx : keyVE key x = some k) : KsOf key (L ++ [x]) (ks ++ [k]) := fun k' => by
  by_cases hkk : k' = k
  · subst hkk; rw [fltE_snoc_same hx]; simp
  · rw [fltE_snoc_other (by rw [hx]; simp [Ne.symm hkk]), ← h k']; simp [hkk]
theorem KsOf.mem {key : List Int} {L : List Evt} {ks : List V3} (h : KsOf key L ks) (k : V3) : k ∈ ks ↔ ∃ x ∈ L, keyVE key x = some k := by
  rw [h k]
  constructor
  · intro h3; obtain ⟨x, hx⟩ := List.exists_mem_of_ne_nil _ h3; exact ⟨x, mem_fltE.1 hx⟩
  · rintro ⟨x, hx, hk⟩ e
    have : x ∈ fltE key k L := mem_fltE.2 ⟨hx, hk⟩
    rw [e] at this; cases this
end Go.Proofs.Ytbendimkejndiaa
