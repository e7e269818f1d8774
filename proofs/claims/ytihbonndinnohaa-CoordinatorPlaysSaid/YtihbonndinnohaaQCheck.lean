/- coordinator.Check. -/
import Derived.Test.YtihbonndinnohaaQAt
namespace Go.Proofs.Ytihbonndinnohaa
open Go.RowKit Go.Shelf
set_option linter.unusedVariables false
set_option linter.unusedSimpArgs false
attribute [local go_sem] Oper.semAt_some
theorem results_c {fn : Func} {p : Tmp} {ty : TypeId} (h : fn.results = #[.cell p ty]) (tmps : Array Value) (P : Program) (w : World) :
    (results fn tmps).run P w = ((asAddr (tmps.getD p undef)).run P w).andThen fun a w₁ => (loadVar ty a).run P w₁ := by
  simp only [results, h]
  simp [Sem.run_bind, Result.andThen]
theorem keepsFrom_below {B : Nat} {W W' : World} (h : Below W.heap.size W W') : KeepsFrom B W W' := ⟨h.size, fun k o _ hk _ => by rw [h.block k (Array.getElem?_eq_some_iff.1 hk).1]; exact hk⟩
theorem keepsFrom_set {B : Nat} {W W' : World} (h : KeepsFrom B W W') {p : Addr} (hp : p.block < B) (v : Value) : KeepsFrom B W (W'.setCell p v) :=
  h.trans ⟨by simp [World.setCell], fun k o hk h _ => by rw [Below.heap_setCell _ _ _ _ (by omega)]; exact h⟩
theorem below_set_both {m : Nat} {a b : World} (h : Below m a b) (p : Addr) (v : Value) : Below m (a.setCell p v) (b.setCell p v) := by
  refine ⟨h.os, h.tape, h.output, ?_, fun k hk => ?_⟩
  · have := h.size; simpa [World.setCell] using this
  · have hb := h.block k hk
    by_cases e : k = p.block
    · subst e
      show (b.heap.modify p.block _)[p.block]? = (a.heap.modify p.block _)[p.block]?
      rw [Array.getElem?_modify, Array.getElem?_modify, if_pos rfl, if_pos rfl, hb]
    · rw [Below.heap_setCell _ _ _ _ e, Below.heap_setCell _ _ _ _ e, hb]
theorem cell_putObj {W : World} {D : Nat} {ds : List Deferred} (hD : W.heap[D]? = some (.deferred (some ds))) (o' : Obj) {p : Addr} (hc : W.cell? p ≠ none) : (W.putObj D o').cell? p = W.cell? p := by
  refine World.cell?_of_block ?_
  have hne : p.block ≠ D := fun e => hc (by simp [World.cell?, e, hD])
  have hlt : p.block < W.heap.size := by
    rcases Nat.lt_or_ge p.block W.heap.size with h | h
    · exact h
    · exact absurd (by simp [World.cell?, h]) hc
  exact (grownBy_putObj' W D o').block _ hlt (fun e => by injection e with e; exact hne e)
/-- A function whose result lies in one cell leaves, with one mark among its deferred calls. -/
theorem leave_c {F : Fence} {n : Nat} {P : Program} {fn : Func} {R : Ending → World → Prop} {tmps : Array Value} {D o i : Nat} {T : TypeId} {x : Value} {W : World} (hfn : fn.results = #[.cell i T])
    (hl : ∀ w' : World, w'.cell? ⟨o, 0, none⟩ = some x → (loadVar T ⟨o, 0, none⟩).run P w' = .ok x w') (ht : tmps.getD i undef = .pointer (some ⟨o, 0, none⟩)) (hD : W.heap[D]? = some (.deferred (some []))) (c0 : W.cell? ⟨o, 0, none⟩ = some x)
    (hR : R (.returned x) (W.putObj D (.deferred none))) : bodyPostM F n P fn R .ret { tmps := tmps, defers := [{ target := .collected D, args := #[] }] } W := by
  refine ⟨by simp, .inl ⟨_, _, rfl, run_takeDeferred hD, ?_⟩⟩
  refine ⟨_, ?_, hR⟩
  have k0 := (cell_putObj hD (.deferred none) (by rw [c0]; simp)).trans c0
  rw [results_c hfn, ht]
  simp only [asAddr, Sem.run_pure, Result.andThen, hl _ k0]
theorem nums_t {c : Cq} (h : numsOk c = true) : 1 ≤ c.next ∧ c.next ≤ 1099511627776 ∧ 0 ≤ c.dur ∧ c.dur < c.next := by
  unfold numsOk at h
  simp only [Bool.and_eq_true, decide_eq_true_eq] at h
  omega
theorem nums_f {c : Cq} (h : numsOk c = false) : btw c.next 1 1099511627776 = false ∨ (btw c.next 1 1099511627776 = true ∧ btw c.dur 0 (c.next - 1) = false) := by
  unfold numsOk at h
  unfold btw
  simp only [Bool.and_eq_false_iff, decide_eq_false_iff_not, decide_eq_true_eq] at h ⊢
  omega
section
variable (c : Cq) (A : Option Addr) (cap : Nat) (w : World)
set_option maxRecDepth 100000 in
set_option maxHeartbeats 2000000 in
theorem chk_bad (hbad : numsOk c = false) :
    Calls Try.prog 13 #[.agg #[.int .i64 c.next, .slice A c.atts.length cap, .int .i64 c.dur]] w (Ret (.int .i64 2) w) := by
  have HK1 := hide (btw_any c.next 1 1099511627776)
  have HK2 := hide (btw_any c.dur 0 (c.next - 1))
  rcases nums_f hbad with h1 | ⟨h1, h2⟩
  · rw [h1] at HK1
    clear h1 hbad HK2
    go_enter Try.func13, Try.ntmps13
    go_wp2_with fail
    refine (HK1.out _).mono ?_
    rintro e w1 ⟨rfl, rfl⟩
    go_wp2
    refine bodyPost_ret (v := .int .i64 2) (by rw [results_c rfl]; go_simp) rfl ?_
    exact Ret.int rfl ((((Below.refl _ _).alloc (Nat.le_refl _) _).alloc (by simp) _))
  · have hb := btw_iff.1 h1
    rw [h1] at HK1
    rw [h2] at HK2
    clear h1 hbad h2
    go_enter Try.func13, Try.ntmps13
    go_wp2_with fail
    refine (HK1.out _).mono ?_
    rintro e w1 ⟨rfl, rfl⟩
    go_wp2_with fail
    refine (HK2.out _).mono ?_
    rintro e w1 ⟨rfl, rfl⟩
    go_wp2
    refine bodyPost_ret (v := .int .i64 2) (by rw [results_c rfl]; go_simp) rfl ?_
    exact Ret.int rfl ((((Below.refl _ _).alloc (Nat.le_refl _) _).alloc (by simp) _))
set_option maxRecDepth 100000 in
set_option maxHeartbeats 2000000 in
theorem chk_many (hok : numsOk c = true) (hm : 256 < c.atts.length) (hmx : c.atts.length ≤ maxLen) :
    Calls Try.prog 13 #[.agg #[.int .i64 c.next, .slice A c.atts.length cap, .int .i64 c.dur]] w (Ret (.int .i64 5) w) := by
  unfold maxLen at hmx
  obtain ⟨b1, b2, b3, b4⟩ := nums_t hok
  have HK1 := hide (btw_any c.next 1 1099511627776)
  have HK2 := hide (btw_any c.dur 0 (c.next - 1))
  rw [btw_t b1 b2] at HK1
  rw [btw_t b3 (by omega)] at HK2
  have hd : decide ((256 : Int) < (c.atts.length : Int)) = true := decide_eq_true (by omega)
  clear hok hm
  go_enter Try.func13, Try.ntmps13
  go_wp2_with fail
  refine (HK1.out _).mono ?_
  rintro e w1 ⟨rfl, rfl⟩
  go_wp2_with fail
  refine (HK2.out _).mono ?_
  rintro e w1 ⟨rfl, rfl⟩
  go_wp2
  refine bodyPost_ret (v := .int .i64 5) (by rw [results_c rfl]; go_simp) rfl ?_
  exact Ret.int rfl ((((Below.refl _ _).alloc (Nat.le_refl _) _).alloc (by simp) _))
end
end Go.Proofs.Ytihbonndinnohaa
