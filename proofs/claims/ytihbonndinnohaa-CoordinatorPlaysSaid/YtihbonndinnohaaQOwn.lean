/- coordinator.own: an attempt with lists of its own. -/
import Derived.Test.YtihbonndinnohaaQFind
import Derived.Deep.RegionLaw
namespace Go.Proofs.Ytihbonndinnohaa
open Go.RowKit
set_option linter.unusedVariables false
set_option linter.unusedSimpArgs false
section
variable {w w' : World} {base : Nat} {te : TypeId} {sz n : Nat} {v : Value} {xs : List Value}
theorem own_keep (h : w.ownsRow base te sz v n xs) (hb : Below w.heap.size w w') : w'.ownsRow base te sz v n xs :=
  h.kept (row := none) ⟨hb.os, hb.tape, hb.output, hb.size, fun k hk _ => hb.block k hk⟩ (by
    cases hv : v.ownBlock with
    | none => exact .inl rfl
    | some k => exact .inr (by simp))
theorem own_set (h : w.ownsRow base te sz v n xs) {p : Addr} (hp : v.ownBlock ≠ some p.block) (u : Value) : (w.setCell p u).ownsRow base te sz v n xs := by
  refine h.kept (row := some p.block) ⟨rfl, rfl, rfl, by simp [World.setCell], fun k _ hk => Below.heap_setCell w p u k (fun hh => hk (by rw [hh]))⟩ ?_
  cases hv : v.ownBlock with
  | none => exact .inl rfl
  | some k => exact .inr (fun hh => hp (by rw [hv, ← hh]))
theorem own_set_lt (h : w.ownsRow base te sz v n xs) {p : Addr} (hp : p.block < base) (u : Value) : (w.setCell p u).ownsRow base te sz v n xs :=
  own_set h (fun e => by have := (h.lt _ e).1; omega) u
theorem own_form (h : w.ownsRow base te sz v n xs) : ∃ A cap, v = .slice A n cap := by
  rcases h.2 with ⟨rfl, h0⟩ | ⟨g, cap, cur, rfl, -⟩
  · exact ⟨none, 0, by rw [h0]⟩
  · exact ⟨_, _, rfl⟩
theorem own_drew (h : w.drew.ownsRow base te sz v n xs) : w.ownsRow base te sz v n xs := h
end
/-- What own returns: three lists of its own memory, one behind another. -/
def RetOwnA (w : World) (num : Int) (cr co ch : List (List Value)) (e : Ending) (w' : World) : Prop :=
  ∃ v u t s1 s2, e = .returned (.agg #[.int .i64 num, v, u, t]) ∧ w.heap.size ≤ s1 ∧ s1 ≤ s2 ∧ s2 ≤ w'.heap.size ∧
    w'.ownsRow w.heap.size 68 6 v cr.length cr.flatten ∧ (∀ k, v.ownBlock = some k → k < s1) ∧
    w'.ownsRow s1 42 2 u co.length co.flatten ∧ (∀ k, u.ownBlock = some k → k < s2) ∧
    w'.ownsRow s2 4 1 t ch.length ch.flatten ∧ Below w.heap.size w w'
theorem own_more {w : World} {base b : Nat} {te : TypeId} {sz n : Nat} {v : Value} {xs : List Value} (h : w.ownsRow base te sz v n xs) (hb : b ≤ base) : w.ownsRow b te sz v n xs := by
  refine ⟨h.1, ?_⟩
  rcases h.2 with h0 | ⟨g, cap, cur, e, hg, r⟩
  · exact .inl h0
  · exact .inr ⟨g, cap, cur, e, by omega, r⟩
/-- Both boxes written, behind the three copies. -/
theorem own_fin {w W0 wa wb wc : World} {num : Int} {cr co ch : List (List Value)} {v u t : Value} (hz : W0.heap.size = w.heap.size + 2) (h0 : Below w.heap.size w W0)
    (ho1 : wa.ownsRow W0.heap.size 68 6 v cr.length cr.flatten) (ho2 : wb.ownsRow wa.heap.size 42 2 u co.length co.flatten) (ho3 : wc.ownsRow wb.heap.size 4 1 t ch.length ch.flatten)
    (hb1 : Below W0.heap.size W0 wa) (hb2 : Below wa.heap.size wa wb) (hb3 : Below wb.heap.size wb wc) (x1 x2 x3 y0 y1 y2 y3 : Value) :
    RetOwnA w num cr co ch (.returned (.agg #[.int .i64 num, v, u, t])) (((((((wc.setCell ⟨w.heap.size, 1, none⟩ x1).setCell ⟨w.heap.size, 2, none⟩ x2).setCell ⟨w.heap.size, 3, none⟩ x3).setCell ⟨w.heap.size + 1, 0, none⟩ y0).setCell ⟨w.heap.size + 1, 1, none⟩ y1).setCell ⟨w.heap.size + 1, 2, none⟩ y2).setCell ⟨w.heap.size + 1, 3, none⟩ y3) := by
  have s1 := hb1.size
  have s2 := hb2.size
  have s3 := hb3.size
  have hs : ∀ {base : Nat} {te : TypeId} {sz n : Nat} {v : Value} {xs : List Value}, w.heap.size + 2 ≤ base → wc.ownsRow base te sz v n xs → (((((((wc.setCell ⟨w.heap.size, 1, none⟩ x1).setCell ⟨w.heap.size, 2, none⟩ x2).setCell ⟨w.heap.size, 3, none⟩ x3).setCell ⟨w.heap.size + 1, 0, none⟩ y0).setCell ⟨w.heap.size + 1, 1, none⟩ y1).setCell ⟨w.heap.size + 1, 2, none⟩ y2).setCell ⟨w.heap.size + 1, 3, none⟩ y3).ownsRow base te sz v n xs := by
    intro base te sz n v xs hb h
    exact own_set_lt (own_set_lt (own_set_lt (own_set_lt (own_set_lt (own_set_lt (own_set_lt h (p := ⟨w.heap.size, 1, none⟩) (by show w.heap.size < base; omega) _) (p := ⟨w.heap.size, 2, none⟩) (by show w.heap.size < base; omega) _) (p := ⟨w.heap.size, 3, none⟩) (by show w.heap.size < base; omega) _) (p := ⟨w.heap.size + 1, 0, none⟩) (by show w.heap.size + 1 < base; omega) _) (p := ⟨w.heap.size + 1, 1, none⟩) (by show w.heap.size + 1 < base; omega) _) (p := ⟨w.heap.size + 1, 2, none⟩) (by show w.heap.size + 1 < base; omega) _) (p := ⟨w.heap.size + 1, 3, none⟩) (by show w.heap.size + 1 < base; omega) _
  have hsz : ∀ (W : World) (p : Addr) (x : Value), (W.setCell p x).heap.size = W.heap.size := by intro W p x; simp [World.setCell]
  refine ⟨v, u, t, wa.heap.size, wb.heap.size, rfl, by omega, s2, by simp only [hsz]; exact s3, own_more (hs (by omega) (own_keep (own_keep ho1 hb2) hb3)) (by omega), fun k hk => (ho1.lt k hk).2, hs (by omega) (own_keep ho2 hb3), fun k hk => (ho2.lt k hk).2, hs (by omega) ho3, ?_⟩
  have hb : Below w.heap.size w wc := h0.trans ((hb1.mono (by omega)).trans ((hb2.mono (by omega)).trans (hb3.mono (by omega))))
  exact ((((((hb.setCell (p := ⟨w.heap.size, 1, none⟩) (Nat.le_refl _) _).setCell (p := ⟨w.heap.size, 2, none⟩) (Nat.le_refl _) _).setCell (p := ⟨w.heap.size, 3, none⟩) (Nat.le_refl _) _).setCell (p := ⟨w.heap.size + 1, 0, none⟩) (Nat.le_succ _) _).setCell (p := ⟨w.heap.size + 1, 1, none⟩) (Nat.le_succ _) _).setCell (p := ⟨w.heap.size + 1, 2, none⟩) (Nat.le_succ _) _).setCell (p := ⟨w.heap.size + 1, 3, none⟩) (Nat.le_succ _) _
section
variable (w : World) (num : Int) (A1 A2 A3 : Option Addr) (n1 n2 n3 c1 c2 c3 : Nat) (cr co ch : List (List Value))
set_option maxRecDepth 100000 in
set_option maxHeartbeats 8000000 in
theorem own_any (h1 : Lq w 6 RWq (.slice A1 n1 c1) cr) (h2 : Lq w 2 RWq (.slice A2 n2 c2) co) (h3 : Lq w 1 RWq (.slice A3 n3 c3) ch) (e1 : cr.length = n1) (e2 : co.length = n2) (e3 : ch.length = n3) (b1 : n1 ≤ 1000) (b2 : n2 ≤ 1000) (b3 : n3 ≤ 1000) :
    Calls Try.prog 45 #[.agg #[.int .i64 num, .slice A1 n1 c1, .slice A2 n2 c2, .slice A3 n3 c3]] w (RetOwnA w num cr co ch) := by
  have HC1 := hide (fun (w' : World) (hb : Below w.heap.size w w') => show Calls Try.prog 34 #[.slice A1 n1 c1] w' (RetCp w' 68 6 cr) by have := copied_reader A1 c1 cr w' (· < w'.heap.size) (by rw [e1]; exact h1.grow rd_Wq hb) (by omega); rwa [e1] at this)
  have HC2 := hide (fun (w' : World) (hb : Below w.heap.size w w') => show Calls Try.prog 59 #[.slice A2 n2 c2] w' (RetCp w' 42 2 co) by have := copied_operator A2 c2 co w' (· < w'.heap.size) (by rw [e2]; exact h2.grow rd_Wq hb) (by omega); rwa [e2] at this)
  have HC3 := hide (fun (w' : World) (hb : Below w.heap.size w w') => show Calls Try.prog 60 #[.slice A3 n3 c3] w' (RetCp w' 4 1 ch) by have := copied_bool A3 c3 ch w' (· < w'.heap.size) (by rw [e3]; exact h3.grow rd_Wq hb) (by omega); rwa [e3] at this)
  clear h1 h2 h3 e1 e2 e3
  go_enter Try.func45, Try.ntmps45
  go_wp2
  obtain ⟨W0, hW⟩ : ∃ W0, (w.alloc (.cells #[.int .i64 num, .slice A1 n1 c1, .slice A2 n2 c2, .slice A3 n3 c3] 51)).alloc (.cells #[.int .i64 0, .slice none 0 0, .slice none 0 0, .slice none 0 0] 51) = W0 := ⟨_, rfl⟩
  have hz0 : W0.heap.size = w.heap.size + 2 := by rw [← hW]; simp
  have HB0 := hide (show Below w.heap.size w W0 by rw [← hW]; exact (below_laid _).alloc (by simp) _)
  have x0 : ∀ j u, ([.int .i64 num, .slice A1 n1 c1, .slice A2 n2 c2, .slice A3 n3 c3] : List Value)[j]? = some u → W0.cell? ⟨w.heap.size, j, none⟩ = some u := by
    intro j u hj
    rw [← hW, World.cell?_alloc_lt _ _ _ (by simp)]
    exact cells_lit w [.int .i64 num, .slice A1 n1 c1, .slice A2 n2 c2, .slice A3 n3 c3] _ j u hj
  have z0 : ∀ j u, ([.int .i64 0, .slice none 0 0, .slice none 0 0, .slice none 0 0] : List Value)[j]? = some u → W0.cell? ⟨w.heap.size + 1, j, none⟩ = some u := by
    intro j u hj
    rw [← hW]
    have := cells_lit (w.alloc (.cells #[.int .i64 num, .slice A1 n1 c1, .slice A2 n2 c2, .slice A3 n3 c3] 51)) [.int .i64 0, .slice none 0 0, .slice none 0 0, .slice none 0 0] 51 j u hj
    simpa using this
  have fx : ∀ j, W0.frozen? ⟨w.heap.size, j, none⟩ = false := by intro j; rw [← hW]; clear x0 z0 HB0 hz0 hW; go_simp
  have fz : ∀ j, W0.frozen? ⟨w.heap.size + 1, j, none⟩ = false := by intro j; rw [← hW]; clear x0 z0 HB0 hz0 fx hW; go_simp
  rw [hW]
  clear hW
  have a0 := x0 0 _ rfl
  have a1 := x0 1 _ rfl
  have a2 := x0 2 _ rfl
  have a3 := x0 3 _ rfl
  have g1 := fx 1
  have g2 := fx 2
  have g3 := fx 3
  clear x0
  go_region_law (first
    | (go_simp; go_at_call 34; refine (HC1.out _ (below_drewN HB0.out 1)).mono ?_; rintro e wa ⟨va, rfl, ho1, hb1'⟩; obtain ⟨B1, q1, rfl⟩ := own_form ho1; have hb1 : Below W0.heap.size W0 wa := below_undrew hb1'; have i2 := keep1 hb1 a2; have i3 := keep1 hb1 a3)
    | (go_simp; go_at_call 59; refine (HC2.out _ (HB0.out.trans (hb1.mono (by omega)))).mono ?_; rintro e wb ⟨vb, rfl, ho2, hb2'⟩; obtain ⟨B2, q2, rfl⟩ := own_form ho2; have hb2 : Below W0.heap.size W0 wb := bthen hb1 hb2'; have l3 := keep1 hb2 a3)
    | (go_simp; go_at_call 60; refine (HC3.out _ (HB0.out.trans (hb2.mono (by omega)))).mono ?_; rintro e wc ⟨vc, rfl, ho3, hb3'⟩; obtain ⟨B3, q3, rfl⟩ := own_form ho3; have hb3 : Below W0.heap.size W0 wc := bthen hb2 hb3'; have j1 := keep1 hb3 a1; have j2 := keep1 hb3 a2; have j3 := keep1 hb3 a3; have k1 := ((bcell hb3).2 _ 1 (by omega)).trans g1; have k2 := ((bcell hb3).2 _ 2 (by omega)).trans g2; have k3 := ((bcell hb3).2 _ 3 (by omega)).trans g3; have HFIN := hide (own_fin (num := num) hz0 HB0.out ho1 ho2 ho3 hb1 hb2' hb3'); have HZ3 := hide (fun j u hj => keep1 hb3 (z0 j u hj)); have HF3 := hide (fun j => ((bcell hb3).2 (w.heap.size + 1) j (by omega)).trans (fz j)); have HA0 := hide (keep1 hb3 a0)))
  all_goals
    have m0 := HA0.out
    have n0 := HZ3.out 0 _ rfl
    have n1 := HZ3.out 1 _ rfl
    have n2 := HZ3.out 2 _ rfl
    have n3 := HZ3.out 3 _ rfl
    have o0 := HF3.out 0
    have o1 := HF3.out 1
    have o2 := HF3.out 2
    have o3 := HF3.out 3
    clear ho1 ho2 ho3 hb1 hb2 hb1' hb2' hb3 hb3' a0 a1 a2 a3 g1 g2 g3 HZ3 HF3 HA0 HC1 HC2 HC3 z0 fx fz
    go_wp2
    refine bodyPost_ret (v := .agg #[.int .i64 num, .slice B1 cr.length q1, .slice B2 co.length q2, .slice B3 ch.length q3]) (by rw [results_c rfl]; go_simp) rfl ?_
    exact HFIN.out _ _ _ _ _ _ _
end
end Go.Proofs.Ytihbonndinnohaa
