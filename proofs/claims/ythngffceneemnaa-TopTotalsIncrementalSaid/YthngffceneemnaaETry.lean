/- tryEvents: events whose only fields are the values of a list. -/
import Derived.Test.YthngffceneemnaaELeaf
namespace Go.Proofs.Ythngffceneemnaa
open Go.RowKit
set_option linter.unusedVariables false
set_option linter.unusedSimpArgs false
/-- The cells of the first j events over a list at (g, off). -/
def evc (g off cap : Nat) (j : Nat) : List Value := (List.range j).flatMap fun i => [.int .i64 0, .int .i64 (i : Nat), .int .i64 0, .int .i64 0, .slice (some ⟨g, off + i * 3, none⟩) 1 (cap - i)]
theorem evc_succ (g off cap j : Nat) : evc g off cap (j + 1) = evc g off cap j ++ [.int .i64 0, .int .i64 (j : Nat), .int .i64 0, .int .i64 0, .slice (some ⟨g, off + j * 3, none⟩) 1 (cap - j)] := by simp [evc, List.range_succ]
theorem evc_len (g off cap j : Nat) : (evc g off cap j).length = j * 5 := by
  induction j with
  | zero => rfl
  | succ j ih => rw [evc_succ, List.length_append, ih]; simp; omega
theorem evc_at (g off cap : Nat) : ∀ n j, j < n → ∀ c u, ([.int .i64 0, .int .i64 (j : Nat), .int .i64 0, .int .i64 0, .slice (some ⟨g, off + j * 3, none⟩) 1 (cap - j)] : List Value)[c]? = some u → (evc g off cap n)[j * 5 + c]? = some u := by
  intro n
  induction n with
  | zero => intro j hj; omega
  | succ n ih =>
    intro j hj c u hu
    have hc : c < 5 := by
      have := (List.getElem?_eq_some_iff.1 hu).1
      simpa using this
    rw [evc_succ]
    by_cases h : j < n
    · rw [List.getElem?_append_left (by rw [evc_len]; omega)]
      exact ih j h c u hu
    · obtain rfl : j = n := by omega
      rw [List.getElem?_append_right (by rw [evc_len]; omega), evc_len, show j * 5 + c - j * 5 = c by omega]
      exact hu
theorem own_cellsN {w : World} {base : Nat} {e : TypeId} {sz : Nat} {v : Value} {n : Nat} {xs : List Value} (h : w.ownsRow base e sz v n xs) (hn : 0 < n) :
    ∃ g cap, v = .slice (some ⟨g, 0, none⟩) n cap ∧ base ≤ g ∧ g < w.heap.size ∧ n ≤ cap ∧ ∀ j u, xs[j]? = some u → w.cell? ⟨g, j, none⟩ = some u := by
  have hc := @World.ownsRow.cells w base e sz v n xs h
  rcases h.2 with ⟨_, h0⟩ | ⟨g, cap, cur, rfl, hb, hg, hnc, _⟩
  · omega
  · refine ⟨g, cap, rfl, hb, (Array.getElem?_eq_some_iff.1 hg).1, hnc, fun j u hu => ?_⟩
    have := hc (g := g) rfl j u hu
    rwa [show (⟨g, 0, none⟩ : Addr).add j = ⟨g, j, none⟩ by unfold Addr.add; split <;> simp_all] at this
theorem evs_of {w : World} {g off cap : Nat} {L : List V3} {base : Nat} {v : Value} (hrow : ∀ j u, (flat L)[j]? = some u → w.cell? ⟨g, off + j, none⟩ = some u) (hg : g < w.heap.size)
    (hown : w.ownsRow base 49 5 v L.length (evc g off cap L.length)) : Evs w v L := by
  have hr := Row.of_own hown
  refine ⟨hr.form, fun j hj => ?_⟩
  obtain ⟨g', cap', rfl, _, hg', hn, hc⟩ := own_cellsN hown (by omega)
  refine ⟨g', 0, cap', rfl, ?_⟩
  have hx := evc_at g off cap L.length j hj
  obtain ⟨f1, f2, f3⟩ := flat_at L j hj
  have key : ∀ c u, ([.int .i64 0, .int .i64 (j : Nat), .int .i64 0, .int .i64 0, .slice (some ⟨g, off + j * 3, none⟩) 1 (cap - j)] : List Value)[c]? = some u → w.cell? ⟨g', 0 + j * 5 + c, none⟩ = some u := by
    intro c u hu
    rw [Nat.zero_add]
    exact hc _ _ (hx c u hu)
  refine ⟨0, j, 0, 0, g, off + j * 3, 1, cap - j, Nat.le_refl _, hg', hg, key 0 _ rfl, key 1 _ rfl, key 2 _ rfl, key 3 _ rfl, key 4 _ rfl, ?_, ?_, ?_⟩
  · exact hrow _ _ f1
  · rw [show off + j * 3 + 1 = off + (j * 3 + 1) by omega]; exact hrow _ _ f2
  · rw [show off + j * 3 + 2 = off + (j * 3 + 2) by omega]; exact hrow _ _ f3
theorem own_formV {w : World} {base : Nat} {te : TypeId} {sz n : Nat} {v : Value} {xs : List Value} (h : w.ownsRow base te sz v n xs) : ∃ A m c, v = .slice A m c := by
  rcases h.2 with ⟨rfl, -⟩ | ⟨g, cap, cur, rfl, -⟩
  · exact ⟨_, _, _, rfl⟩
  · exact ⟨_, _, _, rfl⟩
theorem own_set {w : World} {base : Nat} {te : TypeId} {sz n : Nat} {v : Value} {xs : List Value} (h : w.ownsRow base te sz v n xs) {a : Addr} (ha : a.block < base) (u : Value) : (w.setCell a u).ownsRow base te sz v n xs := by
  refine h.kept (row := some a.block) ⟨rfl, rfl, rfl, by simp [World.setCell], fun k _ hk => Below.heap_setCell w a u k (fun hh => hk (by rw [hh]))⟩ ?_
  cases hv : v.ownBlock with
  | none => exact .inl rfl
  | some k => exact .inr (fun hh => by have := (h.lt k hv).1; injection hh with hh; omega)
theorem laid_free (w : World) (xs : Array Value) (t : TypeId) (j : Nat) : (w.alloc (.cells xs t)).frozen? ⟨w.heap.size, j, none⟩ = false := by
  unfold World.frozen?
  rw [show (⟨w.heap.size, j, none⟩ : Addr).block = w.heap.size from rfl, heap_alloc_new]
  simp
theorem evs_nil {w : World} {v : Value} {L : List V3} (h : L.length = 0) (hf : ∃ A cap, v = .slice A L.length cap) : Evs w v L := ⟨hf, fun j hj => by omega⟩
theorem info_event : (Try.prog.info? 49).map (fun i => (i.zero, i.size, i.bytes)) = some (some (.agg #[.int .i64 0, .int .i64 0, .int .i64 0, .int .i64 0, .slice none 0 0]), 5, 56) := by kernel_rfl
/-- An environment of one variable, whose events have the values of a list. -/
def RetEnv (L : List V3) (w : World) (e : Ending) (w' : World) : Prop := ∃ g E, e = .returned (.agg #[.slice (some ⟨g, 0, none⟩) 1 1]) ∧ w'.cell? ⟨g, 0, none⟩ = some E ∧ Evs w' E L ∧ Below w.heap.size w w'
set_option maxRecDepth 100000 in
set_option maxHeartbeats 4000000 in
theorem tryev_any (L : List V3) (w : World) (v : Value) (hl : L.length ≤ 4096) (hv : Row w w.heap.size 3 v L.length (flat L)) :
    Calls Try.prog 13 #[v] w (RetEnv L w) := by
  have HV := hide hv
  obtain ⟨A, cap, rfl⟩ := hv.form
  obtain ⟨i0, hi0, hz0, hz1, hz2⟩ := info_parts info_event
  obtain ⟨m, hm⟩ : ∃ m, L.length = m := ⟨_, rfl⟩
  rw [hm] at hl HV ⊢
  have HM := hide hm
  clear hv hm
  rcases Nat.eq_zero_or_pos m with rfl | hpos
  · go_enter Try.func13, Try.ntmps13
    go_wp2
    refine wp_loop_rounds 1 ?_
    rw [rounds_succ]
    go_wp2
    refine bodyPost_ret (v := .agg #[.slice (some ⟨w.heap.size + 1, 0, none⟩) 1 1]) (by rw [results_c rfl]; go_simp) rfl ?_
    refine ⟨w.heap.size + 1, .slice none 0 0, rfl, ?_, evs_nil HM.out ⟨none, 0, by rw [HM.out]⟩, ?_⟩
    · have := cells_lit (w.alloc (.cells #[.slice (some ⟨w.heap.size + 1, 0, none⟩) 1 1] 46)) [.slice none 0 0] 51 0 _ rfl
      rw [World.size_alloc] at this
      exact this
    · exact (below_laid (w := w) _).alloc (by rw [World.size_alloc]; omega) _
  · obtain ⟨g, off, cap', e1, hg, hcap, hcell⟩ := HV.out.at_ hpos
    cases e1
    have HCL := hide hcell
    clear hcell
    go_enter Try.func13, Try.ntmps13
    go_wp2
    go_loopw [3, 7] (fun v i wr => ∃ j : Nat, j ≤ m ∧ i = .int .i64 j ∧ wr.ownsRow (w.heap.size + 1) 49 5 v j (evc g off cap j) ∧ Below (w.heap.size + 1) (w.alloc (.cells #[.slice none 0 0] 46)) wr) (fun _ i _ => m - (intOf i).toNat)
    case atStart => exact ⟨0, by omega, rfl, World.ownsRow_nil _ _ _ _, Below.refl _ _⟩
    case round =>
      obtain ⟨j, hj, rfl, hown, hB⟩ := hrel
      by_cases hlt : j < m
      · have HS := hide (evc_succ g off cap j)
        have hu0 : (0 : Int) ≤ (j : Int) := by omega
        have hu1 : (j : Int) < (m : Int) := by omega
        have hu2 : (j : Int) + 1 ≤ (cap : Int) := by omega
        have hu3 : ¬ cap = j := by omega
        have hs := hB.size
        rw [World.size_alloc] at hs
        have HHB := hide hB
        clear hB
        go_wp2_with (go_loud (at_builtin; refine wpList_append_one rfl _ _ 51 rfl (w.heap.size + 1) 49 i0 _ 56 Try.underlying51 hi0 hz0 [.int .i64 0, .int .i64 (j : Nat), .int .i64 0, .int .i64 0, .slice (some ⟨g, off + j * 3, none⟩) 1 (cap - j)] hz1 hz2 rfl (by simp) _ _ _ rfl hown _ (by rfl) (by simp [Value.oneCell']) ?c1 (by decide) ?c2 ?_; (case c1 => omega); (case c2 => omega); intro v2 w3 hown2 hb2 _))
        go_roundw
        case rel => exact ⟨j + 1, by omega, by go_num, by rw [HS.out]; exact hown2, HHB.out.trans hb2⟩
        case measure => simp [intOf]; omega
      · obtain rfl : j = m := by omega
        have c0 : wr.cell? ⟨w.heap.size, 0, none⟩ = some (.slice none 0 0) := (hB.cell (p := ⟨w.heap.size, 0, none⟩) (Nat.lt_succ_self _)).trans (cells_lit w [.slice none 0 0] _ 0 _ rfl)
        have f0 : wr.frozen? ⟨w.heap.size, 0, none⟩ = false := (hB.frozen (p := ⟨w.heap.size, 0, none⟩) (Nat.lt_succ_self _)).trans (laid_free w _ _ 0)
        obtain ⟨A2, m2, c2, rfl⟩ := own_formV hown
        have hlt2 : w.heap.size < wr.heap.size := by have := hB.size; rw [World.size_alloc] at this; omega
        have HO := hide hown
        have HB := hide hB
        clear hown hB
        go_wp2
        refine bodyPost_ret (v := .agg #[.slice (some ⟨wr.heap.size, 0, none⟩) 1 1]) (by rw [results_c rfl]; go_simp) rfl ?_
        have hsz := HB.out.size
        rw [World.size_alloc] at hsz
        have hss : (wr.setCell ⟨w.heap.size, 0, none⟩ (.slice (some ⟨wr.heap.size, 0, none⟩) 1 1)).heap.size = wr.heap.size := by simp [World.setCell]
        have hBl : Below w.heap.size w ((wr.setCell ⟨w.heap.size, 0, none⟩ (.slice (some ⟨wr.heap.size, 0, none⟩) 1 1)).alloc (.cells #[.slice A2 m2 c2] 51)) :=
          (((below_laid (w := w) _).trans (HB.out.mono (Nat.le_succ _))).setCell (p := ⟨w.heap.size, 0, none⟩) (Nat.le_refl _) _).alloc (by rw [hss]; omega) _
        refine ⟨wr.heap.size, .slice A2 m2 c2, rfl, ?_, evs_of (cap := cap) (base := w.heap.size + 1) (fun j u hu => (hBl.cell (p := ⟨g, off + j, none⟩) hg).trans (HCL.out j u hu)) (Nat.lt_of_lt_of_le hg hBl.size) ?_, hBl⟩
        · have := cells_lit (wr.setCell ⟨w.heap.size, 0, none⟩ (.slice (some ⟨wr.heap.size, 0, none⟩) 1 1)) [.slice A2 m2 c2] 51 0 _ rfl
          rw [hss] at this
          exact this
        · exact (own_set (by rw [HM.out]; exact HO.out : wr.ownsRow (w.heap.size + 1) 49 5 (.slice A2 m2 c2) L.length (evc g off cap L.length)) (Nat.lt_succ_self _) _).alloc _
end Go.Proofs.Ythngffceneemnaa
