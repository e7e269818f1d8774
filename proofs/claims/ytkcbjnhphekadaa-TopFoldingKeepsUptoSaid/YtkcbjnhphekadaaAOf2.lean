/- The fold of Of. -/
import Derived.Test.YtkcbjnhphekadaaAOf
namespace Go.Proofs.Ytkcbjnhphekadaa
open Go.RowKit
set_option linter.unusedVariables false
set_option linter.unusedSimpArgs false
theorem set5_same {W : World} {F : Nat} {o0 o1 o2 o3 o4 v0 v1 v2 v3 v4 : Value} (h0 : W.cell? ⟨F, 0, none⟩ = some o0) (h1 : W.cell? ⟨F, 1, none⟩ = some o1) (h2 : W.cell? ⟨F, 2, none⟩ = some o2) (h3 : W.cell? ⟨F, 3, none⟩ = some o3) (h4 : W.cell? ⟨F, 4, none⟩ = some o4) :
    (((((((W).setCell ⟨F, 0, none⟩ v0).setCell ⟨F, 1, none⟩ v1).setCell ⟨F, 2, none⟩ v2).setCell ⟨F, 3, none⟩ v3).setCell ⟨F, 4, none⟩ v4)).cell? ⟨F, 0, none⟩ = some v0 ∧ (((((((W).setCell ⟨F, 0, none⟩ v0).setCell ⟨F, 1, none⟩ v1).setCell ⟨F, 2, none⟩ v2).setCell ⟨F, 3, none⟩ v3).setCell ⟨F, 4, none⟩ v4)).cell? ⟨F, 1, none⟩ = some v1 ∧ (((((((W).setCell ⟨F, 0, none⟩ v0).setCell ⟨F, 1, none⟩ v1).setCell ⟨F, 2, none⟩ v2).setCell ⟨F, 3, none⟩ v3).setCell ⟨F, 4, none⟩ v4)).cell? ⟨F, 2, none⟩ = some v2 ∧ (((((((W).setCell ⟨F, 0, none⟩ v0).setCell ⟨F, 1, none⟩ v1).setCell ⟨F, 2, none⟩ v2).setCell ⟨F, 3, none⟩ v3).setCell ⟨F, 4, none⟩ v4)).cell? ⟨F, 3, none⟩ = some v3 ∧ (((((((W).setCell ⟨F, 0, none⟩ v0).setCell ⟨F, 1, none⟩ v1).setCell ⟨F, 2, none⟩ v2).setCell ⟨F, 3, none⟩ v3).setCell ⟨F, 4, none⟩ v4)).cell? ⟨F, 4, none⟩ = some v4 := by
  refine ⟨?_, ?_, ?_, ?_, ?_⟩ <;> go_simp
theorem set5_far {W : World} {F : Nat} {v0 v1 v2 v3 v4 : Value} {p : Addr} (hp : F ≠ p.block) : (((((((W).setCell ⟨F, 0, none⟩ v0).setCell ⟨F, 1, none⟩ v1).setCell ⟨F, 2, none⟩ v2).setCell ⟨F, 3, none⟩ v3).setCell ⟨F, 4, none⟩ v4)).cell? p = W.cell? p := by
  rw [World.cell?_setCell_far _ _ _ _ hp, World.cell?_setCell_far _ _ _ _ hp, World.cell?_setCell_far _ _ _ _ hp, World.cell?_setCell_far _ _ _ _ hp, World.cell?_setCell_far _ _ _ _ hp]
theorem set5_frozen {W : World} {F : Nat} {v0 v1 v2 v3 v4 : Value} {p : Addr} : (((((((W).setCell ⟨F, 0, none⟩ v0).setCell ⟨F, 1, none⟩ v1).setCell ⟨F, 2, none⟩ v2).setCell ⟨F, 3, none⟩ v3).setCell ⟨F, 4, none⟩ v4)).frozen? p = W.frozen? p := by go_simp

/-- A box of an accumulator that may be written. -/
def Box5 (w : World) (F : Nat) (a : A5) : Prop :=
  (w.cell? ⟨F, 0, none⟩ = some (.int .i64 a.k) ∧ w.cell? ⟨F, 1, none⟩ = some (.int .i64 a.c) ∧ w.cell? ⟨F, 2, none⟩ = some (.int .i64 a.q) ∧ w.cell? ⟨F, 3, none⟩ = some (.int .i64 a.n) ∧ w.cell? ⟨F, 4, none⟩ = some (.string a.s)) ∧
  (w.frozen? ⟨F, 0, none⟩ = false ∧ w.frozen? ⟨F, 1, none⟩ = false ∧ w.frozen? ⟨F, 2, none⟩ = false ∧ w.frozen? ⟨F, 3, none⟩ = false ∧ w.frozen? ⟨F, 4, none⟩ = false)
theorem Box5.keep {w w' : World} {F : Nat} {a : A5} (h : Box5 w F a) (hb : Below w.heap.size w w') : Box5 w' F a := by
  obtain ⟨⟨a0, a1, a2, a3, a4⟩, g0, g1, g2, g3, g4⟩ := h
  have hl := World.block_lt_of_cell? w _ a0
  exact ⟨⟨keep1 hb a0, keep1 hb a1, keep1 hb a2, keep1 hb a3, keep1 hb a4⟩, keepf hb hl g0, keepf hb hl g1, keepf hb hl g2, keepf hb hl g3, keepf hb hl g4⟩
theorem Box5.set {w : World} {F : Nat} {a : A5} (h : Box5 w F a) (b : A5) : Box5 (((((w.setCell ⟨F, 0, none⟩ (.int .i64 b.k)).setCell ⟨F, 1, none⟩ (.int .i64 b.c)).setCell ⟨F, 2, none⟩ (.int .i64 b.q)).setCell ⟨F, 3, none⟩ (.int .i64 b.n)).setCell ⟨F, 4, none⟩ (.string b.s)) F b := by
  obtain ⟨⟨a0, a1, a2, a3, a4⟩, g0, g1, g2, g3, g4⟩ := h
  exact ⟨set5_same a0 a1 a2 a3 a4, set5_frozen.trans g0, set5_frozen.trans g1, set5_frozen.trans g2, set5_frozen.trans g3, set5_frozen.trans g4⟩
theorem Box5.far {w : World} {F R : Nat} {a : A5} (h : Box5 w R a) (hne : F ≠ R) (v0 v1 v2 v3 v4 : Value) : Box5 (((((((w).setCell ⟨F, 0, none⟩ v0).setCell ⟨F, 1, none⟩ v1).setCell ⟨F, 2, none⟩ v2).setCell ⟨F, 3, none⟩ v3).setCell ⟨F, 4, none⟩ v4)) R a := by
  obtain ⟨⟨a0, a1, a2, a3, a4⟩, g0, g1, g2, g3, g4⟩ := h
  exact ⟨⟨(set5_far (p := ⟨R, 0, none⟩) hne).trans a0, (set5_far (p := ⟨R, 1, none⟩) hne).trans a1, (set5_far (p := ⟨R, 2, none⟩) hne).trans a2, (set5_far (p := ⟨R, 3, none⟩) hne).trans a3, (set5_far (p := ⟨R, 4, none⟩) hne).trans a4⟩,
    set5_frozen.trans g0, set5_frozen.trans g1, set5_frozen.trans g2, set5_frozen.trans g3, set5_frozen.trans g4⟩
theorem Box5.new (w : World) (a : A5) (t : TypeId) : Box5 (w.alloc (.cells #[.int .i64 a.k, .int .i64 a.c, .int .i64 a.q, .int .i64 a.n, .string a.s] t)) w.heap.size a := by
  refine ⟨⟨?_, ?_, ?_, ?_, ?_⟩, ?_, ?_, ?_, ?_, ?_⟩ <;> go_simp

section
variable (k : Int) (L : List V3) (w : World)
set_option maxRecDepth 100000 in
set_option maxHeartbeats 4000000 in
theorem folded_any (C : Nat) (v : Value) (hC : w.cell? ⟨C, 0, none⟩ = some (.int .i64 k)) (hk : knownB k = true) (hr : Right k L) (hl : L.length ≤ 4096) (hv : Row w w.heap.size 3 v L.length (flat L)) :
    Calls Try.prog 29 #[.agg #[.int .i64 k, .int .i64 0, .int .i64 0, .int .i64 0, .string ⟨#[]⟩], v, .func (.func 30) #[] #[.pointer (some ⟨C, 0, none⟩)]] w
      (Ret (A5.v (fld k L)) w) := by
  have HT := hide (fld_tk hk L hr hl)
  obtain ⟨m, hm⟩ : ∃ m, L.length = m := ⟨_, rfl⟩
  rw [hm] at hv hl HT
  have HM := hide hm
  clear hm
  have HK := hide hk
  have HR := hide hr
  have HC := hide hC
  clear hk hr hC
  rcases Nat.eq_zero_or_pos m with rfl | hpos
  · obtain rfl : L = [] := List.eq_nil_of_length_eq_zero HM.out
    obtain ⟨A, cap, rfl⟩ := hv.form
    clear hv
    go_enter Try.func29, Try.ntmps29
    go_wp2
    refine wp_loop_rounds 1 ?_
    rw [rounds_succ]
    go_wp2
    refine bodyPost_ret (v := A5.v ⟨k, 0, 0, 0, ⟨#[]⟩⟩) (by rw [results_c rfl]; go_simp) rfl ?_
    exact Ret.mk rfl ((below_laid _).alloc (by simp) _)
  · obtain ⟨g, off, cap, rfl, hg, _, hcell⟩ := hv.at_ hpos
    have HCELL := hide hcell
    clear hv hcell
    go_enter Try.func29, Try.ntmps29
    go_wp2
    go_loopw [11] (fun i wr => ∃ j : Nat, j ≤ m ∧ i = .int .i64 j ∧ Box5 wr w.heap.size (fld k (L.take j)) ∧ Box5 wr (w.heap.size + 1) A5.z ∧ Below w.heap.size w wr) (fun i _ => m - (intOf i).toNat)
    case atStart =>
      refine ⟨0, by omega, rfl, ?_, ?_, (below_laid _).alloc (by simp) _⟩
      · exact (Box5.new w (beg k) _).keep (below_laid _)
      · have := Box5.new (w.alloc (.cells #[.int .i64 k, .int .i64 0, .int .i64 0, .int .i64 0, .string ⟨#[]⟩] 57)) A5.z 57
        rw [World.size_alloc] at this
        exact this
    case round =>
      obtain ⟨j, hj, rfl, hF, hZ, hB⟩ := hrel
      have hsz := World.block_lt_of_cell? wr _ hZ.1.1
      have HF := hide hF
      have HZ := hide hZ
      have HB := hide hB
      obtain ⟨hA1, hA2, hA3⟩ := HT.out j hj
      obtain ⟨a, ha⟩ : ∃ a, fld k (L.take j) = a := ⟨_, rfl⟩
      rw [ha] at HF hA1 hA2 hA3
      have HA := hide ha
      clear hF hZ ha
      obtain ⟨k', c, q, n, s⟩ := a
      obtain rfl : k' = k := hA2
      obtain ⟨-, hc0, -, h0, h1⟩ := good_bd hA1
      simp only at hA3 hc0 h0 h1
      obtain ⟨⟨a0, a1, a2, a3, a4⟩, -⟩ := HF.out
      simp only at a0 a1 a2 a3 a4
      subst hA3
      by_cases hlt : j < m
      · have hjl : j < L.length := by rw [HM.out]; exact hlt
        obtain ⟨f1, f2, f3⟩ := flat_at L j hjl
        have e0 := (hB.cell (p := ⟨g, off + j * 3, none⟩) hg).trans (HCELL.out _ _ f1)
        have e1 := (hB.cell (p := ⟨g, off + j * 3 + 1, none⟩) hg).trans (HCELL.out _ _ f2)
        have e2 := (hB.cell (p := ⟨g, off + j * 3 + 2, none⟩) hg).trans (HCELL.out _ _ f3)
        have hx := HR.out L[j] (List.getElem_mem hjl)
        have HTK := hide (fld_take k' L hjl)
        obtain ⟨x, hxe⟩ : ∃ x, L[j] = x := ⟨_, rfl⟩
        rw [hxe] at e0 e1 e2 hx HTK
        clear hxe f1 f2 f3
        obtain ⟨p, mm, t⟩ := x
        obtain ⟨-, -, h2, h3⟩ := wr_ok hx
        simp only at e0 e1 e2 h2 h3
        clear hx hA1
        have hb9 := @below_laid wr (.cells #[.int .i64 p, .int .i64 mm, .string t] 28)
        obtain ⟨⟨n0, n1, n2, n3, n4⟩, -⟩ := HF.out.keep hb9
        simp only at n0 n1 n2 n3 n4
        have hCw := keep1 (bthen hB hb9) HC.out
        have HCW := hide hCw
        clear hCw hb9 hB
        go_wp2_with fail
        refine (step_go k' j q n p mm s t _ C HCW.out HK.out hc0 (by omega) h0 h1 h2 h3).mono ?_
        rintro e w3 ⟨rfl, hb⟩
        have hb := bel1 hb
        have HF3 := hide (HF.out.keep hb)
        have HZ3 := hide (HZ.out.keep hb)
        have HB3 := hide (bthen HB.out hb)
        obtain ⟨⟨a0, a1, a2, a3, a4⟩, g0, g1, g2, g3, g4⟩ := HF3.out
        simp only at a0 a1 a2 a3 a4
        obtain ⟨b, hb'⟩ : ∃ b, mrg ⟨k', j, q, n, s⟩ (one k' ⟨p, mm, t⟩) = b := ⟨_, rfl⟩
        rw [hb']
        have HM' : Hid (fld k' (L.take (j + 1)) = b) := hide (by rw [HTK.out, HA.out, hb'])
        clear hb hb' n0 n1 n2 n3 n4 e0 e1 e2
        go_wp2
        go_roundw
        case rel => exact ⟨j + 1, by omega, by go_num, by rw [HM'.out]; exact HF3.out.set b, HZ3.out.far (by omega) _ _ _ _ _, below_set5 HB3.out (by omega) _ _ _ _ _⟩
        case measure => simp [intOf]; omega
      · obtain rfl : j = m := by omega
        clear hB hA1
        obtain ⟨⟨r0, r1, r2, r3, r4⟩, g0, g1, g2, g3, g4⟩ := HZ.out
        simp only [A5.z] at r0 r1 r2 r3 r4
        go_wp2
        refine bodyPost_ret (v := A5.v ⟨k', j, q, n, s⟩) (by rw [results_c rfl]; go_simp) rfl ?_
        refine Ret.mk ?_ (below_set5 HB.out (by omega) _ _ _ _ _)
        rw [← HA.out, List.take_of_length_le (by rw [HM.out]; exact Nat.le_refl _)]
end
end Go.Proofs.Ytkcbjnhphekadaa
