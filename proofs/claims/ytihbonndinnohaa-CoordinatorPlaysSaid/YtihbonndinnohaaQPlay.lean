/- A play of a coordinator, plainly: what it is at each step. -/
import Derived.Test.YtihbonndinnohaaQPl
namespace Go.Proofs.Ytihbonndinnohaa
open Go.RowKit
set_option linter.unusedVariables false
set_option linter.unusedSimpArgs false
def opN (k : Nat) : Oq := ⟨[(k : Int)], []⟩
/-- The attempt d, where worker k has reported all up to D[k]. -/
def stA (D : List Nat) (d : Nat) : Aq := ⟨d, [⟨0, d⟩], (List.range D.length).map fun k => if d ≤ D.getD k 0 then opN (100 * k + d) else Oq.z, D.map fun x => decide (d ≤ x)⟩
def stQ (nx du : Nat) (D : List Nat) : Cq := ⟨nx, (List.range (nx - 1 - du)).map fun i => stA D (du + 1 + i), du⟩
/-- The play is under way. -/
structure IP (nx du : Nat) (D : List Nat) : Prop where
  n1 : 1 ≤ D.length
  n3 : D.length ≤ 3
  dn : du < nx
  lo : ∀ k, k < D.length → du ≤ D.getD k 0
  hi : ∀ k, k < D.length → D.getD k 0 < nx
  few : nx ≤ 100
def minD (D : List Nat) (du : Nat) : Bool := D.all fun x => decide (du < x)
section
variable {nx du : Nat} {D : List Nat}
theorem st_len : (stQ nx du D).atts.length = nx - 1 - du := by simp [stQ]
theorem st_at {i : Nat} (h : i < nx - 1 - du) : attQ (stQ nx du D) i = stA D (du + 1 + i) := by
  simp [attQ, stQ, h]
theorem hv_at {d k : Nat} {b : Bool} (h : k < D.length) : (stA D d).hv.getD k b = decide (d ≤ D.getD k 0) := by
  simp [stA, List.getD_eq_getElem?_getD, h]
theorem op_at {d k : Nat} {o : Oq} (h : k < D.length) : (stA D d).ops.getD k o = if d ≤ D.getD k 0 then opN (100 * k + d) else Oq.z := by
  simp [stA, List.getD_eq_getElem?_getD, h]
theorem chk_st (h : IP nx du D) : chkQ (stQ nx du D) = 0 := by
  obtain ⟨n1, n3, dn, lo, hi, few⟩ := h
  refine chk_mk (by simp only [stQ]; omega) (by simp only [stQ]; omega) (by simp only [stQ]; omega) (by simp only [stQ]; omega) (by rw [st_len]; omega) fun i hi' => ?_
  rw [st_len] at hi'
  have e := st_at (D := D) hi'
  have e0 := st_at (D := D) (nx := nx) (du := du) (i := 0) (by omega)
  refine ⟨?_, ?_, ?_, ?_, ?_, ?_, ?_, ?_, ?_, fun k hk => ?_, fun h0 k hk ht => ?_⟩
  · unfold leastQ
    split
    · subst i; rw [e]; simp only [stA, stQ]; omega
    · rw [e, st_at (by omega)]; simp only [stA]; omega
  · rw [e]; simp only [stA, stQ]; omega
  · rw [e]; simp [stA]
  · rw [e]; simp [stA]
  · rw [e, e0]; simp [stA]
  · rw [e]; simp [stA]; omega
  · rw [e]; simp [stA]; omega
  · rw [e, e0]; simp [stA]
  · rw [e]; simp [stA]
  · rw [e] at hk ⊢
    have hk' : k < D.length := by simpa [stA] using hk
    rw [hv_at hk', op_at hk']
    by_cases hd : du + 1 + i ≤ D.getD k 0
    · left; exact decide_eq_true hd
    · right; rw [if_neg hd]; rfl
  · rw [e] at hk ht
    have hk' : k < D.length := by simpa [stA] using hk
    rw [hv_at hk'] at ht
    rw [st_at (by omega), hv_at hk']
    have := of_decide_eq_true ht
    exact decide_eq_true (by omega)
/-- A checkpoint is triggered. -/
theorem trig_st (h : IP nx du D) (hf : nx + 1 ≤ 100) : trigE (stQ nx du D) 1 D.length = 0 ∧ trigC (stQ nx du D) [⟨0, nx⟩] D.length = stQ (nx + 1) du D ∧ trigN (stQ nx du D) 1 D.length = nx ∧ IP (nx + 1) du D := by
  have hc := chk_st h
  obtain ⟨n1, n3, dn, lo, hi, few⟩ := h
  have hE : trigE (stQ nx du D) 1 D.length = 0 := by
    unfold trigE
    rw [if_neg (by simp [hc])]
    unfold fitQ
    rw [if_neg (by omega), if_neg, if_neg (by rw [st_len]; omega), if_neg (by simp only [stQ]; omega)]
    rintro ⟨h0, h1⟩
    rw [st_len] at h0
    rw [st_at h0] at h1
    simp [stA] at h1
  refine ⟨hE, ?_, by unfold trigN; rw [if_pos hE]; rfl, ⟨n1, n3, by omega, lo, fun k hk => by have := hi k hk; omega, hf⟩⟩
  unfold trigC
  rw [if_pos (show trigE (stQ nx du D) ([⟨0, (nx : Int)⟩] : List Rq).length D.length = 0 from hE)]
  have hn : newA (stQ nx du D) [⟨0, nx⟩] ((D.length : Int)).toNat = stA D nx := by
    unfold newA stA
    simp only [stQ, Int.toNat_natCast, Aq.mk.injEq, true_and]
    refine ⟨?_, ?_⟩
    · refine List.ext_getElem (by simp) fun k h1 h2 => ?_
      have hk : k < D.length := by simpa using h1
      have := hi k hk
      simp only [List.getElem_replicate, List.getElem_map, List.getElem_range]
      rw [if_neg (by omega)]
    · refine List.ext_getElem (by simp) fun k h1 h2 => ?_
      have hk : k < D.length := by simpa using h1
      have := hi k hk
      rw [List.getD_eq_getElem?_getD, List.getElem?_eq_getElem hk] at this
      simp only [List.getElem_replicate, List.getElem_map]
      exact (decide_eq_false (by simpa using this)).symm
  rw [hn]
  unfold stQ
  simp only [Cq.mk.injEq, and_true]
  refine ⟨by omega, ?_⟩
  rw [show nx + 1 - 1 - du = (nx - 1 - du) + 1 by omega, List.range_succ, List.map_append]
  simp only [List.map_cons, List.map_nil, List.append_cancel_left_eq, List.cons.injEq, and_true]
  congr 1
  omega
/-- The attempt with a number. -/
theorem find_st (h : IP nx du D) {d : Nat} (hd : du < d) : findQ d (stQ nx du D).atts = min (d - du - 1) (nx - 1 - du) := by
  obtain ⟨n1, n3, dn, lo, hi, few⟩ := h
  by_cases hx : d < nx
  · rw [Nat.min_eq_left (by omega)]
    refine findQ_hit (by rw [st_len]; omega) (fun j hj => ?_) ?_
    · simp only [stQ, List.getElem_map, List.getElem_range, stA]; omega
    · simp only [stQ, List.getElem_map, List.getElem_range, stA]; omega
  · rw [Nat.min_eq_right (by omega), ← st_len (nx := nx) (du := du) (D := D)]
    refine findQ_none fun j hj => ?_
    rw [st_len] at hj
    simp only [stQ, List.getElem_map, List.getElem_range, stA]; omega
/-- A worker reports for its next checkpoint. -/
theorem rep_st (h : IP nx du D) {k : Nat} (hk : k < D.length) : repE (stQ nx du D) ((D.getD k 0 + 1 : Nat) : Int) k = (if D.getD k 0 + 1 < nx then 0 else 6) ∧
    (D.getD k 0 + 1 < nx → repC (stQ nx du D) ((D.getD k 0 + 1 : Nat) : Int) k (opN (100 * k + (D.getD k 0 + 1))) = stQ nx du (D.set k (D.getD k 0 + 1)) ∧ IP nx du (D.set k (D.getD k 0 + 1))) := by
  have hc := chk_st h
  have hf := find_st h (d := D.getD k 0 + 1) (by have := h.lo k hk; omega)
  obtain ⟨n1, n3, dn, lo, hi, few⟩ := h
  have hlo := lo k hk
  have hhi := hi k hk
  obtain ⟨x, hx⟩ : ∃ x, D.getD k 0 = x := ⟨_, rfl⟩
  rw [hx] at hf hlo hhi ⊢
  by_cases hlt : x + 1 < nx
  · rw [Nat.min_eq_left (by omega), show x + 1 - du - 1 = x - du by omega] at hf
    have hat := st_at (D := D) (nx := nx) (du := du) (i := x - du) (by omega)
    rw [show du + 1 + (x - du) = x + 1 by omega] at hat
    have hE : repE (stQ nx du D) ((x + 1 : Nat) : Int) k = 0 := by
      unfold repE
      rw [if_neg (by simp [hc]), hf, if_neg (by rw [st_len]; omega), if_neg (by rw [hat]; simp [stA]; omega), if_neg, if_neg]
      · rintro ⟨h0, h1⟩
        rw [st_at (by omega), Int.toNat_natCast, hv_at hk, hx] at h1
        have := of_decide_eq_false h1
        omega
      · rw [hat, Int.toNat_natCast, hv_at hk, hx]
        intro h1
        have := of_decide_eq_true h1
        omega
    refine ⟨by rw [hE, if_pos hlt], fun _ => ⟨?_, ?_⟩⟩
    · unfold repC
      rw [if_pos hE, hf, hat, Int.toNat_natCast]
      unfold stQ
      simp only [Cq.mk.injEq, true_and, and_true]
      refine List.ext_getElem (by simp) fun j h1 h2 => ?_
      have hj : j < nx - 1 - du := by simpa using h2
      rw [List.getElem_set]
      simp only [List.getElem_map, List.getElem_range]
      split
      · rename_i e
        subst e
        rw [show du + 1 + (x - du) = x + 1 by omega]
        unfold repA stA
        simp only [Aq.mk.injEq, true_and]
        refine ⟨List.ext_getElem (by simp) fun q h1 h2 => ?_, List.ext_getElem (by simp) fun q h1 h2 => ?_⟩
        · rw [List.getElem_set]
          simp only [List.getElem_map, List.getElem_range]
          rw [getD_set hk]
          by_cases e : k = q
          · subst e; rw [if_pos rfl, if_pos rfl, if_pos (Nat.le_refl _)]
          · rw [if_neg e, if_neg (show ¬ q = k from fun h => e h.symm)]
        · rw [List.getElem_set]
          simp only [List.getElem_map, List.getElem_set]
          by_cases e : k = q
          · subst e; rw [if_pos rfl, if_pos rfl]; exact (decide_eq_true (Nat.le_refl _)).symm
          · rw [if_neg e, if_neg e]
      · rename_i e
        unfold stA
        simp only [Aq.mk.injEq, true_and]
        refine ⟨List.ext_getElem (by simp) fun q h1 h2 => ?_, List.ext_getElem (by simp) fun q h1 h2 => ?_⟩
        · simp only [List.getElem_map, List.getElem_range]
          rw [getD_set hk]
          by_cases e2 : q = k
          · subst e2
            rw [if_pos rfl, hx]
            by_cases e3 : du + 1 + j ≤ x
            · rw [if_pos e3, if_pos (by omega)]
            · rw [if_neg e3, if_neg (by omega)]
          · rw [if_neg e2]
        · simp only [List.getElem_map, List.getElem_set]
          by_cases e2 : k = q
          · subst e2
            rw [if_pos rfl]
            rw [List.getD_eq_getElem?_getD, List.getElem?_eq_getElem hk] at hx
            have hx' : D[k] = x := hx
            rw [hx']
            by_cases e3 : du + 1 + j ≤ x
            · rw [decide_eq_true e3, decide_eq_true (by omega)]
            · rw [decide_eq_false e3, decide_eq_false (by omega)]
          · rw [if_neg e2]
    · refine ⟨by simpa using n1, by simpa using n3, dn, fun q hq => ?_, fun q hq => ?_, few⟩
      · rw [List.length_set] at hq
        rw [getD_set hk]
        have := lo q hq
        split <;> omega
      · rw [List.length_set] at hq
        rw [getD_set hk]
        have := hi q hq
        split <;> omega
  · rw [Nat.min_eq_right (by omega)] at hf
    refine ⟨?_, fun h => absurd h hlt⟩
    rw [if_neg hlt]
    unfold repE
    rw [if_neg (by simp [hc]), hf, if_pos st_len.symm]
theorem comp_st {d : Nat} : compQ (stA D d) = D.all fun x => decide (d ≤ x) := by
  simp [compQ, stA, List.all_map]
theorem minD_iff : minD D du = true ↔ ∀ k, k < D.length → du < D.getD k 0 := by
  unfold minD
  rw [List.all_eq_true]
  constructor
  · intro h k hk
    have := h D[k] (List.getElem_mem hk)
    rw [List.getD_eq_getElem?_getD, List.getElem?_eq_getElem hk]
    exact of_decide_eq_true this
  · intro h x hx
    obtain ⟨k, hk, rfl⟩ := List.getElem_of_mem hx
    have := h k hk
    rw [List.getD_eq_getElem?_getD, List.getElem?_eq_getElem hk] at this
    exact decide_eq_true this
theorem comp_min : (compQ (stA D (du + 1))) = minD D du := by
  rw [comp_st]; rfl
/-- What can be finished. -/
theorem fin_st (h : IP nx du D) : (finE (stQ nx du D) ((du + 1 : Nat) : Int) = 0 ↔ minD D du = true) ∧ (minD D du = true → finC (stQ nx du D) ((du + 1 : Nat) : Int) = stQ nx (du + 1) D ∧ IP nx (du + 1) D) := by
  have hc := chk_st h
  have hf := find_st h (d := du + 1) (by omega)
  obtain ⟨n1, n3, dn, lo, hi, few⟩ := h
  rw [show du + 1 - du - 1 = 0 by omega, Nat.zero_min] at hf
  have hz : minD D du = true → 0 < nx - 1 - du := by
    intro hm
    have h1 := minD_iff.1 hm 0 (by omega)
    have h2 := hi 0 (by omega)
    omega
  have hE : finE (stQ nx du D) ((du + 1 : Nat) : Int) = if minD D du = true then 0 else if nx - 1 - du = 0 then 6 else 21 := by
    unfold finE
    rw [if_neg (by simp [hc]), hf, st_len]
    by_cases h0 : nx - 1 - du = 0
    · rw [if_pos h0.symm, if_neg (fun h => by have := hz h; omega), if_pos h0]
    · rw [if_neg (fun e => h0 e.symm), if_neg (by omega), st_at (by omega), Nat.add_zero, comp_min, if_neg h0]
      cases minD D du <;> simp
  refine ⟨?_, fun hm => ⟨?_, n1, n3, ?_, fun k hk => by have := minD_iff.1 hm k hk; omega, hi, few⟩⟩
  · rw [hE]
    constructor
    · intro h9
      by_cases hm : minD D du = true
      · exact hm
      · rw [if_neg hm] at h9
        split at h9 <;> cases h9
    · intro hm; rw [if_pos hm]
  · unfold finC
    rw [hE, if_pos hm, if_pos rfl]
    unfold stQ
    simp only [Cq.mk.injEq, true_and, and_true]
    refine List.ext_getElem (by simp; omega) fun j h1 h2 => ?_
    rw [List.getElem_drop]
    simp only [List.getElem_map, List.getElem_range]
    congr 1
    omega
  · have := hz hm; omega
/-- All is cancelled. -/
theorem can_st (h : IP nx du D) : canC (stQ nx du D) = stQ (du + 1) du (List.replicate D.length du) ∧ IP (du + 1) du (List.replicate D.length du) := by
  have hc := chk_st h
  obtain ⟨n1, n3, dn, lo, hi, few⟩ := h
  refine ⟨?_, by simpa using n1, by simpa using n3, by omega, fun k hk => ?_, fun k hk => ?_, by omega⟩
  · unfold canC
    rw [if_pos hc]
    simp [stQ]
  · rw [List.length_replicate] at hk
    simp [List.getD_eq_getElem?_getD, hk]
  · rw [List.length_replicate] at hk
    simp [List.getD_eq_getElem?_getD, hk]
/-- What is ready. -/
theorem rdy_st (h : IP nx du D) : rdyB (stQ nx du D) = minD D du ∧ (minD D du = true → attQ (stQ nx du D) 0 = stA D (du + 1) ∧ (stA D (du + 1)).ops = (List.range D.length).map fun k => opN (100 * k + (du + 1))) := by
  have hc := chk_st h
  have hfin := fin_st h
  obtain ⟨n1, n3, dn, lo, hi, few⟩ := h
  have hz : minD D du = true → 0 < nx - 1 - du := by
    intro hm
    have h1 := minD_iff.1 hm 0 (by omega)
    have h2 := hi 0 (by omega)
    omega
  refine ⟨?_, fun hm => ⟨?_, ?_⟩⟩
  · unfold rdyB
    rw [hc, st_len]
    by_cases h0 : 0 < nx - 1 - du
    · rw [st_at h0, Nat.add_zero, comp_min, decide_eq_true h0]; rfl
    · rw [decide_eq_false h0]
      cases hm : minD D du with
      | true => exact absurd (hz hm) h0
      | false => rfl
  · rw [st_at (hz hm)]
  · unfold stA
    refine List.map_congr_left fun k hk => ?_
    have := minD_iff.1 hm k (by simpa using hk)
    rw [if_pos (by omega)]
end
end Go.Proofs.Ytihbonndinnohaa
