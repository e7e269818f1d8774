/- The five conditions at an attempt of a coordinator. -/
import Derived.Test.YtihbonndinnohaaQIter
namespace Go.Proofs.Ytihbonndinnohaa
open Go.RowKit
set_option linter.unusedVariables false
set_option linter.unusedSimpArgs false
theorem cdec {n k : Nat} : decide (n = k) = decide ((n : Int) = (k : Int)) := by rw [decide_eq_decide]; omega
theorem err_zero {c : Cq} {i : Nat} (h : errQ c i = 0) : ok1 c i = true ∧ ok2 c i = true ∧ ok3 c i = true ∧ ok4 c i = true ∧ ok5 c i = true := by
  unfold errQ at h
  cases h1 : ok1 c i <;> rw [h1] at h <;> simp at h
  cases h2 : ok2 c i <;> cases h3 : ok3 c i <;> rw [h2, h3] at h <;> simp at h
  cases h4 : ok4 c i <;> rw [h4] at h <;> simp at h
  cases h5 : ok5 c i <;> rw [h5] at h <;> simp at h
  exact ⟨rfl, rfl, rfl, rfl, rfl⟩
theorem ok3_len {c : Cq} {i : Nat} (h : ok3 c i = true) : 1 ≤ (attQ c i).hv.length ∧ (attQ c i).hv.length ≤ 8 ∧ (attQ c i).hv.length = (attQ c 0).hv.length ∧ (attQ c i).ops.length = (attQ c i).hv.length := by
  unfold ok3 at h
  simp only [Bool.and_eq_true, decide_eq_true_eq] at h
  exact ⟨h.1.1.1, h.1.1.2, h.1.2, h.2⟩
/-- An attempt in memory: its cells and its lists. -/
structure AtQ (w : World) (g o : Nat) (a : Aq) (A1 A2 A3 : Option Addr) (c1 c2 c3 : Nat) : Prop where
  k0 : w.cell? ⟨g, o, none⟩ = some (.int .i64 a.num)
  k1 : w.cell? ⟨g, o + 1, none⟩ = some (.slice A1 a.rds.length c1)
  k2 : w.cell? ⟨g, o + 2, none⟩ = some (.slice A2 a.ops.length c2)
  k3 : w.cell? ⟨g, o + 3, none⟩ = some (.slice A3 a.hv.length c3)
  l1 : Lq w 6 RRq (.slice A1 a.rds.length c1) a.rds
  l2 : Lq w 2 ROq (.slice A2 a.ops.length c2) a.ops
  l3 : Lq w 1 RBq (.slice A3 a.hv.length c3) a.hv
  num : inQ a.num
theorem AtQ.grow {w w' : World} {g o : Nat} {a : Aq} {A1 A2 A3 : Option Addr} {c1 c2 c3 : Nat} (h : AtQ w g o a A1 A2 A3 c1 c2 c3) (hb : Below w.heap.size w w') : AtQ w' g o a A1 A2 A3 c1 c2 c3 :=
  ⟨keep1 hb h.k0, keep1 hb h.k1, keep1 hb h.k2, keep1 hb h.k3, h.l1.grow rd_Rq hb, h.l2.grow rd_Oq hb, h.l3.grow rd_Bq hb, h.num⟩
/-- The attempt at an index. -/
theorem att_at {w : World} {c : Cq} {g off n cap : Nat} (h : Lq w 4 RAq (.slice (some ⟨g, off, none⟩) n cap) c.atts) {x : Nat} (hx : x < c.atts.length) : g < w.heap.size ∧ ∃ A1 A2 A3 c1 c2 c3, AtQ w g (off + x * 4) (attQ c x) A1 A2 A3 c1 c2 c3 := by
  obtain ⟨hz, xs, hl, hc, v, u, t, rfl, h1, h2, h3, h4⟩ := h.at1 hx
  obtain ⟨A1, c1, rfl⟩ := h1.form
  obtain ⟨A2, c2, rfl⟩ := h2.form
  obtain ⟨A3, c3, rfl⟩ := h3.form
  rw [attQ_get hx]
  exact ⟨hz, A1, A2, A3, c1, c2, c3, hc 0 _ rfl, hc 1 _ rfl, hc 2 _ rfl, hc 3 _ rfl, h1, h2, h3, h4⟩
section
variable {w : World} {c : Cq} {g off n cap x : Nat}
/-- What the five closures answer at attempt x, where those before it are well-formed. -/
theorem conds_at (h : Lq w 4 RAq (.slice (some ⟨g, off, none⟩) n cap) c.atts) (hn : n = c.atts.length) (hx : x < c.atts.length) (hp : ∀ q, q < x → errQ c q = 0) {W : World} (hb : Below w.heap.size w W) {Bx Bf : Nat}
    (b0 : W.cell? ⟨Bx, 0, none⟩ = some (.int .i64 c.next)) (b1 : W.cell? ⟨Bx, 1, none⟩ = some (.slice (some ⟨g, off, none⟩) n cap)) (b2 : W.cell? ⟨Bx, 2, none⟩ = some (.int .i64 c.dur)) (hf : W.cell? ⟨Bf, 0, none⟩ = some (.func (.func 50) #[] #[.pointer (some ⟨Bx, 0, none⟩)])) :
    Calls Try.prog 51 #[aptr g off x, bptr g off x, .pointer (some ⟨Bx, 0, none⟩)] W (Ret (.bool (ok1 c x)) W) ∧
    Calls Try.prog 52 #[aptr g off x, bptr g off x, .pointer (some ⟨Bf, 0, none⟩)] W (Ret (.bool (ok2 c x)) W) ∧
    Calls Try.prog 53 #[aptr g off x, bptr g off x, .pointer (some ⟨Bf, 0, none⟩)] W (Ret (.bool (ok3 c x)) W) ∧
    (ok3 c x = true → Calls Try.prog 54 #[aptr g off x, bptr g off x] W (Ret (.bool (ok4 c x)) W)) ∧
    (ok3 c x = true → Calls Try.prog 55 #[aptr g off x, bptr g off x] W (Ret (.bool (ok5 c x)) W)) := by
  obtain ⟨hg, A1, A2, A3, c1, c2, c3, ha⟩ := att_at h hx
  obtain ⟨-, D1, D2, D3, d1, d2, d3, hd⟩ := att_at (x := 0) h (by omega)
  have HA := ha.grow hb
  have HD := hd.grow hb
  rw [Nat.zero_mul, Nat.add_zero] at HD
  have hn0 : 0 < n := by omega
  refine ⟨?_, ?_, ?_, fun h3 => ?_, fun h3 => ?_⟩
  · refine c2_any W Bx g (off + x * 4) _ _ _ (leastQ c x) _ b0 b2 HA.k0 ?_
    cases x with
    | zero => exact .inl ⟨rfl, rfl⟩
    | succ k =>
      obtain ⟨-, E1, E2, E3, e1, e2, e3, he⟩ := att_at (x := k) h (by omega)
      exact .inr ⟨off + k * 4, rfl, (he.grow hb).k0⟩
  · have := c3_any W Bx Bf g off n cap (off + x * 4) _ D1 D2 D3 _ _ _ d1 d2 d3 hn0 b1 HD.k0 HD.k1 HD.k2 HD.k3 hf A1 _ c1 HA.k1 (bptr g off x)
    have e : c2B (attQ c x).rds.length (attQ c 0).rds.length = ok2 c x := by unfold c2B ok2 btw; rw [Bool.eq_iff_iff]; simp; omega
    rwa [e] at this
  · have := c4_any W Bx Bf g off n cap (off + x * 4) _ D1 D2 D3 _ _ _ d1 d2 d3 hn0 b1 HD.k0 HD.k1 HD.k2 HD.k3 hf A3 A2 _ c3 _ c2 HA.k3 HA.k2 (bptr g off x)
    have e : c3B (attQ c x).hv.length (attQ c 0).hv.length (attQ c x).ops.length = ok3 c x := by unfold c3B ok3 btw; rw [Bool.eq_iff_iff]; simp; omega
    rwa [e] at this
  · obtain ⟨e1, e2, e3, e4⟩ := ok3_len h3
    exact c5_any W g (off + x * 4) A3 A2 c3 c2 _ _ e4 e2 HA.k3 HA.k2 HA.l2 HA.l3 (bptr g off x)
  · obtain ⟨e1, e2, e3, e4⟩ := ok3_len h3
    cases x with
    | zero => exact c6_none W g (off + 0 * 4) A3 c3 _ e2 HA.k3 HA.l3
    | succ k =>
      obtain ⟨-, E1, E2, E3, f1, f2, f3, he⟩ := att_at (x := k) h (by omega)
      have HE := he.grow hb
      obtain ⟨-, -, h3', -, -⟩ := err_zero (hp k (by omega))
      obtain ⟨-, -, e3', -⟩ := ok3_len h3'
      have := c6_some W g (off + (k + 1) * 4) (off + k * 4) A3 E3 c3 f3 (attQ c (k + 1)).hv (attQ c k).hv (by omega) e2 HA.k3 HE.k3 HA.l3 HE.l3
      have e : (List.range (attQ c (k + 1)).hv.length).all (f5 (attQ c (k + 1)).hv (attQ c k).hv) = ok5 c (k + 1) := by
        unfold ok5
        rw [show decide (k + 1 = 0) = false by simp, Bool.false_or]
        rfl
      rwa [e] at this
end
end Go.Proofs.Ytihbonndinnohaa
