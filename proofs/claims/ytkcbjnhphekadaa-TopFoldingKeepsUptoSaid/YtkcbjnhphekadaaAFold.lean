/- Plain laws on accumulators: the fold over a list of values. -/
import Derived.Test.YtkcbjnhphekadaaAResult
namespace Go.Proofs.Ytkcbjnhphekadaa
open Go.RowKit
set_option linter.unusedVariables false
set_option linter.unusedSimpArgs false

theorem suits_ok {k q : Int} (h : suitsB k q = true) : q = 0 ∨ (k ≠ 1 ∧ k ≠ 2 ∧ k ≠ 3) := by simpa [suitsB] using h
theorem suits_mk {k q : Int} (h : q = 0 ∨ (k ≠ 1 ∧ k ≠ 2 ∧ k ≠ 3)) : suitsB k q = true := by simpa [suitsB] using h
theorem check_int {n : Int} {len : Nat} (h : checkC 0 n len = 0) : len = 0 ∧ -1099511627776 ≤ n ∧ n ≤ 1099511627776 := by
  unfold checkC sizeC at h
  (repeat' split at h) <;> omega
theorem check_mk {n : Int} (h0 : -1099511627776 ≤ n) (h1 : n ≤ 1099511627776) : checkC 0 n 0 = 0 := by
  unfold checkC sizeC
  (repeat' split) <;> omega

/-- What Check says of an accumulator that is well-formed. -/
def Good (a : A5) : Prop := knownB a.k = true ∧ 0 ≤ a.c ∧ a.c ≤ 4096 ∧
  (if a.c = 0 ∨ a.k = 0 then a.q = 0 ∧ a.n = 0 ∧ a.s.size = 0
   else if a.k = 1 then a.q = 0 ∧ a.s.size = 0 ∧ -(a.c * 1099511627776) ≤ a.n ∧ a.n ≤ a.c * 1099511627776
   else checkC a.q a.n a.s.size = 0 ∧ suitsB a.k a.q = true)
theorem good_iff (a : A5) : a.e = 0 ↔ Good a := by
  unfold A5.e accE Good
  constructor
  · intro h
    cases hk : knownB a.k
    · rw [if_pos hk] at h; cases h
    · rw [if_neg (by simp [hk])] at h
      split at h
      · cases h
      · refine ⟨rfl, by omega, by omega, ?_⟩
        split at h
        · rename_i h1; rw [if_pos h1]; split at h
          · assumption
          · cases h
        · rename_i h1; rw [if_neg h1]; split at h
          · rename_i h2; rw [if_pos h2]; split at h
            · assumption
            · cases h
          · rename_i h2; rw [if_neg h2]; split at h
            · assumption
            · cases h
  · rintro ⟨hk, h0, h1, h⟩
    rw [if_neg (by simp [hk]), if_neg (by omega)]
    split
    · rename_i h2; rw [if_pos h2] at h; rw [if_pos h]
    · rename_i h2; rw [if_neg h2] at h; split
      · rename_i h3; rw [if_pos h3] at h; rw [if_pos h]
      · rename_i h3; rw [if_neg h3] at h; rw [if_pos h]

theorem good_mk {k c q n : Int} {s : ByteArray} : Good ⟨k, c, q, n, s⟩ ↔ (knownB k = true ∧ 0 ≤ c ∧ c ≤ 4096 ∧
  (if c = 0 ∨ k = 0 then q = 0 ∧ n = 0 ∧ s.size = 0
   else if k = 1 then q = 0 ∧ s.size = 0 ∧ -(c * 1099511627776) ≤ n ∧ n ≤ c * 1099511627776
   else checkC q n s.size = 0 ∧ suitsB k q = true)) := Iff.rfl
theorem size_zero {s : ByteArray} (h : s.size = 0) : s = ⟨#[]⟩ := by
  rcases s with ⟨⟨l⟩⟩
  cases l
  · rfl
  · simp [ByteArray.size] at h

/-- The accumulator of one value that is right is well-formed. -/
theorem one_good {k : Int} {x : V3} (hk : knownB k = true) (h : wrE k x.q x.n x.s.size = 0) : Good (one k x) := by
  obtain ⟨h1, h2, h3, h4⟩ := wr_ok h
  refine good_mk.2 ⟨hk, by omega, by omega, ?_⟩
  by_cases h0 : k = 0
  · subst h0; exact ⟨rfl, rfl, rfl⟩
  · rw [if_neg (by omega)]
    simp only [sinQ, sinS, if_neg h0]
    split
    · rename_i h5; subst h5
      rcases suits_ok h2 with h6 | h6
      · rw [h6] at h1; have := check_int h1; omega
      · omega
    · exact ⟨h1, h2⟩

theorem mrg_good' {a b : A5} (ha : Good a) (hb : Good b) (hk : a.k = b.k) (hc : a.c + b.c ≤ 4096) : Good (mrg a b) := by
  obtain ⟨k, c, q, n, s⟩ := a
  obtain ⟨l, d, p, m, t⟩ := b
  obtain ⟨ha1, ha2, ha3, ha4⟩ := good_mk.1 ha
  obtain ⟨hb1, hb2, hb3, hb4⟩ := good_mk.1 hb
  change k = l at hk
  change c + d ≤ 4096 at hc
  subst hk
  by_cases hc0 : c = 0
  · subst hc0
    rw [show mrg ⟨k, 0, q, n, s⟩ ⟨k, d, p, m, t⟩ = ⟨k, d, p, m, t⟩ by simp [mrg, mrgK, mrgQ, mrgN, mrgS]]
    exact hb
  · by_cases hd0 : d = 0
    · subst hd0
      rw [show mrg ⟨k, c, q, n, s⟩ ⟨k, 0, p, m, t⟩ = ⟨k, c, q, n, s⟩ by simp [mrg, mrgK, mrgQ, mrgN, mrgS, hc0]]
      exact ha
    · rw [show mrg ⟨k, c, q, n, s⟩ ⟨k, d, p, m, t⟩ = ⟨k, c + d, comQ k q p, comN k n m, comS k s t⟩ by simp [mrg, mrgK, mrgQ, mrgN, mrgS, hc0, hd0]]
      refine good_mk.2 ⟨ha1, by omega, hc, ?_⟩
      have hk6 : k = 0 ∨ k = 1 ∨ k = 2 ∨ k = 3 ∨ k = 4 ∨ k = 5 := by simp only [knownB, decide_eq_true_eq] at ha1; omega
      rcases hk6 with rfl | rfl | rfl | rfl | rfl | rfl
      · rw [if_pos (by omega)]; exact ⟨rfl, rfl, rfl⟩
      · rw [if_neg (by omega), if_pos rfl] at ha4 hb4 ⊢
        refine ⟨rfl, rfl, ?_⟩
        rw [show comN 1 n m = n + m from rfl, Int.add_mul]; omega
      all_goals rw [if_neg (by omega), if_neg (by decide)] at ha4 hb4 ⊢
      · have h1 := suits_ok ha4.2; have h2 := suits_ok hb4.2
        have e1 : q = 0 := by omega
        have e2 : p = 0 := by omega
        subst e1 e2
        have h3 := check_int ha4.1; have h4 := check_int hb4.1
        rw [show comN 2 n m = min n m from rfl]
        exact ⟨check_mk (by omega) (by omega), rfl⟩
      · have h1 := suits_ok ha4.2; have h2 := suits_ok hb4.2
        have e1 : q = 0 := by omega
        have e2 : p = 0 := by omega
        subst e1 e2
        have h3 := check_int ha4.1; have h4 := check_int hb4.1
        rw [show comN 3 n m = max n m from rfl]
        exact ⟨check_mk (by omega) (by omega), rfl⟩
      · exact ha4
      · exact hb4

/-- The fold over a list. -/
def beg (k : Int) : A5 := ⟨k, 0, 0, 0, ⟨#[]⟩⟩
def fld (k : Int) (L : List V3) : A5 := L.foldl (fun a x => mrg a (one k x)) (beg k)
def Right (k : Int) (L : List V3) : Prop := ∀ x ∈ L, wrE k x.q x.n x.s.size = 0
theorem beg_good {k : Int} (hk : knownB k = true) : Good (beg k) := good_mk.2 ⟨hk, by omega, by omega, rfl, rfl, rfl⟩
theorem fld_snoc (k : Int) (L : List V3) (x : V3) : fld k (L ++ [x]) = mrg (fld k L) (one k x) := by simp [fld]
theorem mrg_k {a b : A5} (h : a.k = b.k) : (mrg a b).k = a.k := by simp only [mrg, mrgK]; split <;> omega
theorem fld_take (k : Int) (L : List V3) {j : Nat} (hj : j < L.length) : fld k (L.take (j + 1)) = mrg (fld k (L.take j)) (one k L[j]) := by
  rw [List.take_succ_eq_append_getElem hj, fld_snoc]
theorem fld_tk {k : Int} (hk : knownB k = true) (L : List V3) (hr : Right k L) (hl : L.length ≤ 4096) : ∀ j, j ≤ L.length → Good (fld k (L.take j)) ∧ (fld k (L.take j)).k = k ∧ (fld k (L.take j)).c = j := by
  intro j
  induction j with
  | zero => intro _; exact ⟨beg_good hk, rfl, rfl⟩
  | succ j ih =>
    intro hj
    obtain ⟨h1, h2, h3⟩ := ih (by omega)
    have hx := hr L[j] (List.getElem_mem (by omega))
    rw [fld_take k L (by omega)]
    refine ⟨mrg_good' h1 (one_good hk hx) (by rw [h2]; rfl) (by rw [h3]; simp [one]; omega), by rw [mrg_k (by rw [h2]; rfl), h2], ?_⟩
    simp only [mrg, one, h3]
    omega
theorem fld_good {k : Int} (hk : knownB k = true) (L : List V3) (hr : Right k L) (hl : L.length ≤ 4096) : Good (fld k L) ∧ (fld k L).k = k ∧ (fld k L).c = L.length := by
  have := fld_tk hk L hr hl L.length (Nat.le_refl _)
  rwa [List.take_length] at this

/-- Bounds of a well-formed accumulator. -/
theorem good_bd {a : A5} (h : Good a) : knownB a.k = true ∧ 0 ≤ a.c ∧ a.c ≤ 4096 ∧ -4503599627370496 ≤ a.n ∧ a.n ≤ 4503599627370496 := acc_ok ((good_iff a).2 h)
theorem check_len {q n : Int} {len : Nat} (h : checkC q n len = 0) : len ≤ 64 := by
  unfold checkC sizeC at h
  (repeat' split at h) <;> omega
theorem good_len {a : A5} (h : Good a) : a.s.size ≤ 64 := by
  have h4 := h.2.2.2
  split at h4
  · omega
  · split at h4
    · omega
    · exact check_len h4.1

/-- The first error of a list. -/
def fE (k : Int) : List V3 → Int
  | [] => 0
  | x :: L => if wrE k x.q x.n x.s.size ≠ 0 then wrE k x.q x.n x.s.size else fE k L
theorem fE_right (k : Int) : ∀ L, fE k L = 0 ↔ Right k L
  | [] => by simp [fE, Right]
  | x :: L => by
    unfold fE
    by_cases h : wrE k x.q x.n x.s.size = 0
    · rw [if_neg (by omega), fE_right k L]
      simp [Right, h]
    · rw [if_pos h]
      simp [Right, h]
theorem fE_drop {k : Int} {L : List V3} {j : Nat} (hj : j < L.length) (h : wrE k L[j].q L[j].n L[j].s.size = 0) : fE k (L.drop j) = fE k (L.drop (j + 1)) := by
  rw [List.drop_eq_getElem_cons hj, fE, if_neg (by omega)]
theorem fE_hit {k : Int} {L : List V3} {j : Nat} (hj : j < L.length) (h : ¬ wrE k L[j].q L[j].n L[j].s.size = 0) : fE k (L.drop j) = wrE k L[j].q L[j].n L[j].s.size := by
  rw [List.drop_eq_getElem_cons hj, fE, if_pos h]
theorem fE_end {k : Int} {L : List V3} {j : Nat} (hj : L.length ≤ j) : fE k (L.drop j) = 0 := by rw [List.drop_eq_nil_of_le hj]; rfl

/-- The cells of a list of values. -/
def flat (L : List V3) : List Value := L.flatMap fun x => [.int .i64 x.q, .int .i64 x.n, .string x.s]
theorem flat_len (L : List V3) : (flat L).length = L.length * 3 := by
  induction L with
  | nil => rfl
  | cons x L ih => simp only [flat, List.flatMap_cons, List.length_append, List.length_cons, List.length_nil] at *; omega
theorem flat_at : ∀ (L : List V3) (j : Nat) (hj : j < L.length), (flat L)[j * 3]? = some (.int .i64 L[j].q) ∧ (flat L)[j * 3 + 1]? = some (.int .i64 L[j].n) ∧ (flat L)[j * 3 + 2]? = some (.string L[j].s)
  | x :: L, 0, _ => ⟨rfl, rfl, rfl⟩
  | x :: L, j + 1, hj => by
    obtain ⟨h1, h2, h3⟩ := flat_at L j (by simpa using hj)
    have e : ∀ i, (flat (x :: L))[i + 3]? = (flat L)[i]? := fun i => rfl
    refine ⟨?_, ?_, ?_⟩
    · rw [show (j + 1) * 3 = j * 3 + 3 by omega, e]; exact h1
    · rw [show (j + 1) * 3 + 1 = j * 3 + 1 + 3 by omega, e]; exact h2
    · rw [show (j + 1) * 3 + 2 = j * 3 + 2 + 3 by omega, e]; exact h3
end Go.Proofs.Ytkcbjnhphekadaa
