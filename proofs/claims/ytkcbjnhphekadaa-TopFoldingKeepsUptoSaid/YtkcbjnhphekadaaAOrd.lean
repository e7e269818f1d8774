/- Plain laws: the fold of two parts, and of a list turned round. -/
import Derived.Test.YtkcbjnhphekadaaAGood
namespace Go.Proofs.Ytkcbjnhphekadaa
open Go.RowKit
set_option linter.unusedVariables false
set_option linter.unusedSimpArgs false
theorem right_app {k : Int} {A B : List V3} (ha : Right k A) (hb : Right k B) : Right k (A ++ B) := by
  intro x hx
  rcases List.mem_append.1 hx with h | h
  · exact ha x h
  · exact hb x h
theorem right_tk {k : Int} {A : List V3} (ha : Right k A) (j : Nat) : Right k (A.take j) := fun x hx => ha x (List.mem_of_mem_take hx)
theorem fld_nil (k : Int) : fld k [] = beg k := rfl
theorem fld_one (k : Int) (x : V3) : fld k [x] = one k x := mrg_zl rfl
/-- The fold of two parts is that of the whole. -/
theorem fld_app {k : Int} (hk : knownB k = true) {A B : List V3} (ha : Right k A) (hb : Right k B) (hl : A.length + B.length ≤ 4096) : fld k (A ++ B) = mrg (fld k A) (fld k B) := by
  obtain ⟨gA, kA, cA⟩ := fld_good hk A ha (by omega)
  have key : ∀ j, j ≤ B.length → fld k (A ++ B.take j) = mrg (fld k A) (fld k (B.take j)) := by
    intro j
    induction j with
    | zero =>
      intro _
      rw [List.take_zero, List.append_nil, fld_nil]
      have h := (mrg_none gA).1
      rw [kA] at h
      exact h.symm
    | succ j ih =>
      intro hj
      have hx := hb B[j] (List.getElem_mem (by omega))
      obtain ⟨gB, kB, cB⟩ := fld_tk hk B hb (by omega) j (by omega)
      rw [fld_take k B (by omega), List.take_succ_eq_append_getElem (by omega), ← List.append_assoc, fld_snoc, ih (by omega)]
      exact mrg_assoc gA gB (one_good hk hx) (by rw [kA, kB]) (by rw [kB]; rfl)
  have := key B.length (Nat.le_refl _)
  rwa [List.take_length] at this

/-- Lists of integers. -/
def nums (l : List Int) : List V3 := l.map num
def Small (l : List Int) : Prop := ∀ n ∈ l, -1099511627776 ≤ n ∧ n ≤ 1099511627776
theorem num_right {k n : Int} (h0 : -1099511627776 ≤ n) (h1 : n ≤ 1099511627776) : wrE k (num n).q (num n).n (num n).s.size = 0 := by
  unfold wrE
  rw [show checkC (num n).q (num n).n (num n).s.size = 0 from check_mk h0 h1, if_neg (by simp), if_pos (show suitsB k (num n).q = true from suits_mk (.inl rfl))]
theorem nums_right {k : Int} {l : List Int} (h : Small l) : Right k (nums l) := by
  intro x hx
  obtain ⟨n, hn, rfl⟩ := List.mem_map.1 hx
  exact num_right (h n hn).1 (h n hn).2
theorem nums_len (l : List Int) : (nums l).length = l.length := List.length_map ..
/-- The value's number of the fold of a list that is not empty: of all kinds. -/
theorem fold_cons {k : Int} (hk : knownB k = true) {n : Int} {l : List Int} (h : Small (n :: l)) (hl : l.length ≤ 100) : fld k (nums (n :: l)) = mrg (one k (num n)) (fld k (nums l)) := by
  have h1 : Small [n] := fun m hm => h m (by simp at hm; simp [hm])
  have h2 : Small l := fun m hm => h m (by simp [hm])
  rw [show nums (n :: l) = nums [n] ++ nums l from rfl, fld_app hk (nums_right h1) (nums_right h2) (by rw [nums_len, nums_len]; simp; omega), show nums [n] = [num n] from rfl, fld_one]
theorem fold_snoc {k : Int} {n : Int} {l : List Int} : fld k (nums (l ++ [n])) = mrg (fld k (nums l)) (one k (num n)) := by
  rw [show nums (l ++ [n]) = nums l ++ [num n] by simp [nums], fld_snoc]

def other (k : Int) : Int := if k = 4 then 5 else if k = 5 then 4 else k
theorem other_known {k : Int} (hk : knownB k = true) : knownB (other k) = true := by
  have hk6 : k = 0 ∨ k = 1 ∨ k = 2 ∨ k = 3 ∨ k = 4 ∨ k = 5 := by simp only [knownB, decide_eq_true_eq] at hk; omega
  rcases hk6 with rfl | rfl | rfl | rfl | rfl | rfl <;> decide
/-- What Result makes of two accumulators of a kind and of the other kind. -/
def SameV (a b : A5) : Prop := a.c = b.c ∧ a.q = b.q ∧ a.n = b.n ∧ a.s = b.s
theorem fold_turn {k : Int} (hk : knownB k = true) : ∀ (l : List Int), Small l → l.length ≤ 100 → SameV (fld k (nums l)) (fld (other k) (nums l.reverse))
  | [], _, _ => ⟨rfl, rfl, rfl, rfl⟩
  | n :: l, h, hl => by
    have h2 : Small l := fun m hm => h m (by simp [hm])
    have hl2 : l.length ≤ 100 := by simp at hl; omega
    have ih := fold_turn hk l h2 hl2
    rw [List.reverse_cons, fold_snoc, fold_cons hk h hl2]
    obtain ⟨g1, k1, c1⟩ := fld_good hk (nums l) (nums_right h2) (by rw [nums_len]; omega)
    obtain ⟨g2, k2, c2⟩ := fld_good (other_known hk) (nums l.reverse) (nums_right (fun m hm => h2 m (List.mem_reverse.1 hm))) (by rw [nums_len, List.length_reverse]; omega)
    obtain ⟨i1, i2, i3, i4⟩ := ih
    rw [nums_len] at c1
    rw [nums_len, List.length_reverse] at c2
    have o1 : (one k (num n)).c = 1 := rfl
    have o2 : (one (other k) (num n)).c = 1 := rfl
    by_cases hz : l.length = 0
    · have z1 : (fld k (nums l)).c = 0 := by rw [c1, hz]; rfl
      have z2 : (fld (other k) (nums l.reverse)).c = 0 := by rw [c2, hz]; rfl
      rw [mrg_zr (by rw [o1]; decide) z1, mrg_zl z2]
      refine ⟨rfl, ?_, ?_, ?_⟩
      all_goals (simp only [one, sinQ, sinS, other, num]; (repeat' split) <;> first | rfl | omega)
    · rw [mrg_nn (by rw [o1]; decide) (by omega), mrg_nn (by omega) (by rw [o2]; decide)]
      generalize fld k (nums l) = x at *
      generalize fld (other k) (nums l.reverse) = y at *
      have hk6 : k = 0 ∨ k = 1 ∨ k = 2 ∨ k = 3 ∨ k = 4 ∨ k = 5 := by simp only [knownB, decide_eq_true_eq] at hk; omega
      refine ⟨by show 1 + x.c = y.c + 1; omega, ?_, ?_, ?_⟩
      · simp only [k2]
        rcases hk6 with rfl | rfl | rfl | rfl | rfl | rfl <;> first | rfl | exact i2
      · simp only [k2]
        rcases hk6 with rfl | rfl | rfl | rfl | rfl | rfl
        · rfl
        · show n + x.n = y.n + n; omega
        · show min n x.n = min y.n n; omega
        · show max n x.n = max y.n n; omega
        · rfl
        · exact i3
      · simp only [k2]
        rcases hk6 with rfl | rfl | rfl | rfl | rfl | rfl <;> first | rfl | exact i4

theorem of_num {k : Int} (hk : knownB k = true) {l : List Int} (h : Small l) (hl : l.length ≤ 100) (hp : 0 < l.length) {o : V3} (ho : wrE k o.q o.n o.s.size = 0) :
    ofE k (nums l) o = 0 ∧ ofV k (nums l) o = if k = 0 then ⟨0, (fld k (nums l)).c, ⟨#[]⟩⟩ else ⟨(fld k (nums l)).q, (fld k (nums l)).n, (fld k (nums l)).s⟩ := by
  have hr := nums_right (k := k) h
  obtain ⟨g, kk, c⟩ := fld_good hk (nums l) hr (by rw [nums_len]; omega)
  rw [nums_len] at c
  obtain ⟨e1, e2⟩ := of_ok (o := o) hk (show (nums l).length ≤ 4096 by rw [nums_len]; omega) ((fE_right k _).2 hr)
  have hE : rsE (fld k (nums l)) o = 0 := by
    unfold rsE
    rw [if_neg (by simp [(good_iff _).2 g]), kk, ho]
  rw [e1, e2, hE]
  refine ⟨rfl, ?_⟩
  rw [rs, if_pos hE, rsG, kk]
  split
  · rfl
  · rw [if_neg (by omega)]
/-- The least number. -/
theorem fold_min : ∀ (l : List Int), Small l → l.length ≤ 100 → 0 < l.length → (fld 2 (nums l)).q = 0 ∧ (fld 2 (nums l)).s = ⟨#[]⟩ ∧ (∀ n ∈ l, (fld 2 (nums l)).n ≤ n) ∧ (fld 2 (nums l)).n ∈ l
  | [], _, _, h => by simp at h
  | n :: l, h, hl, _ => by
    have h2 : Small l := fun m hm => h m (by simp [hm])
    have hl2 : l.length ≤ 100 := by simp at hl; omega
    rw [fold_cons (by decide) h hl2]
    obtain ⟨g1, k1, c1⟩ := fld_good (k := 2) (by decide) (nums l) (nums_right h2) (by rw [nums_len]; omega)
    rw [nums_len] at c1
    by_cases hz : l.length = 0
    · obtain rfl := List.eq_nil_of_length_eq_zero hz
      rw [mrg_zr (show ¬ (1 : Int) = 0 by decide) (by rw [c1]; rfl)]
      refine ⟨rfl, rfl, ?_, ?_⟩
      · intro m hm; simp at hm; subst hm; exact Int.le_refl _
      · simp [one, sinQ, num]
    · obtain ⟨i1, i2, i3, i4⟩ := fold_min l h2 hl2 (by omega)
      rw [mrg_nn (show ¬ (1 : Int) = 0 by decide) (by omega)]
      refine ⟨rfl, rfl, ?_, ?_⟩
      · intro m hm
        show min n (fld 2 (nums l)).n ≤ m
        rcases List.mem_cons.1 hm with rfl | hm
        · omega
        · have := i3 m hm; omega
      · show min n (fld 2 (nums l)).n ∈ n :: l
        by_cases hle : n ≤ (fld 2 (nums l)).n
        · rw [show min n (fld 2 (nums l)).n = n by omega]; simp
        · rw [show min n (fld 2 (nums l)).n = (fld 2 (nums l)).n by omega]; simp [i4]
/-- A list that is good for the least value is one of integers. -/
theorem good_nums {L : List V3} {o : V3} (h : goodB 2 L o = true) : L.length ≤ 20 ∧ (∃ l, L = nums l ∧ Small l) ∧ ∃ n, o = num n ∧ -1099511627776 ≤ n ∧ n ≤ 1099511627776 := by
  unfold goodB at h
  simp only [Bool.and_eq_true, decide_eq_true_eq] at h
  obtain ⟨h1, h2, -, -, h3⟩ := h
  have one : ∀ x : V3, okV 2 x = true → x = num x.n ∧ -1099511627776 ≤ x.n ∧ x.n ≤ 1099511627776 := by
    intro x hx
    unfold okV rsuitsB at hx
    simp only [Bool.and_eq_true, decide_eq_true_eq] at hx
    have hq : x.q = 0 := by omega
    obtain ⟨q, n, s⟩ := x
    change q = 0 at hq
    subst hq
    obtain ⟨e1, e2, e3⟩ := check_int hx.1
    have hs := size_zero e1
    subst hs
    exact ⟨rfl, e2, e3⟩
  refine ⟨h1, ⟨L.map (·.n), ?_, ?_⟩, o.n, one o h3⟩
  · rw [nums, List.map_map]
    conv => lhs; rw [← List.map_id L]
    exact List.map_congr_left fun x hx => (one x (List.all_eq_true.1 h2 x hx)).1
  · intro n hn
    obtain ⟨x, hx, rfl⟩ := List.mem_map.1 hn
    exact (one x (List.all_eq_true.1 h2 x hx)).2
end Go.Proofs.Ytkcbjnhphekadaa
