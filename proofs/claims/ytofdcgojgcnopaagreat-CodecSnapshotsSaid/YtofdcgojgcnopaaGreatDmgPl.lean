/- A damaged encoding: one byte is another one; the sum does not fit any more. -/
import Derived.Test.YtofdcgojgcnopaaGreatDPlain
namespace Go.Proofs.YtofdcgojgcnopaaGreat
set_option linter.unusedVariables false
set_option linter.unusedSimpArgs false
theorem mul_inv {x : Nat} (hx : x < 4294967296) : x * 16777619 % 4294967296 * 899433627 % 4294967296 = x := by
  omega
theorem xor_same (h c : Nat) : (h ^^^ c) ^^^ c = h := by rw [Nat.xor_assoc, Nat.xor_self, Nat.xor_zero]
theorem step_lt (h : Nat) (c : UInt8) : sumStep h c < 4294967296 := Nat.mod_lt _ (by decide)
theorem step_x {h h' : Nat} (hh : h < 4294967296) (hh' : h' < 4294967296) {c c' : UInt8} (e : sumStep h c = sumStep h' c') : h ^^^ c.toNat = h' ^^^ c'.toNat := by
  have hc := c.toNat_lt
  have hc' := c'.toNat_lt
  have a := mul_inv (x := h ^^^ c.toNat) (Nat.xor_lt_two_pow (n := 32) hh (by omega))
  have b := mul_inv (x := h' ^^^ c'.toNat) (Nat.xor_lt_two_pow (n := 32) hh' (by omega))
  unfold sumStep at e
  rw [e] at a
  exact a.symm.trans b
theorem step_h {h h' : Nat} (hh : h < 4294967296) (hh' : h' < 4294967296) {c : UInt8} (e : sumStep h c = sumStep h' c) : h = h' := by
  have := step_x hh hh' e
  have e2 := congrArg (· ^^^ c.toNat) this
  simpa [xor_same] using e2
theorem step_c {h : Nat} (hh : h < 4294967296) {c c' : UInt8} (e : sumStep h c = sumStep h c') : c = c' := by
  have := step_x hh hh e
  rw [Nat.xor_comm h, Nat.xor_comm h] at this
  have e2 := congrArg (· ^^^ h) this
  simp only [xor_same] at e2
  exact UInt8.toNat_inj.1 e2
theorem fold_ne : ∀ (l : Bs) {h h' : Nat}, h < 4294967296 → h' < 4294967296 → h ≠ h' → l.foldl sumStep h ≠ l.foldl sumStep h'
  | [], _, _, _, _, hne => hne
  | c :: l, _, _, hh, hh', hne => fold_ne l (step_lt _ c) (step_lt _ c) fun e => hne (step_h hh hh' e)
theorem fold_set : ∀ (l : Bs) {h : Nat}, h < 4294967296 → ∀ (i : Nat) (hi : i < l.length) (y : UInt8), y ≠ l[i] → (l.set i y).foldl sumStep h ≠ l.foldl sumStep h
  | c :: l, h, hh, 0, hi, y, hy => fold_ne l (step_lt _ _) (step_lt _ _) fun e => hy (step_c hh e)
  | c :: l, h, hh, i + 1, hi, y, hy => fold_set l (step_lt _ _) i (by simpa using hi) y (by simpa using hy)
theorem sum_set {l : Bs} {i : Nat} (hi : i < l.length) {y : UInt8} (hy : y ≠ l[i]) : sumS (l.set i y) ≠ sumS l := fold_set l (by decide) i hi y hy
theorem sum4_inj {a b c d a' b' c' d' : UInt8} (h : sum4 a b c d = sum4 a' b' c' d') : a = a' ∧ b = b' ∧ c = c' ∧ d = d' := by
  have h1 := a.toNat_lt; have h2 := b.toNat_lt; have h3 := c.toNat_lt; have h4 := d.toNat_lt
  have h5 := a'.toNat_lt; have h6 := b'.toNat_lt; have h7 := c'.toNat_lt; have h8 := d'.toNat_lt
  unfold sum4 at h
  refine ⟨UInt8.toNat_inj.1 ?_, UInt8.toNat_inj.1 ?_, UInt8.toNat_inj.1 ?_, UInt8.toNat_inj.1 ?_⟩ <;> omega
theorem open_damaged {b s : Bs} (hs : sealB b = s) (hl : b.length + 4 ≤ 1048576) {i : Nat} (hi : i < s.length) {y : UInt8} (hy : y ≠ s[i]) {α : Type} (p : Ps α) : openE p (s.set i y) = .error 26 := by
  subst hs
  obtain ⟨a1, a2, a3, a4, hq⟩ : ∃ a1 a2 a3 a4, sumBytes (sumS b) = [a1, a2, a3, a4] := ⟨_, _, _, _, rfl⟩
  have hsl : sealB b = b ++ [a1, a2, a3, a4] := by unfold sealB; rw [hq]
  have hsum := (seal_iff b a1 a2 a3 a4).1 hsl
  have hlen : (sealB b).length = b.length + 4 := by rw [hsl]; simp
  by_cases hb : i < b.length
  · have e : (sealB b).set i y = b.set i y ++ [a1, a2, a3, a4] := by rw [hsl, List.set_append_left _ _ hb]
    rw [e]
    refine open_bad (by simpa using hl) ?_
    rw [← hsum]
    refine sum_set hb fun h => hy ?_
    rw [h]
    simp only [hsl, List.getElem_append_left hb]
  · have e : (sealB b).set i y = b ++ [a1, a2, a3, a4].set (i - b.length) y := by rw [hsl, List.set_append_right _ _ (by omega)]
    have hy' : ∀ k (hk : k < 4), i = b.length + k → y ≠ [a1, a2, a3, a4][k] := by
      intro k hk hik h
      apply hy
      rw [h]
      simp only [hsl]
      subst hik
      rw [List.getElem_append_right (by omega)]
      simp
    rw [e]
    obtain ⟨k, hk, hik⟩ : ∃ k, k < 4 ∧ i = b.length + k := ⟨i - b.length, by omega, by omega⟩
    subst hik
    rw [Nat.add_sub_cancel_left]
    have hy2 := hy' k hk rfl
    match k, hk, hy2 with
    | 0, _, hy2 => exact open_bad hl fun h => hy2 (sum4_inj (h.symm.trans hsum)).1
    | 1, _, hy2 => exact open_bad hl fun h => hy2 (sum4_inj (h.symm.trans hsum)).2.1
    | 2, _, hy2 => exact open_bad hl fun h => hy2 (sum4_inj (h.symm.trans hsum)).2.2.1
    | 3, _, hy2 => exact open_bad hl fun h => hy2 (sum4_inj (h.symm.trans hsum)).2.2.2
theorem vint_pos (u : Nat) : 0 < (vint u).length := by rw [vint]; split <;> simp
theorem seal_form {r : Ex Bs} {s : Bs} (h : sealE r = .ok s) : ∃ b, r = .ok b ∧ sealB b = s ∧ b.length + 4 ≤ 1048576 ∧ s.length = b.length + 4 := by
  unfold sealE at h
  cases r with
  | error c => cases h
  | ok b =>
    simp only at h
    by_cases hl : 1048576 < b.length + 4
    · rw [if_pos hl] at h; cases h
    · rw [if_neg hl] at h
      cases h
      exact ⟨b, rfl, rfl, by omega, by simp [sealB, sumBytes]⟩
theorem list_pos {α : Type} {f : α → Ex Bs} {l : List α} {b : Bs} (h : eL f l = .ok b) : 0 < b.length := by
  unfold eL at h
  split at h
  · cases h
  · obtain ⟨y, z, h1, -, rfl⟩ := andE_ok h
    cases h1
    rw [List.length_append]
    have := vint_pos (zz l.length)
    unfold num; omega
theorem list_seal {α : Type} {f : α → Ex Bs} {l : List α} {s : Bs} (h : sealE (eL f l) = .ok s) : ∃ b, sealB b = s ∧ b.length + 4 ≤ 1048576 ∧ 5 ≤ s.length ∧ s.length ≤ 1048576 := by
  obtain ⟨b, h1, h2, h3, h4⟩ := seal_form h
  have := list_pos h1
  exact ⟨b, h2, h3, by omega, by omega⟩
end Go.Proofs.YtofdcgojgcnopaaGreat
