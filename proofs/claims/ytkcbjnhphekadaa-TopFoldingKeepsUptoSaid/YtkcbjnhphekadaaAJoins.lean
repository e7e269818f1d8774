/- Merging is associative, and the empty accumulator is neutral. -/
import Derived.Test.YtkcbjnhphekadaaALaws
namespace Go.Proofs.Ytkcbjnhphekadaa
open Go.RowKit
set_option linter.unusedVariables false
set_option linter.unusedSimpArgs false
theorem mrg_zl {a b : A5} (h : a.c = 0) : mrg a b = b := by
  obtain ⟨k, c, q, n, s⟩ := a
  obtain ⟨l, d, p, m, t⟩ := b
  change c = 0 at h
  subst h
  simp [mrg, mrgK, mrgQ, mrgN, mrgS]
theorem mrg_zr {a b : A5} (ha : ¬ a.c = 0) (h : b.c = 0) : mrg a b = a := by
  obtain ⟨k, c, q, n, s⟩ := a
  obtain ⟨l, d, p, m, t⟩ := b
  change d = 0 at h
  change ¬ c = 0 at ha
  subst h
  simp [mrg, mrgK, mrgQ, mrgN, mrgS, ha]
theorem mrg_nn {a b : A5} (ha : ¬ a.c = 0) (hb : ¬ b.c = 0) : mrg a b = ⟨a.k, a.c + b.c, comQ a.k a.q b.q, comN a.k a.n b.n, comS a.k a.s b.s⟩ := by
  simp [mrg, mrgK, mrgQ, mrgN, mrgS, ha, hb]
theorem com_assoc {k : Int} (hk : knownB k = true) (q p r : Int) (n m o : Int) (s t u : ByteArray) : comQ k (comQ k q p) r = comQ k q (comQ k p r) ∧ comN k (comN k n m) o = comN k n (comN k m o) ∧ comS k (comS k s t) u = comS k s (comS k t u) := by
  have hk6 : k = 0 ∨ k = 1 ∨ k = 2 ∨ k = 3 ∨ k = 4 ∨ k = 5 := by simp only [knownB, decide_eq_true_eq] at hk; omega
  rcases hk6 with rfl | rfl | rfl | rfl | rfl | rfl
  · exact ⟨rfl, rfl, rfl⟩
  · exact ⟨rfl, Int.add_assoc _ _ _, rfl⟩
  · refine ⟨rfl, ?_, rfl⟩; show min (min n m) o = min n (min m o); omega
  · refine ⟨rfl, ?_, rfl⟩; show max (max n m) o = max n (max m o); omega
  · exact ⟨rfl, rfl, rfl⟩
  · exact ⟨rfl, rfl, rfl⟩
theorem mrg_assoc {a b c : A5} (ha : Good a) (hb : Good b) (hc : Good c) (h1 : a.k = b.k) (h2 : b.k = c.k) : mrg (mrg a b) c = mrg a (mrg b c) := by
  have ca := ha.2.1
  have cb := hb.2.1
  have cc := hc.2.1
  by_cases a0 : a.c = 0
  · rw [mrg_zl a0, mrg_zl a0]
  · by_cases b0 : b.c = 0
    · rw [mrg_zr a0 b0, mrg_zl b0]
    · by_cases c0 : c.c = 0
      · rw [mrg_zr b0 c0, mrg_zr (by rw [mrg_nn a0 b0]; show ¬ a.c + b.c = 0; omega) c0]
      · rw [mrg_nn (a := mrg a b) (by rw [mrg_nn a0 b0]; show ¬ a.c + b.c = 0; omega) c0, mrg_nn (b := mrg b c) a0 (by rw [mrg_nn b0 c0]; show ¬ b.c + c.c = 0; omega), mrg_nn a0 b0, mrg_nn b0 c0]
        simp only
        rw [← h1]
        obtain ⟨e1, e2, e3⟩ := com_assoc ha.1 a.q b.q c.q a.n b.n c.n a.s b.s c.s
        rw [e1, e2, e3, Int.add_assoc]
theorem mrg_none {a : A5} (ha : Good a) : mrg a (beg a.k) = a ∧ mrg (beg a.k) a = a := by
  refine ⟨?_, mrg_zl rfl⟩
  by_cases a0 : a.c = 0
  · rw [mrg_zl a0]
    obtain ⟨k, c, q, n, s⟩ := a
    have h := (good_mk.1 ha).2.2.2
    change c = 0 at a0
    subst a0
    rw [if_pos (.inl rfl)] at h
    obtain ⟨rfl, rfl, h3⟩ := h
    rw [size_zero h3]; rfl
  · exact mrg_zr a0 rfl
theorem mg_ok {a b : A5} (ha : Good a) (hb : Good b) (hk : a.k = b.k) (hc : a.c + b.c ≤ 4096) : mgE a b = 0 ∧ mg a b = mrg a b := by
  have h : mgE a b = 0 := by
    unfold mgE
    rw [if_neg (by simp [(good_iff a).2 ha]), if_neg (by simp [(good_iff b).2 hb]), if_neg (by simpa using hk), if_neg (by omega)]
  exact ⟨h, if_pos h⟩
theorem mrg_c (a b : A5) : (mrg a b).c = a.c + b.c := rfl

section
variable (a b c : A5) (w : World)
end
end Go.Proofs.Ytkcbjnhphekadaa
