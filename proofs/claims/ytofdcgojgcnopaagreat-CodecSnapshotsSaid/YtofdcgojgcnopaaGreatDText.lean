/- The decoder's method text. -/
import Derived.Test.YtofdcgojgcnopaaGreatDInt
namespace Go.Proofs.YtofdcgojgcnopaaGreat
open Go.RowKit
set_option linter.unusedVariables false
set_option linter.unusedSimpArgs false
theorem De.errs {α : Type} {p : Ps α} {s : Bs} {e c : Int} (x : α) (h : p s = .error c) (hc : c ≠ 0) : De p s e x s (if e = 0 then c else e) := by
  by_cases he : e = 0
  · rw [if_pos he]; subst he; exact De.err (Nat.le_refl _) h hc
  · rw [if_neg he]; exact De.stop he
def RS (_ : World) (v : Value) (x : ByteArray) : Prop := v = .string x ∧ x.size ≤ 64
theorem bstr_takes (l : Bs) (n : Int) (h0 : 0 ≤ n) : (⟨(l.take n.toNat).toArray⟩ : ByteArray) = bstr (l.take n.toNat) := rfl
section
variable (F : Nat) (s : Bs) (e : Int) (w : World)
set_option maxRecDepth 100000 in
set_option maxHeartbeats 4000000 in
theorem dtext_any (hs : s.length ≤ 100000000) (h : Rw w F s e) : Calls Tryz.prog 99 #[.pointer (some ⟨F, 0, none⟩)] w (Rds F pText RS s e w) := by
  have HI := hide (dint_any F s e w hs h)
  clear h
  go_enter Tryz.func99, Tryz.ntmps99
  go_wp2_with fail
  refine HI.out.mono ?_
  rintro en w1 ⟨_, n, s1, e1, rfl, ⟨rfl, hn⟩, hd, hw, ht⟩
  have HD := hide hd
  have HT := hide ht
  have HW := hide hw
  have hl := hd.1
  have c0 := hw.c0
  have c1 := hw.c1
  have f0 := hw.f0
  have hz := bstr_size s1
  unfold inI at hn
  clear hd hw ht
  by_cases hn1 : n < 0 ∨ 64 < n
  · have HDE := hide (HD.out.bind (De.errs (p := pTake n) (e := e1) ⟨#[]⟩ (if_pos hn1) (by decide : (13 : Int) ≠ 0)))
    have HF := hide (dfail_any F s1 e1 w1 13 HW.out)
    obtain ⟨e2, he2⟩ : ∃ e2, (if e1 = 0 then 13 else e1) = e2 := ⟨_, rfl⟩
    have hne : e2 ≠ 0 := by rw [← he2]; split <;> omega
    rw [he2] at HF HDE
    have t2 : (e2 != 0) = true := bne_iff_ne.2 hne
    clear c0 c1 f0 he2 hne
    rcases hn1 with hn1 | hn1
    all_goals
      go_wp2_with fail
      refine HF.out.mono ?_
      rintro en w2 ⟨rfl, hw, ht⟩
      have HW2 := hide hw
      have HT2 := hide ht
      have c1 := hw.c1
      clear hw ht
      go_wp2
      go_ret
      exact ⟨_, _, _, _, rfl, ⟨rfl, Nat.zero_le _⟩, HDE.out, HW2.out, HT.out.trans HT2.out⟩
  · by_cases hn2 : (s1.length : Int) < n
    · have HDE := hide (HD.out.bind (De.errs (p := pTake n) (e := e1) ⟨#[]⟩ ((if_neg hn1).trans (if_pos hn2)) (by decide : (26 : Int) ≠ 0)))
      have HF := hide (dfail_any F s1 e1 w1 26 HW.out)
      obtain ⟨e2, he2⟩ : ∃ e2, (if e1 = 0 then 26 else e1) = e2 := ⟨_, rfl⟩
      have hne : e2 ≠ 0 := by rw [← he2]; split <;> omega
      rw [he2] at HF HDE
      have t2 : (e2 != 0) = true := bne_iff_ne.2 hne
      have hn3 : 0 ≤ n := by omega
      have hn4 : n ≤ 64 := by omega
      clear c1 f0 he2 hne
      go_wp2_with fail
      refine HF.out.mono ?_
      rintro en w2 ⟨rfl, hw, ht⟩
      have HW2 := hide hw
      have HT2 := hide ht
      have c1 := hw.c1
      clear hw ht
      go_wp2
      go_ret
      exact ⟨_, _, _, _, rfl, ⟨rfl, Nat.zero_le _⟩, HDE.out, HW2.out, HT.out.trans HT2.out⟩
    · have hn3 : 0 ≤ n := by omega
      have hn4 : n ≤ 64 := by omega
      by_cases he : e1 = 0
      · subst he
        obtain ⟨m, rfl⟩ : ∃ m : Nat, n = m := ⟨n.toNat, by omega⟩
        have HDE := hide (HD.out.bind (De.ok (p := pTake m) (s' := s1.drop m) (by rw [List.length_drop]; omega) ((if_neg hn1).trans (if_neg hn2))))
        have ha := bstr_take s1 m
        have hb := bstr_drop s1 m
        obtain ⟨S, hS⟩ : ∃ S, bstr s1 = S := ⟨_, rfl⟩
        rw [hS] at ha hb c0 hz
        rw [hz] at hb
        have hm1 : (m : Int) ≤ (s1.length : Int) := by omega
        have HST := hide (HW.out.set (s1.drop m))
        clear hS HW hn1 hn2
        go_wp2
        go_ret
        exact ⟨_, _, _, _, rfl, ⟨rfl, by show (bstr _).size ≤ 64; rw [bstr_size, List.length_take]; omega⟩, HDE.out, HST.out.1, HT.out.trans HST.out.2⟩
      · have HDE := hide (HD.out.fail (q := pTake) (y := ⟨#[]⟩) he)
        have t2 : (e1 != 0) = true := bne_iff_ne.2 he
        clear he
        go_wp2
        go_ret
        exact ⟨_, _, _, _, rfl, ⟨rfl, Nat.zero_le _⟩, HDE.out, HW.out, HT.out⟩
end
end Go.Proofs.YtofdcgojgcnopaaGreat
