/- The reference's open and done. -/
import Derived.Test.YtofdcgojgcnopaaGreatDOp
import Derived.Test.YtofdcgojgcnopaaGreatRVE
namespace Go.Proofs.YtofdcgojgcnopaaGreat
open Go.RowKit
set_option linter.unusedVariables false
set_option linter.unusedSimpArgs false
def doneC (s : Bs) (e : Int) : Int := if e = 0 ∧ s ≠ [] then 3 else e
/-- What opening leaves: a reader of o with the error e, out of which the answer for s comes. -/
def Opens (s o : Bs) (e : Int) : Prop := ∀ (α : Type) (p : Ps α) (x : α) (s' : Bs) (e' : Int), De p o e x s' e' → (doneC s' e' ≠ 0 ∧ openE p s = .error (doneC s' e')) ∨ (doneC s' e' = 0 ∧ openE p s = .ok x)
theorem opens_bad {s : Bs} {c : Int} (hc : c ≠ 0) (h : ∀ (α : Type) (p : Ps α), openE p s = .error c) : Opens s [] c := by
  intro α p x s' e' hd
  have he : e' = c := hd.2.1 hc
  subst he
  have hdc : doneC s' e' = e' := by unfold doneC; exact if_neg (fun h => hc h.1)
  rw [hdc]
  exact .inl ⟨hc, h α p⟩
theorem opens_good {o : Bs} {a b c d : UInt8} (hl : o.length + 4 ≤ 1048576) (h : sumS o = sum4 a b c d) : Opens (o ++ [a, b, c, d]) o 0 := by
  intro α p x s' e' hd
  unfold doneC
  rcases open_good hl h hd with ⟨h1, h2⟩ | ⟨h1, h2, h3⟩ | ⟨h1, h2, h3⟩
  · rw [if_neg (fun h => h1 h.1)]; exact .inl ⟨h1, h2⟩
  · rw [if_pos ⟨h1, h2⟩]; exact .inl ⟨by decide, h3⟩
  · rw [if_neg (fun h => h.2 h2)]; exact .inr ⟨h1, h3⟩
/-- A reader laid anew. -/
def Opn (s : Bs) (w : World) (en : Ending) (w' : World) : Prop :=
  ∃ F o e, en = .returned (.pointer (some ⟨F, 0, none⟩)) ∧ w.heap.size ≤ F ∧ Below w.heap.size w w' ∧ Rw w' F o e ∧ o.length ≤ s.length ∧ Opens s o e
theorem Rw.lay (w : World) (o : Bs) (S : ByteArray) (e : Int) (t : TypeId) {F : Nat} (hF : w.heap.size = F) (hS : S = bstr o) : Rw (w.alloc (.cells #[.string S, .int .i64 e] t)) F o e := by
  subst hF hS
  have h := cells_lit w [.string (bstr o), .int .i64 e] t
  refine ⟨h 0 _ rfl, h 1 _ rfl, ?_, ?_⟩ <;>
    (unfold World.frozen?; rw [show (⟨w.heap.size, _, none⟩ : Addr).block = w.heap.size from rfl, heap_alloc_new]; simp)
section
variable (F : Nat) (s : Bs) (e : Int) (w : World)
set_option maxHeartbeats 400000 in
theorem rdone_any (h : Rw w F s e) : Calls Tryz.prog 25 #[.pointer (some ⟨F, 0, none⟩)] w (fun en w' => en = .returned (.int .i64 (doneC s e)) ∧ w = w') := by
  have c0 := h.c0
  have c1 := h.c1
  clear h
  obtain ⟨S, hS⟩ : ∃ S, bstr s = S := ⟨_, rfl⟩
  have HL := hide (bstr_list hS)
  rw [hS] at c0
  clear hS
  unfold doneC
  by_cases he : e = 0
  · subst he
    by_cases hs : s = []
    · have hS0 : S.toList = [] := HL.out.1 hs
      have hS1 : S.toList.isEmpty = true := by rw [hS0]; rfl
      rw [if_neg (fun h => h.2 hs)]
      clear HL hs
      go_enter Tryz.func25, Tryz.ntmps25
      go_wp2
      go_ret
      exact ⟨rfl, rfl⟩
    · have hS0 := HL.out.2 hs
      have hS1 : S.toList.isEmpty = false := List.isEmpty_eq_false_iff.2 hS0
      rw [if_pos ⟨rfl, hs⟩]
      clear HL hs
      go_enter Tryz.func25, Tryz.ntmps25
      go_wp2
      go_ret
      exact ⟨rfl, rfl⟩
  · have t1 : (e == 0) = false := beq_eq_false_iff_ne.2 he
    rw [if_neg (fun h => he h.1)]
    clear he HL
    go_enter Tryz.func25, Tryz.ntmps25
    go_wp2
    go_ret
    exact ⟨rfl, rfl⟩
end
set_option maxRecDepth 100000 in
set_option maxHeartbeats 4000000 in
theorem ropen_any (s : ByteArray) (w : World) (hs : s.size ≤ 9223372036854775807) : Calls Tryz.prog 23 #[.string s] w (Opn s.data.toList w) := by
  have hz := data_len s
  by_cases hl : 1048576 < s.size
  · have HO := hide (opens_bad (s := s.data.toList) (c := 13) (by decide) (fun α p => open_long (p := p) (by omega)))
    clear hz
    go_enter Tryz.func23, Tryz.ntmps23
    go_wp2
    go_ret
    exact ⟨_, [], 13, rfl, Nat.le_refl _, below_laid _, Rw.lay w [] _ 13 _ rfl rfl, Nat.zero_le _, HO.out⟩
  · by_cases hl4 : s.size < 4
    · have HO := hide (opens_bad (s := s.data.toList) (c := 26) (by decide) (fun α p => open_short (p := p) (by omega)))
      clear hz
      go_enter Tryz.func23, Tryz.ntmps23
      go_wp2
      go_ret
      exact ⟨_, [], 26, rfl, Nat.le_refl _, below_laid _, Rw.lay w [] _ 26 _ rfl rfl, Nat.zero_le _, HO.out⟩
    · obtain ⟨o, a, b, c, d, ho, -, hol⟩ := last4 (l := s.data.toList) (by omega)
      obtain ⟨m, hm⟩ : ∃ m, o.length = m := ⟨_, rfl⟩
      have hsz : s.size = m + 4 := by omega
      have hex : s.extract 0 m = bstr o := by rw [← hm]; exact bstr_pre ho
      have HOS := hide (show o.length ≤ s.data.toList.length by rw [ho]; simp)
      have HC := hide (fun w => rSeal_any w o (by omega))
      have hsub : (s.size : Int) - 4 = (m : Int) := by omega
      have hm1 : (m : Int) ≤ (s.size : Int) := by omega
      have hgt : ¬ (1048576 < (s.size : Int)) := by omega
      have hlt : ¬ ((s.size : Int) < 4) := by omega
      by_cases hsum : sumS o = sum4 a b c d
      · have HO : Hid (Opens s.data.toList o 0) := hide (by rw [ho]; exact opens_good (by omega) hsum)
        have tn : ((bstr (sealB o)).toList == s.toList) = true := by
          rw [Lib.toList_data, Lib.toList_data, ho, bstr_data, (seal_iff o a b c d).2 hsum]; simp
        obtain ⟨S, hS⟩ : ∃ S, bstr (sealB o) = S := ⟨_, rfl⟩
        rw [hS] at HC tn
        clear hS hsum hz ho hol hm hsz hl hl4 hs
        go_enter Tryz.func23, Tryz.ntmps23
        go_wp2_with fail
        refine (HC.out _).mono ?_
        rintro en w1 ⟨rfl, hb⟩
        have HB := hide hb
        clear hb
        go_wp2
        go_ret
        exact ⟨_, o, 0, rfl, HB.out.size, HB.out.trans ((below_laid _).mono HB.out.size), Rw.lay w1 o _ 0 _ rfl rfl, HOS.out, HO.out⟩
      · have HO : Hid (Opens s.data.toList [] 26) := hide (by rw [ho]; exact opens_bad (by decide) (fun α p => open_bad (by omega) hsum))
        have tn : ((bstr (sealB o)).toList == s.toList) = false := by
          rw [Lib.toList_data, Lib.toList_data, ho, bstr_data, beq_eq_false_iff_ne, ne_eq, seal_iff]; exact hsum
        obtain ⟨S, hS⟩ : ∃ S, bstr (sealB o) = S := ⟨_, rfl⟩
        rw [hS] at HC tn
        clear hS hsum hz ho hol hm hsz hl hl4 hs
        go_enter Tryz.func23, Tryz.ntmps23
        go_wp2_with fail
        refine (HC.out _).mono ?_
        rintro en w1 ⟨rfl, hb⟩
        have HB := hide hb
        clear hb
        go_wp2
        go_ret
        exact ⟨_, [], 26, rfl, HB.out.size, HB.out.trans ((below_laid _).mono HB.out.size), Rw.lay w1 [] _ 26 _ rfl rfl, Nat.zero_le _, HO.out⟩
end Go.Proofs.YtofdcgojgcnopaaGreat
