/- The decoder of the program, the reader of the reference: a struct with a string and an error. What reading does to it; fail. -/
import Derived.Test.YtofdcgojgcnopaaGreatCNz
import Derived.Test.YtofdcgojgcnopaaGreatRW
namespace Go.Proofs.YtofdcgojgcnopaaGreat
open Go.RowKit
set_option linter.unusedVariables false
set_option linter.unusedSimpArgs false
/-- What a reader does by the parser p. -/
def De {α : Type} (p : Ps α) (s : Bs) (e : Int) (x : α) (s' : Bs) (e' : Int) : Prop :=
  s'.length ≤ s.length ∧ (e ≠ 0 → e' = e) ∧ (e = 0 → (∃ c, p s = .error c ∧ c ≠ 0 ∧ e' = c) ∨ (p s = .ok (x, s') ∧ e' = 0))
section
variable {α β : Type} {p : Ps α} {s s' s'' : Bs} {e e' e'' : Int} {x : α}
theorem De.stop (he : e ≠ 0) : De p s e x s e := ⟨Nat.le_refl _, fun _ => rfl, fun h => absurd h he⟩
theorem De.ok (hl : s'.length ≤ s.length) (h : p s = .ok (x, s')) : De p s 0 x s' 0 := ⟨hl, fun h => absurd rfl h, fun _ => .inr ⟨h, rfl⟩⟩
theorem De.err {c : Int} (hl : s'.length ≤ s.length) (h : p s = .error c) (hc : c ≠ 0) : De p s 0 x s' c := ⟨hl, fun h => absurd rfl h, fun _ => .inl ⟨c, h, hc, rfl⟩⟩
theorem De.bind {q : α → Ps β} {y : β} (h : De p s e x s' e') (h' : De (q x) s' e' y s'' e'') : De (pBind p q) s e y s'' e'' := by
  refine ⟨Nat.le_trans h'.1 h.1, fun he => (h'.2.1 (by rw [h.2.1 he]; exact he)).trans (h.2.1 he), fun he => ?_⟩
  rcases h.2.2 he with ⟨c, hp, hc, rfl⟩ | ⟨hp, rfl⟩
  · exact .inl ⟨e', by unfold pBind; rw [hp], hc, h'.2.1 hc⟩
  · rcases h'.2.2 rfl with ⟨c, hq, hc, rfl⟩ | ⟨hq, rfl⟩
    · exact .inl ⟨_, by unfold pBind; rw [hp]; exact hq, hc, rfl⟩
    · exact .inr ⟨by unfold pBind; rw [hp]; exact hq, rfl⟩
/-- Behind an error: whatever is read further. -/
theorem De.fail {q : α → Ps β} {y : β} (h : De p s e x s' e') (he : e' ≠ 0) : De (pBind p q) s e y s' e' := h.bind (De.stop he)
theorem De.ret (x : α) : De (pRet x) s e x s e := ⟨Nat.le_refl _, fun _ => rfl, fun h => .inr ⟨by subst h; rfl, h⟩⟩
theorem De.perr {c : Int} (hc : c ≠ 0) : De (pErr c) s e x s (if e = 0 then c else e) := by
  by_cases he : e = 0
  · rw [if_pos he]; exact ⟨Nat.le_refl _, fun h => absurd he h, fun _ => .inl ⟨c, rfl, hc, rfl⟩⟩
  · rw [if_neg he]; exact De.stop he
end
/-- A call that reads x by the parser p; R: the value that it returns. -/
def Rds {α : Type} (F : Nat) (p : Ps α) (R : World → Value → α → Prop) (s : Bs) (e : Int) (w : World) (en : Ending) (w' : World) : Prop :=
  ∃ v x s' e', en = .returned v ∧ R w' v x ∧ De p s e x s' e' ∧ Rw w' F s' e' ∧ Rt F w w'
/-- An integer. -/
def RI (_ : World) (v : Value) (n : Int) : Prop := v = .int .i64 n ∧ inI n
theorem pint_drop {l : Bs} {j acc : Nat} (hj : j < l.length) (h10 : j < 10) : pint j acc (l.drop j) = if (0 < j ∧ l[j].toNat = 0) ∨ (j = 9 ∧ 1 < l[j].toNat) then none else if l[j].toNat < 128 then some (acc + l[j].toNat * 128 ^ j, l.drop (j + 1)) else pint (j + 1) (acc + l[j].toNat % 128 * 128 ^ j) (l.drop (j + 1)) := by
  rw [List.drop_eq_getElem_cons hj, pint, if_neg (by omega)]
theorem pint_end {l : Bs} {j acc : Nat} (hj : ¬ (j < l.length ∧ j < 10)) (hl : j ≤ l.length) : pint j acc (l.drop j) = none := by
  by_cases h : j < l.length
  · rw [List.drop_eq_getElem_cons h, pint, if_pos (by omega)]
  · rw [List.drop_of_length_le (by omega)]; rfl
theorem unzz_in {u : Nat} (h : u < 18446744073709551616) : inI (unzz u) := by unfold inI unzz; split <;> omega
theorem bstr_drop (l : Bs) (j : Nat) : (bstr l).extract j (bstr l).size = bstr (l.drop j) := by
  apply ByteArray.ext
  rw [ByteArray.data_extract]
  apply Array.ext'
  simp [bstr, ByteArray.size]
  exact List.take_of_length_le (by simp)
theorem bstr_take (l : Bs) (j : Nat) : (bstr l).extract 0 j = bstr (l.take j) := by
  apply ByteArray.ext
  rw [ByteArray.data_extract]
  apply Array.ext'
  simp [bstr]
theorem or_add {a b k : Nat} (h : a < 2 ^ k) : a ||| b * 2 ^ k = a + b * 2 ^ k := by
  rw [Nat.or_comm, ← Nat.shiftLeft_eq, ← Nat.shiftLeft_add_eq_or_of_lt h]
  omega
section
variable (F : Nat) (s : Bs) (e : Int) (w : World)
set_option maxHeartbeats 400000 in
theorem dfail_any (c : Int) (h : Rw w F s e) : Calls Tryz.prog 48 #[.pointer (some ⟨F, 0, none⟩), .int .i64 c] w (RwX F s (if e = 0 then c else e) w) := by
  obtain ⟨h1, h2⟩ := h.fail c
  have HF := hide (And.intro h1 h2)
  have HW := hide h
  have c1 := h.c1
  have f1 := h.f1
  clear h1 h2 h
  by_cases he : e = 0
  · have t1 : (e == 0) = true := beq_iff_eq.2 he
    rw [if_pos he]
    clear he
    go_enter Tryz.func48, Tryz.ntmps48
    go_wp2
    go_end0
    exact ⟨rfl, HF.out⟩
  · have t1 : (e == 0) = false := beq_eq_false_iff_ne.2 he
    rw [if_neg he]
    clear he
    go_enter Tryz.func48, Tryz.ntmps48
    go_wp2
    go_end0
    exact ⟨rfl, HW.out, Rt.refl⟩
set_option maxHeartbeats 400000 in
theorem rfail_any (c : Int) (h : Rw w F s e) : Calls Tryz.prog 83 #[.pointer (some ⟨F, 0, none⟩), .int .i64 c] w (RwX F s (if e = 0 then c else e) w) := by
  obtain ⟨h1, h2⟩ := h.fail c
  have HF := hide (And.intro h1 h2)
  have HW := hide h
  have c1 := h.c1
  have f1 := h.f1
  clear h1 h2 h
  by_cases he : e = 0
  · have t1 : (e == 0) = true := beq_iff_eq.2 he
    rw [if_pos he]
    clear he
    go_enter Tryz.func83, Tryz.ntmps83
    go_wp2
    go_end0
    exact ⟨rfl, HF.out⟩
  · have t1 : (e == 0) = false := beq_eq_false_iff_ne.2 he
    rw [if_neg he]
    clear he
    go_enter Tryz.func83, Tryz.ntmps83
    go_wp2
    go_end0
    exact ⟨rfl, HW.out, Rt.refl⟩
end
end Go.Proofs.YtofdcgojgcnopaaGreat
