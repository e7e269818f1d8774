/- Opening a sealed encoding: the sum of the last four bytes. -/
import Derived.Test.YtofdcgojgcnopaaGreatDRVal
namespace Go.Proofs.YtofdcgojgcnopaaGreat
open Go.RowKit
set_option linter.unusedVariables false
set_option linter.unusedSimpArgs false
def sum4 (a b c d : UInt8) : Nat := a.toNat * 16777216 + b.toNat * 65536 + c.toNat * 256 + d.toNat
theorem i64_or_nat (a b : Nat) (ha : a < 9223372036854775808) (hb : b < 9223372036854775808) : bits .or .i64 (a : Int) (b : Int) = ((a ||| b : Nat) : Int) := by
  have hx : a ||| b < 2 ^ 63 := Nat.or_lt_two_pow (by omega) (by omega)
  show IntKind.i64.wrap ((BitVec.ofInt 64 (a : Int) ||| BitVec.ofInt 64 (b : Int)).toNat : Int) = _
  rw [BitVec.toNat_or, ofInt_64 a (by omega), ofInt_64 b (by omega)]
  simp only [IntKind.wrap, IntKind.bits, IntKind.signed, Bool.true_and, decide_eq_true_eq, ge_iff_le]
  split <;> omega
theorem or_add' {a b k : Nat} (h : a < 2 ^ k) : b * 2 ^ k ||| a = b * 2 ^ k + a := by rw [Nat.or_comm, or_add h]; omega
theorem or_sum (a b c d : UInt8) : bits .or .i64 (bits .or .i64 (bits .or .i64 ((a.toNat : Int) * 16777216) ((b.toNat : Int) * 65536)) ((c.toNat : Int) * 256)) (d.toNat : Int) = ((sum4 a b c d : Nat) : Int) := by
  have ha := a.toNat_lt
  have hb := b.toNat_lt
  have hc := c.toNat_lt
  have hd := d.toNat_lt
  have e1 : (a.toNat : Int) * 16777216 = ((a.toNat * 16777216 : Nat) : Int) := by omega
  have e2 : (b.toNat : Int) * 65536 = ((b.toNat * 65536 : Nat) : Int) := by omega
  have e3 : (c.toNat : Int) * 256 = ((c.toNat * 256 : Nat) : Int) := by omega
  rw [e1, e2, e3, i64_or_nat _ _ (by omega) (by omega)]
  have o1 : a.toNat * 16777216 ||| b.toNat * 65536 = a.toNat * 16777216 + b.toNat * 65536 := or_add' (k := 24) (by omega)
  rw [o1, i64_or_nat _ _ (by omega) (by omega)]
  have o2 : (a.toNat * 16777216 + b.toNat * 65536) ||| c.toNat * 256 = (a.toNat * 256 + b.toNat) * 65536 + c.toNat * 256 := by
    rw [show a.toNat * 16777216 + b.toNat * 65536 = (a.toNat * 256 + b.toNat) * 2 ^ 16 by omega]
    exact or_add' (k := 16) (by omega)
  rw [o2, i64_or_nat _ _ (by omega) (by omega)]
  have o3 : ((a.toNat * 256 + b.toNat) * 65536 + c.toNat * 256) ||| d.toNat = ((a.toNat * 256 + b.toNat) * 256 + c.toNat) * 256 + d.toNat := by
    rw [show (a.toNat * 256 + b.toNat) * 65536 + c.toNat * 256 = ((a.toNat * 256 + b.toNat) * 256 + c.toNat) * 2 ^ 8 by omega]
    exact or_add' (k := 8) (by omega)
  rw [o3]
  unfold sum4
  omega
theorem ofNat_ext {n : Nat} {a : UInt8} : UInt8.ofNat n = a ↔ n % 256 = a.toNat := by
  constructor
  · intro h; rw [← h]; simp [UInt8.toNat_ofNat']
  · intro h; apply UInt8.toNat_inj.1; simp [UInt8.toNat_ofNat', h]
theorem sumBytes_iff {h : Nat} (hh : h < 4294967296) (a b c d : UInt8) : sumBytes h = [a, b, c, d] ↔ h = sum4 a b c d := by
  have ha := a.toNat_lt
  have hb := b.toNat_lt
  have hc := c.toNat_lt
  have hd := d.toNat_lt
  unfold sumBytes sum4
  simp only [List.cons.injEq, and_true, ofNat_ext]
  omega
/-- The last four bytes. -/
theorem last4 {l : Bs} (h : 4 ≤ l.length) : ∃ o a b c d, l = o ++ [a, b, c, d] ∧ l.take (l.length - 4) = o ∧ o.length = l.length - 4 := by
  have e := List.take_append_drop (l.length - 4) l
  have hd : (l.drop (l.length - 4)).length = 4 := by rw [List.length_drop]; omega
  obtain ⟨a, b, c, d, h4⟩ : ∃ a b c d, l.drop (l.length - 4) = [a, b, c, d] := by
    match l.drop (l.length - 4), hd with
    | [a, b, c, d], _ => exact ⟨a, b, c, d, rfl⟩
  exact ⟨_, a, b, c, d, by rw [← h4, e], rfl, by rw [List.length_take]; omega⟩
theorem seal_iff (o : Bs) (a b c d : UInt8) : sealB o = o ++ [a, b, c, d] ↔ sumS o = sum4 a b c d := by
  unfold sealB
  rw [List.append_cancel_left_eq, sumBytes_iff (sum_lt o)]
def codE {α : Type} (r : Ex α) : Int := match r with | .ok _ => 0 | .error c => c
def outE {α : Type} (z : α) (r : Ex α) : α := match r with | .ok x => x | .error _ => z
section
variable {α : Type} {p : Ps α}
theorem open_long {l : Bs} (h : 1048576 < l.length) : openE p l = .error 13 := by unfold openE; rw [if_pos h]
theorem open_short {l : Bs} (h : l.length < 4) : openE p l = .error 26 := by unfold openE; rw [if_neg (by omega), if_pos h]
theorem open_bad {o : Bs} {a b c d : UInt8} (hl : o.length + 4 ≤ 1048576) (h : sumS o ≠ sum4 a b c d) : openE p (o ++ [a, b, c, d]) = .error 26 := by
  have hlen : (o ++ [a, b, c, d]).length = o.length + 4 := by simp
  unfold openE
  rw [hlen, if_neg (by omega), if_neg (by omega), Nat.add_sub_cancel, List.take_left' rfl, if_pos (by rw [ne_eq, seal_iff]; exact h)]
theorem open_good {o : Bs} {a b c d : UInt8} (hl : o.length + 4 ≤ 1048576) (h : sumS o = sum4 a b c d) {x : α} {s' : Bs} {e' : Int} (hd : De p o 0 x s' e') :
    (e' ≠ 0 ∧ openE p (o ++ [a, b, c, d]) = .error e') ∨ (e' = 0 ∧ s' ≠ [] ∧ openE p (o ++ [a, b, c, d]) = .error 3) ∨ (e' = 0 ∧ s' = [] ∧ openE p (o ++ [a, b, c, d]) = .ok x) := by
  have hlen : (o ++ [a, b, c, d]).length = o.length + 4 := by simp
  have hs := (seal_iff o a b c d).2 h
  have he : openE p (o ++ [a, b, c, d]) = match p o with | .error c => .error c | .ok (x, []) => .ok x | .ok (_, _ :: _) => .error 3 := by
    unfold openE
    rw [hlen, if_neg (by omega), if_neg (by omega), Nat.add_sub_cancel, List.take_left' rfl, if_neg (by rw [hs]; simp)]
    rcases p o with c | ⟨y, _ | _⟩ <;> rfl
  rw [he]
  rcases hd.2.2 rfl with ⟨c, hp, hc, rfl⟩ | ⟨hp, rfl⟩
  · rw [hp]; exact .inl ⟨hc, rfl⟩
  · rw [hp]
    cases s' with
    | nil => exact .inr (.inr ⟨rfl, rfl, rfl⟩)
    | cons y r => exact .inr (.inl ⟨rfl, by simp, rfl⟩)
end
end Go.Proofs.YtofdcgojgcnopaaGreat
