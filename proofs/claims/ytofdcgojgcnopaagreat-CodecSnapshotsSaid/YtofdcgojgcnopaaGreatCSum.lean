/- Checksum, of the program and of the reference. -/
import Derived.Test.YtofdcgojgcnopaaGreatCInt
namespace Go.Proofs.YtofdcgojgcnopaaGreat
open Go.RowKit
set_option linter.unusedVariables false
set_option linter.unusedSimpArgs false
theorem sum_lt (l : Bs) : sumS l < 4294967296 := by
  unfold sumS
  suffices h : ∀ a, a < 4294967296 → l.foldl sumStep a < 4294967296 from h _ (by decide)
  induction l with
  | nil => intro a h; exact h
  | cons c l ih => intro a _; exact ih _ (Nat.mod_lt _ (by decide))
theorem sum_take {l : Bs} {k : Nat} (h : k < l.length) : sumS (l.take (k + 1)) = sumStep (sumS (l.take k)) l[k] := by
  unfold sumS
  rw [List.take_succ_eq_append_getElem h, List.foldl_append, List.foldl_cons, List.foldl_nil]
theorem sum0 (l : Bs) : ((sumS (l.take 0) : Nat) : Int) = 2166136261 := by
  rw [List.take_zero]
  unfold sumS
  rw [List.foldl_nil]
  omega
theorem sum_step32 {a : Nat} (ha : a < 4294967296) (c : UInt8) : bits .xor .u32 (a : Int) (c.toNat : Int) * 16777619 % 4294967296 = ((sumStep a c : Nat) : Int) := by
  have hc := c.toNat_lt
  rw [u32_xor_nat a c.toNat ha (by omega)]
  unfold sumStep
  simp
theorem sum_step64 {a : Nat} (ha : a < 4294967296) (c : UInt8) : bits .xor .i64 (a : Int) (c.toNat : Int) * 16777619 % 4294967296 = ((sumStep a c : Nat) : Int) := by
  have hc := c.toNat_lt
  rw [i64_xor_nat a c.toNat (by omega) (by omega)]
  unfold sumStep
  simp
theorem xor_lt32 {a : Nat} (ha : a < 4294967296) (c : UInt8) : 0 ≤ bits .xor .i64 (a : Int) (c.toNat : Int) ∧ bits .xor .i64 (a : Int) (c.toNat : Int) < 4294967296 := by
  have hc := c.toNat_lt
  rw [i64_xor_nat a c.toNat (by omega) (by omega)]
  have : a ^^^ c.toNat < 2 ^ 32 := Nat.xor_lt_two_pow (by omega) (by omega)
  omega
theorem data_len (s : ByteArray) : s.data.toList.length = s.size := by rw [Array.length_toList]; rfl
section
variable (s : ByteArray) (w : World)
set_option maxRecDepth 100000 in
set_option maxHeartbeats 1000000 in
theorem checksum_any (hs : s.size ≤ maxLen) : Calls Tryz.prog 14 #[.string s] w fun e w' => e = .returned (.int .i64 ((sumS s.data.toList : Nat) : Int)) ∧ w = w' := by
  unfold maxLen at hs
  go_enter Tryz.func14, Tryz.ntmps14
  go_wp2
  go_loop [3, 7] (fun h i => ∃ k : Nat, k ≤ s.size ∧ i = .int .i64 k ∧ h = .int .u32 ((sumS (s.data.toList.take k) : Nat) : Int)) (fun _ i => s.size - (intOf i).toNat)
  case atStart => exact ⟨0, by omega, rfl, by rw [sum0]⟩
  case round =>
    obtain ⟨k, hk, rfl, rfl⟩ := hrel
    by_cases hlt : k < s.size
    · have hkl : k < s.data.toList.length := by rw [data_len]; exact hlt
      have HS := hide (sum_take hkl)
      have hb := sum_lt (s.data.toList.take k)
      obtain ⟨a, ha⟩ : ∃ a, sumS (s.data.toList.take k) = a := ⟨_, rfl⟩
      rw [ha] at HS hb ⊢
      have HST := hide (sum_step32 hb s[k])
      have hc := s[k].toNat_lt
      clear ha
      go_wp2
      go_round
      case rel => exact ⟨k + 1, by omega, by go_num, by rw [HS.out]; exact congrArg _ HST.out⟩
      case measure => simp [intOf]; omega
    · obtain rfl : k = s.size := by omega
      have hb := sum_lt s.data.toList
      have HT : Hid (s.data.toList.take s.size = s.data.toList) := hide (List.take_of_length_le (by rw [data_len]; exact Nat.le_refl _))
      rw [HT.out]
      go_wp2
      go_ret
      exact ⟨rfl, rfl⟩
set_option maxRecDepth 100000 in
set_option maxHeartbeats 1000000 in
theorem rchecksum_any (hs : s.size ≤ maxLen) : Calls Tryz.prog 77 #[.string s] w fun e w' => e = .returned (.int .i64 ((sumS s.data.toList : Nat) : Int)) ∧ w = w' := by
  unfold maxLen at hs
  go_enter Tryz.func77, Tryz.ntmps77
  go_wp2
  go_loop [3, 4] (fun h i => ∃ k : Nat, k ≤ s.size ∧ i = .int .i64 k ∧ h = .int .i64 ((sumS (s.data.toList.take k) : Nat) : Int)) (fun _ i => s.size - (intOf i).toNat)
  case atStart => exact ⟨0, by omega, rfl, by rw [sum0]⟩
  case round =>
    obtain ⟨k, hk, rfl, rfl⟩ := hrel
    by_cases hlt : k < s.size
    · have hkl : k < s.data.toList.length := by rw [data_len]; exact hlt
      have HS := hide (sum_take hkl)
      have hb := sum_lt (s.data.toList.take k)
      obtain ⟨a, ha⟩ : ∃ a, sumS (s.data.toList.take k) = a := ⟨_, rfl⟩
      rw [ha] at HS hb ⊢
      have HST := hide (sum_step64 hb s[k])
      have hc := s[k].toNat_lt
      obtain ⟨x0, x1⟩ := xor_lt32 hb s[k]
      clear ha
      go_wp2
      go_round
      case rel => exact ⟨k + 1, by omega, by go_num, by rw [HS.out]; exact congrArg _ HST.out⟩
      case measure => simp [intOf]; omega
    · obtain rfl : k = s.size := by omega
      have hb := sum_lt s.data.toList
      have HT : Hid (s.data.toList.take s.size = s.data.toList) := hide (List.take_of_length_le (by rw [data_len]; exact Nat.le_refl _))
      rw [HT.out]
      go_wp2
      go_ret
      exact ⟨rfl, rfl⟩
end
end Go.Proofs.YtofdcgojgcnopaaGreat
