/- The reference's Number. -/
import Derived.Test.YtofdcgojgcnopaaGreatCSeal
namespace Go.Proofs.YtofdcgojgcnopaaGreat
open Go.RowKit Go.Lib
set_option linter.unusedVariables false
set_option linter.unusedSimpArgs false
def bstr (l : Bs) : ByteArray := ⟨l.toArray⟩
theorem bstr_size (l : Bs) : (bstr l).size = l.length := by simp [bstr, ByteArray.size]
theorem bstr_data (l : Bs) : (bstr l).data.toList = l := rfl
theorem bstr_cat (a b : Bs) : bstr a ++ bstr b = bstr (a ++ b) := by
  apply ByteArray.ext
  rw [ByteArray.data_append]
  simp [bstr]
theorem bstr_of (s : ByteArray) : bstr s.data.toList = s := by
  unfold bstr
  rcases s with ⟨⟨l⟩⟩
  rfl
theorem conv_lit (w : World) (l : Bs) (te : TypeId) : (convert 92 9 (.slice (some ⟨w.heap.size, 0, none⟩) l.length l.length)).run Tryz.prog (w.alloc (.cells (bytes l).toArray te)) = .ok (.string (bstr l)) (w.alloc (.cells (bytes l).toArray te)) := by
  refine run_convert_bytes_back _ _ _ 5 ⟨w.heap.size, 0, none⟩ l.length l Tryz.underlying92 Tryz.underlying5 Tryz.underlying9 fun j hj => ?_
  rw [show (⟨w.heap.size, 0, none⟩ : Addr).add j = ⟨w.heap.size, j, none⟩ by unfold Addr.add; split <;> simp_all]
  exact cells_lit w (bytes l) te j _ (by simp [bytes, hj])
theorem mod_8 (k : Nat) : (k : Int) % 128 + 128 = ((UInt8.ofNat (k % 128 + 128)).toNat : Int) := by rw [ofNat_toNat (by omega)]; omega
theorem zz_pos {n : Int} (h : ¬ n < 0) : n * 2 = (zz n : Int) := by unfold zz; rw [if_pos (by omega)]; omega
theorem zz_neg {n : Int} (h : n < 0) (hn : inI n) : bits .xor .u64 IntKind.u64.max (IntKind.u64.wrap (IntKind.u64.wrap n * 2)) = (zz n : Int) := by
  unfold inI at hn
  have e1 : IntKind.u64.wrap (IntKind.u64.wrap n * 2) = ((n * 2 % 18446744073709551616).toNat : Int) := by
    rw [wrap_u64, wrap_u64]; omega
  have e2 : IntKind.u64.max = ((18446744073709551615 : Nat) : Int) := by decide
  rw [e1, e2, u64_xor_nat _ _ (by omega) (by omega), Nat.xor_comm, xor_ones (by omega)]
  unfold zz
  rw [if_neg (by omega)]
  omega
section
variable (w : World)
set_option maxRecDepth 100000 in
set_option maxHeartbeats 4000000 in
theorem rnum_any (n : Int) (hn : inI n) : Calls Tryz.prog 72 #[.int .i64 n] w (Ret (.string (bstr (num n))) w) := by
  have HN := hide hn
  have HZ := hide (zz_lt hn)
  unfold inI at hn
  by_cases h0 : n < 0
  · have hzz := zz_neg h0 HN.out
    have t0 : decide (n < 0) = true := decide_eq_true h0
    go_enter Tryz.func72, Tryz.ntmps72
    go_wp2
    try clear hzz
    go_loopw [3, 4] (fun u s wr => ∃ k : Nat, u = .int .u64 k ∧ k < 18446744073709551616 ∧ ∃ o1, s = .string (bstr o1) ∧ Hid (o1 ++ vint k = num n) ∧ Hid (Below w.heap.size w wr)) (fun u _ _ => (intOf u).toNat)
    case atStart => first | exact ⟨zz n, rfl, HZ.out, [], rfl, hide rfl, hide (Below.refl _ _)⟩ | exact ⟨zz n, congrArg _ HZZ.out, HZ.out, [], rfl, hide rfl, hide (Below.refl _ _)⟩
    case round =>
      obtain ⟨k, rfl, hk, o1, rfl, HO, HB⟩ := hrel
      have hol : o1.length ≤ 10 := by
        have h1 := congrArg List.length HO.out
        have h2 := num_len HN.out
        rw [List.length_append] at h1
        omega
      by_cases hlt : k < 128
      · have t1 : decide ((128 : Int) ≤ (k : Int)) = false := decide_eq_false (by omega)
        have hcv := conv_lit wr [UInt8.ofNat k] 5
        simp only [bytes, List.map_cons, List.map_nil, List.length_cons, List.length_nil, ← low_8 hlt] at hcv
        have hct := bstr_cat o1 [UInt8.ofNat k]
        have hsz : (bstr o1).size + (bstr [UInt8.ofNat k]).size ≤ 9223372036854775807 := by rw [bstr_size, bstr_size]; simp only [List.length_cons, List.length_nil]; omega
        have HE : Hid (o1 ++ [UInt8.ofNat k] = num n) := hide (by rw [← vint_small hlt]; exact HO.out)
        go_wp2
        go_ret
        exact Ret.mk (by show Value.string (bstr (o1 ++ [UInt8.ofNat k])) = _; rw [HE.out]) (bthen HB.out (below_laid _))
      · have t1 : decide ((128 : Int) ≤ (k : Int)) = true := decide_eq_true (by omega)
        have hm := mod_8 k
        obtain ⟨b, hb⟩ : ∃ b, UInt8.ofNat (k % 128 + 128) = b := ⟨_, rfl⟩
        have HE : Hid (o1 ++ [b] ++ vint (k / 128) = num n) := hide (by rw [List.append_assoc, ← HO.out, vint_big hlt, hb]; rfl)
        rw [hb] at hm
        have hcv := conv_lit wr [b] 5
        simp only [bytes, List.map_cons, List.map_nil, List.length_cons, List.length_nil, ← hm] at hcv
        have hct := bstr_cat o1 [b]
        have hsz : (bstr o1).size + (bstr [b]).size ≤ 9223372036854775807 := by rw [bstr_size, bstr_size]; simp only [List.length_cons, List.length_nil]; omega
        clear hm hb
        go_wp2
        go_roundw
        case rel => exact ⟨k / 128, by go_num, by omega, _, rfl, HE, hide (bthen HB.out (below_laid _))⟩
        case measure => simp [intOf]; omega
  · have HZZ := hide (zz_pos h0)
    have t0 : decide (n < 0) = false := decide_eq_false h0
    go_enter Tryz.func72, Tryz.ntmps72
    go_wp2
    try clear hzz
    go_loopw [3, 4] (fun u s wr => ∃ k : Nat, u = .int .u64 k ∧ k < 18446744073709551616 ∧ ∃ o1, s = .string (bstr o1) ∧ Hid (o1 ++ vint k = num n) ∧ Hid (Below w.heap.size w wr)) (fun u _ _ => (intOf u).toNat)
    case atStart => first | exact ⟨zz n, rfl, HZ.out, [], rfl, hide rfl, hide (Below.refl _ _)⟩ | exact ⟨zz n, congrArg _ HZZ.out, HZ.out, [], rfl, hide rfl, hide (Below.refl _ _)⟩
    case round =>
      obtain ⟨k, rfl, hk, o1, rfl, HO, HB⟩ := hrel
      have hol : o1.length ≤ 10 := by
        have h1 := congrArg List.length HO.out
        have h2 := num_len HN.out
        rw [List.length_append] at h1
        omega
      by_cases hlt : k < 128
      · have t1 : decide ((128 : Int) ≤ (k : Int)) = false := decide_eq_false (by omega)
        have hcv := conv_lit wr [UInt8.ofNat k] 5
        simp only [bytes, List.map_cons, List.map_nil, List.length_cons, List.length_nil, ← low_8 hlt] at hcv
        have hct := bstr_cat o1 [UInt8.ofNat k]
        have hsz : (bstr o1).size + (bstr [UInt8.ofNat k]).size ≤ 9223372036854775807 := by rw [bstr_size, bstr_size]; simp only [List.length_cons, List.length_nil]; omega
        have HE : Hid (o1 ++ [UInt8.ofNat k] = num n) := hide (by rw [← vint_small hlt]; exact HO.out)
        go_wp2
        go_ret
        exact Ret.mk (by show Value.string (bstr (o1 ++ [UInt8.ofNat k])) = _; rw [HE.out]) (bthen HB.out (below_laid _))
      · have t1 : decide ((128 : Int) ≤ (k : Int)) = true := decide_eq_true (by omega)
        have hm := mod_8 k
        obtain ⟨b, hb⟩ : ∃ b, UInt8.ofNat (k % 128 + 128) = b := ⟨_, rfl⟩
        have HE : Hid (o1 ++ [b] ++ vint (k / 128) = num n) := hide (by rw [List.append_assoc, ← HO.out, vint_big hlt, hb]; rfl)
        rw [hb] at hm
        have hcv := conv_lit wr [b] 5
        simp only [bytes, List.map_cons, List.map_nil, List.length_cons, List.length_nil, ← hm] at hcv
        have hct := bstr_cat o1 [b]
        have hsz : (bstr o1).size + (bstr [b]).size ≤ 9223372036854775807 := by rw [bstr_size, bstr_size]; simp only [List.length_cons, List.length_nil]; omega
        clear hm hb
        go_wp2
        go_roundw
        case rel => exact ⟨k / 128, by go_num, by omega, _, rfl, HE, hide (bthen HB.out (below_laid _))⟩
        case measure => simp [intOf]; omega
end
end Go.Proofs.YtofdcgojgcnopaaGreat
