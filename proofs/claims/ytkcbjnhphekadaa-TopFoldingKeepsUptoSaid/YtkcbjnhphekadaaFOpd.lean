/- The error of the kinds of arguments. -/
import Derived.Test.YtkcbjnhphekadaaFNodeA
namespace Go.Proofs.Ytkcbjnhphekadaa
open Go.RowKit
set_option linter.unusedVariables false
set_option linter.unusedSimpArgs false
def okK (op k0 k : Int) : Bool := if op = 5 ∨ op = 6 ∨ op = 7 ∨ op = 8 then k == 0 else if op = 10 ∨ op = 11 ∨ op = 12 then k == 1 else if op = 9 then k == k0 else true
theorem ops_ok (op : Int) (ks : List Int) : opsE op ks = if ks.all (okK op (ks.headD 0)) = true then 0 else 9 := by
  have he : ∀ a : Int, (fun k : Int => k == a) = fun k => decide (k = a) := fun a => by funext k; by_cases h : k = a <;> simp [h]
  unfold opsE okK
  by_cases h1 : op = 5 ∨ op = 6 ∨ op = 7 ∨ op = 8
  · simp only [if_pos h1, he]
  · by_cases h2 : op = 10 ∨ op = 11 ∨ op = 12
    · simp only [if_neg h1, if_pos h2, he]
    · by_cases h3 : op = 9
      · simp only [if_neg h1, if_neg h2, if_pos h3, he]
      · simp [if_neg h1, if_neg h2, if_neg h3]
theorem ops_take {l : List Int} {f : Int → Bool} {j : Nat} (h : j < l.length) (ht : (l.take j).all f = true) (hf : f l[j] = true) : (l.take (j + 1)).all f = true := by
  rw [List.take_succ_eq_append_getElem h, List.all_append, ht]
  simp [hf]
theorem ops_bad {l : List Int} {f : Int → Bool} {j : Nat} (h : j < l.length) (hf : f l[j] = false) : l.all f = false := by
  rw [List.all_eq_false]
  exact ⟨l[j], List.getElem_mem h, by simp [hf]⟩
section
variable (w : World)
set_option maxRecDepth 100000 in
set_option maxHeartbeats 8000000 in
theorem opd_any (op : Int) (ks : List Int) (v : Value) (hl : ks.length ≤ 1000000) (hr : Row w w.heap.size 1 v ks.length (ints ks)) : Calls Try.prog 37 #[.int .i64 op, v] w (Ret (.int .i64 (opsE op ks)) w) := by
  have HO := hide (ops_ok op ks)
  have HV := hide hr
  obtain ⟨A, cap, rfl⟩ := hr.form
  obtain ⟨m, hm⟩ : ∃ m, ks.length = m := ⟨_, rfl⟩
  rw [hm] at HV hl ⊢
  have HM := hide hm
  obtain ⟨k0, hk0⟩ : ∃ k, ks.headD 0 = k := ⟨_, rfl⟩
  have HK0 := hide hk0
  rw [hk0] at HO
  obtain ⟨R, hR⟩ : ∃ R, opsE op ks = R := ⟨_, rfl⟩
  rw [hR] at HO ⊢
  clear hR hk0 hm hr
  have HG : Hid (0 < m → ∃ g off cap', (.slice A m cap : Value) = .slice (some ⟨g, off, none⟩) m cap' ∧ g < w.heap.size ∧ (∀ j, j < m → w.cell? ⟨g, off + j, none⟩ = ks[j]?.map (Value.int .i64)) ∧ w.cell? ⟨g, off, none⟩ = some (.int .i64 k0)) := hide (by
    intro hpos
    obtain ⟨g, off, cap', e, hg, -, hc⟩ := HV.out.at_ hpos
    have hall : ∀ j, j < m → w.cell? ⟨g, off + j, none⟩ = ks[j]?.map (Value.int .i64) := by
      intro j hj
      have hj' : j < ks.length := by rw [HM.out]; exact hj
      rw [List.getElem?_eq_getElem hj']
      exact hc j _ (by simp [ints, List.getElem?_eq_getElem hj'])
    refine ⟨g, off, cap', e, hg, hall, ?_⟩
    have h0 := hall 0 hpos
    rw [Nat.add_zero] at h0
    rw [h0, ← HK0.out]
    have hp : 0 < ks.length := by rw [HM.out]; exact hpos
    cases ks with
    | nil => cases hp
    | cons a l => rfl)
  clear HV HK0
  have hcase : (op = 5 ∨ op = 6 ∨ op = 7 ∨ op = 8) ∨ (op = 10 ∨ op = 11 ∨ op = 12) ∨ op = 9 ∨ (okK op k0 = fun _ => true) := by
    by_cases h1 : op = 5 ∨ op = 6 ∨ op = 7 ∨ op = 8
    · exact .inl h1
    · by_cases h2 : op = 10 ∨ op = 11 ∨ op = 12
      · exact .inr (.inl h2)
      · by_cases h3 : op = 9
        · exact .inr (.inr (.inl h3))
        · exact .inr (.inr (.inr (by funext k; unfold okK; rw [if_neg h1, if_neg h2, if_neg h3])))
  rcases hcase with (rfl | rfl | rfl | rfl) | (rfl | rfl | rfl) | rfl | he
  · go_enter Try.func37, Try.ntmps37
    go_wp2_with fail
    go_loopw [10] (fun i wr => ∃ j : Nat, j ≤ m ∧ i = .int .i64 j ∧ Hid ((ks.take j).all (okK 5 k0) = true) ∧ wr = w) (fun i _ => m - (intOf i).toNat)
    case atStart => exact ⟨0, Nat.zero_le _, rfl, hide rfl, rfl⟩
    case round =>
      obtain ⟨j, hj, rfl, HT, rfl⟩ := hrel
      by_cases hlt : j < m
      · have hu0 : (0 : Int) ≤ (j : Int) := by omega
        have hu1 : (j : Int) < (m : Int) := by omega
        have hu2 : (0 : Int) < (m : Int) := by omega
        have hja : j < ks.length := by rw [HM.out]; exact hlt
        obtain ⟨g, off, cap', e, hg, hall, h0⟩ := HG.out (by omega)
        cases e
        have hc := hall j hlt
        rw [List.getElem?_eq_getElem hja] at hc
        replace hc : wr.cell? ⟨g, off + j, none⟩ = some (.int .i64 ks[j]) := hc
        have HT1 := hide (fun h => ops_take hja HT.out h)
        have HT2 := hide (fun h => HO.out.trans (if_neg (by rw [ops_bad hja h]; simp)))
        obtain ⟨k, hk⟩ : ∃ k, ks[j] = k := ⟨_, rfl⟩
        rw [hk] at hc HT1 HT2
        clear hk hall HT
        cases hb : okK 5 k0 k
        case false =>
          have HR := hide (HT2.out hb)
          have tk : (k == 0) = false := hb
          all_goals clear hb HT1 HT2
          all_goals go_wp2
          all_goals go_ret
          all_goals exact Ret.int HR.out.symm (Below.refl _ _)
        case true =>
          have HR := hide (HT1.out hb)
          have tk : (k == 0) = true := hb
          clear hb HT1 HT2
          go_wp2
          go_roundw
          case rel => exact ⟨j + 1, by omega, by go_num, HR, (by first | trivial | rfl)⟩
          case measure => simp [intOf]; omega
      · obtain rfl : m = j := by omega
        have hta : ks.take m = ks := List.take_of_length_le (by rw [HM.out]; exact Nat.le_refl _)
        have h9 := HT.out
        rw [hta] at h9
        have HR := hide (HO.out.trans (if_pos h9))
        clear hta h9 HT
        go_wp2
        go_ret
        exact Ret.int HR.out.symm (Below.refl _ _)
  · go_enter Try.func37, Try.ntmps37
    go_wp2_with fail
    go_loopw [10] (fun i wr => ∃ j : Nat, j ≤ m ∧ i = .int .i64 j ∧ Hid ((ks.take j).all (okK 6 k0) = true) ∧ wr = w) (fun i _ => m - (intOf i).toNat)
    case atStart => exact ⟨0, Nat.zero_le _, rfl, hide rfl, rfl⟩
    case round =>
      obtain ⟨j, hj, rfl, HT, rfl⟩ := hrel
      by_cases hlt : j < m
      · have hu0 : (0 : Int) ≤ (j : Int) := by omega
        have hu1 : (j : Int) < (m : Int) := by omega
        have hu2 : (0 : Int) < (m : Int) := by omega
        have hja : j < ks.length := by rw [HM.out]; exact hlt
        obtain ⟨g, off, cap', e, hg, hall, h0⟩ := HG.out (by omega)
        cases e
        have hc := hall j hlt
        rw [List.getElem?_eq_getElem hja] at hc
        replace hc : wr.cell? ⟨g, off + j, none⟩ = some (.int .i64 ks[j]) := hc
        have HT1 := hide (fun h => ops_take hja HT.out h)
        have HT2 := hide (fun h => HO.out.trans (if_neg (by rw [ops_bad hja h]; simp)))
        obtain ⟨k, hk⟩ : ∃ k, ks[j] = k := ⟨_, rfl⟩
        rw [hk] at hc HT1 HT2
        clear hk hall HT
        cases hb : okK 6 k0 k
        case false =>
          have HR := hide (HT2.out hb)
          have tk : (k == 0) = false := hb
          all_goals clear hb HT1 HT2
          all_goals go_wp2
          all_goals go_ret
          all_goals exact Ret.int HR.out.symm (Below.refl _ _)
        case true =>
          have HR := hide (HT1.out hb)
          have tk : (k == 0) = true := hb
          clear hb HT1 HT2
          go_wp2
          go_roundw
          case rel => exact ⟨j + 1, by omega, by go_num, HR, (by first | trivial | rfl)⟩
          case measure => simp [intOf]; omega
      · obtain rfl : m = j := by omega
        have hta : ks.take m = ks := List.take_of_length_le (by rw [HM.out]; exact Nat.le_refl _)
        have h9 := HT.out
        rw [hta] at h9
        have HR := hide (HO.out.trans (if_pos h9))
        clear hta h9 HT
        go_wp2
        go_ret
        exact Ret.int HR.out.symm (Below.refl _ _)
  · go_enter Try.func37, Try.ntmps37
    go_wp2_with fail
    go_loopw [10] (fun i wr => ∃ j : Nat, j ≤ m ∧ i = .int .i64 j ∧ Hid ((ks.take j).all (okK 7 k0) = true) ∧ wr = w) (fun i _ => m - (intOf i).toNat)
    case atStart => exact ⟨0, Nat.zero_le _, rfl, hide rfl, rfl⟩
    case round =>
      obtain ⟨j, hj, rfl, HT, rfl⟩ := hrel
      by_cases hlt : j < m
      · have hu0 : (0 : Int) ≤ (j : Int) := by omega
        have hu1 : (j : Int) < (m : Int) := by omega
        have hu2 : (0 : Int) < (m : Int) := by omega
        have hja : j < ks.length := by rw [HM.out]; exact hlt
        obtain ⟨g, off, cap', e, hg, hall, h0⟩ := HG.out (by omega)
        cases e
        have hc := hall j hlt
        rw [List.getElem?_eq_getElem hja] at hc
        replace hc : wr.cell? ⟨g, off + j, none⟩ = some (.int .i64 ks[j]) := hc
        have HT1 := hide (fun h => ops_take hja HT.out h)
        have HT2 := hide (fun h => HO.out.trans (if_neg (by rw [ops_bad hja h]; simp)))
        obtain ⟨k, hk⟩ : ∃ k, ks[j] = k := ⟨_, rfl⟩
        rw [hk] at hc HT1 HT2
        clear hk hall HT
        cases hb : okK 7 k0 k
        case false =>
          have HR := hide (HT2.out hb)
          have tk : (k == 0) = false := hb
          all_goals clear hb HT1 HT2
          all_goals go_wp2
          all_goals go_ret
          all_goals exact Ret.int HR.out.symm (Below.refl _ _)
        case true =>
          have HR := hide (HT1.out hb)
          have tk : (k == 0) = true := hb
          clear hb HT1 HT2
          go_wp2
          go_roundw
          case rel => exact ⟨j + 1, by omega, by go_num, HR, (by first | trivial | rfl)⟩
          case measure => simp [intOf]; omega
      · obtain rfl : m = j := by omega
        have hta : ks.take m = ks := List.take_of_length_le (by rw [HM.out]; exact Nat.le_refl _)
        have h9 := HT.out
        rw [hta] at h9
        have HR := hide (HO.out.trans (if_pos h9))
        clear hta h9 HT
        go_wp2
        go_ret
        exact Ret.int HR.out.symm (Below.refl _ _)
  · go_enter Try.func37, Try.ntmps37
    go_wp2_with fail
    go_loopw [10] (fun i wr => ∃ j : Nat, j ≤ m ∧ i = .int .i64 j ∧ Hid ((ks.take j).all (okK 8 k0) = true) ∧ wr = w) (fun i _ => m - (intOf i).toNat)
    case atStart => exact ⟨0, Nat.zero_le _, rfl, hide rfl, rfl⟩
    case round =>
      obtain ⟨j, hj, rfl, HT, rfl⟩ := hrel
      by_cases hlt : j < m
      · have hu0 : (0 : Int) ≤ (j : Int) := by omega
        have hu1 : (j : Int) < (m : Int) := by omega
        have hu2 : (0 : Int) < (m : Int) := by omega
        have hja : j < ks.length := by rw [HM.out]; exact hlt
        obtain ⟨g, off, cap', e, hg, hall, h0⟩ := HG.out (by omega)
        cases e
        have hc := hall j hlt
        rw [List.getElem?_eq_getElem hja] at hc
        replace hc : wr.cell? ⟨g, off + j, none⟩ = some (.int .i64 ks[j]) := hc
        have HT1 := hide (fun h => ops_take hja HT.out h)
        have HT2 := hide (fun h => HO.out.trans (if_neg (by rw [ops_bad hja h]; simp)))
        obtain ⟨k, hk⟩ : ∃ k, ks[j] = k := ⟨_, rfl⟩
        rw [hk] at hc HT1 HT2
        clear hk hall HT
        cases hb : okK 8 k0 k
        case false =>
          have HR := hide (HT2.out hb)
          have tk : (k == 0) = false := hb
          all_goals clear hb HT1 HT2
          all_goals go_wp2
          all_goals go_ret
          all_goals exact Ret.int HR.out.symm (Below.refl _ _)
        case true =>
          have HR := hide (HT1.out hb)
          have tk : (k == 0) = true := hb
          clear hb HT1 HT2
          go_wp2
          go_roundw
          case rel => exact ⟨j + 1, by omega, by go_num, HR, (by first | trivial | rfl)⟩
          case measure => simp [intOf]; omega
      · obtain rfl : m = j := by omega
        have hta : ks.take m = ks := List.take_of_length_le (by rw [HM.out]; exact Nat.le_refl _)
        have h9 := HT.out
        rw [hta] at h9
        have HR := hide (HO.out.trans (if_pos h9))
        clear hta h9 HT
        go_wp2
        go_ret
        exact Ret.int HR.out.symm (Below.refl _ _)
  · go_enter Try.func37, Try.ntmps37
    go_wp2_with fail
    go_loopw [10] (fun i wr => ∃ j : Nat, j ≤ m ∧ i = .int .i64 j ∧ Hid ((ks.take j).all (okK 10 k0) = true) ∧ wr = w) (fun i _ => m - (intOf i).toNat)
    case atStart => exact ⟨0, Nat.zero_le _, rfl, hide rfl, rfl⟩
    case round =>
      obtain ⟨j, hj, rfl, HT, rfl⟩ := hrel
      by_cases hlt : j < m
      · have hu0 : (0 : Int) ≤ (j : Int) := by omega
        have hu1 : (j : Int) < (m : Int) := by omega
        have hu2 : (0 : Int) < (m : Int) := by omega
        have hja : j < ks.length := by rw [HM.out]; exact hlt
        obtain ⟨g, off, cap', e, hg, hall, h0⟩ := HG.out (by omega)
        cases e
        have hc := hall j hlt
        rw [List.getElem?_eq_getElem hja] at hc
        replace hc : wr.cell? ⟨g, off + j, none⟩ = some (.int .i64 ks[j]) := hc
        have HT1 := hide (fun h => ops_take hja HT.out h)
        have HT2 := hide (fun h => HO.out.trans (if_neg (by rw [ops_bad hja h]; simp)))
        obtain ⟨k, hk⟩ : ∃ k, ks[j] = k := ⟨_, rfl⟩
        rw [hk] at hc HT1 HT2
        clear hk hall HT
        cases hb : okK 10 k0 k
        case false =>
          have HR := hide (HT2.out hb)
          have tk : (k == 1) = false := hb
          all_goals clear hb HT1 HT2
          all_goals go_wp2
          all_goals go_ret
          all_goals exact Ret.int HR.out.symm (Below.refl _ _)
        case true =>
          have HR := hide (HT1.out hb)
          have tk : (k == 1) = true := hb
          clear hb HT1 HT2
          go_wp2
          go_roundw
          case rel => exact ⟨j + 1, by omega, by go_num, HR, (by first | trivial | rfl)⟩
          case measure => simp [intOf]; omega
      · obtain rfl : m = j := by omega
        have hta : ks.take m = ks := List.take_of_length_le (by rw [HM.out]; exact Nat.le_refl _)
        have h9 := HT.out
        rw [hta] at h9
        have HR := hide (HO.out.trans (if_pos h9))
        clear hta h9 HT
        go_wp2
        go_ret
        exact Ret.int HR.out.symm (Below.refl _ _)
  · go_enter Try.func37, Try.ntmps37
    go_wp2_with fail
    go_loopw [10] (fun i wr => ∃ j : Nat, j ≤ m ∧ i = .int .i64 j ∧ Hid ((ks.take j).all (okK 11 k0) = true) ∧ wr = w) (fun i _ => m - (intOf i).toNat)
    case atStart => exact ⟨0, Nat.zero_le _, rfl, hide rfl, rfl⟩
    case round =>
      obtain ⟨j, hj, rfl, HT, rfl⟩ := hrel
      by_cases hlt : j < m
      · have hu0 : (0 : Int) ≤ (j : Int) := by omega
        have hu1 : (j : Int) < (m : Int) := by omega
        have hu2 : (0 : Int) < (m : Int) := by omega
        have hja : j < ks.length := by rw [HM.out]; exact hlt
        obtain ⟨g, off, cap', e, hg, hall, h0⟩ := HG.out (by omega)
        cases e
        have hc := hall j hlt
        rw [List.getElem?_eq_getElem hja] at hc
        replace hc : wr.cell? ⟨g, off + j, none⟩ = some (.int .i64 ks[j]) := hc
        have HT1 := hide (fun h => ops_take hja HT.out h)
        have HT2 := hide (fun h => HO.out.trans (if_neg (by rw [ops_bad hja h]; simp)))
        obtain ⟨k, hk⟩ : ∃ k, ks[j] = k := ⟨_, rfl⟩
        rw [hk] at hc HT1 HT2
        clear hk hall HT
        cases hb : okK 11 k0 k
        case false =>
          have HR := hide (HT2.out hb)
          have tk : (k == 1) = false := hb
          all_goals clear hb HT1 HT2
          all_goals go_wp2
          all_goals go_ret
          all_goals exact Ret.int HR.out.symm (Below.refl _ _)
        case true =>
          have HR := hide (HT1.out hb)
          have tk : (k == 1) = true := hb
          clear hb HT1 HT2
          go_wp2
          go_roundw
          case rel => exact ⟨j + 1, by omega, by go_num, HR, (by first | trivial | rfl)⟩
          case measure => simp [intOf]; omega
      · obtain rfl : m = j := by omega
        have hta : ks.take m = ks := List.take_of_length_le (by rw [HM.out]; exact Nat.le_refl _)
        have h9 := HT.out
        rw [hta] at h9
        have HR := hide (HO.out.trans (if_pos h9))
        clear hta h9 HT
        go_wp2
        go_ret
        exact Ret.int HR.out.symm (Below.refl _ _)
  · go_enter Try.func37, Try.ntmps37
    go_wp2_with fail
    go_loopw [10] (fun i wr => ∃ j : Nat, j ≤ m ∧ i = .int .i64 j ∧ Hid ((ks.take j).all (okK 12 k0) = true) ∧ wr = w) (fun i _ => m - (intOf i).toNat)
    case atStart => exact ⟨0, Nat.zero_le _, rfl, hide rfl, rfl⟩
    case round =>
      obtain ⟨j, hj, rfl, HT, rfl⟩ := hrel
      by_cases hlt : j < m
      · have hu0 : (0 : Int) ≤ (j : Int) := by omega
        have hu1 : (j : Int) < (m : Int) := by omega
        have hu2 : (0 : Int) < (m : Int) := by omega
        have hja : j < ks.length := by rw [HM.out]; exact hlt
        obtain ⟨g, off, cap', e, hg, hall, h0⟩ := HG.out (by omega)
        cases e
        have hc := hall j hlt
        rw [List.getElem?_eq_getElem hja] at hc
        replace hc : wr.cell? ⟨g, off + j, none⟩ = some (.int .i64 ks[j]) := hc
        have HT1 := hide (fun h => ops_take hja HT.out h)
        have HT2 := hide (fun h => HO.out.trans (if_neg (by rw [ops_bad hja h]; simp)))
        obtain ⟨k, hk⟩ : ∃ k, ks[j] = k := ⟨_, rfl⟩
        rw [hk] at hc HT1 HT2
        clear hk hall HT
        cases hb : okK 12 k0 k
        case false =>
          have HR := hide (HT2.out hb)
          have tk : (k == 1) = false := hb
          all_goals clear hb HT1 HT2
          all_goals go_wp2
          all_goals go_ret
          all_goals exact Ret.int HR.out.symm (Below.refl _ _)
        case true =>
          have HR := hide (HT1.out hb)
          have tk : (k == 1) = true := hb
          clear hb HT1 HT2
          go_wp2
          go_roundw
          case rel => exact ⟨j + 1, by omega, by go_num, HR, (by first | trivial | rfl)⟩
          case measure => simp [intOf]; omega
      · obtain rfl : m = j := by omega
        have hta : ks.take m = ks := List.take_of_length_le (by rw [HM.out]; exact Nat.le_refl _)
        have h9 := HT.out
        rw [hta] at h9
        have HR := hide (HO.out.trans (if_pos h9))
        clear hta h9 HT
        go_wp2
        go_ret
        exact Ret.int HR.out.symm (Below.refl _ _)
  · go_enter Try.func37, Try.ntmps37
    go_wp2_with fail
    go_loopw [10] (fun i wr => ∃ j : Nat, j ≤ m ∧ i = .int .i64 j ∧ Hid ((ks.take j).all (okK 9 k0) = true) ∧ wr = w) (fun i _ => m - (intOf i).toNat)
    case atStart => exact ⟨0, Nat.zero_le _, rfl, hide rfl, rfl⟩
    case round =>
      obtain ⟨j, hj, rfl, HT, rfl⟩ := hrel
      by_cases hlt : j < m
      · have hu0 : (0 : Int) ≤ (j : Int) := by omega
        have hu1 : (j : Int) < (m : Int) := by omega
        have hu2 : (0 : Int) < (m : Int) := by omega
        have hja : j < ks.length := by rw [HM.out]; exact hlt
        obtain ⟨g, off, cap', e, hg, hall, h0⟩ := HG.out (by omega)
        cases e
        have hc := hall j hlt
        rw [List.getElem?_eq_getElem hja] at hc
        replace hc : wr.cell? ⟨g, off + j, none⟩ = some (.int .i64 ks[j]) := hc
        have HT1 := hide (fun h => ops_take hja HT.out h)
        have HT2 := hide (fun h => HO.out.trans (if_neg (by rw [ops_bad hja h]; simp)))
        obtain ⟨k, hk⟩ : ∃ k, ks[j] = k := ⟨_, rfl⟩
        rw [hk] at hc HT1 HT2
        clear hk hall HT
        cases hb : okK 9 k0 k
        case false =>
          have HR := hide (HT2.out hb)
          have tk : (k == k0) = false := hb
          all_goals clear hb HT1 HT2
          all_goals go_wp2
          all_goals go_ret
          all_goals exact Ret.int HR.out.symm (Below.refl _ _)
        case true =>
          have HR := hide (HT1.out hb)
          have tk : (k == k0) = true := hb
          clear hb HT1 HT2
          go_wp2
          go_roundw
          case rel => exact ⟨j + 1, by omega, by go_num, HR, (by first | trivial | rfl)⟩
          case measure => simp [intOf]; omega
      · obtain rfl : m = j := by omega
        have hta : ks.take m = ks := List.take_of_length_le (by rw [HM.out]; exact Nat.le_refl _)
        have h9 := HT.out
        rw [hta] at h9
        have HR := hide (HO.out.trans (if_pos h9))
        clear hta h9 HT
        go_wp2
        go_ret
        exact Ret.int HR.out.symm (Below.refl _ _)
  · have hno : ∀ a : Int, a = 5 ∨ a = 6 ∨ a = 7 ∨ a = 8 ∨ a = 9 ∨ a = 10 ∨ a = 11 ∨ a = 12 → (op == a) = false := by
      intro a ha
      rw [beq_eq_false_iff_ne]
      rintro rfl
      have h1 := congrFun he 2
      have h2 := congrFun he (k0 + 1)
      rcases ha with rfl | rfl | rfl | rfl | rfl | rfl | rfl | rfl <;> first | (exfalso; simp [okK] at h1; done) | (exfalso; simp [okK] at h2; omega)
    have n5 := hno 5 (by omega)
    have n6 := hno 6 (by omega)
    have n7 := hno 7 (by omega)
    have n8 := hno 8 (by omega)
    have n9 := hno 9 (by omega)
    have n10 := hno 10 (by omega)
    have n11 := hno 11 (by omega)
    have n12 := hno 12 (by omega)
    have HE := hide he
    clear hno he
    go_enter Try.func37, Try.ntmps37
    go_wp2_with fail
    go_loopw [10] (fun i wr => ∃ j : Nat, j ≤ m ∧ i = .int .i64 j ∧ Hid ((ks.take j).all (okK op k0) = true) ∧ wr = w) (fun i _ => m - (intOf i).toNat)
    case atStart => exact ⟨0, Nat.zero_le _, rfl, hide rfl, rfl⟩
    case round =>
      obtain ⟨j, hj, rfl, HT, rfl⟩ := hrel
      by_cases hlt : j < m
      · have hu0 : (0 : Int) ≤ (j : Int) := by omega
        have hu1 : (j : Int) < (m : Int) := by omega
        have hu2 : (0 : Int) < (m : Int) := by omega
        have hja : j < ks.length := by rw [HM.out]; exact hlt
        obtain ⟨g, off, cap', e, hg, hall, h0⟩ := HG.out (by omega)
        cases e
        have hc := hall j hlt
        rw [List.getElem?_eq_getElem hja] at hc
        replace hc : wr.cell? ⟨g, off + j, none⟩ = some (.int .i64 ks[j]) := hc
        have HT1 := hide (fun h => ops_take hja HT.out h)
        have HT2 := hide (fun h => HO.out.trans (if_neg (by rw [ops_bad hja h]; simp)))
        obtain ⟨k, hk⟩ : ∃ k, ks[j] = k := ⟨_, rfl⟩
        rw [hk] at hc HT1 HT2
        clear hk hall HT
        cases hb : okK op k0 k
        case false =>
          have HR := hide (HT2.out hb)
          exfalso; rw [HE.out] at hb; cases hb
          all_goals clear hb HT1 HT2
          all_goals go_wp2
          all_goals go_ret
          all_goals exact Ret.int HR.out.symm (Below.refl _ _)
        case true =>
          have HR := hide (HT1.out hb)
          skip
          clear hb HT1 HT2
          go_wp2
          go_roundw
          case rel => exact ⟨j + 1, by omega, by go_num, HR, (by first | trivial | rfl)⟩
          case measure => simp [intOf]; omega
      · obtain rfl : m = j := by omega
        have hta : ks.take m = ks := List.take_of_length_le (by rw [HM.out]; exact Nat.le_refl _)
        have h9 := HT.out
        rw [hta] at h9
        have HR := hide (HO.out.trans (if_pos h9))
        clear hta h9 HT
        go_wp2
        go_ret
        exact Ret.int HR.out.symm (Below.refl _ _)
end
end Go.Proofs.Ytkcbjnhphekadaa
