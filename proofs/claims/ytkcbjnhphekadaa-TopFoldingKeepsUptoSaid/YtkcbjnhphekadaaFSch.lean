/- The names of event types and fields; sets of names. -/
import Derived.Test.YtkcbjnhphekadaaFEnv
namespace Go.Proofs.Ytkcbjnhphekadaa
open Go.RowKit Go.Maps Go.ChangeMaps Go.MapKept
set_option linter.unusedVariables false
set_option linter.unusedSimpArgs false
def letB (c : Int) : Bool := decide (c = 95) || (decide (97 ≤ c) && decide (c ≤ 122)) || (decide (65 ≤ c) && decide (c ≤ 90))
def digB (c : Int) : Bool := decide (48 ≤ c) && decide (c ≤ 57)
def nameB (s : ByteArray) : Bool := decide (0 < s.size) && decide (s.size ≤ 24) && !digB ((s.data.toList.getD 0 0).toNat : Int) && s.data.toList.all fun c => letB (c.toNat : Int) || digB (c.toNat : Int)
def fldB (s : ByteArray) : Bool := nameB s && !decide (s.toList = [116, 105, 109, 101])
section
variable (w : World)
set_option maxHeartbeats 2000000 in
theorem dig_any (c : Int) : Calls Try.prog 70 #[.int .u8 c] w (fun e w' => e = .returned (.bool (digB c)) ∧ w = w') := by
  cases t1 : decide (48 ≤ c) <;> cases t2 : decide (c ≤ 57)
  all_goals
    have hv : digB c = (decide (48 ≤ c) && decide (c ≤ 57)) := rfl
    rw [t1, t2] at hv
    rw [hv]
    clear hv
    go_enter Try.func70, Try.ntmps70
    go_wp2
    go_ret
    exact ⟨rfl, rfl⟩
set_option maxHeartbeats 4000000 in
theorem let_any (c : Int) : Calls Try.prog 71 #[.int .u8 c] w (fun e w' => e = .returned (.bool (letB c)) ∧ w = w') := by
  have hb : (c == 95) = decide (c = 95) := by by_cases h : c = 95 <;> simp [h]
  cases t0 : decide (c = 95) <;> cases t1 : decide (97 ≤ c) <;> cases t2 : decide (c ≤ 122) <;> cases t3 : decide (65 ≤ c) <;> cases t4 : decide (c ≤ 90)
  all_goals
    rw [t0] at hb
    have hv : letB c = (decide (c = 95) || (decide (97 ≤ c) && decide (c ≤ 122)) || (decide (65 ≤ c) && decide (c ≤ 90))) := rfl
    rw [t0, t1, t2, t3, t4] at hv
    rw [hv]
    clear hv t0
    go_enter Try.func71, Try.ntmps71
    go_wp2
    go_ret
    exact ⟨rfl, rfl⟩
theorem name_all {s : ByteArray} {j : Nat} {f : UInt8 → Bool} (h : j < s.size) (ht : (s.data.toList.take j).all f = true) (hf : f s[j] = true) : (s.data.toList.take (j + 1)).all f = true := by
  rw [List.take_succ_eq_append_getElem (by simpa using h), List.all_append, ht]
  have e : s.data.toList[j]'(by simpa using h) = s[j] := rfl
  rw [e]
  simp only [List.all_cons, hf, List.all_nil, Bool.and_true]
theorem name_bad {s : ByteArray} {j : Nat} {f : UInt8 → Bool} (h : j < s.size) (hf : f s[j] = false) : s.data.toList.all f = false := by
  rw [List.all_eq_false]
  exact ⟨s[j], by have := List.getElem_mem (l := s.data.toList) (n := j) (by simpa using h); exact this, by simp [hf]⟩
set_option maxHeartbeats 4000000 in
theorem name_any (s : ByteArray) (hs : s.size ≤ maxLen) : Calls Try.prog 57 #[.string s] w (fun e w' => e = .returned (.bool (nameB s)) ∧ w = w') := by
  unfold maxLen at hs
  obtain ⟨R, hR⟩ : ∃ b, nameB s = b := ⟨_, rfl⟩
  have HR := hide (show (decide (0 < s.size) && decide (s.size ≤ 24) && !digB ((s.data.toList.getD 0 0).toNat : Int) && s.data.toList.all fun c => letB (c.toNat : Int) || digB (c.toNat : Int)) = R from hR)
  rw [hR]
  clear hR
  by_cases h0 : 0 < s.size
  · have t0 : ((s.size : Int) == 0) = false := by rw [beq_eq_false_iff_ne]; omega
    have t0' : (s.size == 0) = false := by rw [beq_eq_false_iff_ne]; omega
    by_cases h1 : s.size ≤ 24
    · have t1 : decide ((24 : Int) < (s.size : Int)) = false := decide_eq_false (by omega)
      have t1' : decide (24 < s.size) = false := decide_eq_false (by omega)
      have hg : s.data.toList.getD 0 0 = s[0] := by
        rw [List.getD_eq_getElem?_getD, List.getElem?_eq_getElem (by simpa using h0)]; rfl
      have HQ := hide (show (!digB (s[0].toNat : Int) && s.data.toList.all fun c => letB (c.toNat : Int) || digB (c.toNat : Int)) = R by
        have := HR.out
        rw [decide_eq_true h0, decide_eq_true h1, hg, Bool.true_and, Bool.true_and] at this
        exact this)
      have HD := hide (fun w => dig_any w (s[0].toNat : Int))
      obtain ⟨d0, hd0⟩ : ∃ b, digB (s[0].toNat : Int) = b := ⟨_, rfl⟩
      rw [hd0] at HQ HD
      clear hg HR hd0
      cases d0
      · have HQ2 := hide (show (s.data.toList.all fun c => letB (c.toNat : Int) || digB (c.toNat : Int)) = R from HQ.out)
        clear HQ
        go_enter Try.func57, Try.ntmps57
        go_wp2_with fail
        refine (HD.out _).mono ?_
        rintro e w1 ⟨rfl, rfl⟩
        clear HD
        go_wp2_with fail
        go_loop [19] (fun i => ∃ j : Nat, j ≤ s.size ∧ i = .int .i64 j ∧ Hid ((s.data.toList.take j).all (fun c => letB (c.toNat : Int) || digB (c.toNat : Int)) = true)) (fun i => s.size - (intOf i).toNat)
        case atStart => exact ⟨0, Nat.zero_le _, rfl, hide rfl⟩
        case round =>
          obtain ⟨j, hj, rfl, HT⟩ := hrel
          by_cases hlt : j < s.size
          · have HA := hide (fun h => name_all hlt HT.out h)
            have HB := hide (fun h => HQ2.out.symm.trans (name_bad (f := fun c => letB (c.toNat : Int) || digB (c.toNat : Int)) hlt h))
            have HL := hide (fun w => let_any w (s[j].toNat : Int))
            have HD := hide (fun w => dig_any w (s[j].toNat : Int))
            obtain ⟨l, hl⟩ : ∃ b, letB (s[j].toNat : Int) = b := ⟨_, rfl⟩
            obtain ⟨d, hd⟩ : ∃ b, digB (s[j].toNat : Int) = b := ⟨_, rfl⟩
            simp only [hl, hd] at HA HB HL HD
            clear HT hl hd
            cases l
            · cases d
              · have HR := hide (HB.out rfl)
                clear HA HB
                go_wp2_with fail
                refine (HL.out _).mono ?_
                rintro e w1 ⟨rfl, rfl⟩
                go_wp2_with fail
                refine (HD.out _).mono ?_
                rintro e w1 ⟨rfl, rfl⟩
                go_wp2
                go_ret
                exact ⟨by rw [HR.out]; first | done | rfl, rfl⟩
              · have HR := hide (HA.out rfl)
                clear HA HB
                go_wp2_with fail
                refine (HL.out _).mono ?_
                rintro e w1 ⟨rfl, rfl⟩
                go_wp2_with fail
                refine (HD.out _).mono ?_
                rintro e w1 ⟨rfl, rfl⟩
                go_wp2
                go_round
                case rel => exact ⟨j + 1, by omega, by go_num, HR⟩
                case measure => simp [intOf]; omega
            · have HR := hide (HA.out rfl)
              clear HA HB
              go_wp2_with fail
              refine (HL.out _).mono ?_
              rintro e w1 ⟨rfl, rfl⟩
              go_wp2
              go_round
              case rel => exact ⟨j + 1, by omega, by go_num, HR⟩
              case measure => simp [intOf]; omega
          · obtain rfl : j = s.size := by omega
            have hta : s.data.toList.take s.size = s.data.toList := List.take_of_length_le (by simp)
            have HR := hide (show true = R by rw [← HQ2.out, ← hta]; exact HT.out.symm)
            clear hta HT
            go_wp2
            go_ret
            exact ⟨by rw [HR.out]; first | done | rfl, rfl⟩
      · have HQ2 := hide (show false = R from HQ.out)
        clear HQ
        go_enter Try.func57, Try.ntmps57
        go_wp2_with fail
        refine (HD.out _).mono ?_
        rintro e w1 ⟨rfl, rfl⟩
        go_wp2
        go_ret
        exact ⟨by rw [HQ2.out]; first | done | rfl, rfl⟩
    · have t1 : decide ((24 : Int) < (s.size : Int)) = true := decide_eq_true (by omega)
      have t1' : decide (24 < s.size) = true := decide_eq_true (by omega)
      have HQ := hide (show false = R by rw [← HR.out, decide_eq_false h1]; simp)
      clear HR
      go_enter Try.func57, Try.ntmps57
      go_wp2
      go_ret
      exact ⟨by rw [HQ.out]; first | done | rfl, rfl⟩
  · have t0 : ((s.size : Int) == 0) = true := by rw [beq_iff_eq]; omega
    have t0' : (s.size == 0) = true := by rw [beq_iff_eq]; omega
    have HQ := hide (show false = R by rw [← HR.out, decide_eq_false h0]; simp)
    clear HR
    go_enter Try.func57, Try.ntmps57
    go_wp2
    go_ret
    exact ⟨by rw [HQ.out]; first | done | rfl, rfl⟩
set_option maxHeartbeats 2000000 in
theorem fld_any (s : ByteArray) (hs : s.size ≤ maxLen) : Calls Try.prog 58 #[.string s] w (fun e w' => e = .returned (.bool (fldB s)) ∧ w = w') := by
  have HN := hide (fun w => name_any w s hs)
  obtain ⟨R, hR⟩ : ∃ b, fldB s = b := ⟨_, rfl⟩
  have HR := hide (show (nameB s && !decide (s.toList = [116, 105, 109, 101])) = R from hR)
  rw [hR]
  obtain ⟨b, hb⟩ : ∃ b, nameB s = b := ⟨_, rfl⟩
  rw [hb] at HN HR
  clear hR hb hs
  cases b
  · have HQ := hide (show false = R from HR.out)
    go_enter Try.func58, Try.ntmps58
    go_wp2_with fail
    refine (HN.out _).mono ?_
    rintro e w1 ⟨rfl, rfl⟩
    go_wp2
    go_ret
    exact ⟨by rw [HQ.out]; first | done | rfl, rfl⟩
  · by_cases ht : s.toList = [116, 105, 109, 101]
    · have HQ := hide (show false = R by rw [← HR.out, decide_eq_true ht]; rfl)
      have t1 : (s.toList == [116, 105, 109, 101]) = true := by rw [beq_iff_eq]; exact ht
      clear HR
      go_enter Try.func58, Try.ntmps58
      go_wp2_with fail
      refine (HN.out _).mono ?_
      rintro e w1 ⟨rfl, rfl⟩
      go_wp2
      go_ret
      exact ⟨by rw [HQ.out]; first | done | rfl, rfl⟩
    · have HQ := hide (show true = R by rw [← HR.out, decide_eq_false ht]; rfl)
      have t1 : (s.toList == [116, 105, 109, 101]) = false := by rw [beq_eq_false_iff_ne]; exact ht
      clear HR
      go_enter Try.func58, Try.ntmps58
      go_wp2_with fail
      refine (HN.out _).mono ?_
      rintro e w1 ⟨rfl, rfl⟩
      go_wp2
      go_ret
      exact ⟨by rw [HQ.out]; first | done | rfl, rfl⟩
end
end Go.Proofs.Ytkcbjnhphekadaa
