/- The decoder's method int. -/
import Derived.Test.YtofdcgojgcnopaaGreatDBase
import Derived.Deep.Cut
namespace Go.Proofs.YtofdcgojgcnopaaGreat
open Go.RowKit
set_option linter.unusedVariables false
set_option linter.unusedSimpArgs false
theorem and_127 (c : UInt8) : bits .and .u8 (c.toNat : Int) 127 = ((c.toNat % 128 : Nat) : Int) := by
  have key : ∀ j : Fin 256, bits .and .u8 ((j.val : Nat) : Int) 127 = ((j.val % 128 : Nat) : Int) := by decide +kernel
  exact key ⟨c.toNat, c.toNat_lt⟩
theorem u64_or_nat (a b : Nat) (ha : a < 18446744073709551616) (hb : b < 18446744073709551616) : bits .or .u64 (a : Int) (b : Int) = ((a ||| b : Nat) : Int) := by
  have hx : a ||| b < 2 ^ 64 := Nat.or_lt_two_pow (by omega) (by omega)
  show IntKind.u64.wrap ((BitVec.ofInt 64 (a : Int) ||| BitVec.ofInt 64 (b : Int)).toNat : Int) = _
  rw [BitVec.toNat_or, ofInt_64 a ha, ofInt_64 b hb, wrap_u64]
  omega
theorem u64_and_one (a : Nat) (ha : a < 18446744073709551616) : bits .and .u64 (a : Int) 1 = ((a % 2 : Nat) : Int) := by
  show IntKind.u64.wrap ((BitVec.ofInt 64 (a : Int) &&& BitVec.ofInt 64 ((1 : Nat) : Int)).toNat : Int) = _
  rw [BitVec.toNat_and, ofInt_64 a ha, ofInt_64 1 (by decide), wrap_u64, Nat.and_one_is_mod]
  omega
theorem i64_xor_zero (a : Nat) (ha : a < 9223372036854775808) : bits .xor .i64 (a : Int) 0 = (a : Int) := by
  have h := i64_xor_nat a 0 (by omega) (by omega)
  rw [Nat.xor_zero] at h
  exact h
theorem i64_xor_ones (a : Nat) (ha : a < 9223372036854775808) : bits .xor .i64 (a : Int) (-1) = -(a : Int) - 1 := by
  show IntKind.i64.wrap ((BitVec.ofInt 64 (a : Int) ^^^ BitVec.ofInt 64 (-1)).toNat : Int) = _
  rw [show BitVec.ofInt 64 (-1) = BitVec.allOnes 64 by decide, BitVec.xor_allOnes, BitVec.toNat_not, ofInt_64 a (by omega), show (2 : Nat) ^ 64 - 1 - a = 18446744073709551615 - a from rfl]
  have e1 : ((18446744073709551615 - a : Nat) : Int) = 18446744073709551615 - (a : Int) := by omega
  rw [e1]
  simp only [IntKind.wrap, IntKind.bits, IntKind.signed, Bool.true_and, decide_eq_true_eq, ge_iff_le]
  split <;> omega
/-- One round: the number so far, and what is read of it. -/
theorem round_u {j acc : Nat} {c : UInt8} (hj : j < 10) (hA : acc < 2 ^ (7 * j)) (hbad : ¬ ((0 < j ∧ c.toNat = 0) ∨ (j = 9 ∧ 1 < c.toNat))) :
    ∃ m : Nat, c.toNat % 128 * 2 ^ (7 * j) = m ∧ m < 18446744073709551616 ∧ acc < 18446744073709551616 ∧ (acc ||| m) = acc + m ∧ acc + m < 18446744073709551616 ∧ (j < 9 → acc + m < 2 ^ (7 * (j + 1))) ∧ c.toNat % 128 * 128 ^ j = m := by
  have hp : (2 : Nat) ^ (7 * j) ≤ 2 ^ 63 := Nat.pow_le_pow_right (by decide) (by omega)
  have hd : c.toNat % 128 * 2 ^ (7 * j) + 2 ^ (7 * j) ≤ 18446744073709551616 := by
    by_cases h9 : j = 9
    · subst h9
      have : ¬ 1 < c.toNat := fun h => hbad (.inr ⟨rfl, h⟩)
      have : c.toNat % 128 ≤ 1 := by omega
      omega
    · have h56 : (2 : Nat) ^ (7 * j) ≤ 2 ^ 56 := Nat.pow_le_pow_right (by decide) (by omega)
      have : (c.toNat % 128 + 1) * 2 ^ (7 * j) ≤ 128 * 2 ^ 56 := Nat.mul_le_mul (by omega) h56
      rw [Nat.add_mul] at this
      omega
  refine ⟨_, rfl, by omega, by omega, or_add hA, by omega, fun h9 => ?_, by rw [show (128 : Nat) = 2 ^ 7 from rfl, ← Nat.pow_mul]⟩
  have : (c.toNat % 128 + 1) * 2 ^ (7 * j) ≤ 128 * 2 ^ (7 * j) := Nat.mul_le_mul_right _ (by omega)
  rw [Nat.add_mul] at this
  rw [show 7 * (j + 1) = 7 + 7 * j by omega, Nat.pow_add]
  omega
section
variable (F : Nat) (s : Bs) (e : Int) (w : World)
set_option maxRecDepth 100000 in
set_option maxHeartbeats 8000000 in
theorem dint_any (hs : s.length ≤ 100000000) (h : Rw w F s e) : Calls Tryz.prog 49 #[.pointer (some ⟨F, 0, none⟩)] w (Rds F pnum RI s e w) := by
  have HW := hide h
  have c0 := h.c0
  have c1 := h.c1
  have f0 := h.f0
  clear h
  by_cases he : e = 0
  · subst he
    obtain ⟨S, hS⟩ : ∃ S, bstr s = S := ⟨_, rfl⟩
    have hz : S.size = s.length := by rw [← hS, bstr_size]
    have HDR := hide (fun j => bstr_drop s j)
    have HIX : Hid (∀ j (h : j < s.length) (h' : j < S.size), S[j] = s[j]) := hide (by intro j h h'; subst hS; rfl)
    rw [hS, hz] at HDR
    rw [hS] at c0
    clear hS
    have HFL : Hid (pint 0 0 s = none → Calls Tryz.prog 48 #[.pointer (some ⟨F, 0, none⟩), .int .i64 26] w (fun en w' => en = .returned (.tuple #[]) ∧ Hid (∀ x : Int, De pnum s 0 x s 26 ∧ Rw w' F s 26 ∧ Rt F w w'))) := hide (fun h => (dfail_any F s 0 w 26 HW.out).mono fun _ _ ⟨h1, h2, h3⟩ => ⟨h1, hide fun x => ⟨De.err (Nat.le_refl _) (by unfold pnum; rw [h]) (by decide), h2, h3⟩⟩)
    go_enter Tryz.func49, Tryz.ntmps49
    go_wp2
    all_goals
      go_loop [3, 17] (fun u i => ∃ j acc : Nat, i = .int .i64 j ∧ u = .int .u64 acc ∧ j ≤ s.length ∧ j ≤ 10 ∧ Hid (j < 10 → acc < 2 ^ (7 * j)) ∧ Hid (pint j acc (s.drop j) = pint 0 0 s)) (fun _ i => 10 - (intOf i).toNat)
      case atStart => exact ⟨0, 0, rfl, rfl, by omega, by omega, hide (fun _ => by decide), hide rfl⟩
      case round =>
        obtain ⟨j, acc, rfl, rfl, hj1, hj2, HA, HP⟩ := hrel
        by_cases hlt : j < s.length ∧ j < 10
        · obtain ⟨hlt, hlt2⟩ := hlt
          have HPD := hide ((pint_drop (acc := acc) hlt hlt2).symm.trans HP.out)
          have hlS : j < S.size := by omega
          have hsj := HIX.out j hlt hlS
          rw [← hsj] at HPD
          obtain ⟨c, hc⟩ : ∃ c, S[j] = c := ⟨_, rfl⟩
          rw [hc] at HPD
          have hc8 := c.toNat_lt
          have hu0 : (0 : Int) ≤ (j : Int) := by omega
          have hu1 : (j : Int) < (s.length : Int) := by omega
          have hu2 : (j : Int) < 10 := by omega
          clear hsj
          by_cases hbad : (0 < j ∧ c.toNat = 0) ∨ (j = 9 ∧ 1 < c.toNat)
          · have HFF := hide (HFL.out (by have := HPD.out; rw [if_pos hbad] at this; exact this.symm))
            rcases hbad with ⟨hb1, hb2⟩ | ⟨rfl, hb2⟩
            all_goals
              go_wp2_with fail
              refine HFF.out.mono ?_
              rintro en w2 ⟨rfl, HX⟩
              go_wp2
              go_ret
              exact ⟨_, 0, s, 26, rfl, ⟨rfl, by unfold inI; omega⟩, HX.out 0⟩
          · have hb1 : ¬ (0 < j ∧ c.toNat = 0) := fun h => hbad (.inl h)
            have hb2 : ¬ (j = 9 ∧ 1 < c.toNat) := fun h => hbad (.inr h)
            have HAN := and_127 c
            obtain ⟨m, hm, hm2, ha2, hor, hlt3, hA3, hm3⟩ := round_u hlt2 (HA.out hlt2) hbad
            have hor2 := u64_or_nat acc m ha2 hm2
            rw [hor] at hor2
            have HPE : Hid ((if c.toNat < 128 then some (acc + m, s.drop (j + 1)) else pint (j + 1) (acc + m) (s.drop (j + 1))) = pint 0 0 s) := hide (by
              have := HPD.out
              rw [if_neg hbad, hm3] at this
              rw [← this]
              by_cases h128 : c.toNat < 128
              · rw [if_pos h128, if_pos h128, ← hm3, Nat.mod_eq_of_lt h128]
              · rw [if_neg h128, if_neg h128])
            have HA2 : Hid (j + 1 < 10 → acc + m < 2 ^ (7 * (j + 1))) := hide (fun h => hA3 (by omega))
            obtain ⟨d, hd⟩ : ∃ d, c.toNat % 128 = d := ⟨_, rfl⟩
            have hd2 : d < 128 := by omega
            rw [hd] at HAN hm
            obtain ⟨a2, ha3⟩ : ∃ a2, acc + m = a2 := ⟨_, rfl⟩
            rw [ha3] at hor2 HPE HA2 hlt3
            have hwr : IntKind.u64.wrap (d : Int) = (d : Int) := by rw [wrap_u64]; omega
            have hwm : IntKind.u64.wrap (m : Int) = (m : Int) := by rw [wrap_u64]; omega
            have hex := HDR.out (j + 1)
            have hRl : (s.drop (j + 1)).length ≤ s.length := by rw [List.length_drop]; omega
            obtain ⟨R, hR⟩ : ∃ R, s.drop (j + 1) = R := ⟨_, rfl⟩
            rw [hR] at hex HPE hRl
            have HRR := hide hR
            clear hR
            have hone := u64_and_one a2 hlt3
            have hxz := i64_xor_zero (a2 / 2) (by omega)
            have hxo := i64_xor_ones (a2 / 2) (by omega)
            have hdiv : ((a2 / 2 : Nat) : Int) = (a2 : Int) / 2 := by omega
            have HUZ := hide (unzz_in hlt3)
            rw [hdiv] at hxz hxo
            clear hm3 hA3 hor HPD ha3 hd hdiv
            have key : Hid (∀ r : Int, r = unzz a2 → c.toNat < 128 → Rds F pnum RI s 0 w (.returned (.int .i64 r)) (w.setCell ⟨F, 0, none⟩ (.string (bstr R)))) := hide (by
              intro r hr h128
              subst hr
              have := HPE.out
              rw [if_pos h128] at this
              refine ⟨_, _, R, 0, rfl, ⟨rfl, HUZ.out⟩, De.ok hRl (by unfold pnum; rw [← this]), HW.out.set _⟩)
            rcases (by omega : j = 0 ∨ (0 < j ∧ j < 9) ∨ j = 9) with rfl | ⟨hj0, hj9⟩ | rfl
            · have ha0 : acc = 0 := by have := HA.out (by decide); simpa using this
              subst ha0
              obtain rfl : d = m := by rw [← hm]; simp
              have hex0 : S.extract 1 s.length = bstr R := hex
              have hor3 : bits .or .u64 0 (d : Int) = (a2 : Int) := hor2
              clear hm hwm hor2 hex
              by_cases h128 : c.toNat < 128
              · rcases Nat.mod_two_eq_zero_or_one a2 with hp | hp
                · rw [hp] at hone
                  have HR : Hid (((a2 : Int) / 2) = unzz a2) := hide (by unfold unzz; rw [if_neg (by omega)]; omega)
                  go_wp2
                  all_goals
                    go_ret
                    exact key.out _ HR.out h128
                · rw [hp] at hone
                  have HR : Hid ((-((a2 : Int) / 2) - 1) = unzz a2) := hide (by unfold unzz; rw [if_pos (by omega)]; omega)
                  go_wp2
                  all_goals
                    go_ret
                    exact key.out _ HR.out h128
              · clear key
                go_wp2
                all_goals
                  go_round
                  case rel => exact ⟨0 + 1, a2, by go_num, rfl, by omega, by omega, HA2, by have := HPE.out; rw [if_neg h128, ← HRR.out] at this; exact hide this⟩
                  case measure => first | (simp [intOf]; done) | (simp [intOf]; omega)
            · have hsh : IntKind.u64.wrap ((d : Int) * 2 ^ (7 * j)) = (m : Int) := by
                rw [← hwm, ← hm]; congr 1
              clear hm hwm
              by_cases h128 : c.toNat < 128
              · rcases Nat.mod_two_eq_zero_or_one a2 with hp | hp
                · rw [hp] at hone
                  have HR : Hid (((a2 : Int) / 2) = unzz a2) := hide (by unfold unzz; rw [if_neg (by omega)]; omega)
                  go_wp2
                  all_goals
                    go_ret
                    exact key.out _ HR.out h128
                · rw [hp] at hone
                  have HR : Hid ((-((a2 : Int) / 2) - 1) = unzz a2) := hide (by unfold unzz; rw [if_pos (by omega)]; omega)
                  go_wp2
                  all_goals
                    go_ret
                    exact key.out _ HR.out h128
              · clear key
                go_wp2
                all_goals
                  go_round
                  case rel => exact ⟨j + 1, a2, by go_num, rfl, by omega, by omega, HA2, by have := HPE.out; rw [if_neg h128, ← HRR.out] at this; exact hide this⟩
                  case measure => first | (simp [intOf]; done) | (simp [intOf]; omega)
            · have tz : ((c.toNat : Int) == 0) = false := beq_eq_false_iff_ne.2 (by omega)
              have tg : decide ((1 : Int) < (c.toNat : Int)) = false := decide_eq_false (by omega)
              have hsh : IntKind.u64.wrap ((d : Int) * 9223372036854775808) = (m : Int) := by
                rw [← hwm, ← hm]; congr 1
              have hex9 : S.extract 10 s.length = bstr R := hex
              clear hm hwm hex
              by_cases h128 : c.toNat < 128
              · rcases Nat.mod_two_eq_zero_or_one a2 with hp | hp
                · rw [hp] at hone
                  have HR : Hid (((a2 : Int) / 2) = unzz a2) := hide (by unfold unzz; rw [if_neg (by omega)]; omega)
                  go_wp2
                  all_goals
                    go_ret
                    exact key.out _ HR.out h128
                · rw [hp] at hone
                  have HR : Hid ((-((a2 : Int) / 2) - 1) = unzz a2) := hide (by unfold unzz; rw [if_pos (by omega)]; omega)
                  go_wp2
                  all_goals
                    go_ret
                    exact key.out _ HR.out h128
              · exact absurd hbad (by omega)
        · have HFF := hide (HFL.out (by rw [← HP.out]; exact pint_end hlt hj1))
          go_wp2_with fail
          refine HFF.out.mono ?_
          rintro en w2 ⟨rfl, HX⟩
          go_wp2
          go_ret
          exact ⟨_, 0, s, 26, rfl, ⟨rfl, by unfold inI; omega⟩, HX.out 0⟩
  · have t1 : (e == 0) = false := beq_eq_false_iff_ne.2 he
    have HE := hide he
    clear he
    go_enter Tryz.func49, Tryz.ntmps49
    go_wp2
    go_ret
    exact ⟨_, 0, s, e, rfl, ⟨rfl, by unfold inI; omega⟩, De.stop HE.out, HW.out, Rt.refl⟩
end
end Go.Proofs.YtofdcgojgcnopaaGreat
