/- The law of lists turned round. -/
import Derived.Test.YtgppohelgmadoaaAOrd
import Derived.Deep.QuietTactic
namespace Go.Proofs.Ytgppohelgmadoaa
open Go.RowKit
set_option linter.unusedVariables false
set_option linter.unusedSimpArgs false
theorem nums_get (l : List Int) (j : Nat) (hj : j < l.length) (hj' : j < (nums l).length) : (nums l)[j] = num l[j] := by simp [nums]
theorem turn_of {k o' : Int} (hk : knownB k = true) (hoo : other k = o') {l : List Int} (h : Small l) (hl : l.length ≤ 100) (hp : 0 < l.length) {n : Int} (h0 : -1099511627776 ≤ n) (h1 : n ≤ 1099511627776) :
    ofE k (nums l) (num n) = 0 ∧ ofE o' (nums l.reverse) (num n) = 0 ∧ ofV o' (nums l.reverse) (num n) = ofV k (nums l) (num n) := by
  subst hoo
  have hr : Small l.reverse := fun m hm => h m (List.mem_reverse.1 hm)
  obtain ⟨e1, e2⟩ := of_num hk h hl hp (num_right (k := k) h0 h1)
  obtain ⟨f1, f2⟩ := of_num (other_known hk) hr (by rw [List.length_reverse]; exact hl) (by rw [List.length_reverse]; exact hp) (num_right (k := other k) h0 h1)
  obtain ⟨s1, s2, s3, s4⟩ := fold_turn hk l h hl
  refine ⟨e1, f1, ?_⟩
  rw [e2, f2, s1, s2, s3, s4]
  have hk6 : k = 0 ∨ k = 1 ∨ k = 2 ∨ k = 3 ∨ k = 4 ∨ k = 5 := by simp only [knownB, decide_eq_true_eq] at hk; omega
  rcases hk6 with rfl | rfl | rfl | rfl | rfl | rfl <;> rfl
theorem least_of {l : List Int} (h : Small l) (hl : l.length ≤ 100) (hp : 0 < l.length) {n : Int} (h0 : -1099511627776 ≤ n) (h1 : n ≤ 1099511627776) :
    ∃ F, ofV 2 (nums l) (num n) = num F ∧ (∀ m ∈ l, F ≤ m) ∧ F ∈ l := by
  obtain ⟨e1, e2⟩ := of_num (k := 2) (by decide) h hl hp (num_right (k := 2) h0 h1)
  obtain ⟨q, s, a, b⟩ := fold_min l h hl hp
  exact ⟨_, by rw [e2, if_neg (by decide), q, s]; rfl, a, b⟩

/-- What holds of the world behind the first loop. -/
structure OrdW (w : World) (o : Int) (l : List Int) (u v : Value) (wr : World) : Prop where
  box : Box3 wr w.heap.size (num o)
  row : Row wr wr.heap.size 3 u l.length (flat (nums l))
  back : Row wr wr.heap.size 3 v l.length (flat (nums l.reverse))
  below : Below w.heap.size w wr
theorem OrdW.keep {w : World} {o : Int} {l : List Int} {u v : Value} {a b : World} (h : OrdW w o l u v a) (hb : Below a.heap.size a b) : OrdW w o l u v b :=
  ⟨h.box.keep hb, h.row.grow hb, h.back.grow hb, bthen h.below hb⟩


set_option maxRecDepth 100000 in
set_option maxHeartbeats 4000000 in
theorem orders_ok (v : Value) (l : List Int) (o : Int) (w : World) (hs : Small l) (hl : l.length ≤ 20) (hp : 0 < l.length) (h0 : -1099511627776 ≤ o) (h1 : o ≤ 1099511627776) (hg : goodB 2 (nums l) (num o) = true) (hv : InV w v (nums l)) :
    Calls Try.prog 6 #[v, .agg #[.int .i64 0, .int .i64 o, .string ⟨#[]⟩]] w (Ret (.bool true) w) := by
  have HGD := hide (fun w' (hv : InV w' v (nums l)) => good_any 2 (nums l) (num o) w' v (by show (0 : Nat) ≤ maxLen; exact Nat.zero_le _) hv)
  rw [hg] at HGD
  have hlen := nums_len l
  have hszs : ∀ x ∈ nums l, x.s.size ≤ maxLen := by
    intro x hx; obtain ⟨n, -, rfl⟩ := List.mem_map.1 hx; exact Nat.zero_le _
  have hszr : ∀ x ∈ nums l.reverse, x.s.size ≤ maxLen := by
    intro x hx; obtain ⟨n, -, rfl⟩ := List.mem_map.1 hx; exact Nat.zero_le _
  have HA := hide (fun (k : Int) (w' : World) (hr : Row w' w'.heap.size 3 v (nums l).length (flat (nums l))) => of_any k (nums l) (num o) w' v (by rw [hlen]; omega) (Nat.zero_le _) (fun _ => hszs) hr.form (fun _ => hr))
  have HB := hide (fun (k : Int) (w' : World) (u : Value) (hr : Row w' w'.heap.size 3 u (nums l.reverse).length (flat (nums l.reverse))) => of_any k (nums l.reverse) (num o) w' u (by rw [nums_len, List.length_reverse]; omega) (Nat.zero_le _) (fun _ => hszr) hr.form (fun _ => hr))
  have HT := hide (fun (k o' : Int) (hk : knownB k = true) (hoo : other k = o') => turn_of hk hoo hs (by omega) hp h0 h1)
  obtain ⟨F, hF1, hF2, hF3⟩ := least_of hs (by omega) hp h0 h1
  have HF1 := hide hF1
  have HF2 := hide hF2
  have HF3 := hide hF3
  have HV := hide hv
  have hrow := hv.2.2.2
  obtain ⟨A, cap, rfl⟩ := hrow.form
  rw [hlen] at hrow
  have HR := hide hrow
  have HLEN := hide hlen
  have hX := Box3.new w (num o) 23
  have HX := hide hX
  have HVV := hide (show InV (w.alloc (.cells #[.int .i64 0, .int .i64 o, .string ⟨#[]⟩] 23)) (.slice A (nums l).length cap) (nums l) from ⟨hv.1, hv.2.1, hv.2.2.1, hv.2.2.2.laid _⟩)
  obtain ⟨i0, hi0, hz0, hz1, hz2⟩ := info_parts info_value
  have HREV : Hid (l.reverse.length = l.length) := hide List.length_reverse
  clear hg hszs hszr hF1 hF2 hF3 hrow hv hX hs h0 h1
  rw [hlen] at HGD HVV HA ⊢
  clear hlen
  obtain ⟨m, hm⟩ : ∃ m, l.length = m := ⟨_, rfl⟩
  rw [hm] at HGD HVV HA HR HLEN hl hp HREV ⊢
  have HM := hide hm
  clear hm
  have t0 : ((m : Int) == 0) = false := beq_eq_false_iff_ne.2 (by omega)
  have t0' : (m == 0) = false := beq_eq_false_iff_ne.2 (by omega)
  go_enter Try.func6, Try.ntmps6
  go_wp2_with fail
  refine (HGD.out _ HVV.out).mono ?_
  rintro e w1 ⟨rfl, hb⟩
  have HX1 := hide (HX.out.keep hb)
  have HB1 := hide (bel1 hb)
  have HR1 := hide (HR.out.grow (bel1 hb))
  have hz := hb.size
  rw [World.size_alloc] at hz
  clear hb
  go_wp2_with fail
  go_loopw [5, 6] (fun bk i wr => ∃ (r : Nat) (y : Int) (b : Value), b = bk ∧ r ≤ m ∧ i = .int .i64 y ∧ y = (r : Int) - 1 ∧ wr.ownsRow w1.heap.size 23 3 b (m - r) (flat (nums (l.drop r).reverse)) ∧ Below w1.heap.size w1 wr) (fun _ i _ => ((intOf i) + 1).toNat)
  case atStart => exact ⟨m, _, _, rfl, by omega, rfl, rfl, by rw [Nat.sub_self, List.drop_eq_nil_of_le (by rw [HM.out]; exact Nat.le_refl _)]; exact World.ownsRow_nil _ _ _ _, Below.refl _ _⟩
  case round =>
    obtain ⟨r, y, bk, rfl, hr, rfl, hy, hown, hB⟩ := hrel
    have hsz := hB.size
    by_cases hr0 : r = 0
    · subst hr0
      have ty : decide (0 ≤ y) = false := decide_eq_false (by omega)
      clear hy
      rw [List.drop_zero, Nat.sub_zero] at hown
      have hW : OrdW w o l (.slice A m cap) bk wr := by
        refine ⟨HX1.out.keep hB, ?_, ?_, bthen HB1.out hB⟩
        · rw [HM.out]; exact HR1.out.grow hB
        · rw [HM.out]; exact Row.of_own hown
      have HW := hide hW
      obtain ⟨BA, bc, rfl⟩ := hW.back.form
      clear hown hW hB
      go_wp2_with fail
      go_loopw [7] (fun i wr => ∃ kk : Nat, kk ≤ 6 ∧ i = .int .i64 kk ∧ Hid (OrdW w o l (.slice A m cap) (.slice BA l.length bc) wr)) (fun i _ => 6 - (intOf i).toNat)
      case atStart => exact ⟨0, by omega, rfl, HW⟩
      case round =>
        obtain ⟨kk, hkk, rfl, HW⟩ := hrel
        obtain ⟨⟨q0, q1, q2⟩, -⟩ := HW.out.box
        by_cases h6 : kk = 6
        · subst h6
          obtain ⟨z1, -, -⟩ := HT.out 2 2 (by decide) (by decide)
          have hA1 := HA.out 2
          rw [z1, HF1.out] at hA1
          have HA1 := hide hA1
          have HRR : Hid (Row wr wr.heap.size 3 (.slice A m cap) m (flat (nums l))) := hide (by have h := HW.out.row; rw [HM.out] at h; exact h)
          clear z1 hA1 hkk
          simp only [num] at q0 q1 q2
          go_wp2_with fail
          refine (HA1.out _ HRR.out).mono ?_
          simp only [num]
          rintro e w3 ⟨rfl, hb⟩
          have hb9 := @below_laid w3 (.cells #[.int .i64 0, .int .i64 F, .string ⟨#[]⟩] 23)
          have HR3 := hide ((HRR.out.grow hb).grow hb9)
          have HL3 := hide (Box3.new w3 (num F) 23)
          have HB3 := hide (bthen (bthen HW.out.below hb) hb9)
          clear hb hb9 q0 q1 q2
          go_wp2_with fail
          go_loopw [15, 16] (fun f i wr => ∃ (j : Nat) (fb : Bool), j ≤ m ∧ f = .bool fb ∧ Hid (fb = (l.take j).any fun n => n == F) ∧ i = .int .i64 j ∧ Hid (Box3 wr w3.heap.size (num F)) ∧ Hid (Row wr wr.heap.size 3 (.slice A m cap) m (flat (nums l))) ∧ Hid (Below w.heap.size w wr)) (fun _ i _ => m - (intOf i).toNat)
          case atStart => exact ⟨0, false, by omega, rfl, hide rfl, rfl, HL3, HR3, HB3⟩
          case round =>
            obtain ⟨j, fb, hj, rfl, HFB, rfl, HL, HR, HB⟩ := hrel
            by_cases hlt : j < m
            · have hjl : j < l.length := by rw [HM.out]; exact hlt
              obtain ⟨g, off, cap', e', hg, -, hcell⟩ := HR.out.at_ hp
              cases e'
              obtain ⟨f1, f2, f3⟩ := flat_at (nums l) j (by rw [HLEN.out]; omega)
              have e0 := hcell _ _ f1
              have e1 := hcell _ _ f2
              have e2 := hcell _ _ f3
              have hgt := nums_get l j hjl (by rw [HLEN.out]; omega)
              rw [hgt] at e0 e1 e2
              simp only [num] at e0 e1 e2
              rw [← Nat.add_assoc] at e1 e2
              have hle := HF2.out l[j] (List.getElem_mem hjl)
              have HNX : Hid ((l.take (j + 1)).any (fun n => n == F) = ((l.take j).any (fun n => n == F) || (l[j] == F))) := hide (by
                rw [List.take_succ_eq_append_getElem hjl, List.any_append]; simp)
              generalize l[j] = z at *
              have tz : decide (z < F) = false := decide_eq_false (by omega)
              obtain ⟨⟨p0, p1, p2⟩, -⟩ := HL.out
              simp only [num] at p0 p1 p2
              have hu0 : (0 : Int) ≤ (j : Int) := by omega
              have hu1 : (j : Int) < (m : Int) := by omega
              clear hcell f1 f2 f3 hgt hle
              rw [← HFB.out] at HNX
              go_wp2_with fail
              go_quiet (fail)
              cases fb
              · by_cases hzf : F = z
                · subst hzf
                  have HG : Hid (((l.take (j + 1)).any fun n => n == F) = true) := hide (by rw [HNX.out]; simp)
                  clear HNX
                  go_wp2_with fail
                  go_quiet (fail)
                  go_wp2
                  go_roundw
                  case rel => exact ⟨j + 1, true, by omega, rfl, hide HG.out.symm, by go_num, hide (HL.out.keep (below_drewN (Below.refl _ _) _)), hide (HR.out.grow (below_drewN (Below.refl _ _) _)), hide (below_drewN HB.out _)⟩
                  case measure => simp [intOf]; omega
                · have t1 : (F == z) = false := beq_eq_false_iff_ne.2 hzf
                  have HG : Hid (((l.take (j + 1)).any fun n => n == F) = false) := hide (by rw [HNX.out, beq_eq_false_iff_ne.2 (Ne.symm hzf)]; rfl)
                  clear HNX hzf
                  go_wp2_with fail
                  go_quiet (fail)
                  go_wp2
                  go_roundw
                  case rel => exact ⟨j + 1, false, by omega, rfl, hide HG.out.symm, by go_num, hide (HL.out.keep (below_drewN (Below.refl _ _) _)), hide (HR.out.grow (below_drewN (Below.refl _ _) _)), hide (below_drewN HB.out _)⟩
                  case measure => simp [intOf]; omega
              · have HG : Hid (((l.take (j + 1)).any fun n => n == F) = true) := hide (by rw [HNX.out]; rfl)
                clear HNX
                go_wp2_with fail
                go_quiet (fail)
                go_wp2
                go_roundw
                case rel => exact ⟨j + 1, true, by omega, rfl, hide HG.out.symm, by go_num, hide (HL.out.keep (below_drewN (Below.refl _ _) _)), hide (HR.out.grow (below_drewN (Below.refl _ _) _)), hide (below_drewN HB.out _)⟩
                case measure => simp [intOf]; omega
            · obtain rfl : j = m := by omega
              have hfb := HFB.out
              rw [List.take_of_length_le (by rw [HM.out]; exact Nat.le_refl _)] at hfb
              obtain rfl : fb = true := by rw [hfb, List.any_eq_true]; exact ⟨F, HF3.out, by simp⟩
              clear hfb
              go_wp2_with fail
              refine (awake_any _).mono ?_
              rintro e w5 ⟨rfl, hb⟩
              go_wp2
              go_ret
              exact Ret.bool rfl (bthen HB.out hb)
        · have hk6 : kk = 0 ∨ kk = 1 ∨ kk = 2 ∨ kk = 3 ∨ kk = 4 ∨ kk = 5 := by omega
          clear h6 hkk
          have HRR : Hid (Row wr wr.heap.size 3 (.slice A m cap) m (flat (nums l))) := hide (by have h := HW.out.row; rw [HM.out] at h; exact h)
          rcases hk6 with rfl | rfl | rfl | rfl | rfl | rfl
          · obtain ⟨z1, z2, z3⟩ := HT.out (0) (0) (by decide) (by decide)
            have hA1 := HA.out (0)
            rw [z1] at hA1
            have HA1 := hide hA1
            have hB1 := fun (w' : World) hr => HB.out (0) w' (.slice BA l.length bc) hr
            rw [z2, z3] at hB1
            have HB2 := hide hB1
            clear z1 z2 z3 hA1 hB1
            generalize ofV (0) (nums l) (num o) = rv at *
            go_wp2_with fail
            refine (HA1.out _ HRR.out).mono ?_
            rintro e w3 ⟨rfl, hb⟩
            obtain ⟨rq, rn, rs⟩ := rv
            have hb9 := bthen hb (below_laid (.cells #[.int .i64 rq, .int .i64 rn, .string rs] 23))
            have HW3 := hide (HW.out.keep hb9)
            have HV3 := hide (Box3.new w3 ⟨rq, rn, rs⟩ 23)
            clear hb hb9 q0 q1 q2
            obtain ⟨⟨p0, p1, p2⟩, -⟩ := HW3.out.box
            have HBR3 := hide (show Row (w3.alloc (.cells #[.int .i64 rq, .int .i64 rn, .string rs] 23)) (w3.alloc (.cells #[.int .i64 rq, .int .i64 rn, .string rs] 23)).heap.size 3 (.slice BA l.length bc) (nums l.reverse).length (flat (nums l.reverse)) by rw [nums_len, HREV.out, ← HM.out]; exact HW3.out.back)
            go_wp2_with fail
            refine (HB2.out _ HBR3.out).mono ?_
            rintro e w4 ⟨rfl, hb⟩
            have hb9 := bthen hb (below_laid (.cells #[.int .i64 rq, .int .i64 rn, .string rs] 23))
            have HW4 := hide (HW3.out.keep hb9)
            have HV4 := hide (HV3.out.keep hb9)
            clear hb hb9 p0 p1 p2
            obtain ⟨⟨p0, p1, p2⟩, -⟩ := HV4.out
            go_wp2
            go_roundw
            case rel => exact ⟨0 + 1, by omega, by go_num, HW4⟩
            case measure => simp [intOf]
          · obtain ⟨z1, z2, z3⟩ := HT.out (1) (1) (by decide) (by decide)
            have hA1 := HA.out (1)
            rw [z1] at hA1
            have HA1 := hide hA1
            have hB1 := fun (w' : World) hr => HB.out (1) w' (.slice BA l.length bc) hr
            rw [z2, z3] at hB1
            have HB2 := hide hB1
            clear z1 z2 z3 hA1 hB1
            generalize ofV (1) (nums l) (num o) = rv at *
            go_wp2_with fail
            refine (HA1.out _ HRR.out).mono ?_
            rintro e w3 ⟨rfl, hb⟩
            obtain ⟨rq, rn, rs⟩ := rv
            have hb9 := bthen hb (below_laid (.cells #[.int .i64 rq, .int .i64 rn, .string rs] 23))
            have HW3 := hide (HW.out.keep hb9)
            have HV3 := hide (Box3.new w3 ⟨rq, rn, rs⟩ 23)
            clear hb hb9 q0 q1 q2
            obtain ⟨⟨p0, p1, p2⟩, -⟩ := HW3.out.box
            have HBR3 := hide (show Row (w3.alloc (.cells #[.int .i64 rq, .int .i64 rn, .string rs] 23)) (w3.alloc (.cells #[.int .i64 rq, .int .i64 rn, .string rs] 23)).heap.size 3 (.slice BA l.length bc) (nums l.reverse).length (flat (nums l.reverse)) by rw [nums_len, HREV.out, ← HM.out]; exact HW3.out.back)
            go_wp2_with fail
            refine (HB2.out _ HBR3.out).mono ?_
            rintro e w4 ⟨rfl, hb⟩
            have hb9 := bthen hb (below_laid (.cells #[.int .i64 rq, .int .i64 rn, .string rs] 23))
            have HW4 := hide (HW3.out.keep hb9)
            have HV4 := hide (HV3.out.keep hb9)
            clear hb hb9 p0 p1 p2
            obtain ⟨⟨p0, p1, p2⟩, -⟩ := HV4.out
            go_wp2
            go_roundw
            case rel => exact ⟨1 + 1, by omega, by go_num, HW4⟩
            case measure => simp [intOf]
          · obtain ⟨z1, z2, z3⟩ := HT.out (2) (2) (by decide) (by decide)
            have hA1 := HA.out (2)
            rw [z1] at hA1
            have HA1 := hide hA1
            have hB1 := fun (w' : World) hr => HB.out (2) w' (.slice BA l.length bc) hr
            rw [z2, z3] at hB1
            have HB2 := hide hB1
            clear z1 z2 z3 hA1 hB1
            generalize ofV (2) (nums l) (num o) = rv at *
            go_wp2_with fail
            refine (HA1.out _ HRR.out).mono ?_
            rintro e w3 ⟨rfl, hb⟩
            obtain ⟨rq, rn, rs⟩ := rv
            have hb9 := bthen hb (below_laid (.cells #[.int .i64 rq, .int .i64 rn, .string rs] 23))
            have HW3 := hide (HW.out.keep hb9)
            have HV3 := hide (Box3.new w3 ⟨rq, rn, rs⟩ 23)
            clear hb hb9 q0 q1 q2
            obtain ⟨⟨p0, p1, p2⟩, -⟩ := HW3.out.box
            have HBR3 := hide (show Row (w3.alloc (.cells #[.int .i64 rq, .int .i64 rn, .string rs] 23)) (w3.alloc (.cells #[.int .i64 rq, .int .i64 rn, .string rs] 23)).heap.size 3 (.slice BA l.length bc) (nums l.reverse).length (flat (nums l.reverse)) by rw [nums_len, HREV.out, ← HM.out]; exact HW3.out.back)
            go_wp2_with fail
            refine (HB2.out _ HBR3.out).mono ?_
            rintro e w4 ⟨rfl, hb⟩
            have hb9 := bthen hb (below_laid (.cells #[.int .i64 rq, .int .i64 rn, .string rs] 23))
            have HW4 := hide (HW3.out.keep hb9)
            have HV4 := hide (HV3.out.keep hb9)
            clear hb hb9 p0 p1 p2
            obtain ⟨⟨p0, p1, p2⟩, -⟩ := HV4.out
            go_wp2
            go_roundw
            case rel => exact ⟨2 + 1, by omega, by go_num, HW4⟩
            case measure => simp [intOf]
          · obtain ⟨z1, z2, z3⟩ := HT.out (3) (3) (by decide) (by decide)
            have hA1 := HA.out (3)
            rw [z1] at hA1
            have HA1 := hide hA1
            have hB1 := fun (w' : World) hr => HB.out (3) w' (.slice BA l.length bc) hr
            rw [z2, z3] at hB1
            have HB2 := hide hB1
            clear z1 z2 z3 hA1 hB1
            generalize ofV (3) (nums l) (num o) = rv at *
            go_wp2_with fail
            refine (HA1.out _ HRR.out).mono ?_
            rintro e w3 ⟨rfl, hb⟩
            obtain ⟨rq, rn, rs⟩ := rv
            have hb9 := bthen hb (below_laid (.cells #[.int .i64 rq, .int .i64 rn, .string rs] 23))
            have HW3 := hide (HW.out.keep hb9)
            have HV3 := hide (Box3.new w3 ⟨rq, rn, rs⟩ 23)
            clear hb hb9 q0 q1 q2
            obtain ⟨⟨p0, p1, p2⟩, -⟩ := HW3.out.box
            have HBR3 := hide (show Row (w3.alloc (.cells #[.int .i64 rq, .int .i64 rn, .string rs] 23)) (w3.alloc (.cells #[.int .i64 rq, .int .i64 rn, .string rs] 23)).heap.size 3 (.slice BA l.length bc) (nums l.reverse).length (flat (nums l.reverse)) by rw [nums_len, HREV.out, ← HM.out]; exact HW3.out.back)
            go_wp2_with fail
            refine (HB2.out _ HBR3.out).mono ?_
            rintro e w4 ⟨rfl, hb⟩
            have hb9 := bthen hb (below_laid (.cells #[.int .i64 rq, .int .i64 rn, .string rs] 23))
            have HW4 := hide (HW3.out.keep hb9)
            have HV4 := hide (HV3.out.keep hb9)
            clear hb hb9 p0 p1 p2
            obtain ⟨⟨p0, p1, p2⟩, -⟩ := HV4.out
            go_wp2
            go_roundw
            case rel => exact ⟨3 + 1, by omega, by go_num, HW4⟩
            case measure => simp [intOf]
          · obtain ⟨z1, z2, z3⟩ := HT.out (4) (5) (by decide) (by decide)
            have hA1 := HA.out (4)
            rw [z1] at hA1
            have HA1 := hide hA1
            have hB1 := fun (w' : World) hr => HB.out (5) w' (.slice BA l.length bc) hr
            rw [z2, z3] at hB1
            have HB2 := hide hB1
            clear z1 z2 z3 hA1 hB1
            generalize ofV (4) (nums l) (num o) = rv at *
            go_wp2_with fail
            refine (HA1.out _ HRR.out).mono ?_
            rintro e w3 ⟨rfl, hb⟩
            obtain ⟨rq, rn, rs⟩ := rv
            have hb9 := bthen hb (below_laid (.cells #[.int .i64 rq, .int .i64 rn, .string rs] 23))
            have HW3 := hide (HW.out.keep hb9)
            have HV3 := hide (Box3.new w3 ⟨rq, rn, rs⟩ 23)
            clear hb hb9 q0 q1 q2
            obtain ⟨⟨p0, p1, p2⟩, -⟩ := HW3.out.box
            have HBR3 := hide (show Row (w3.alloc (.cells #[.int .i64 rq, .int .i64 rn, .string rs] 23)) (w3.alloc (.cells #[.int .i64 rq, .int .i64 rn, .string rs] 23)).heap.size 3 (.slice BA l.length bc) (nums l.reverse).length (flat (nums l.reverse)) by rw [nums_len, HREV.out, ← HM.out]; exact HW3.out.back)
            go_wp2_with fail
            refine (HB2.out _ HBR3.out).mono ?_
            rintro e w4 ⟨rfl, hb⟩
            have hb9 := bthen hb (below_laid (.cells #[.int .i64 rq, .int .i64 rn, .string rs] 23))
            have HW4 := hide (HW3.out.keep hb9)
            have HV4 := hide (HV3.out.keep hb9)
            clear hb hb9 p0 p1 p2
            obtain ⟨⟨p0, p1, p2⟩, -⟩ := HV4.out
            go_wp2
            go_roundw
            case rel => exact ⟨4 + 1, by omega, by go_num, HW4⟩
            case measure => simp [intOf]
          · obtain ⟨z1, z2, z3⟩ := HT.out (5) (4) (by decide) (by decide)
            have hA1 := HA.out (5)
            rw [z1] at hA1
            have HA1 := hide hA1
            have hB1 := fun (w' : World) hr => HB.out (4) w' (.slice BA l.length bc) hr
            rw [z2, z3] at hB1
            have HB2 := hide hB1
            clear z1 z2 z3 hA1 hB1
            generalize ofV (5) (nums l) (num o) = rv at *
            go_wp2_with fail
            refine (HA1.out _ HRR.out).mono ?_
            rintro e w3 ⟨rfl, hb⟩
            obtain ⟨rq, rn, rs⟩ := rv
            have hb9 := bthen hb (below_laid (.cells #[.int .i64 rq, .int .i64 rn, .string rs] 23))
            have HW3 := hide (HW.out.keep hb9)
            have HV3 := hide (Box3.new w3 ⟨rq, rn, rs⟩ 23)
            clear hb hb9 q0 q1 q2
            obtain ⟨⟨p0, p1, p2⟩, -⟩ := HW3.out.box
            have HBR3 := hide (show Row (w3.alloc (.cells #[.int .i64 rq, .int .i64 rn, .string rs] 23)) (w3.alloc (.cells #[.int .i64 rq, .int .i64 rn, .string rs] 23)).heap.size 3 (.slice BA l.length bc) (nums l.reverse).length (flat (nums l.reverse)) by rw [nums_len, HREV.out, ← HM.out]; exact HW3.out.back)
            go_wp2_with fail
            refine (HB2.out _ HBR3.out).mono ?_
            rintro e w4 ⟨rfl, hb⟩
            have hb9 := bthen hb (below_laid (.cells #[.int .i64 rq, .int .i64 rn, .string rs] 23))
            have HW4 := hide (HW3.out.keep hb9)
            have HV4 := hide (HV3.out.keep hb9)
            clear hb hb9 p0 p1 p2
            obtain ⟨⟨p0, p1, p2⟩, -⟩ := HV4.out
            go_wp2
            go_roundw
            case rel => exact ⟨5 + 1, by omega, by go_num, HW4⟩
            case measure => simp [intOf]
    · obtain ⟨r', rfl⟩ : ∃ r', r = r' + 1 := ⟨r - 1, by omega⟩
      obtain rfl : y = ((r' : Nat) : Int) := by omega
      have hrl : r' < l.length := by rw [HM.out]; omega
      obtain ⟨g, off, cap', e', hg, -, hcell⟩ := (HR1.out.grow hB).at_ hp
      cases e'
      obtain ⟨f1, f2, f3⟩ := flat_at (nums l) r' (by rw [HLEN.out]; omega)
      have e0 := hcell _ _ f1
      have e1 := hcell _ _ f2
      have e2 := hcell _ _ f3
      have hgt := nums_get l r' hrl (by rw [HLEN.out]; omega)
      rw [hgt] at e0 e1 e2
      simp only [num] at e0 e1 e2
      rw [← Nat.add_assoc] at e1 e2
      have HS : Hid (flat (nums (l.drop r').reverse) = flat (nums (l.drop (r' + 1)).reverse) ++ [.int .i64 0, .int .i64 l[r'], .string ⟨#[]⟩]) := hide (by
        rw [List.drop_eq_getElem_cons hrl, List.reverse_cons, nums, List.map_append, flat_app]; rfl)
      generalize l[r'] = z at *
      clear hcell f1 f2 f3 hgt hy
      go_wp2_with (at_builtin; refine wpList_append_one rfl _ _ 33 rfl w1.heap.size 23 i0 _ 32 Try.underlying33 hi0 hz0 [.int .i64 0, .int .i64 z, .string ⟨#[]⟩] hz1 hz2 rfl (by simp) _ _ _ rfl hown _ rfl (by simp [Value.oneCell']) ?c1 (by decide) ?c2 ?_; (case c1 => omega); (case c2 => omega); intro v2 w2 hown2 hb2 _)
      go_roundw
      case rel => exact ⟨r', _, v2, rfl, by omega, rfl, by omega, by rw [HS.out, show m - r' = m - (r' + 1) + 1 by omega]; exact hown2, hB.trans hb2⟩
      case measure => first | (simp [intOf]; done) | (simp [intOf]; omega)

set_option maxHeartbeats 2000000 in
theorem orders_no (v : Value) (L : List V3) (o : V3) (w : World) (ho : o.s.size ≤ maxLen) (hv : InV w v L) (hno : goodB 2 L o = false ∨ L.length = 0) :
    Calls Try.prog 6 #[v, .agg #[.int .i64 o.q, .int .i64 o.n, .string o.s]] w (Ret (.bool true) w) := by
  have HVV := hide (show InV (w.alloc (.cells #[.int .i64 o.q, .int .i64 o.n, .string o.s] 23)) v L from ⟨hv.1, hv.2.1, hv.2.2.1, hv.2.2.2.laid _⟩)
  have HGD := hide (fun w' (hv : InV w' v L) => good_any 2 L o w' v ho hv)
  obtain ⟨A, cap, rfl⟩ := hv.2.2.1
  have hl := hv.1
  clear hv ho
  cases hg : goodB 2 L o
  · rw [hg] at HGD
    clear hg hno
    go_enter Try.func6, Try.ntmps6
    go_wp2_with fail
    refine (HGD.out _ HVV.out).mono ?_
    rintro e w1 ⟨rfl, hb⟩
    have HB := hide (bel1 hb)
    clear hb
    go_wp2_with fail
    refine (awake_any _).mono ?_
    rintro e w2 ⟨rfl, hb⟩
    go_wp2
    go_ret
    exact Ret.bool rfl (bthen HB.out hb)
  · have h0 : L.length = 0 := by
      rcases hno with h | h
      · rw [h] at hg; cases hg
      · exact h
    rw [hg] at HGD
    rw [h0] at HVV HGD ⊢
    clear hg hno h0 hl
    go_enter Try.func6, Try.ntmps6
    go_wp2_with fail
    refine (HGD.out _ HVV.out).mono ?_
    rintro e w1 ⟨rfl, hb⟩
    have HB := hide (bel1 hb)
    clear hb
    go_wp2_with fail
    refine (awake_any _).mono ?_
    rintro e w2 ⟨rfl, hb⟩
    go_wp2
    go_ret
    exact Ret.bool rfl (bthen HB.out hb)

theorem orders_law (v : Value) (L : List V3) (o : V3) (w : World) (ho : o.s.size ≤ maxLen) (hv : InV w v L) :
    Calls Try.prog 6 #[v, .agg #[.int .i64 o.q, .int .i64 o.n, .string o.s]] w (Ret (.bool true) w) := by
  cases hg : goodB 2 L o
  · exact orders_no v L o w ho hv (.inl hg)
  · by_cases h0 : L.length = 0
    · exact orders_no v L o w ho hv (.inr h0)
    · have hg0 := hg
      obtain ⟨hl, ⟨l, rfl, hs⟩, n, rfl, h1, h2⟩ := good_nums hg
      rw [nums_len] at hl h0
      exact orders_ok v l n w hs hl (by omega) h1 h2 hg0 hv
end Go.Proofs.Ytgppohelgmadoaa
