/- stream.Inversions. -/
import Derived.Test.YtbendimkejndiaaTIdx
namespace Go.Proofs.Ytbendimkejndiaa
open Go.RowKit
set_option linter.unusedVariables false
set_option linter.unusedSimpArgs false
def inv1 (l : List Evt) (x : Evt) : Nat := l.countP fun y => decide (0 < cmpE y x)
def invJ (l : List Evt) : Nat → Nat
  | 0 => 0
  | j + 1 => invJ l j + inv1 (l.take j) (l.getD j default)
theorem inv1_le (l : List Evt) (x : Evt) : inv1 l x ≤ l.length := List.countP_le_length
theorem invJ_le (l : List Evt) : ∀ j, invJ l j ≤ j * l.length
  | 0 => by simp [invJ]
  | j + 1 => by
    have h1 := invJ_le l j
    have h2 := inv1_le (l.take j) (l.getD j default)
    have h3 : (l.take j).length ≤ l.length := by rw [List.length_take]; omega
    rw [invJ, Nat.succ_mul]
    omega
theorem inv1_snoc (l : List Evt) (y x : Evt) : inv1 (l ++ [y]) x = inv1 l x + if 0 < cmpE y x then 1 else 0 := by
  unfold inv1
  rw [List.countP_append]
  by_cases h : 0 < cmpE y x <;> simp [h]
set_option maxRecDepth 100000 in
set_option maxHeartbeats 8000000 in
theorem inv_any (v : Value) (l : List Evt) (w : World) (hv : Lst w (· < w.heap.size) 5 REv0 v l) (hl : l.length ≤ 1000) (hp : ∀ x ∈ l, Plcd x) :
    Calls Try.prog 16 #[v] w fun e w' => e = .returned (.tuple #[.int .i64 (invJ l l.length : Nat), .int .i64 0]) ∧ Below w.heap.size w w' := by
  have HC1 := hide (all_any v l w hv)
  have HP1 : Hid (l.length ≤ 4096 ∧ ∀ x ∈ l, Plcd x) := hide ⟨by omega, hp⟩
  obtain ⟨A, cap, rfl⟩ := hv.form
  obtain ⟨hcap, hcl⟩ : l.length ≤ cap ∧ True := by obtain ⟨A', c', e, h, -⟩ := hv.1; injection e with _ _ e; subst e; exact ⟨h, trivial⟩
  have HV := hide hv
  obtain ⟨m, hm⟩ : ∃ m, l.length = m := ⟨_, rfl⟩
  have HIB : Hid (∀ j ≤ m, invJ l j ≤ 1000000) := hide (fun j hj => by have h1 := invJ_le l j; have h2 : j * l.length ≤ 1000 * 1000 := Nat.mul_le_mul (by omega) hl; omega)
  rw [hm] at HV HC1 hl hcap ⊢
  have HM := hide hm
  clear hv hp hm hcl
  go_enter Try.func16, Try.ntmps16
  go_wp2_with fail
  refine HC1.out.mono ?_
  rintro en w1 ⟨k1, rfl, hk1, hb1⟩
  obtain rfl : k1 = 0 := hk1.2 (by have := HP1.out; rw [HM.out] at this; exact this)
  have HB1 := hide hb1
  clear hk1 hb1 HC1
  go_wp2_with fail
  go_loopw [5, 17] (fun n i wr => ∃ j : Nat, j ≤ m ∧ i = .int .i64 j ∧ n = .int .i64 (invJ l j : Nat) ∧ Hid (Below w.heap.size w wr)) (fun _ i _ => m - (intOf i).toNat)
  case atStart => exact ⟨0, Nat.zero_le _, rfl, rfl, HB1⟩
  case round =>
    obtain ⟨j, hj, rfl, rfl, HB⟩ := hrel
    by_cases hlt : j < m
    · have hjl : j < l.length := by rw [HM.out]; exact hlt
      obtain ⟨g, off, xs, e2, hg, hxl, hc, hR⟩ := HV.out.at_ hjl
      cases e2
      have HX9 : Hid (l.getD j default = l[j]) := hide (by rw [List.getD_eq_getElem?_getD, List.getElem?_eq_getElem hjl]; rfl)
      obtain ⟨x, hx⟩ : ∃ x, l[j] = x := ⟨_, rfl⟩
      rw [hx] at hR HX9
      obtain ⟨y0, rfl, hu, -⟩ := hR
      obtain ⟨A', c', rfl⟩ := hu.form
      obtain ⟨n', hn'⟩ : ∃ n, x.vs.length = n := ⟨_, rfl⟩
      rw [hn'] at hc
      have k0 := keep1 HB.out (hc 0 _ rfl)
      have k1 := keep1 HB.out (hc 1 _ rfl)
      have k2 := keep1 HB.out (hc 2 _ rfl)
      have k3 := keep1 HB.out (hc 3 _ rfl)
      have k4 := keep1 HB.out (hc 4 _ rfl)
      rw [Nat.add_zero] at k0
      have hu0 : (0 : Int) ≤ (j : Int) := by omega
      have hu1 : (j : Int) < (m : Int) := by omega
      have hu2 : (j : Int) ≤ (cap : Int) := by omega
      have HBX := hide (bthen HB.out (below_laid (w := wr) (.cells #[.int .i64 x.a, .int .i64 x.b, .int .i64 x.c, .int .i64 x.d, .slice A' n' c'] 32)))
      have HX := hide (Bl.new wr [.int .i64 x.a, .int .i64 x.b, .int .i64 x.c, .int .i64 x.d, .slice A' n' c'] 32)
      clear hc hxl hu hx hn'
      go_wp2_with fail
      obtain ⟨bx, hbx⟩ : ∃ b, wr.heap.size = b := ⟨_, rfl⟩
      obtain ⟨w3, hw3⟩ : ∃ w3, wr.alloc (.cells #[.int .i64 x.a, .int .i64 x.b, .int .i64 x.c, .int .i64 x.d, .slice A' n' c'] 32) = w3 := ⟨_, rfl⟩
      rw [hw3] at HBX HX
      rw [hbx] at HX
      rw [hw3, hbx]
      have HIJ : Hid (invJ l (j + 1) = invJ l j + inv1 (l.take j) x) := hide (by rw [invJ, HX9.out])
      have HIC := hide (HIB.out j hj)
      obtain ⟨nj, hnj⟩ : ∃ n, invJ l j = n := ⟨_, rfl⟩
      rw [hnj] at HIJ HIC ⊢
      have HB9 := HB
      clear HB hbx hw3 hnj k0 k1 k2 k3 k4
      go_loopw [5, 26] (fun n i wr => ∃ q : Nat, q ≤ j ∧ i = .int .i64 q ∧ n = .int .i64 (nj + inv1 (l.take q) x : Nat) ∧ Hid (Below w3.heap.size w3 wr)) (fun _ i _ => j - (intOf i).toNat)
      case atStart => exact ⟨0, Nat.zero_le _, rfl, rfl, hide (Below.refl _ _)⟩
      case round =>
        obtain ⟨q, hq, rfl, rfl, HQ⟩ := hrel
        by_cases hqj : q < j
        · have hql : q < l.length := by rw [HM.out]; omega
          obtain ⟨g2, off2, zs, e3, hg2, hzl, hc2, hR2⟩ := HV.out.at_ hql
          cases e3
          have HS9 : Hid (inv1 (l.take (q + 1)) x = inv1 (l.take q) x + if 0 < cmpE l[q] x then 1 else 0) := hide (by rw [take_snoc hql, inv1_snoc])
          have HL9 : Hid (inv1 (l.take q) x ≤ 1000) := hide (Nat.le_trans (inv1_le _ _) (by rw [List.length_take]; omega))
          obtain ⟨z, hz⟩ : ∃ z, l[q] = z := ⟨_, rfl⟩
          rw [hz] at hR2 HS9
          obtain ⟨y2, rfl, hu2, -⟩ := hR2
          obtain ⟨A2, c2, rfl⟩ := hu2.form
          obtain ⟨n2, hn2⟩ : ∃ n, z.vs.length = n := ⟨_, rfl⟩
          rw [hn2] at hc2
          have HBQ := hide (bthen HBX.out HQ.out)
          have k0 := keep1 HBQ.out (hc2 0 _ rfl)
          have k1 := keep1 HBQ.out (hc2 1 _ rfl)
          have k2 := keep1 HBQ.out (hc2 2 _ rfl)
          have k3 := keep1 HBQ.out (hc2 3 _ rfl)
          have k4 := keep1 HBQ.out (hc2 4 _ rfl)
          rw [Nat.add_zero] at k0
          have hx9 := (HX.out.keep HQ.out).laid (.cells #[.int .i64 z.a, .int .i64 z.b, .int .i64 z.c, .int .i64 z.d, .slice A2 n2 c2] 32)
          have x0 := hx9.c 0 _ rfl
          have x1 := hx9.c 1 _ rfl
          have x2 := hx9.c 2 _ rfl
          have x3 := hx9.c 3 _ rfl
          have x4 := hx9.c 4 _ rfl
          have HBZ := hide (bthen HQ.out (below_laid (w := wr) (.cells #[.int .i64 z.a, .int .i64 z.b, .int .i64 z.c, .int .i64 z.d, .slice A2 n2 c2] 32)))
          have v0 : (0 : Int) ≤ (q : Int) := by omega
          have v1 : (q : Int) < (j : Int) := by omega
          have HCE := hide (fun w => ecmp_any z.a z.b z.c z.d x.a x.b x.c x.d A2 A' n2 c2 n' c' w)
          have HEQ : Hid (or2 (cmpI z.d x.d) (or2 (cmpI z.a x.a) (cmpI z.b x.b)) = cmpE z x) := hide rfl
          rw [HEQ.out] at HCE
          obtain ⟨i1, hi1⟩ : ∃ n, inv1 (l.take q) x = n := ⟨_, rfl⟩
          rw [hi1] at HS9 HL9 ⊢
          have hic := HIC.out
          have hl9 := HL9.out
          clear hc2 hzl hu2 hz hn2 hx9 hi1
          by_cases hpos : 0 < cmpE z x
          · have t9 : decide (0 < cmpE z x) = true := decide_eq_true hpos
            have HS8 := hide (show inv1 (l.take (q + 1)) x = i1 + 1 by rw [HS9.out, if_pos hpos])
            have hwr9 : IntKind.i64.wrap (((nj + i1 : Nat) : Int) + 1) = ((nj + (i1 + 1) : Nat) : Int) := by rw [IntKind.wrap_i64]; omega
            have hwr8 : IntKind.i64.wrap ((nj : Int) + (i1 : Int) + 1) = ((nj + (i1 + 1) : Nat) : Int) := by rw [IntKind.wrap_i64]; omega
            obtain ⟨cz, hcz⟩ : ∃ c, cmpE z x = c := ⟨_, rfl⟩
            rw [hcz] at HCE hpos t9
            clear hcz HEQ HS9
            go_wp2_with (go_at_call 29; refine (HCE.out _).mono ?_; rintro en w9 ⟨rfl, hg9⟩)
            go_roundw
            case rel => exact ⟨q + 1, by omega, by go_num, by rw [HS8.out]; first | rfl | rw [hwr9] | rw [hwr8] | (refine congrArg (Value.int .i64) ?_; omega), hide (bthen HBZ.out hg9.below)⟩
            case measure => simp [intOf]; omega
          · have t9 : decide (0 < cmpE z x) = false := decide_eq_false hpos
            have HS8 := hide (show inv1 (l.take (q + 1)) x = i1 by rw [HS9.out, if_neg hpos]; rfl)
            obtain ⟨cz, hcz⟩ : ∃ c, cmpE z x = c := ⟨_, rfl⟩
            rw [hcz] at HCE hpos t9
            clear hcz HEQ HS9
            go_wp2_with (go_at_call 29; refine (HCE.out _).mono ?_; rintro en w9 ⟨rfl, hg9⟩)
            go_roundw
            case rel => exact ⟨q + 1, by omega, by go_num, by rw [HS8.out]; first | rfl | (refine congrArg (Value.int .i64) ?_; omega), hide (bthen HBZ.out hg9.below)⟩
            case measure => simp [intOf]; omega
        · obtain rfl : q = j := by omega
          have HIJ2 := hide (show invJ l (q + 1) = nj + inv1 (l.take q) x from HIJ.out)
          go_wp2
          go_roundw
          case rel => exact ⟨q + 1, by omega, by go_num, by rw [HIJ2.out], hide (bthen HBX.out HQ.out)⟩
          case measure => simp [intOf]; omega
    · obtain rfl : j = m := by omega
      go_wp2
      go_ret2
      exact ⟨rfl, HB.out⟩
end Go.Proofs.Ytbendimkejndiaa
