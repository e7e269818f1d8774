/- tidegateref01.Compare; slices.Index, Contains and IsSortedFunc, of values. -/
import Derived.Test.YtbendimkejndiaaTSp
namespace Go.Proofs.Ytbendimkejndiaa
open Go.RowKit
set_option linter.unusedVariables false
set_option linter.unusedSimpArgs false
theorem bl_cb : ∀ a b : List UInt8, Op.bytesLess a b = decide (Lib.compareBytes a b < 0)
  | [], [] => rfl
  | [], _ :: _ => rfl
  | _ :: _, [] => rfl
  | x :: a, y :: b => by
    rw [cb_cons, Op.bytesLess, bl_cb a b]
    by_cases h1 : x < y
    · simp [h1]
    · by_cases h2 : y < x
      · have hne : x ≠ y := fun e => by subst e; exact UInt8.lt_irrefl x h2
        simp [h1, h2, hne]
      · have : x = y := by
          simp only [UInt8.lt_iff_toNat_lt] at h1 h2
          exact UInt8.toNat_inj.1 (by omega)
        subst this
        simp
/-- A number that is below 0 if and only if p holds. -/
def RetNeg (p : Prop) (w : World) (e : Ending) (w' : World) : Prop := ∃ k : Int, e = .returned (.int .i64 k) ∧ (k < 0 ↔ p) ∧ GR w w'
set_option maxHeartbeats 1000000 in
theorem rorder_any (x y : Int) (w : World) : Calls Try.prog 26 #[.int .i64 x, .int .i64 y] w (RetS (.int .i64 (cmpI x y)) w) := by
  by_cases h1 : x < y
  · have t1 : decide (x < y) = true := decide_eq_true h1
    have HE : Hid (cmpI x y = -1) := hide (if_pos h1)
    rw [HE.out]
    go_enter Try.func26, Try.ntmps26
    go_wp2
    go_ret
    exact ⟨rfl, rfl⟩
  · have t1 : decide (x < y) = false := decide_eq_false h1
    by_cases h2 : y < x
    · have t2 : decide (y < x) = true := decide_eq_true h2
      have HE : Hid (cmpI x y = 1) := hide (by unfold cmpI; rw [if_neg h1, if_pos h2])
      rw [HE.out]
      go_enter Try.func26, Try.ntmps26
      go_wp2
      go_ret
      exact ⟨rfl, rfl⟩
    · have t2 : decide (y < x) = false := decide_eq_false h2
      have HE : Hid (cmpI x y = 0) := hide (by unfold cmpI; rw [if_neg h1, if_neg h2])
      rw [HE.out]
      go_enter Try.func26, Try.ntmps26
      go_wp2
      go_ret
      exact ⟨rfl, rfl⟩
set_option maxRecDepth 100000 in
set_option maxHeartbeats 2000000 in
theorem rcmp_any (x y : V3) (w : World) : Calls Try.prog 14 #[.agg #[.int .i64 x.q, .int .i64 x.n, .string x.s], .agg #[.int .i64 y.q, .int .i64 y.n, .string y.s]] w (RetNeg (cmpV x y < 0) w) := by
  obtain ⟨q, n, s⟩ := x
  obtain ⟨q', n', s'⟩ := y
  have HC := hide rorder_any
  have HB := hide (((GR.refl w).alloc (.cells #[.int .i64 q, .int .i64 n, .string s] 38)).alloc (.cells #[.int .i64 q', .int .i64 n', .string s'] 38))
  simp only
  by_cases e1 : q = q'
  · subst e1
    by_cases e2 : n = n'
    · subst e2
      have HE : Hid (cmpV ⟨q, n, s⟩ ⟨q, n, s'⟩ = cmpS s s') := hide (by simp [cmpV, cmpI, or2])
      have HS : Hid (Op.bytesLess s.toList s'.toList = decide (cmpS s s' < 0)) := hide (by rw [bl_cb, Lib.toList_data, Lib.toList_data]; rfl)
      rw [HE.out]
      by_cases h : cmpS s s' < 0
      · have t1 : Op.bytesLess s.toList s'.toList = true := by rw [HS.out, decide_eq_true h]
        have HF := hide h
        clear h HS HE
        go_enter Try.func14, Try.ntmps14
        go_wp2
        go_ret
        exact ⟨-1, rfl, ⟨fun _ => HF.out, fun _ => by decide⟩, HB.out⟩
      · have t1 : Op.bytesLess s.toList s'.toList = false := by rw [HS.out, decide_eq_false h]
        have HF := hide h
        clear h HS HE
        go_enter Try.func14, Try.ntmps14
        go_wp2
        · go_ret
          exact ⟨1, rfl, ⟨fun h => absurd h (by decide), fun h => absurd h (by have := HF.out; omega)⟩, HB.out⟩
        · go_ret
          exact ⟨0, rfl, ⟨fun h => absurd h (by decide), fun h => absurd h (by have := HF.out; omega)⟩, HB.out⟩
    · have HE : Hid (cmpV ⟨q, n, s⟩ ⟨q, n', s'⟩ = cmpI n n') := hide (by unfold cmpV or2 cmpI; simp only; (repeat' split) <;> omega)
      rw [HE.out]
      have t1 : (n != n') = true := bne_iff_ne.2 e2
      go_enter Try.func14, Try.ntmps14
      go_wp2_with fail
      refine (HC.out _ _ _).mono ?_
      rintro e w' ⟨rfl, rfl⟩
      go_wp2
      go_ret
      exact ⟨_, rfl, Iff.rfl, HB.out⟩
  · have HE : Hid (cmpV ⟨q, n, s⟩ ⟨q', n', s'⟩ = cmpI q q') := hide (by unfold cmpV or2 cmpI; simp only; (repeat' split) <;> omega)
    rw [HE.out]
    have t1 : (q != q') = true := bne_iff_ne.2 e1
    go_enter Try.func14, Try.ntmps14
    go_wp2_with fail
    refine (HC.out _ _ _).mono ?_
    rintro e w' ⟨rfl, rfl⟩
    go_wp2
    go_ret
    exact ⟨_, rfl, Iff.rfl, HB.out⟩
/-- The place of y in l, or -1. -/
def RetIdx (l : List V3) (y : V3) (w : World) (e : Ending) (w' : World) : Prop := ∃ k : Int, e = .returned (.int .i64 k) ∧ Below w.heap.size w w' ∧ ((k = -1 ∧ y ∉ l) ∨ ∃ j : Nat, k = j ∧ l[j]? = some y)
set_option maxRecDepth 100000 in
set_option maxHeartbeats 4000000 in
theorem idx_any (v : Value) (l : List V3) (y : V3) (w : World) {Z : Nat → Prop} (hv : Lst w Z 3 RV0 v l) : Calls Try.prog 10 #[v, .agg #[.int .i64 y.q, .int .i64 y.n, .string y.s]] w (RetIdx l y w) := by
  obtain ⟨yq, yn, yt⟩ := y
  simp only
  obtain ⟨A, cap, rfl⟩ := hv.form
  have hlen := hv.len
  unfold maxLen at hlen
  have HV := hide hv
  obtain ⟨m, hm⟩ : ∃ m, l.length = m := ⟨_, rfl⟩
  rw [hm] at HV hlen ⊢
  have HM := hide hm
  have HB0 := hide (below_laid (w := w) (.cells #[.int .i64 yq, .int .i64 yn, .string yt] 38))
  have HY := hide (Bl.new w [.int .i64 yq, .int .i64 yn, .string yt] 38)
  clear hv hm
  go_enter Try.func10, Try.ntmps10
  go_wp2
  obtain ⟨w0, hw0⟩ : ∃ w0, w.alloc (.cells #[.int .i64 yq, .int .i64 yn, .string yt] 38) = w0 := ⟨_, rfl⟩
  rw [hw0] at HB0 HY ⊢
  clear hw0
  go_loopw [8] (fun i wr => ∃ j : Nat, j ≤ m ∧ i = .int .i64 j ∧ Hid ((⟨yq, yn, yt⟩ : V3) ∉ l.take j) ∧ Hid (Below w0.heap.size w0 wr)) (fun i _ => m - (intOf i).toNat)
  case atStart => exact ⟨0, by omega, rfl, hide (by simp), hide (Below.refl _ _)⟩
  case round =>
    obtain ⟨j, hj, rfl, HE, HB⟩ := hrel
    have HBW := hide (bthen HB0.out HB.out)
    by_cases hlt : j < m
    · have hjl : j < l.length := by rw [HM.out]; exact hlt
      obtain ⟨g, off, xs, e2, hg, hxl, hc, hR⟩ := HV.out.at_ hjl
      cases e2
      have HYS : Hid (l[j] ≠ (⟨yq, yn, yt⟩ : V3) → (⟨yq, yn, yt⟩ : V3) ∉ l.take (j + 1)) := hide (fun h => by rw [List.take_succ_eq_append_getElem hjl]; intro hm; rcases List.mem_append.1 hm with h1 | h1; exact HE.out h1; exact h (List.mem_singleton.1 h1).symm)
      have HGT : Hid (l[j] = (⟨yq, yn, yt⟩ : V3) → l[j]? = some (⟨yq, yn, yt⟩ : V3)) := hide (fun h => by rw [List.getElem?_eq_getElem hjl, h])
      obtain ⟨x, hx⟩ : ∃ x, l[j] = x := ⟨_, rfl⟩
      rw [hx] at hR HYS HGT
      obtain ⟨rfl, -, -⟩ := hR
      have k0 := keep1 HBW.out (hc 0 _ rfl)
      have k1 := keep1 HBW.out (hc 1 _ rfl)
      have k2 := keep1 HBW.out (hc 2 _ rfl)
      rw [Nat.add_zero] at k0
      have b0 := (HY.out.keep HB.out).c 0 _ rfl
      have b1 := (HY.out.keep HB.out).c 1 _ rfl
      have b2 := (HY.out.keep HB.out).c 2 _ rfl
      have hu0 : (0 : Int) ≤ (j : Int) := by omega
      have hu1 : (j : Int) < (m : Int) := by omega
      obtain ⟨xq, xn, xt⟩ := x
      simp only at k0 k1 k2
      clear hx hc hxl
      by_cases c1 : yq = xq
      · subst c1
        by_cases c2 : yn = xn
        · subst c2
          by_cases c3 : yt.toList = xt.toList
          · obtain rfl : yt = xt := toList_inj c3
            have HF := hide (HGT.out rfl)
            clear c3
            go_wp2_with fail
            go_region
            all_goals
              go_wp2
              go_ret
              exact ⟨j, rfl, below_drewN HBW.out 1, .inr ⟨j, rfl, HF.out⟩⟩
          · have HF := hide (HYS.out (fun h => c3 (by injection h with _ _ h; rw [h])))
            go_wp2_with fail
            go_region
            all_goals
              go_wp2
              go_roundw
              case rel => exact ⟨j + 1, by omega, by go_num, HF, hide HB.out.drew⟩
              case measure => simp [intOf]; omega
        · have HF := hide (HYS.out (fun h => c2 (by injection h with _ h _; exact h.symm)))
          go_wp2_with fail
          go_region
          all_goals
            go_wp2
            go_roundw
            case rel => exact ⟨j + 1, by omega, by go_num, HF, hide HB.out.drew⟩
            case measure => simp [intOf]; omega
      · have HF := hide (HYS.out (fun h => c1 (by injection h with h _ _; exact h.symm)))
        go_wp2_with fail
        go_region
        all_goals
          go_wp2
          go_roundw
          case rel => exact ⟨j + 1, by omega, by go_num, HF, hide HB.out.drew⟩
          case measure => simp [intOf]; omega
    · obtain rfl : j = m := by omega
      have HF : Hid ((⟨yq, yn, yt⟩ : V3) ∉ l) := hide (by have := HE.out; rwa [List.take_of_length_le (by rw [HM.out]; exact Nat.le_refl _)] at this)
      go_wp2
      go_ret
      exact ⟨-1, rfl, HBW.out, .inl ⟨rfl, HF.out⟩⟩
set_option maxHeartbeats 2000000 in
theorem cont_any (v : Value) (l : List V3) (y : V3) (w : World) {Z : Nat → Prop} (hv : Lst w Z 3 RV0 v l) : Calls Try.prog 12 #[v, .agg #[.int .i64 y.q, .int .i64 y.n, .string y.s]] w (RetIff (y ∈ l) w) := by
  have HB0 := hide (below_laid (w := w) (.cells #[.int .i64 y.q, .int .i64 y.n, .string y.s] 38))
  have HI := hide (idx_any v l y _ (hv.keep rd_V0 (Kp.of_below HB0.out)))
  have HY := hide (Bl.new w [.int .i64 y.q, .int .i64 y.n, .string y.s] 38)
  have b0 := HY.out.c 0 _ rfl
  have b1 := HY.out.c 1 _ rfl
  have b2 := HY.out.c 2 _ rfl
  clear hv
  go_enter Try.func12, Try.ntmps12
  go_wp2_with (go_at_call 10; refine HI.out.mono ?_; rintro en w' ⟨k, rfl, hb, hk⟩)
  have HK := hide hk
  clear hk
  go_ret
  refine ⟨decide (0 ≤ k), ?_, rfl, bthen HB0.out hb⟩
  rw [decide_eq_true_iff]
  rcases HK.out with ⟨rfl, hn⟩ | ⟨j, rfl, hj⟩
  · exact ⟨fun h => absurd h (by decide), fun h => absurd h hn⟩
  · exact ⟨fun _ => List.mem_of_getElem? hj, fun _ => by omega⟩
set_option maxRecDepth 100000 in
set_option maxHeartbeats 4000000 in
theorem issrt_any (v : Value) (l : List V3) (w : World) {Z : Nat → Prop} (hv : Lst w Z 3 RV0 v l) (hp : l.Pairwise fun x y => 0 ≤ cmpV y x) : Calls Try.prog 13 #[v, .func (.func 14) #[] #[]] w (fun e w' => e = .returned (.bool true) ∧ Below w.heap.size w w') := by
  obtain ⟨A, cap, rfl⟩ := hv.form
  have hlen := hv.len
  unfold maxLen at hlen
  have HV := hide hv
  have HPW := hide hp
  obtain ⟨m, hm⟩ : ∃ m, l.length = m := ⟨_, rfl⟩
  rw [hm] at HV hlen ⊢
  have HM := hide hm
  clear hv hm hp
  have t0 : IntKind.i64.wrap ((m : Int) - 1) = (m : Int) - 1 := by rw [IntKind.wrap_i64]; omega
  go_enter Try.func13, Try.ntmps13
  go_wp2
  go_loopw [5] (fun i wr => ∃ y : Int, i = .int .i64 y ∧ y < (m : Int) ∧ (-1 : Int) ≤ y ∧ Hid (Below w.heap.size w wr)) (fun i _ => (intOf i + 1).toNat)
  case atStart => exact ⟨(m : Int) - 1, by first | rfl | rw [t0], by omega, by omega, hide (Below.refl _ _)⟩
  case round =>
    obtain ⟨y, rfl, hy1, hy2, HB⟩ := hrel
    by_cases hpos : 0 < y
    · obtain ⟨i, rfl⟩ : ∃ i : Nat, y = (i : Int) + 1 := ⟨(y - 1).toNat, by omega⟩
      have hil : i < l.length := by rw [HM.out]; omega
      have hjl : i + 1 < l.length := by rw [HM.out]; omega
      obtain ⟨g, off, xs, e2, hg, hxl, hc, hR⟩ := HV.out.at_ hil
      cases e2
      obtain ⟨g2, off2, ys, e3, hg2, hyl, hc2, hR2⟩ := HV.out.at_ hjl
      cases e3
      have HLE : Hid (0 ≤ cmpV l[i + 1] l[i]) := hide (List.pairwise_iff_getElem.1 HPW.out i (i + 1) hil hjl (Nat.lt_succ_self i))
      obtain ⟨x, hx⟩ : ∃ x, l[i] = x := ⟨_, rfl⟩
      obtain ⟨z, hz⟩ : ∃ x, l[i + 1] = x := ⟨_, rfl⟩
      rw [hx] at hR
      rw [hz] at hR2
      rw [hx, hz] at HLE
      obtain ⟨rfl, -, -⟩ := hR
      obtain ⟨rfl, -, -⟩ := hR2
      have k0 := keep1 HB.out (hc 0 _ rfl)
      have k1 := keep1 HB.out (hc 1 _ rfl)
      have k2 := keep1 HB.out (hc 2 _ rfl)
      have q0 := keep1 HB.out (hc2 0 _ rfl)
      have q1 := keep1 HB.out (hc2 1 _ rfl)
      have q2 := keep1 HB.out (hc2 2 _ rfl)
      rw [Nat.add_zero] at k0 q0
      have HC := hide (fun w => rcmp_any z x w)
      have t1 : IntKind.i64.wrap ((i : Int) + 1 - 1) = (i : Int) := by rw [show (i : Int) + 1 - 1 = i by omega, IntKind.wrap_i64]; omega
      have t2 : IntKind.i64.wrap (i : Int) = (i : Int) := by rw [IntKind.wrap_i64]; omega
      have u0 : (0 : Int) ≤ (i : Int) := by omega
      have u1 : (i : Int) < (m : Int) := by omega
      have u2 : (0 : Int) ≤ (i : Int) + 1 := by omega
      have u3 : (i : Int) + 1 < (m : Int) := by omega
      have u4 : ((i : Int) + 1).toNat = i + 1 := by omega
      clear hx hz hc hc2 hxl hyl
      go_wp2_with fail
      go_region_held3 (fun w' => (w'.cell? ⟨g, off + i * 3, none⟩ = some (.int .i64 x.q) ∧ w'.cell? ⟨g, off + i * 3 + 1, none⟩ = some (.int .i64 x.n) ∧ w'.cell? ⟨g, off + i * 3 + 2, none⟩ = some (.string x.s)) ∧ w'.cell? ⟨g, off + (i + 1) * 3, none⟩ = some (.int .i64 z.q) ∧ w'.cell? ⟨g, off + (i + 1) * 3 + 1, none⟩ = some (.int .i64 z.n) ∧ w'.cell? ⟨g, off + (i + 1) * 3 + 2, none⟩ = some (.string z.s))
        (first
          | with_reducible exact ⟨⟨keep1 hb9 k0, keep1 hb9 k1, keep1 hb9 k2⟩, keep1 hb9 q0, keep1 hb9 q1, keep1 hb9 q2⟩
          | (go_keep; done))
        ((go_at_call 14; refine (HC.out _).mono ?_; rintro en w9 ⟨k, rfl, hk9, hg9⟩; have HK9 := hide hk9; clear hk9; have hb9 : Below wr.heap.size wr w9 := below_undrew hg9.below))
      have hk0 : 0 ≤ k := by
        have := HLE.out
        have h2 := HK9.out
        omega
      have t3 : decide (k < 0) = false := decide_eq_false (by omega)
      go_wp2
      go_roundw
      case rel => exact ⟨(i : Int), by first | rfl | rw [t1] | rw [t2] | go_num, by omega, by omega, hide (bthen HB.out hb9)⟩
      case measure => simp [intOf]; omega
    · have t3 : decide (0 < y) = false := decide_eq_false hpos
      go_wp2
      go_ret
      exact ⟨rfl, HB.out⟩
end Go.Proofs.Ytbendimkejndiaa
