/- slices.Contains over integers; the law that each value keeps its group. -/
import Derived.Test.YtoafjlfidgjgbaaAwake
namespace Go.Proofs.Ytoafjlfidgjgbaa
open Go.RowKit
set_option linter.unusedVariables false
set_option linter.unusedSimpArgs false

/-- Where x lies first in l, or -1: the loop's own answer. -/
def idx (x : Int) : List Int → Int → Int
  | [], _ => -1
  | y :: l, k => if x = y then k else idx x l (k + 1)
def has (x : Int) (l : List Int) : Bool := l.any (fun y => decide (x = y))

theorem idx_drop {x : Int} {l : List Int} {k : Nat} (hk : k < l.length) (hne : ¬ x = l[k]) (s : Int) : idx x (l.drop k) s = idx x (l.drop (k + 1)) (s + 1) := by
  rw [List.drop_eq_getElem_cons hk, idx, if_neg hne]
theorem idx_hit {x : Int} {l : List Int} {k : Nat} (hk : k < l.length) (he : x = l[k]) (s : Int) : idx x (l.drop k) s = s := by
  rw [List.drop_eq_getElem_cons hk, idx, if_pos he]
theorem idx_none {x : Int} {l : List Int} {k : Nat} (hk : l.length ≤ k) (s : Int) : idx x (l.drop k) s = -1 := by
  rw [List.drop_eq_nil_of_le hk, idx]

set_option maxHeartbeats 400000 in
theorem index_any (v : Value) (x : Int) (l : List Int) (w : World) (hl : l.length ≤ 1000) (hv : Row w w.heap.size 1 v l.length (ints l)) :
    Calls Try.prog 34 #[v, .int .i64 x] w (Ret (.int .i64 (idx x l 0)) w) := by
  obtain ⟨m, hm⟩ : ∃ m, l.length = m := ⟨_, rfl⟩
  rw [hm] at hv hl
  have HM := hide hm
  clear hm
  rcases Nat.eq_zero_or_pos m with rfl | hpos
  · obtain rfl : l = [] := List.eq_nil_of_length_eq_zero HM.out
    obtain ⟨A, cap, rfl⟩ := hv.form
    clear hv
    go_enter Try.func34, Try.ntmps34
    go_wp2
    refine wp_loop_rounds 1 ?_
    rw [rounds_succ]
    go_wp2
    go_ret
    exact Ret.int rfl (Below.refl _ _)
  · obtain ⟨g, off, cap, rfl, _, _, hc⟩ := hv.at_ hpos
    have HC := hide hc
    clear hc hv
    go_enter Try.func34, Try.ntmps34
    go_wp2
    go_loopw [8] (fun i wr => ∃ k d : Nat, k ≤ m ∧ i = .int .i64 k ∧ wr = w.drewN d ∧ Hid (idx x (l.drop k) k = idx x l 0)) (fun i _ => m - (intOf i).toNat)
    case atStart => exact ⟨0, 0, by omega, rfl, rfl, hide (by simp)⟩
    case round =>
      obtain ⟨k, d, hk, rfl, rfl, HI⟩ := hrel
      by_cases hlt : k < m
      · have hkl : k < l.length := by rw [HM.out]; exact hlt
        have e1 : w.cell? ⟨g, off + k, none⟩ = some (.int .i64 l[k]) := HC.out k _ (by simp [ints, hkl])
        obtain ⟨z, hz⟩ : ∃ z, l[k] = z := ⟨_, rfl⟩
        rw [hz] at e1
        have HZ := hide hz
        clear hz
        by_cases hq : x = z
        · subst hq
          go_wp2
          go_ret
          exact Ret.int ((idx_hit hkl HZ.out.symm _).symm.trans HI.out) (below_drewN (Below.refl _ _) _)
        · have hq' : (x == z) = false := by simpa using hq
          have HQ := hide hq
          clear hq
          go_wp2
          go_roundw
          case rel => exact ⟨k + 1, _, by omega, by go_num, rfl, hide ((idx_drop hkl (by rw [HZ.out]; exact HQ.out) _).symm.trans HI.out)⟩
          case measure => simp [intOf]; omega
      · obtain rfl : k = m := by omega
        go_wp2
        go_ret
        exact Ret.int ((idx_none (by rw [HM.out]; exact Nat.le_refl _) _).symm.trans HI.out) (below_drewN (Below.refl _ _) _)

theorem idx_has (x : Int) : ∀ (l : List Int) (k : Int), 0 ≤ k → decide (0 ≤ idx x l k) = has x l
  | [], k, _ => rfl
  | y :: l, k, hk => by
    by_cases h : x = y
    · simp [idx, has, h, hk]
    · have := idx_has x l (k + 1) (by omega)
      simp only [has] at this ⊢
      simp [idx, h, this]

set_option maxHeartbeats 400000 in
theorem contains_any (v : Value) (x : Int) (l : List Int) (w : World) (hl : l.length ≤ 1000) (hv : Row w w.heap.size 1 v l.length (ints l)) :
    Calls Try.prog 22 #[v, .int .i64 x] w (Ret (.bool (has x l)) w) := by
  have hi := hide (idx_has x l 0 (Int.le_refl 0))
  go_enter Try.func22, Try.ntmps22
  go_wp2_with fail
  refine (index_any v x l w hl hv).mono ?_
  rintro e w1 ⟨rfl, hb⟩
  go_wp2
  go_ret
  exact Ret.bool hi.out hb

theorem has_own : ∀ n ∈ List.range 9, ∀ G ∈ List.range 16, ∀ i ∈ List.range 9, has (G : Int) (own_ n 16 i) = (G * n / 16 == i) := by decide +kernel

set_option maxHeartbeats 400000 in
theorem keeps_law (q n : Int) (s : ByteArray) (a : Int) (m : Nat) (w : World) (hs : s.size ≤ maxLen) (hn : a.tmod 8 = (m : Int)) (hm : m < 8) :
    Calls Try.prog 7 #[.agg #[.int .i64 q, .int .i64 n, .string s], .int .u8 a] w (Ret (.bool true) w) := by
  by_cases hC : checkC q n s.size = 0
  · obtain ⟨G, hG⟩ : ∃ G : Nat, hashV q n s % 16 = G := Int.eq_ofNat_of_zero_le (Int.emod_nonneg _ (by decide))
    have hG16 : G < 16 := by omega
    have hgr := group_any q n s
    rw [hG, hC] at hgr
    clear hC hG
    have HGR := hide hgr
    clear hgr
    go_enter Try.func7, Try.ntmps7
    go_wp2_with fail
    refine (HGR.out _ hs).mono ?_
    rintro e w1 ⟨rfl, hb1⟩
    obtain ⟨hc1, hf1⟩ := bcell hb1
    have hz1 : w.heap.size < w1.heap.size := by have := hb1.size; simp at this; omega
    go_wp2_with fail
    refine (HGR.out _ hs).mono ?_
    rintro e w2 ⟨rfl, hb2⟩
    go_wp2_with fail
    refine (worker_any _ _ _).mono ?_
    have hwv : workerV (G : Int) 1 = 0 := by rw [workerV, if_pos (by omega)]; omega
    have hwe : workerE (G : Int) 1 = 0 := by rw [workerE, if_pos (by omega)]
    rw [hwv, hwe]
    rintro e w3 ⟨rfl, hb3⟩
    clear hwv hwe
    go_wp2_with fail
    refine Calls.mono (assign_ok (m + 1) _ (by omega) (by omega)) ?_
    rintro e w4 ⟨o, base, ho, rfl, hGr, hb4⟩
    have HB := hide (bthen (bthen (bthen (bthen ((Below.refl _ _).alloc (Nat.le_refl _) _) hb1) hb2) hb3) hb4)
    have HG := hide hGr
    have hzo := hGr.lt
    clear hb1 hb2 hb3 hb4 hGr hc1 hf1 ho
    have g1 : decide ((G : Int) < 0) = false := by simp
    have g2 : decide ((16 : Int) ≤ (G : Int)) = false := by simp; omega
    go_wp2_with fail
    clear g1 g2
    have hown := hide (fun i (hi : i < m + 1) => has_own (m + 1) (by simp; omega) G (by simp; omega) i (by simp; omega))
    obtain ⟨J, hJ⟩ : ∃ J, G * (m + 1) / 16 = J := ⟨_, rfl⟩
    have hJm : J < m + 1 := by rw [← hJ]; have : G * (m + 1) ≤ 15 * (m + 1) := Nat.mul_le_mul_right _ (by omega); omega
    rw [hJ] at hown
    clear hJ
    go_loopw [14, 92] (fun f i wr => ∃ k : Nat, k ≤ m + 1 ∧ f = .int .i64 (if J < k then 1 else 0) ∧ i = .int .i64 k ∧ Below w4.heap.size w4 wr) (fun _ i _ => m + 1 - (intOf i).toNat)
    case atStart => exact ⟨0, by omega, rfl, rfl, Below.refl _ _⟩
    case round =>
      obtain ⟨k, hk, rfl, rfl, hbk⟩ := hrel
      have hzk := hbk.size
      have HK := hide hbk
      by_cases hlt : k < m + 1
      · have hGk := HG.out.below hbk
        obtain ⟨v, hv, hr⟩ := hGk.cell hlt
        have HR := hide (Row.of_own hr)
        have HO := hown.out k hlt
        clear hGk hr hbk
        rcases Nat.lt_trichotomy J k with h1 | h1 | h1
        · have e1 : (J == k) = false := by simp; omega
          rw [e1] at HO
          rw [if_pos h1]
          go_wp2_with fail
          refine (contains_any _ _ _ _ (Nat.le_trans (own_len (m + 1) 16 k) (by decide)) HR.out).mono ?_
          rw [HO]
          rintro e w5 ⟨rfl, hb5⟩
          go_wp2
          go_roundw
          case rel => exact ⟨k + 1, by omega, by rw [if_pos (by omega)], by go_num, bthen HK.out hb5⟩
          case measure => simp [intOf]; omega
        · subst h1
          have e1 : (J == J) = true := by simp
          rw [e1] at HO
          rw [if_neg (by omega)]
          go_wp2_with fail
          refine (contains_any _ _ _ _ (Nat.le_trans (own_len (m + 1) 16 J) (by decide)) HR.out).mono ?_
          rw [HO]
          rintro e w5 ⟨rfl, hb5⟩
          go_wp2
          go_roundw
          case rel => exact ⟨J + 1, by omega, by rw [if_pos (by omega)], by go_num, bthen HK.out hb5⟩
          case measure => simp [intOf]; omega
        · have e1 : (J == k) = false := by simp; omega
          rw [e1] at HO
          rw [if_neg (by omega)]
          go_wp2_with fail
          refine (contains_any _ _ _ _ (Nat.le_trans (own_len (m + 1) 16 k) (by decide)) HR.out).mono ?_
          rw [HO]
          rintro e w5 ⟨rfl, hb5⟩
          go_wp2
          go_roundw
          case rel => exact ⟨k + 1, by omega, by rw [if_neg (by omega)], by go_num, bthen HK.out hb5⟩
          case measure => simp [intOf]; omega
      · obtain rfl : k = m + 1 := by omega
        rw [if_pos hJm]
        clear hbk
        go_wp2_with fail
        refine (awake_any _).mono ?_
        rintro e w5 ⟨rfl, hb5⟩
        go_wp2
        go_ret
        exact Ret.bool rfl (bthen (bthen HB.out HK.out) hb5)
  · have hz : hashV q n s % 16 = 0 := by rw [hashV_bad hC]; rfl
    go_enter Try.func7, Try.ntmps7
    go_wp2_with fail
    refine (group_any q n s _ hs).mono ?_
    rw [hz]
    rintro e w1 ⟨rfl, hb1⟩
    obtain ⟨hc1, hf1⟩ := bcell hb1
    have hz1 : w.heap.size < w1.heap.size := by have := hb1.size; simp at this; omega
    go_wp2_with fail
    refine (group_any q n s _ hs).mono ?_
    rw [hz]
    rintro e w2 ⟨rfl, hb2⟩
    have t1 : (checkC q n s.size != 0) = true := by simpa using hC
    clear hC
    go_wp2_with fail
    refine (awake_any _).mono ?_
    rintro e w3 ⟨rfl, hb3⟩
    go_wp2
    go_ret
    exact Ret.bool rfl (bthen (bthen (bthen ((Below.refl _ _).alloc (Nat.le_refl _) _) hb1) hb2) hb3)
end Go.Proofs.Ytoafjlfidgjgbaa
