/- Blocked and Aligned, of the program and of the reference. -/
import Derived.Test.YtjahjefkfcifhaaBSame
namespace Go.Proofs.Ytjahjefkfcifhaa
open Go.RowKit
set_option linter.unusedVariables false
set_option linter.unusedSimpArgs false

def blkV (n : Int) (l : List Bool) (i : Int) : Bool := if inp n l i = 0 then l.getD i.toNat false else false
theorem inp_zero {n : Int} {l : List Bool} {i : Int} (h : inp n l i = 0) : chk n l = 0 ∧ 0 ≤ i ∧ i < (l.length : Int) := by
  unfold inp at h
  split at h
  · rename_i hc
    split at h
    · rename_i hi; exact ⟨hc, hi.1, hi.2⟩
    · cases h
  · rename_i hc; exact absurd h hc
theorem inp_eq {n : Int} {l : List Bool} {i : Int} (hc : chk n l = 0) (hi : 0 ≤ i ∧ i < (l.length : Int)) : inp n l i = 0 := by unfold inp; rw [if_pos hc, if_pos hi]
/-- A flag of a row, read in a later world. -/
theorem Row.flag {w w' : World} {B n : Nat} {v : Value} {l : List Bool} (h : Row w B 1 v n (bools l)) (hb : Below B w w') {k : Nat} (hk : k < l.length) :
    ∃ g off cap, v = .slice (some ⟨g, off, none⟩) n cap ∧ g < B ∧ w'.cell? ⟨g, off + k, none⟩ = some (.bool l[k]) := by
  have hn : 0 < n := by have := h.1; simp [bools] at this; omega
  obtain ⟨g, off, cap, rfl, hg, _, hc⟩ := (h.below hb).at_ hn
  exact ⟨g, off, cap, rfl, hg, hc _ _ (by simp [bools, hk])⟩

theorem Ret.bi {a b : Bool} {k : IntKind} {c d : Int} {w w' : World} (h : a = b) (h' : c = d) (hb : Below w.heap.size w w') : Ret (.tuple #[.bool b, .int k d]) w (.returned (.tuple #[.bool a, .int k c])) w' := ⟨by rw [h, h'], hb⟩

set_option maxHeartbeats 1000000 in
theorem blocked_any (n : Int) (v : Value) (l : List Bool) (i : Int) (w : World) (hl : l.length ≤ 1000) (hv : Row w w.heap.size 1 v l.length (bools l)) :
    Calls Try.prog 20 #[.agg #[.int .i64 n, v], .int .i64 i] w (Ret (.tuple #[.bool (blkV n l i), .int .i64 (inp n l i)]) w) := by
  obtain ⟨A, cap, rfl⟩ := hv.form
  have HV := hide (hv.laid (.cells #[.int .i64 n, .slice A l.length cap] 24))
  clear hv
  have HK := hide (@input_any n (.slice A l.length cap) l i)
  by_cases hc : inp n l i = 0
  · rw [hc] at HK
    have HI : Hid (blkV n l i = l.getD i.toNat false) := hide (by unfold blkV; rw [if_pos hc])
    rw [hc]
    obtain ⟨-, hi0, hi1⟩ := inp_zero hc
    obtain ⟨k, rfl⟩ := Int.eq_ofNat_of_zero_le hi0
    have hk : k < l.length := by omega
    rw [Int.toNat_natCast] at HI
    have HG : Hid (l.getD k false = l[k]) := hide (by simp [hk])
    clear hc hi0 hi1
    go_enter Try.func20, Try.ntmps20
    go_wp2_with fail
    refine (HK.out _ hl HV.out).mono ?_
    rintro e w1 ⟨rfl, hb⟩
    obtain ⟨hb', hz, hx⟩ := step_box [.int .i64 n, .slice A l.length cap] hb
    have x1 := hx 1 _ rfl
    obtain ⟨g, off, cap', e1, hg, hcell⟩ := HV.out.flag hb hk
    cases e1
    clear hx hb
    generalize l[k] = z at *
    go_wp2
    go_ret2
    exact Ret.bi (by rw [HI.out, HG.out]) rfl hb'
  · have HI : Hid (blkV n l i = false) := hide (by unfold blkV; rw [if_neg hc])
    have t1 : (inp n l i != 0) = true := by rw [bne_iff_ne]; exact hc
    clear hc
    generalize inp n l i = c at *
    go_enter Try.func20, Try.ntmps20
    go_wp2_with fail
    refine (HK.out _ hl HV.out).mono ?_
    rintro e w1 ⟨rfl, hb⟩
    obtain ⟨hb', hz, hx⟩ := step_box [.int .i64 n, .slice A l.length cap] hb
    go_wp2
    go_ret2
    exact Ret.bi (by rw [HI.out]) rfl hb'

set_option maxHeartbeats 1000000 in
theorem rblocked_any (n : Int) (v : Value) (l : List Bool) (i : Int) (w : World) (hl : l.length ≤ 1000) (hv : Row w w.heap.size 1 v l.length (bools l)) :
    Calls Try.prog 22 #[.agg #[.int .i64 n, v], .int .i64 i] w (Ret (.tuple #[.bool (blkV n l i), .int .i64 (inp n l i)]) w) := by
  obtain ⟨A, cap, rfl⟩ := hv.form
  have HV := hide (hv.laid (.cells #[.int .i64 n, .slice A l.length cap] 24))
  clear hv
  have HK := hide (@rcheck_any n (.slice A l.length cap) l)
  by_cases hc : chk n l = 0
  · rw [hc] at HK
    by_cases hi : 0 ≤ i ∧ i < (l.length : Int)
    · have HI : Hid (blkV n l i = l.getD i.toNat false) := hide (by unfold blkV; rw [if_pos (inp_eq hc hi)])
      rw [inp_eq hc hi]
      obtain ⟨hi0, hi1⟩ := hi
      obtain ⟨k, rfl⟩ := Int.eq_ofNat_of_zero_le hi0
      have hk : k < l.length := by omega
      rw [Int.toNat_natCast] at HI
      have HG : Hid (l.getD k false = l[k]) := hide (by simp [hk])
      have t1 : decide ((k : Int) < 0) = false := decide_eq_false (by omega)
      have t2 : decide (l.length ≤ k) = false := decide_eq_false (by omega)
      clear hc hi0 hi1
      go_enter Try.func22, Try.ntmps22
      go_wp2_with fail
      refine (HK.out _ hl HV.out).mono ?_
      rintro e w1 ⟨rfl, hb⟩
      obtain ⟨hb', hz, hx⟩ := step_box [.int .i64 n, .slice A l.length cap] hb
      have x1 := hx 1 _ rfl
      obtain ⟨g, off, cap', e1, hg, hcell⟩ := HV.out.flag hb hk
      cases e1
      clear hx hb
      generalize l[k] = z at *
      go_wp2
      go_ret2
      exact Ret.bi (by rw [HI.out, HG.out]) rfl hb'
    · have HE : Hid (inp n l i = 32) := hide (by unfold inp; rw [if_pos hc, if_neg hi])
      have HI : Hid (blkV n l i = false) := hide (by unfold blkV; rw [if_neg (by rw [HE.out]; decide)])
      have HN := hide hi
      clear hc hi
      go_enter Try.func22, Try.ntmps22
      go_wp2_with fail
      refine (HK.out _ hl HV.out).mono ?_
      rintro e w1 ⟨rfl, hb⟩
      obtain ⟨hb', hz, hx⟩ := step_box [.int .i64 n, .slice A l.length cap] hb
      have x1 := hx 1 _ rfl
      clear hx hb
      go_wp2
      all_goals first | (go_ret2; exact Ret.bi (by rw [HI.out]) (by rw [HE.out]) hb') | skip
      all_goals (have hno := HN.out; clear HN)
      all_goals (try simp only [isEmpty_size, bne_iff_ne, ne_eq, bne_eq_false_iff_eq, beq_iff_eq, beq_eq_false_iff_ne, Bool.not_eq_true', Bool.not_eq_false', decide_eq_true_eq, decide_eq_false_iff_not] at *)
      all_goals (exfalso; omega)
  · have HE : Hid (inp n l i = chk n l) := hide (by unfold inp; rw [if_neg hc])
    have HI : Hid (blkV n l i = false) := hide (by unfold blkV; rw [if_neg (by rw [HE.out]; exact hc)])
    have t1 : (chk n l != 0) = true := by rw [bne_iff_ne]; exact hc
    clear hc
    generalize chk n l = c at *
    go_enter Try.func22, Try.ntmps22
    go_wp2_with fail
    refine (HK.out _ hl HV.out).mono ?_
    rintro e w1 ⟨rfl, hb⟩
    obtain ⟨hb', hz, hx⟩ := step_box [.int .i64 n, .slice A l.length cap] hb
    go_wp2
    go_ret2
    exact Ret.bi (by rw [HI.out]) (by rw [HE.out]) hb'

def algV (n : Int) (l : List Bool) : Bool := if chk n l = 0 then !has true l else false
set_option maxHeartbeats 1000000 in
theorem aligned_any (n : Int) (v : Value) (l : List Bool) (w : World) (hl : l.length ≤ 1000) (hv : Row w w.heap.size 1 v l.length (bools l)) :
    Calls Try.prog 19 #[.agg #[.int .i64 n, v]] w (Ret (.tuple #[.bool (algV n l), .int .i64 (chk n l)]) w) := by
  obtain ⟨A, cap, rfl⟩ := hv.form
  have HV := hide (hv.laid (.cells #[.int .i64 n, .slice A l.length cap] 24))
  clear hv
  have HK := hide (@check_any n (.slice A l.length cap) l)
  by_cases hc : chk n l = 0
  · rw [hc] at HK
    have HI : Hid (algV n l = !has true l) := hide (by unfold algV; rw [if_pos hc])
    rw [hc]
    clear hc
    go_enter Try.func19, Try.ntmps19
    go_wp2_with fail
    refine (HK.out _ hl HV.out).mono ?_
    rintro e w1 ⟨rfl, hb⟩
    obtain ⟨hb', hz, hx⟩ := step_box [.int .i64 n, .slice A l.length cap] hb
    have x1 := hx 1 _ rfl
    have HR := hide (HV.out.grow hb)
    clear hx hb
    go_wp2_with fail
    refine (contains_bool _ true l _ hl HR.out).mono ?_
    rintro e w2 ⟨rfl, rfl⟩
    skip
    go_wp2
    go_ret2
    exact Ret.bi (by rw [HI.out]) rfl hb'
  · have HI : Hid (algV n l = false) := hide (by unfold algV; rw [if_neg hc])
    have t1 : (chk n l != 0) = true := by rw [bne_iff_ne]; exact hc
    clear hc
    generalize chk n l = c at *
    go_enter Try.func19, Try.ntmps19
    go_wp2_with fail
    refine (HK.out _ hl HV.out).mono ?_
    rintro e w1 ⟨rfl, hb⟩
    obtain ⟨hb', hz, hx⟩ := step_box [.int .i64 n, .slice A l.length cap] hb
    go_wp2
    go_ret2
    exact Ret.bi (by rw [HI.out]) rfl hb'
set_option maxHeartbeats 1000000 in
theorem raligned_any (n : Int) (v : Value) (l : List Bool) (w : World) (hl : l.length ≤ 1000) (hv : Row w w.heap.size 1 v l.length (bools l)) :
    Calls Try.prog 23 #[.agg #[.int .i64 n, v]] w (Ret (.tuple #[.bool (algV n l), .int .i64 (chk n l)]) w) := by
  have hcn : (((l.count true : Nat) : Int) == 0) = !has true l := by
    cases h : has true l
    · rw [show (!false) = true from rfl, beq_iff_eq]; exact count_none.2 h
    · rw [show (!true) = false from rfl, beq_eq_false_iff_ne]; intro h'; have := count_none.1 h'; rw [h] at this; cases this
  have HCN := hide hcn
  clear hcn
  obtain ⟨A, cap, rfl⟩ := hv.form
  have HV := hide (hv.laid (.cells #[.int .i64 n, .slice A l.length cap] 24))
  clear hv
  have HK := hide (@rcheck_any n (.slice A l.length cap) l)
  by_cases hc : chk n l = 0
  · rw [hc] at HK
    have HI : Hid (algV n l = !has true l) := hide (by unfold algV; rw [if_pos hc])
    rw [hc]
    clear hc
    go_enter Try.func23, Try.ntmps23
    go_wp2_with fail
    refine (HK.out _ hl HV.out).mono ?_
    rintro e w1 ⟨rfl, hb⟩
    obtain ⟨hb', hz, hx⟩ := step_box [.int .i64 n, .slice A l.length cap] hb
    have x1 := hx 1 _ rfl
    have HR := hide (HV.out.grow hb)
    clear hx hb
    go_wp2_with fail
    refine (count_any _ l _ hl HR.out).mono ?_
    rintro e w2 ⟨rfl, rfl⟩
    have hq := HCN.out
    go_wp2
    go_ret2
    exact Ret.bi (by rw [HI.out]) rfl hb'
  · have HI : Hid (algV n l = false) := hide (by unfold algV; rw [if_neg hc])
    have t1 : (chk n l != 0) = true := by rw [bne_iff_ne]; exact hc
    clear hc
    generalize chk n l = c at *
    go_enter Try.func23, Try.ntmps23
    go_wp2_with fail
    refine (HK.out _ hl HV.out).mono ?_
    rintro e w1 ⟨rfl, hb⟩
    obtain ⟨hb', hz, hx⟩ := step_box [.int .i64 n, .slice A l.length cap] hb
    go_wp2
    go_ret2
    exact Ret.bi (by rw [HI.out]) rfl hb'
end Go.Proofs.Ytjahjefkfcifhaa
