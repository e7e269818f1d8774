/- Complete, of the program and of the reference; the reference's attempts. -/
import Derived.Test.YtihbonndinnohaaQSmall2
namespace Go.Proofs.Ytihbonndinnohaa
open Go.RowKit
set_option linter.unusedVariables false
set_option linter.unusedSimpArgs false
theorem all_get {l : List Bool} (h : ∀ q (hq : q < l.length), l[q] = true) : l.all id = true := by
  rw [List.all_eq_true]
  intro x hx
  obtain ⟨i, hi, rfl⟩ := List.getElem_of_mem hx
  exact h i hi
theorem all_miss {l : List Bool} {q : Nat} (hq : q < l.length) (h : l[q] = false) : l.all id = false := by
  rw [List.all_eq_false]
  exact ⟨l[q], List.getElem_mem hq, by simp [h]⟩
section
variable (w : World)
set_option maxHeartbeats 1000000 in
theorem idx_false (x : Bool) (hx : x = false) (A : Option Addr) (cap : Nat) (l : List Bool) (hl : Lq w 1 RBq (.slice A l.length cap) l) (hm : l.length ≤ 1000) :
    Calls Try.prog 61 #[.slice A l.length cap, .bool x] w fun e w' => (∃ r : Int, e = .returned (.int .i64 r) ∧ decide (0 ≤ r) = !(l.all id)) ∧ w = w' := by
  have HL := hide hl
  obtain ⟨m, hmm⟩ : ∃ m, l.length = m := ⟨_, rfl⟩
  rw [hmm] at HL hm ⊢
  have HM := hide hmm
  obtain ⟨P, hP⟩ : ∃ P : Ending → World → Prop, (fun (e : Ending) (w' : World) => (∃ r : Int, e = .returned (.int .i64 r) ∧ decide (0 ≤ r) = !(l.all id)) ∧ w = w') = P := ⟨_, rfl⟩
  have HP := hide (show ∀ r : Int, decide (0 ≤ r) = !(l.all id) → P (.returned (.int .i64 r)) w from fun r h => by rw [← hP]; exact ⟨⟨r, rfl, h⟩, rfl⟩)
  rw [hP]
  have HXF := hide hx
  clear hl hmm hP hx
  go_enter Try.func61, Try.ntmps61
  go_wp2
  go_loop [8] (fun i => ∃ j : Nat, j ≤ m ∧ i = .int .i64 j ∧ Hid (∀ q (hq : q < l.length), q < j → l[q] = true)) (fun i => m - (intOf i).toNat)
  case atStart => exact ⟨0, Nat.zero_le _, rfl, hide fun q _ hq => absurd hq (Nat.not_lt_zero _)⟩
  case round =>
    obtain ⟨j, hj, rfl, HQ⟩ := hrel
    by_cases hlt : j < m
    · have hja : j < l.length := by rw [HM.out]; exact hlt
      obtain ⟨g3, off3, ys, e3, hz3, hl3, hc3, hr3⟩ := Lst.at_ HL.out hja
      cases e3
      obtain ⟨b, hb⟩ : ∃ b, l[j] = b := ⟨_, rfl⟩
      rw [hb] at hr3
      have HBJ := hide hb
      clear hb
      obtain rfl := hr3
      have b0 := hc3 0 _ rfl
      rw [Nat.add_zero, Nat.mul_one] at b0
      have hu0 : (0 : Int) ≤ (j : Int) := by omega
      have hu1 : (j : Int) < (m : Int) := by omega
      clear hc3 hl3
      by_cases hq : x = b
      · have HX := hide (HP.out (j : Int) (by rw [all_miss hja (by rw [HBJ.out, ← hq, HXF.out])]; simp))
        subst hq
        go_wp2
        exact HX.out
      · have hq' : (x == b) = false := by simpa using hq
        have HX : Hid (∀ q (hq : q < l.length), q < j + 1 → l[q] = true) := hide fun q hql hlq => by
          by_cases e : q = j
          · subst e
            rw [HBJ.out]
            have := HXF.out
            cases b
            · exact absurd this hq
            · rfl
          · exact HQ.out q hql (by omega)
        clear hq
        go_wp2
        go_round
        case rel => exact ⟨j + 1, by omega, by go_num, HX⟩
        case measure => simp [intOf]; omega
    · obtain rfl : j = m := by omega
      have HX := hide (HP.out (-1) (by rw [all_get fun q hq => HQ.out q hq (by rw [← HM.out]; exact hq)]; simp))
      go_wp2
      exact HX.out
set_option maxHeartbeats 1000000 in
theorem has_false (A : Option Addr) (cap : Nat) (l : List Bool) (hl : Lq w 1 RBq (.slice A l.length cap) l) (hm : l.length ≤ 1000) :
    Calls Try.prog 58 #[.slice A l.length cap, .bool false] w fun e w' => e = .returned (.bool (!(l.all id))) ∧ w = w' := by
  have HI := hide (idx_false w false rfl A cap l hl hm)
  clear hl
  go_enter Try.func58, Try.ntmps58
  go_wp2_with fail
  refine HI.out.mono ?_
  rintro e w1 ⟨⟨r, rfl, hr⟩, rfl⟩
  have HR := hide hr
  clear hr
  go_wp2
  go_ret
  exact ⟨congrArg (fun b => Ending.returned (.bool b)) HR.out, rfl⟩
set_option maxHeartbeats 1000000 in
theorem compl_any (num : Int) (A1 A2 A3 : Option Addr) (n1 n2 c1 c2 c3 : Nat) (l : List Bool) (hl : Lq w 1 RBq (.slice A3 l.length c3) l) (hm : l.length ≤ 1000) :
    Calls Try.prog 44 #[.agg #[.int .i64 num, .slice A1 n1 c1, .slice A2 n2 c2, .slice A3 l.length c3]] w (Ret (.bool (l.all id)) w) := by
  have HI := hide (has_false _ A3 c3 l (Lq.laid rd_Bq hl (.cells #[.int .i64 num, .slice A1 n1 c1, .slice A2 n2 c2, .slice A3 l.length c3] 51)) hm)
  clear hl
  go_enter Try.func44, Try.ntmps44
  go_wp2_with fail
  refine HI.out.mono ?_
  rintro e w1 ⟨rfl, rfl⟩
  go_wp2
  go_ret
  exact Ret.bool (by simp) (below_laid _)
set_option maxHeartbeats 1000000 in
theorem rcompl_any (num : Int) (A1 A2 A3 : Option Addr) (n1 n2 c1 c2 c3 : Nat) (l : List Bool) (hl : Lq w 1 RBq (.slice A3 l.length c3) l) (hm : l.length ≤ 1000) :
    Calls Try.prog 46 #[.agg #[.int .i64 num, .slice A1 n1 c1, .slice A2 n2 c2, .slice A3 l.length c3]] w (Ret (.bool (l.all id)) w) := by
  have HL := hide hl
  obtain ⟨m, hmm⟩ : ∃ m, l.length = m := ⟨_, rfl⟩
  rw [hmm] at HL hm ⊢
  have HM := hide hmm
  obtain ⟨r, hr⟩ : ∃ r, l.all id = r := ⟨_, rfl⟩
  have HR := hide hr
  rw [hr]
  clear hl hmm hr
  have HBX := hide (below_laid (w := w) (.cells #[.int .i64 num, .slice A1 n1 c1, .slice A2 n2 c2, .slice A3 m c3] 51))
  go_enter Try.func46, Try.ntmps46
  go_wp2
  go_loop [3] (fun i => ∃ j : Nat, j ≤ m ∧ i = .int .i64 j ∧ Hid (∀ q (hq : q < l.length), q < j → l[q] = true)) (fun i => m - (intOf i).toNat)
  case atStart => exact ⟨0, Nat.zero_le _, rfl, hide fun q _ hq => absurd hq (Nat.not_lt_zero _)⟩
  case round =>
    obtain ⟨j, hj, rfl, HQ⟩ := hrel
    by_cases hlt : j < m
    · have hja : j < l.length := by rw [HM.out]; exact hlt
      obtain ⟨g3, off3, ys, e3, hz3, hl3, hc3, hr3⟩ := Lst.at_ HL.out hja
      cases e3
      obtain ⟨b, hb⟩ : ∃ b, l[j] = b := ⟨_, rfl⟩
      rw [hb] at hr3
      have HBJ := hide hb
      clear hb
      obtain rfl := hr3
      have b0 := hc3 0 _ rfl
      rw [Nat.add_zero, Nat.mul_one] at b0
      have hgl : g3 < w.heap.size := hz3
      have hu0 : (0 : Int) ≤ (j : Int) := by omega
      have hu1 : (j : Int) < (m : Int) := by omega
      clear hc3 hl3 hz3
      cases b
      · have HX : Hid (false = r) := hide (by rw [← HR.out, all_miss hja HBJ.out])
        go_wp2
        go_ret
        exact Ret.bool HX.out HBX.out
      · have HX : Hid (∀ q (hq : q < l.length), q < j + 1 → l[q] = true) := hide fun q hql hq => by
          by_cases e : q = j
          · subst e; exact HBJ.out
          · exact HQ.out q hql (by omega)
        go_wp2
        go_round
        case rel => exact ⟨j + 1, by omega, by go_num, HX⟩
        case measure => simp [intOf]; omega
    · obtain rfl : j = m := by omega
      have HX : Hid (true = r) := hide (by rw [← HR.out, all_get fun q hq => HQ.out q hq (by rw [← HM.out]; exact hq)])
      go_wp2
      go_ret
      exact Ret.bool HX.out HBX.out
set_option maxRecDepth 100000 in
set_option maxHeartbeats 2000000 in
theorem ratts_any (A : Option Addr) (cap : Nat) (cells : List (List Value)) (h : Lq w 4 RWq (.slice A cells.length cap) cells) (hm : cells.length ≤ 1000) :
    Calls Try.prog 35 #[.slice A cells.length cap] w (RetCp w 51 4 cells) := by
  obtain ⟨i0, hi, hz0, hz1, hz2⟩ := info_parts iq_attempt
  have HL := hide h
  obtain ⟨m, hmm⟩ : ∃ m, cells.length = m := ⟨_, rfl⟩
  rw [hmm] at HL hm ⊢
  have HM := hide hmm
  clear h hmm
  go_enter Try.func35, Try.ntmps35
  go_wp2
  go_loopw [3, 4] (fun v i wr => ∃ j : Nat, j ≤ m ∧ i = .int .i64 j ∧ wr.ownsRow w.heap.size 51 4 v j (cells.take j).flatten ∧ Hid (Below w.heap.size w wr)) (fun _ i _ => m - (intOf i).toNat)
  case atStart => exact ⟨0, Nat.zero_le _, rfl, World.ownsRow_nil _ _ _ _, hide (Below.refl _ _)⟩
  case round =>
    obtain ⟨j, hj, rfl, hown, HB⟩ := hrel
    by_cases hlt : j < m
    · have hjl : j < cells.length := by rw [HM.out]; exact hlt
      obtain ⟨g, off, xs, e, hz, hl, hc, hr⟩ := Lst.at_ HL.out hjl
      cases e
      obtain ⟨hx, hone⟩ := hr
      have HT : Hid ((cells.take (j + 1)).flatten = (cells.take j).flatten ++ xs) := hide (by rw [List.take_succ_eq_append_getElem hjl, List.flatten_append, ← hx]; simp)
      obtain ⟨y0, y1, y2, y3, rfl⟩ : ∃ a b c d, xs = [a, b, c, d] := by match xs, hl with | [a, b, c, d], _ => exact ⟨a, b, c, d, rfl⟩
      have k0 := keep1 HB.out (hc 0 _ rfl)
      have k1 := keep1 HB.out (hc 1 _ rfl)
      have k2 := keep1 HB.out (hc 2 _ rfl)
      have k3 := keep1 HB.out (hc 3 _ rfl)
      rw [Nat.add_zero] at k0
      have o0 := hone y0 (by simp)
      have o1 := hone y1 (by simp)
      have o2 := hone y2 (by simp)
      have o3 := hone y3 (by simp)
      have HO := hide hone
      have hu0 : (0 : Int) ≤ (j : Int) := by omega
      have hu1 : (j : Int) < (m : Int) := by omega
      have hws := HB.out.size
      clear hc hl hx hone
      go_wp2_with (at_builtin; refine wpList_append_one rfl _ _ 22 rfl w.heap.size 51 i0 _ 80 Try.underlying22 hi hz0 [y0, y1, y2, y3] hz1 hz2 rfl (by simp) _ _ _ rfl hown _ rfl HO.out ?c1 (by decide) ?c2 ?_; (case c1 => omega); (case c2 => omega); intro v2 w2 hown2 hb2 _)
      go_roundw
      case rel => exact ⟨j + 1, by omega, by go_num, by rw [HT.out]; exact hown2, hide (HB.out.trans hb2)⟩
      case measure => simp [intOf]; omega
    · obtain rfl : j = m := by omega
      go_wp2
      go_ret
      refine ⟨_, rfl, ?_, HB.out⟩
      rw [List.take_of_length_le (by rw [HM.out]; exact Nat.le_refl _)] at hown
      rw [HM.out]; exact hown
end
end Go.Proofs.Ytihbonndinnohaa
