/- The law of lists of events. -/
import Derived.Test.YtofdcgojgcnopaaDDecL
import Derived.Test.YtofdcgojgcnopaaDRDecL
import Derived.Test.YtofdcgojgcnopaaCEnc
import Derived.Test.YtofdcgojgcnopaaREnc
import Derived.Test.YtofdcgojgcnopaaCNz
namespace Go.Proofs.Ytofdcgojgcnopaa
open Go.RowKit
set_option linter.unusedVariables false
set_option linter.unusedSimpArgs false
theorem opd_l {s : Bs} {w w' : World} {en : Ending} (h : Opd (pL pEv) ROL (.slice none 0 0) s w en w') :
    ∃ u, en = .returned (.tuple #[u, .int .i64 (codE (openE (pL pEv) s))]) ∧ Lst w' (· < w'.heap.size) 5 REv0 u (outE [] (openE (pL pEv) s)) ∧ Below w.heap.size w w' := by
  obtain ⟨v, rfl, hb, hr⟩ := h
  refine ⟨v, rfl, ?_, hb⟩
  cases ho : openE (pL pEv) s with
  | error c => rw [ho] at hr; obtain rfl := hr; exact Lst.nil
  | ok x => rw [ho] at hr; exact (lst_low rl_Ev0 (by decide) hr.1).more rd_Ev0 fun _ h => h.2
section
variable (w : World)
set_option maxRecDepth 100000 in
set_option maxHeartbeats 4000000 in
theorem events_law (v : Value) (l : List Evt) (s : ByteArray) (hv : Lst w (· < w.heap.size) 5 REv0 v l) (hs : s.size ≤ maxLen) : Calls Try.prog 5 #[v, .string s] w (Ret (.bool true) w) := by
  unfold maxLen at hs
  have HFA := hide (few_any w v l hv)
  obtain ⟨A, cap, rfl⟩ := hv.form
  cases hf : fewE l
  · rw [hf] at HFA
    clear hv hf
    go_enter Try.func5, Try.ntmps5
    go_wp2_with fail
    refine HFA.out.mono ?_
    rintro en w1 ⟨rfl, rfl⟩
    go_wp2_with fail
    refine (awake_any _).mono ?_
    rintro en w1 ⟨rfl, hb⟩
    go_wp2
    go_ret
    exact Ret.bool rfl hb
  have HE := hide (encL_any w _ l (Nat.le_trans (few_wt hf) (by decide)) (few_lst hv hf))
  have HL := hide (few_lst hv hf)
  have HRE := hide (fun w' hb => rencL_any w' _ l (Nat.le_trans (few_wt hf) (by decide)) (HL.out.grow rd_Ev (w' := w') hb))
  rw [hf] at HFA
  clear hv hf
  by_cases h1 : 2000 < s.size
  · have t1 : decide ((2000 : Int) < (s.size : Int)) = true := decide_eq_true (by omega)
    go_enter Try.func5, Try.ntmps5
    go_wp2_with fail
    refine HFA.out.mono ?_
    rintro en w1 ⟨rfl, rfl⟩
    go_wp2_with fail
    refine (awake_any _).mono ?_
    rintro en w1 ⟨rfl, hb⟩
    go_wp2
    go_ret
    exact Ret.bool rfl hb
  have t1 : decide ((2000 : Int) < (s.size : Int)) = false := decide_eq_false (by omega)
  have HD := hide (fun w => decL_any s w (by omega))
  have HRD := hide (fun w => rdecL_any s w (by omega))
  obtain ⟨S, hS⟩ : ∃ S, strE (sealE (eL eEv l)) = S := ⟨_, rfl⟩
  obtain ⟨n, hn⟩ : ∃ n, numE (sealE (eL eEv l)) = n := ⟨_, rfl⟩
  rw [hS, hn] at HE HRE
  clear hS hn h1
  go_enter Try.func5, Try.ntmps5
  go_wp2_with fail
  refine HFA.out.mono ?_
  rintro en w1 ⟨rfl, rfl⟩
  go_wp2_with fail
  refine HE.out.mono ?_
  rintro en w2 ⟨rfl, hb⟩
  have HB := hide hb
  clear hb
  go_wp2_with fail
  refine (HRE.out _ HB.out).mono ?_
  rintro en w3 ⟨rfl, hb⟩
  replace HB := hide (bthen HB.out hb)
  clear hb
  go_wp2_with fail
  refine (HD.out _).mono ?_
  intro en w4 ho
  obtain ⟨u1, rfl, hl1, hb⟩ := opd_l ho
  replace HB := hide (bthen HB.out hb)
  have HL1 := hide hl1
  clear hb ho hl1
  go_wp2_with fail
  refine (HRD.out _).mono ?_
  intro en w5 ho
  obtain ⟨u2, rfl, hl2, hb⟩ := opd_l ho
  replace HB := hide (bthen HB.out hb)
  have HSM := hide (same_any w5 u1 u2 _ _ (HL1.out.grow rd_Ev0 hb) hl2)
  clear hb ho hl2
  obtain ⟨m, hm⟩ : ∃ m, codE (openE (pL pEv) s.data.toList) = m := ⟨_, rfl⟩
  rw [hm]
  clear hm
  go_wp2_with fail
  refine HSM.out.mono ?_
  rintro en w6 ⟨bb, hbb, rfl, hb⟩
  obtain rfl : bb = true := by first | exact hbb.2 rfl | exact hbb.2 trivial
  replace HB := hide (bthen HB.out hb)
  clear hb hbb
  go_wp2_with fail
  refine (awake_any _).mono ?_
  rintro en w7 ⟨rfl, hb⟩
  replace HB := hide (bthen HB.out hb)
  clear hb
  go_wp2
  go_ret
  exact Ret.bool rfl HB.out
end
end Go.Proofs.Ytofdcgojgcnopaa
