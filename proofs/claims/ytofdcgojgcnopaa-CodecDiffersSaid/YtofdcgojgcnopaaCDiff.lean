/- The law of differing encodings. -/
import Derived.Test.YtofdcgojgcnopaaCNz
namespace Go.Proofs.Ytofdcgojgcnopaa
open Go.RowKit
set_option linter.unusedVariables false
set_option linter.unusedSimpArgs false
section
variable (w : World)
set_option maxRecDepth 100000 in
set_option maxHeartbeats 4000000 in
theorem differs_any (v u : Value) (l k : List Evt) (hv : Lst w (· < w.heap.size) 5 REv0 v l) (hu : Lst w (· < w.heap.size) 5 REv0 u k) : Calls Try.prog 3 #[v, u] w (Ret (.bool true) w) := by
  have HFA := hide (few_any w v l hv)
  have HFB := hide (few_any w u k hu)
  have HGA := hide (lst_ge hv)
  have HGB := hide (lst_ge hu)
  obtain ⟨A, cap, rfl⟩ := hv.form
  obtain ⟨B, cap2, rfl⟩ := hu.form
  cases hf : fewE l
  · rw [hf] at HFA
    clear hv hu HFB HGA HGB hf
    go_enter Try.func3, Try.ntmps3
    go_wp2_with fail
    refine HFA.out.mono ?_
    rintro en w1 ⟨rfl, rfl⟩
    go_wp2_with fail
    refine (awake_any _).mono ?_
    rintro en w1 ⟨rfl, hb⟩
    go_wp2
    go_ret
    exact Ret.bool rfl hb
  cases hg : fewE k
  · rw [hf] at HFA
    rw [hg] at HFB
    clear hv hu HGA HGB hf hg
    go_enter Try.func3, Try.ntmps3
    go_wp2_with fail
    refine HFA.out.mono ?_
    rintro en w1 ⟨rfl, rfl⟩
    go_wp2_with fail
    refine HFB.out.mono ?_
    rintro en w1 ⟨rfl, rfl⟩
    go_wp2_with fail
    refine (awake_any _).mono ?_
    rintro en w1 ⟨rfl, hb⟩
    go_wp2
    go_ret
    exact Ret.bool rfl hb
  have HEA := hide (encL_any w _ l (Nat.le_trans (few_wt hf) (by decide)) (few_lst hv hf))
  have HV := hide (few_lst hv hf)
  have HU := hide (few_lst hu hg)
  have HV0 := hide hv
  have HU0 := hide hu
  have HWK := hide (Nat.le_trans (few_wt hg) (by decide : 100000 ≤ 800000000))
  rw [hf] at HFA
  rw [hg] at HFB
  clear hv hu hf hg
  go_enter Try.func3, Try.ntmps3
  go_wp2_with fail
  refine HFA.out.mono ?_
  rintro en w1 ⟨rfl, rfl⟩
  go_wp2_with fail
  refine HFB.out.mono ?_
  rintro en w1 ⟨rfl, rfl⟩
  go_wp2_with fail
  refine HEA.out.mono ?_
  rintro en w1 ⟨rfl, hb⟩
  have HB := hide hb
  have HEB := hide (encL_any w1 _ k HWK.out (HU.out.grow rd_Ev hb))
  clear hb
  go_wp2_with fail
  refine HEB.out.mono ?_
  rintro en w2 ⟨rfl, hb⟩
  replace HB := hide (bthen HB.out hb)
  clear hb
  rcases nz_num (nz_seal (nz_L nz_Ev l)) with ⟨s, hs⟩ | h1
  · rcases nz_num (nz_seal (nz_L nz_Ev k)) with ⟨t, ht⟩ | h2
    · have HSTR := str_differ HGA.out HGB.out hs ht
      obtain ⟨S, hS⟩ : ∃ S, strE (sealE (eL eEv l)) = S := ⟨_, rfl⟩
      obtain ⟨T, hT⟩ : ∃ T, strE (sealE (eL eEv k)) = T := ⟨_, rfl⟩
      have h1 : numE (sealE (eL eEv l)) = 0 := by rw [hs]; rfl
      have h2 : numE (sealE (eL eEv k)) = 0 := by rw [ht]; rfl
      rw [hS, hT] at HSTR
      rw [hS, hT, h1, h2]
      have HSM := hide (same_any w2 _ _ l k (HV0.out.grow rd_Ev0 HB.out) (HU0.out.grow rd_Ev0 HB.out))
      clear hs ht hS hT h1 h2
      go_wp2_with fail
      refine HSM.out.mono ?_
      rintro en w3 ⟨bb, hbb, rfl, hb⟩
      replace HB := hide (bthen HB.out hb)
      have tb : ((S.toList == T.toList) == bb) = true := by
        have hq : (S.toList == T.toList) = true ↔ bb = true := HSTR.trans hbb.symm
        rw [beq_iff_eq]; exact Bool.eq_iff_iff.2 hq
      clear hb HSTR hbb
      go_wp2_with fail
      refine (awake_any _).mono ?_
      rintro en w4 ⟨rfl, hb⟩
      replace HB := hide (bthen HB.out hb)
      clear hb
      go_wp2
      go_ret
      exact Ret.bool rfl HB.out
    · have h1 : numE (sealE (eL eEv l)) = 0 := by rw [hs]; rfl
      rw [h1]
      clear hs
      go_wp2_with fail
      refine (awake_any _).mono ?_
      rintro en w4 ⟨rfl, hb⟩
      replace HB := hide (bthen HB.out hb)
      clear hb
      go_wp2
      go_ret
      exact Ret.bool rfl HB.out
  · go_wp2_with fail
    refine (awake_any _).mono ?_
    rintro en w4 ⟨rfl, hb⟩
    replace HB := hide (bthen HB.out hb)
    clear hb
    go_wp2
    go_ret
    exact Ret.bool rfl HB.out
end
end Go.Proofs.Ytofdcgojgcnopaa
