/- The reference's value. -/
import Derived.Test.YtofdcgojgcnopaaRW
import Derived.Deep.Cut
namespace Go.Proofs.Ytofdcgojgcnopaa
open Go.RowKit Go.Lib
set_option linter.unusedVariables false
set_option linter.unusedSimpArgs false
theorem rv_wd {x : V3} (hg : gV x) {o b : Bs} {e : Int} (hb : b.length ≤ x.s.size + 10) (hok : checkC x.q x.n x.s.size = 0 → eV x = .ok (num x.q ++ b)) :
    Wd (eV x) (wtV x) o e (o ++ num x.q ++ b) (if e = 0 ∧ checkC x.q x.n x.s.size ≠ 0 then checkC x.q x.n x.s.size else e) := by
  refine ⟨fun he => if_neg (fun h => he h.1), fun he => ?_, ?_⟩
  · by_cases hc : checkC x.q x.n x.s.size = 0
    · rw [hok hc]
      exact ⟨List.append_assoc .., by rw [if_neg (fun h => h.2 hc)]; exact he⟩
    · have : eV x = .error (checkC x.q x.n x.s.size) := by unfold eV; rw [if_pos hc]
      rw [this, if_pos ⟨he, hc⟩]
      exact ⟨rfl, hc⟩
  · have := num_len hg.1
    rw [List.length_append, List.length_append]
    unfold wtV
    omega
theorem Rx.new2 {F : Nat} {w w1 : World} {o : Bs} {e : Int} (h : Rw w1 F o e) (xs : List Value) (t : TypeId) : Rx F (w1.alloc (.cells xs.toArray t)) w1.heap.size xs := Rx.new h xs t
section
variable (F : Nat) (o : Bs) (e : Int) (w : World)
set_option maxRecDepth 100000 in
set_option maxHeartbeats 4000000 in
theorem rvalue_any (x : V3) (hg : gV x) (hs : x.s.size ≤ 1000000) (h : Rw w F o e) (ho : o.length + wtV x ≤ 1000000000) :
    Calls Try.prog 41 #[.pointer (some ⟨F, 0, none⟩), .agg #[.int .i64 x.q, .int .i64 x.n, .string x.s]] w (Rws F (eV x) (wtV x) o e w) := by
  have HWD := hide (fun (b : Bs) h1 h2 => rv_wd (x := x) hg (o := o) (b := b) (e := e) h1 h2)
  obtain ⟨q, n, s⟩ := x
  obtain ⟨hq, hn⟩ := hg
  simp only at hq hn hs HWD ⊢
  have HO : Hid (o.length + (s.size + 30) ≤ 1000000000) := hide ho
  have HQ := hide hq
  have HN := hide hn
  have HS := hide hs
  have HX := hide (Rx.new h [.int .i64 q, .int .i64 n, .string s] 30)
  have HW := hide (h.laid (.cells #[.int .i64 q, .int .i64 n, .string s] 30))
  have HT := hide (Rt.laid h (.cells #[.int .i64 q, .int .i64 n, .string s] 30))
  have HC := hide (fun w => rcheck_any q n s w (by unfold maxLen; omega))
  have hF := h.lt
  clear h ho hq hn
  obtain ⟨c, hc⟩ : ∃ c, checkC q n s.size = c := ⟨_, rfl⟩
  have HCK := hide hc
  rw [hc] at HWD HC
  clear hc
  go_enter Try.func41, Try.ntmps41
  go_wp2_with fail
  refine (HC.out _).mono ?_
  rintro en w1 ⟨rfl, hb⟩
  replace HX := hide (HX.out.keep (Rt.of_below hb (Nat.le_of_lt HW.out.lt)))
  replace HT := hide (HT.out.trans (Rt.of_below hb (Nat.le_of_lt HW.out.lt)))
  replace HW := hide (HW.out.keep hb)
  clear hb
  have c1 := HW.out.c1
  have f1 := HW.out.f1
  have x0 := HX.out.2 0 _ rfl
  by_cases he : e = 0
  · have u1 : (e == 0) = true := beq_iff_eq.2 he
    by_cases hc : c = 0
    · have u2 : (c != 0) = false := bne_eq_false_iff_eq.2 hc
      rw [if_neg (fun h => h.2 hc)] at HWD
      have HX2 := HX
      have HW2 := HW
      have HT2 := HT
      clear he hc
      have HX3 := hide (HX2.out.keep (Rt.laid HW2.out (.cells #[.int .i64 q] 3)))
      have HW3 := hide (HW2.out.laid (.cells #[.int .i64 q] 3))
      have HI3 := hide (Rx.new HW2.out (ints [q]) 3)
      have HT3 := hide (HT2.out.trans (Rt.laid HW2.out (.cells #[.int .i64 q] 3)))
      have y0 := HX2.out.2 0 _ rfl
      go_wp2_with fail
      refine (rnumber_any F o _ _ [q] _ 1 (by intro y hy; simp at hy; subst hy; exact HQ.out) HI3.out HW3.out (by simp) (by have := HO.out; simp only [List.length_cons, List.length_nil]; omega)).mono ?_
      rintro en w4 ⟨rfl, hr, ht⟩
      replace HX3 := hide (HX3.out.keep ht)
      replace HT3 := hide (HT3.out.trans ht)
      replace HW3 := hide hr
      clear hr ht HI3 x0 c1 f1
      simp only [List.flatMap_cons, List.flatMap_nil, List.append_nil] at HW3
      have HQL0 := num_len HQ.out
      obtain ⟨oq, hoq⟩ : ∃ oq, o ++ num q = oq := ⟨_, rfl⟩
      have HQL : Hid (oq.length ≤ o.length + 10) := hide (by rw [← hoq, List.length_append]; omega)
      rw [hoq] at HW3 HWD
      clear hoq HQL0
      have y0 := HX3.out.2 0 _ rfl
      have y1 := HX3.out.2 1 _ rfl
      have y2 := HX3.out.2 2 _ rfl
      by_cases h2 : q = 2
      · have t2 : (q == 2) = true := beq_iff_eq.2 h2
        have HE : Hid (checkC q n s.size = 0 → eV ⟨q, n, s⟩ = .ok (num q ++ (num s.size ++ s.data.toList))) := hide (fun hc => by
          unfold eV
          rw [if_neg (fun h => h hc), if_pos h2]
          rfl)
        have HTX := hide (fun w => rtext_any w s HS.out)
        have HTL : Hid ((num s.size ++ s.data.toList).length ≤ s.size + 10) := hide (by rw [List.length_append, data_len]; have := num_len (n := s.size) (by have := HS.out; unfold inI; omega); omega)
        obtain ⟨tb, htb⟩ : ∃ tb, num s.size ++ s.data.toList = tb := ⟨_, rfl⟩
        rw [htb] at HTX HTL HE
        have hct := bstr_cat oq tb
        have hsz : (bstr oq).size + (bstr tb).size ≤ 9223372036854775807 := by
          rw [bstr_size, bstr_size]
          have := HO.out; have := HQL.out; have := HTL.out; omega
        have c0 := HW3.out.c0
        have f0 := HW3.out.f0
        have hF4 := HW3.out.lt
        clear h2 htb
        go_wp2_with fail
        go_region_with (first | (go_at_call 77; refine (HTX.out _).mono ?_; rintro en w5 ⟨rfl, hb'⟩; have hb : Below w4.heap.size w4 w5 := below_undrew hb'; have c0' := keep1 hb c0; have f0' := keepf hb hF4 f0; have y2' := keep1 hb y2))
        all_goals
          have HS5 := hide ((HW3.out.keep hb).set (oq ++ tb))
          have HB5 := hide (Rt.of_below hb (Nat.le_of_lt hF4))
          clear hb hb' c0 f0
          go_wp2
          go_end0
          exact ⟨rfl, _, _, HWD.out _ HTL.out (fun hc => HE.out (HCK.out.trans hc)), HS5.out.1, (HT3.out.trans HB5.out).trans HS5.out.2⟩
      · have t2 : (q == 2) = false := beq_eq_false_iff_ne.2 h2
        have HE : Hid (checkC q n s.size = 0 → eV ⟨q, n, s⟩ = .ok (num q ++ num n)) := hide (fun hc => by
          unfold eV
          rw [if_neg (fun h => h hc), if_neg h2]
          rfl)
        have HX6 := hide (HX3.out.keep (Rt.laid HW3.out (.cells #[.int .i64 n] 3)))
        have HI6 := hide (Rx.new HW3.out (ints [n]) 3)
        have HT6 := hide (HT3.out.trans (Rt.laid HW3.out (.cells #[.int .i64 n] 3)))
        have HW6 := hide (HW3.out.laid (.cells #[.int .i64 n] 3))
        clear h2
        go_wp2_with fail
        refine (rnumber_any F _ _ _ [n] _ 1 (by intro y hy; simp at hy; subst hy; exact HN.out) HI6.out HW6.out (by simp) (by have := HO.out; have := HQL.out; simp only [List.length_cons, List.length_nil]; omega)).mono ?_
        rintro en w7 ⟨rfl, hr, ht⟩
        have HT7 := hide (HT6.out.trans ht)
        have HW7 := hide hr
        clear hr ht
        simp only [List.flatMap_cons, List.flatMap_nil, List.append_nil] at HW7
        go_wp2
        go_end0
        exact ⟨rfl, _, _, HWD.out _ (by have := num_len HN.out; omega) (fun hc => HE.out (HCK.out.trans hc)), HW7.out, HT7.out⟩
    · have u2 : (c != 0) = true := bne_iff_ne.2 hc
      rw [if_pos ⟨he, hc⟩] at HWD
      have hfl := HW.out.fail c
      have HX2 := hide (HX.out.keep hfl.2)
      have HW2 := hide hfl.1
      have HT2 := hide (HT.out.trans hfl.2)
      clear he hc hfl
      go_upto_region 4 with (fail)
      obtain ⟨wf, hwf⟩ : ∃ wf, w1.setCell ⟨F, 1, none⟩ (.int .i64 c) = wf := ⟨_, rfl⟩
      rw [hwf] at HX2 HW2 HT2 ⊢
      clear hwf
      have HX3 := hide (HX2.out.keep (Rt.laid HW2.out (.cells #[.int .i64 q] 3)))
      have HW3 := hide (HW2.out.laid (.cells #[.int .i64 q] 3))
      have HI3 := hide (Rx.new HW2.out (ints [q]) 3)
      have HT3 := hide (HT2.out.trans (Rt.laid HW2.out (.cells #[.int .i64 q] 3)))
      have y0 := HX2.out.2 0 _ rfl
      go_wp2_with fail
      refine (rnumber_any F o _ _ [q] _ 1 (by intro y hy; simp at hy; subst hy; exact HQ.out) HI3.out HW3.out (by simp) (by have := HO.out; simp only [List.length_cons, List.length_nil]; omega)).mono ?_
      rintro en w4 ⟨rfl, hr, ht⟩
      replace HX3 := hide (HX3.out.keep ht)
      replace HT3 := hide (HT3.out.trans ht)
      replace HW3 := hide hr
      clear hr ht HI3 x0 c1 f1
      simp only [List.flatMap_cons, List.flatMap_nil, List.append_nil] at HW3
      have HQL0 := num_len HQ.out
      obtain ⟨oq, hoq⟩ : ∃ oq, o ++ num q = oq := ⟨_, rfl⟩
      have HQL : Hid (oq.length ≤ o.length + 10) := hide (by rw [← hoq, List.length_append]; omega)
      rw [hoq] at HW3 HWD
      clear hoq HQL0
      have y0 := HX3.out.2 0 _ rfl
      have y1 := HX3.out.2 1 _ rfl
      have y2 := HX3.out.2 2 _ rfl
      by_cases h2 : q = 2
      · have t2 : (q == 2) = true := beq_iff_eq.2 h2
        have HE : Hid (checkC q n s.size = 0 → eV ⟨q, n, s⟩ = .ok (num q ++ (num s.size ++ s.data.toList))) := hide (fun hc => by
          unfold eV
          rw [if_neg (fun h => h hc), if_pos h2]
          rfl)
        have HTX := hide (fun w => rtext_any w s HS.out)
        have HTL : Hid ((num s.size ++ s.data.toList).length ≤ s.size + 10) := hide (by rw [List.length_append, data_len]; have := num_len (n := s.size) (by have := HS.out; unfold inI; omega); omega)
        obtain ⟨tb, htb⟩ : ∃ tb, num s.size ++ s.data.toList = tb := ⟨_, rfl⟩
        rw [htb] at HTX HTL HE
        have hct := bstr_cat oq tb
        have hsz : (bstr oq).size + (bstr tb).size ≤ 9223372036854775807 := by
          rw [bstr_size, bstr_size]
          have := HO.out; have := HQL.out; have := HTL.out; omega
        have c0 := HW3.out.c0
        have f0 := HW3.out.f0
        have hF4 := HW3.out.lt
        clear h2 htb
        go_wp2_with fail
        go_region_with (first | (go_at_call 77; refine (HTX.out _).mono ?_; rintro en w5 ⟨rfl, hb'⟩; have hb : Below w4.heap.size w4 w5 := below_undrew hb'; have c0' := keep1 hb c0; have f0' := keepf hb hF4 f0; have y2' := keep1 hb y2))
        all_goals
          have HS5 := hide ((HW3.out.keep hb).set (oq ++ tb))
          have HB5 := hide (Rt.of_below hb (Nat.le_of_lt hF4))
          clear hb hb' c0 f0
          go_wp2
          go_end0
          exact ⟨rfl, _, _, HWD.out _ HTL.out (fun hc => HE.out (HCK.out.trans hc)), HS5.out.1, (HT3.out.trans HB5.out).trans HS5.out.2⟩
      · have t2 : (q == 2) = false := beq_eq_false_iff_ne.2 h2
        have HE : Hid (checkC q n s.size = 0 → eV ⟨q, n, s⟩ = .ok (num q ++ num n)) := hide (fun hc => by
          unfold eV
          rw [if_neg (fun h => h hc), if_neg h2]
          rfl)
        have HX6 := hide (HX3.out.keep (Rt.laid HW3.out (.cells #[.int .i64 n] 3)))
        have HI6 := hide (Rx.new HW3.out (ints [n]) 3)
        have HT6 := hide (HT3.out.trans (Rt.laid HW3.out (.cells #[.int .i64 n] 3)))
        have HW6 := hide (HW3.out.laid (.cells #[.int .i64 n] 3))
        clear h2
        go_wp2_with fail
        refine (rnumber_any F _ _ _ [n] _ 1 (by intro y hy; simp at hy; subst hy; exact HN.out) HI6.out HW6.out (by simp) (by have := HO.out; have := HQL.out; simp only [List.length_cons, List.length_nil]; omega)).mono ?_
        rintro en w7 ⟨rfl, hr, ht⟩
        have HT7 := hide (HT6.out.trans ht)
        have HW7 := hide hr
        clear hr ht
        simp only [List.flatMap_cons, List.flatMap_nil, List.append_nil] at HW7
        go_wp2
        go_end0
        exact ⟨rfl, _, _, HWD.out _ (by have := num_len HN.out; omega) (fun hc => HE.out (HCK.out.trans hc)), HW7.out, HT7.out⟩
  · have u1 : (e == 0) = false := beq_eq_false_iff_ne.2 he
    rw [if_neg (fun h => he h.1)] at HWD
    have HX2 := HX
    have HW2 := HW
    have HT2 := HT
    clear he
    have HX3 := hide (HX2.out.keep (Rt.laid HW2.out (.cells #[.int .i64 q] 3)))
    have HW3 := hide (HW2.out.laid (.cells #[.int .i64 q] 3))
    have HI3 := hide (Rx.new HW2.out (ints [q]) 3)
    have HT3 := hide (HT2.out.trans (Rt.laid HW2.out (.cells #[.int .i64 q] 3)))
    have y0 := HX2.out.2 0 _ rfl
    go_wp2_with fail
    refine (rnumber_any F o _ _ [q] _ 1 (by intro y hy; simp at hy; subst hy; exact HQ.out) HI3.out HW3.out (by simp) (by have := HO.out; simp only [List.length_cons, List.length_nil]; omega)).mono ?_
    rintro en w4 ⟨rfl, hr, ht⟩
    replace HX3 := hide (HX3.out.keep ht)
    replace HT3 := hide (HT3.out.trans ht)
    replace HW3 := hide hr
    clear hr ht HI3 x0 c1 f1
    simp only [List.flatMap_cons, List.flatMap_nil, List.append_nil] at HW3
    have HQL0 := num_len HQ.out
    obtain ⟨oq, hoq⟩ : ∃ oq, o ++ num q = oq := ⟨_, rfl⟩
    have HQL : Hid (oq.length ≤ o.length + 10) := hide (by rw [← hoq, List.length_append]; omega)
    rw [hoq] at HW3 HWD
    clear hoq HQL0
    have y0 := HX3.out.2 0 _ rfl
    have y1 := HX3.out.2 1 _ rfl
    have y2 := HX3.out.2 2 _ rfl
    by_cases h2 : q = 2
    · have t2 : (q == 2) = true := beq_iff_eq.2 h2
      have HE : Hid (checkC q n s.size = 0 → eV ⟨q, n, s⟩ = .ok (num q ++ (num s.size ++ s.data.toList))) := hide (fun hc => by
        unfold eV
        rw [if_neg (fun h => h hc), if_pos h2]
        rfl)
      have HTX := hide (fun w => rtext_any w s HS.out)
      have HTL : Hid ((num s.size ++ s.data.toList).length ≤ s.size + 10) := hide (by rw [List.length_append, data_len]; have := num_len (n := s.size) (by have := HS.out; unfold inI; omega); omega)
      obtain ⟨tb, htb⟩ : ∃ tb, num s.size ++ s.data.toList = tb := ⟨_, rfl⟩
      rw [htb] at HTX HTL HE
      have hct := bstr_cat oq tb
      have hsz : (bstr oq).size + (bstr tb).size ≤ 9223372036854775807 := by
        rw [bstr_size, bstr_size]
        have := HO.out; have := HQL.out; have := HTL.out; omega
      have c0 := HW3.out.c0
      have f0 := HW3.out.f0
      have hF4 := HW3.out.lt
      clear h2 htb
      go_wp2_with fail
      go_region_with (first | (go_at_call 77; refine (HTX.out _).mono ?_; rintro en w5 ⟨rfl, hb'⟩; have hb : Below w4.heap.size w4 w5 := below_undrew hb'; have c0' := keep1 hb c0; have f0' := keepf hb hF4 f0; have y2' := keep1 hb y2))
      all_goals
        have HS5 := hide ((HW3.out.keep hb).set (oq ++ tb))
        have HB5 := hide (Rt.of_below hb (Nat.le_of_lt hF4))
        clear hb hb' c0 f0
        go_wp2
        go_end0
        exact ⟨rfl, _, _, HWD.out _ HTL.out (fun hc => HE.out (HCK.out.trans hc)), HS5.out.1, (HT3.out.trans HB5.out).trans HS5.out.2⟩
    · have t2 : (q == 2) = false := beq_eq_false_iff_ne.2 h2
      have HE : Hid (checkC q n s.size = 0 → eV ⟨q, n, s⟩ = .ok (num q ++ num n)) := hide (fun hc => by
        unfold eV
        rw [if_neg (fun h => h hc), if_neg h2]
        rfl)
      have HX6 := hide (HX3.out.keep (Rt.laid HW3.out (.cells #[.int .i64 n] 3)))
      have HI6 := hide (Rx.new HW3.out (ints [n]) 3)
      have HT6 := hide (HT3.out.trans (Rt.laid HW3.out (.cells #[.int .i64 n] 3)))
      have HW6 := hide (HW3.out.laid (.cells #[.int .i64 n] 3))
      clear h2
      go_wp2_with fail
      refine (rnumber_any F _ _ _ [n] _ 1 (by intro y hy; simp at hy; subst hy; exact HN.out) HI6.out HW6.out (by simp) (by have := HO.out; have := HQL.out; simp only [List.length_cons, List.length_nil]; omega)).mono ?_
      rintro en w7 ⟨rfl, hr, ht⟩
      have HT7 := hide (HT6.out.trans ht)
      have HW7 := hide hr
      clear hr ht
      simp only [List.flatMap_cons, List.flatMap_nil, List.append_nil] at HW7
      go_wp2
      go_end0
      exact ⟨rfl, _, _, HWD.out _ (by have := num_len HN.out; omega) (fun hc => HE.out (HCK.out.trans hc)), HW7.out, HT7.out⟩
end
end Go.Proofs.Ytofdcgojgcnopaa
