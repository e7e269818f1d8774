/- The reference's value. The reference's events. Seal, seal, EncodeValue and EncodeEvents of the reference. -/
import Derived.Test.YtofdcgojgcnopaaGreatRW
import Derived.Deep.Cut
namespace Go.Proofs.YtofdcgojgcnopaaGreat
open Go.RowKit Go.Lib
set_option linter.unusedVariables false
set_option linter.unusedSimpArgs false
theorem rv_wd {x : V3} (hg : gV x) {o b : Bs} {e : Int} (hb : b.length ≤ x.s.size + 10) (hok : checkC x.q x.n x.s.size = 0 → eV x = .ok (num x.q ++ b)) :
    Wd (eV x) (wtV x) o e (o ++ num x.q ++ b) (if e = 0 ∧ checkC x.q x.n x.s.size ≠ 0 then checkC x.q x.n x.s.size else e) := by
  refine ⟨fun he => if_neg (fun h => he h.1), fun he => ?_, ?_⟩
  · by_cases hc : checkC x.q x.n x.s.size = 0
    · rw [hok hc]
      exact ⟨List.append_assoc .., by rw [if_neg (fun h => h.2 hc)]; exact he⟩
    · have : eV x = .error (checkC x.q x.n x.s.size) := by unfold eV; rw [if_pos hc]
      rw [this, if_pos ⟨he, hc⟩]
      exact ⟨rfl, hc⟩
  · have := num_len hg.1
    rw [List.length_append, List.length_append]
    unfold wtV
    omega
theorem Rx.new2 {F : Nat} {w w1 : World} {o : Bs} {e : Int} (h : Rw w1 F o e) (xs : List Value) (t : TypeId) : Rx F (w1.alloc (.cells xs.toArray t)) w1.heap.size xs := Rx.new h xs t
section
variable (F : Nat) (o : Bs) (e : Int) (w : World)
set_option maxRecDepth 100000 in
set_option maxHeartbeats 4000000 in
theorem rvalue_any (x : V3) (hg : gV x) (hs : x.s.size ≤ 1000000) (h : Rw w F o e) (ho : o.length + wtV x ≤ 1000000000) :
    Calls Tryz.prog 45 #[.pointer (some ⟨F, 0, none⟩), .agg #[.int .i64 x.q, .int .i64 x.n, .string x.s]] w (Rws F (eV x) (wtV x) o e w) := by
  have HWD := hide (fun (b : Bs) h1 h2 => rv_wd (x := x) hg (o := o) (b := b) (e := e) h1 h2)
  obtain ⟨q, n, s⟩ := x
  obtain ⟨hq, hn⟩ := hg
  simp only at hq hn hs HWD ⊢
  have HO : Hid (o.length + (s.size + 30) ≤ 1000000000) := hide ho
  have HQ := hide hq
  have HN := hide hn
  have HS := hide hs
  have HX := hide (Rx.new h [.int .i64 q, .int .i64 n, .string s] 49)
  have HW := hide (h.laid (.cells #[.int .i64 q, .int .i64 n, .string s] 49))
  have HT := hide (Rt.laid h (.cells #[.int .i64 q, .int .i64 n, .string s] 49))
  have HC := hide (fun w => rcheck_any q n s w (by unfold maxLen; omega))
  have hF := h.lt
  clear h ho hq hn
  obtain ⟨c, hc⟩ : ∃ c, checkC q n s.size = c := ⟨_, rfl⟩
  have HCK := hide hc
  rw [hc] at HWD HC
  clear hc
  go_enter Tryz.func45, Tryz.ntmps45
  go_wp2_with fail
  refine (HC.out _).mono ?_
  rintro en w1 ⟨rfl, hb⟩
  replace HX := hide (HX.out.keep (Rt.of_below hb (Nat.le_of_lt HW.out.lt)))
  replace HT := hide (HT.out.trans (Rt.of_below hb (Nat.le_of_lt HW.out.lt)))
  replace HW := hide (HW.out.keep hb)
  clear hb
  have c1 := HW.out.c1
  have f1 := HW.out.f1
  have x0 := HX.out.2 0 _ rfl
  by_cases he : e = 0
  · have u1 : (e == 0) = true := beq_iff_eq.2 he
    by_cases hc : c = 0
    · have u2 : (c != 0) = false := bne_eq_false_iff_eq.2 hc
      rw [if_neg (fun h => h.2 hc)] at HWD
      have HX2 := HX
      have HW2 := HW
      have HT2 := HT
      clear he hc
      have HX3 := hide (HX2.out.keep (Rt.laid HW2.out (.cells #[.int .i64 q] 3)))
      have HW3 := hide (HW2.out.laid (.cells #[.int .i64 q] 3))
      have HI3 := hide (Rx.new HW2.out (ints [q]) 3)
      have HT3 := hide (HT2.out.trans (Rt.laid HW2.out (.cells #[.int .i64 q] 3)))
      have y0 := HX2.out.2 0 _ rfl
      go_wp2_with fail
      refine (rnumber_any F o _ _ [q] _ 1 (by intro y hy; simp at hy; subst hy; exact HQ.out) HI3.out HW3.out (by simp) (by have := HO.out; simp only [List.length_cons, List.length_nil]; omega)).mono ?_
      rintro en w4 ⟨rfl, hr, ht⟩
      replace HX3 := hide (HX3.out.keep ht)
      replace HT3 := hide (HT3.out.trans ht)
      replace HW3 := hide hr
      clear hr ht HI3 x0 c1 f1
      simp only [List.flatMap_cons, List.flatMap_nil, List.append_nil] at HW3
      have HQL0 := num_len HQ.out
      obtain ⟨oq, hoq⟩ : ∃ oq, o ++ num q = oq := ⟨_, rfl⟩
      have HQL : Hid (oq.length ≤ o.length + 10) := hide (by rw [← hoq, List.length_append]; omega)
      rw [hoq] at HW3 HWD
      clear hoq HQL0
      have y0 := HX3.out.2 0 _ rfl
      have y1 := HX3.out.2 1 _ rfl
      have y2 := HX3.out.2 2 _ rfl
      by_cases h2 : q = 2
      · have t2 : (q == 2) = true := beq_iff_eq.2 h2
        have HE : Hid (checkC q n s.size = 0 → eV ⟨q, n, s⟩ = .ok (num q ++ (num s.size ++ s.data.toList))) := hide (fun hc => by
          unfold eV
          rw [if_neg (fun h => h hc), if_pos h2]
          rfl)
        have HTX := hide (fun w => rtext_any w s HS.out)
        have HTL : Hid ((num s.size ++ s.data.toList).length ≤ s.size + 10) := hide (by rw [List.length_append, data_len]; have := num_len (n := s.size) (by have := HS.out; unfold inI; omega); omega)
        obtain ⟨tb, htb⟩ : ∃ tb, num s.size ++ s.data.toList = tb := ⟨_, rfl⟩
        rw [htb] at HTX HTL HE
        have hct := bstr_cat oq tb
        have hsz : (bstr oq).size + (bstr tb).size ≤ 9223372036854775807 := by
          rw [bstr_size, bstr_size]
          have := HO.out; have := HQL.out; have := HTL.out; omega
        have c0 := HW3.out.c0
        have f0 := HW3.out.f0
        have hF4 := HW3.out.lt
        clear h2 htb
        go_wp2_with fail
        go_region_with (first | (go_at_call 74; refine (HTX.out _).mono ?_; rintro en w5 ⟨rfl, hb'⟩; have hb : Below w4.heap.size w4 w5 := below_undrew hb'; have c0' := keep1 hb c0; have f0' := keepf hb hF4 f0; have y2' := keep1 hb y2))
        all_goals
          have HS5 := hide ((HW3.out.keep hb).set (oq ++ tb))
          have HB5 := hide (Rt.of_below hb (Nat.le_of_lt hF4))
          clear hb hb' c0 f0
          go_wp2
          go_end0
          exact ⟨rfl, _, _, HWD.out _ HTL.out (fun hc => HE.out (HCK.out.trans hc)), HS5.out.1, (HT3.out.trans HB5.out).trans HS5.out.2⟩
      · have t2 : (q == 2) = false := beq_eq_false_iff_ne.2 h2
        have HE : Hid (checkC q n s.size = 0 → eV ⟨q, n, s⟩ = .ok (num q ++ num n)) := hide (fun hc => by
          unfold eV
          rw [if_neg (fun h => h hc), if_neg h2]
          rfl)
        have HX6 := hide (HX3.out.keep (Rt.laid HW3.out (.cells #[.int .i64 n] 3)))
        have HI6 := hide (Rx.new HW3.out (ints [n]) 3)
        have HT6 := hide (HT3.out.trans (Rt.laid HW3.out (.cells #[.int .i64 n] 3)))
        have HW6 := hide (HW3.out.laid (.cells #[.int .i64 n] 3))
        clear h2
        go_wp2_with fail
        refine (rnumber_any F _ _ _ [n] _ 1 (by intro y hy; simp at hy; subst hy; exact HN.out) HI6.out HW6.out (by simp) (by have := HO.out; have := HQL.out; simp only [List.length_cons, List.length_nil]; omega)).mono ?_
        rintro en w7 ⟨rfl, hr, ht⟩
        have HT7 := hide (HT6.out.trans ht)
        have HW7 := hide hr
        clear hr ht
        simp only [List.flatMap_cons, List.flatMap_nil, List.append_nil] at HW7
        go_wp2
        go_end0
        exact ⟨rfl, _, _, HWD.out _ (by have := num_len HN.out; omega) (fun hc => HE.out (HCK.out.trans hc)), HW7.out, HT7.out⟩
    · have u2 : (c != 0) = true := bne_iff_ne.2 hc
      rw [if_pos ⟨he, hc⟩] at HWD
      have hfl := HW.out.fail c
      have HX2 := hide (HX.out.keep hfl.2)
      have HW2 := hide hfl.1
      have HT2 := hide (HT.out.trans hfl.2)
      clear he hc hfl
      go_upto_region 4 with (fail)
      obtain ⟨wf, hwf⟩ : ∃ wf, w1.setCell ⟨F, 1, none⟩ (.int .i64 c) = wf := ⟨_, rfl⟩
      rw [hwf] at HX2 HW2 HT2 ⊢
      clear hwf
      have HX3 := hide (HX2.out.keep (Rt.laid HW2.out (.cells #[.int .i64 q] 3)))
      have HW3 := hide (HW2.out.laid (.cells #[.int .i64 q] 3))
      have HI3 := hide (Rx.new HW2.out (ints [q]) 3)
      have HT3 := hide (HT2.out.trans (Rt.laid HW2.out (.cells #[.int .i64 q] 3)))
      have y0 := HX2.out.2 0 _ rfl
      go_wp2_with fail
      refine (rnumber_any F o _ _ [q] _ 1 (by intro y hy; simp at hy; subst hy; exact HQ.out) HI3.out HW3.out (by simp) (by have := HO.out; simp only [List.length_cons, List.length_nil]; omega)).mono ?_
      rintro en w4 ⟨rfl, hr, ht⟩
      replace HX3 := hide (HX3.out.keep ht)
      replace HT3 := hide (HT3.out.trans ht)
      replace HW3 := hide hr
      clear hr ht HI3 x0 c1 f1
      simp only [List.flatMap_cons, List.flatMap_nil, List.append_nil] at HW3
      have HQL0 := num_len HQ.out
      obtain ⟨oq, hoq⟩ : ∃ oq, o ++ num q = oq := ⟨_, rfl⟩
      have HQL : Hid (oq.length ≤ o.length + 10) := hide (by rw [← hoq, List.length_append]; omega)
      rw [hoq] at HW3 HWD
      clear hoq HQL0
      have y0 := HX3.out.2 0 _ rfl
      have y1 := HX3.out.2 1 _ rfl
      have y2 := HX3.out.2 2 _ rfl
      by_cases h2 : q = 2
      · have t2 : (q == 2) = true := beq_iff_eq.2 h2
        have HE : Hid (checkC q n s.size = 0 → eV ⟨q, n, s⟩ = .ok (num q ++ (num s.size ++ s.data.toList))) := hide (fun hc => by
          unfold eV
          rw [if_neg (fun h => h hc), if_pos h2]
          rfl)
        have HTX := hide (fun w => rtext_any w s HS.out)
        have HTL : Hid ((num s.size ++ s.data.toList).length ≤ s.size + 10) := hide (by rw [List.length_append, data_len]; have := num_len (n := s.size) (by have := HS.out; unfold inI; omega); omega)
        obtain ⟨tb, htb⟩ : ∃ tb, num s.size ++ s.data.toList = tb := ⟨_, rfl⟩
        rw [htb] at HTX HTL HE
        have hct := bstr_cat oq tb
        have hsz : (bstr oq).size + (bstr tb).size ≤ 9223372036854775807 := by
          rw [bstr_size, bstr_size]
          have := HO.out; have := HQL.out; have := HTL.out; omega
        have c0 := HW3.out.c0
        have f0 := HW3.out.f0
        have hF4 := HW3.out.lt
        clear h2 htb
        go_wp2_with fail
        go_region_with (first | (go_at_call 74; refine (HTX.out _).mono ?_; rintro en w5 ⟨rfl, hb'⟩; have hb : Below w4.heap.size w4 w5 := below_undrew hb'; have c0' := keep1 hb c0; have f0' := keepf hb hF4 f0; have y2' := keep1 hb y2))
        all_goals
          have HS5 := hide ((HW3.out.keep hb).set (oq ++ tb))
          have HB5 := hide (Rt.of_below hb (Nat.le_of_lt hF4))
          clear hb hb' c0 f0
          go_wp2
          go_end0
          exact ⟨rfl, _, _, HWD.out _ HTL.out (fun hc => HE.out (HCK.out.trans hc)), HS5.out.1, (HT3.out.trans HB5.out).trans HS5.out.2⟩
      · have t2 : (q == 2) = false := beq_eq_false_iff_ne.2 h2
        have HE : Hid (checkC q n s.size = 0 → eV ⟨q, n, s⟩ = .ok (num q ++ num n)) := hide (fun hc => by
          unfold eV
          rw [if_neg (fun h => h hc), if_neg h2]
          rfl)
        have HX6 := hide (HX3.out.keep (Rt.laid HW3.out (.cells #[.int .i64 n] 3)))
        have HI6 := hide (Rx.new HW3.out (ints [n]) 3)
        have HT6 := hide (HT3.out.trans (Rt.laid HW3.out (.cells #[.int .i64 n] 3)))
        have HW6 := hide (HW3.out.laid (.cells #[.int .i64 n] 3))
        clear h2
        go_wp2_with fail
        refine (rnumber_any F _ _ _ [n] _ 1 (by intro y hy; simp at hy; subst hy; exact HN.out) HI6.out HW6.out (by simp) (by have := HO.out; have := HQL.out; simp only [List.length_cons, List.length_nil]; omega)).mono ?_
        rintro en w7 ⟨rfl, hr, ht⟩
        have HT7 := hide (HT6.out.trans ht)
        have HW7 := hide hr
        clear hr ht
        simp only [List.flatMap_cons, List.flatMap_nil, List.append_nil] at HW7
        go_wp2
        go_end0
        exact ⟨rfl, _, _, HWD.out _ (by have := num_len HN.out; omega) (fun hc => HE.out (HCK.out.trans hc)), HW7.out, HT7.out⟩
  · have u1 : (e == 0) = false := beq_eq_false_iff_ne.2 he
    rw [if_neg (fun h => he h.1)] at HWD
    have HX2 := HX
    have HW2 := HW
    have HT2 := HT
    clear he
    have HX3 := hide (HX2.out.keep (Rt.laid HW2.out (.cells #[.int .i64 q] 3)))
    have HW3 := hide (HW2.out.laid (.cells #[.int .i64 q] 3))
    have HI3 := hide (Rx.new HW2.out (ints [q]) 3)
    have HT3 := hide (HT2.out.trans (Rt.laid HW2.out (.cells #[.int .i64 q] 3)))
    have y0 := HX2.out.2 0 _ rfl
    go_wp2_with fail
    refine (rnumber_any F o _ _ [q] _ 1 (by intro y hy; simp at hy; subst hy; exact HQ.out) HI3.out HW3.out (by simp) (by have := HO.out; simp only [List.length_cons, List.length_nil]; omega)).mono ?_
    rintro en w4 ⟨rfl, hr, ht⟩
    replace HX3 := hide (HX3.out.keep ht)
    replace HT3 := hide (HT3.out.trans ht)
    replace HW3 := hide hr
    clear hr ht HI3 x0 c1 f1
    simp only [List.flatMap_cons, List.flatMap_nil, List.append_nil] at HW3
    have HQL0 := num_len HQ.out
    obtain ⟨oq, hoq⟩ : ∃ oq, o ++ num q = oq := ⟨_, rfl⟩
    have HQL : Hid (oq.length ≤ o.length + 10) := hide (by rw [← hoq, List.length_append]; omega)
    rw [hoq] at HW3 HWD
    clear hoq HQL0
    have y0 := HX3.out.2 0 _ rfl
    have y1 := HX3.out.2 1 _ rfl
    have y2 := HX3.out.2 2 _ rfl
    by_cases h2 : q = 2
    · have t2 : (q == 2) = true := beq_iff_eq.2 h2
      have HE : Hid (checkC q n s.size = 0 → eV ⟨q, n, s⟩ = .ok (num q ++ (num s.size ++ s.data.toList))) := hide (fun hc => by
        unfold eV
        rw [if_neg (fun h => h hc), if_pos h2]
        rfl)
      have HTX := hide (fun w => rtext_any w s HS.out)
      have HTL : Hid ((num s.size ++ s.data.toList).length ≤ s.size + 10) := hide (by rw [List.length_append, data_len]; have := num_len (n := s.size) (by have := HS.out; unfold inI; omega); omega)
      obtain ⟨tb, htb⟩ : ∃ tb, num s.size ++ s.data.toList = tb := ⟨_, rfl⟩
      rw [htb] at HTX HTL HE
      have hct := bstr_cat oq tb
      have hsz : (bstr oq).size + (bstr tb).size ≤ 9223372036854775807 := by
        rw [bstr_size, bstr_size]
        have := HO.out; have := HQL.out; have := HTL.out; omega
      have c0 := HW3.out.c0
      have f0 := HW3.out.f0
      have hF4 := HW3.out.lt
      clear h2 htb
      go_wp2_with fail
      go_region_with (first | (go_at_call 74; refine (HTX.out _).mono ?_; rintro en w5 ⟨rfl, hb'⟩; have hb : Below w4.heap.size w4 w5 := below_undrew hb'; have c0' := keep1 hb c0; have f0' := keepf hb hF4 f0; have y2' := keep1 hb y2))
      all_goals
        have HS5 := hide ((HW3.out.keep hb).set (oq ++ tb))
        have HB5 := hide (Rt.of_below hb (Nat.le_of_lt hF4))
        clear hb hb' c0 f0
        go_wp2
        go_end0
        exact ⟨rfl, _, _, HWD.out _ HTL.out (fun hc => HE.out (HCK.out.trans hc)), HS5.out.1, (HT3.out.trans HB5.out).trans HS5.out.2⟩
    · have t2 : (q == 2) = false := beq_eq_false_iff_ne.2 h2
      have HE : Hid (checkC q n s.size = 0 → eV ⟨q, n, s⟩ = .ok (num q ++ num n)) := hide (fun hc => by
        unfold eV
        rw [if_neg (fun h => h hc), if_neg h2]
        rfl)
      have HX6 := hide (HX3.out.keep (Rt.laid HW3.out (.cells #[.int .i64 n] 3)))
      have HI6 := hide (Rx.new HW3.out (ints [n]) 3)
      have HT6 := hide (HT3.out.trans (Rt.laid HW3.out (.cells #[.int .i64 n] 3)))
      have HW6 := hide (HW3.out.laid (.cells #[.int .i64 n] 3))
      clear h2
      go_wp2_with fail
      refine (rnumber_any F _ _ _ [n] _ 1 (by intro y hy; simp at hy; subst hy; exact HN.out) HI6.out HW6.out (by simp) (by have := HO.out; have := HQL.out; simp only [List.length_cons, List.length_nil]; omega)).mono ?_
      rintro en w7 ⟨rfl, hr, ht⟩
      have HT7 := hide (HT6.out.trans ht)
      have HW7 := hide hr
      clear hr ht
      simp only [List.flatMap_cons, List.flatMap_nil, List.append_nil] at HW7
      go_wp2
      go_end0
      exact ⟨rfl, _, _, HWD.out _ (by have := num_len HN.out; omega) (fun hc => HE.out (HCK.out.trans hc)), HW7.out, HT7.out⟩
end
end Go.Proofs.YtofdcgojgcnopaaGreat

namespace Go.Proofs.YtofdcgojgcnopaaGreat
open Go.RowKit Go.Lib
set_option linter.unusedVariables false
set_option linter.unusedSimpArgs false
/-- What has been written behind j rounds. -/
def RInv {α : Type} (F : Nat) (f : α → Ex Bs) (wt : α → Nat) (l : List α) (o : Bs) (e : Int) (w : World) (j : Nat) (wr : World) : Prop :=
  ∃ o' e', Wd (andE (eN l.length) (eMany f (l.take j))) (10 + wtS wt (l.take j)) o e o' e' ∧ Rw wr F o' e' ∧ Rt F w wr
theorem RInv.start {α : Type} {F : Nat} {f : α → Ex Bs} {wt : α → Nat} {l : List α} {o : Bs} {e : Int} {w wr : World} (hn : inI l.length) (h : Rw wr F (o ++ num l.length) e) (ht : Rt F w wr) : RInv F f wt l o e w 0 wr :=
  ⟨_, _, by rw [List.take_zero]; exact ((Wd.num hn o e).and Wd.skip).more (by rw [wtS_nil]; omega), h, ht⟩
theorem RInv.next {α : Type} {F : Nat} {f : α → Ex Bs} {wt : α → Nat} {l : List α} {o o' o'' : Bs} {e e' e'' : Int} {w w' : World} {j : Nat} (hj : j < l.length)
    (hd : Wd (andE (eN l.length) (eMany f (l.take j))) (10 + wtS wt (l.take j)) o e o' e') (h : Wd (f l[j]) (wt l[j]) o' e' o'' e'') (hr : Rw w' F o'' e'') (ht : Rt F w w') : RInv F f wt l o e w (j + 1) w' :=
  ⟨_, _, by rw [eMany_take hj, ← andE_assoc, wtS_take hj, ← Nat.add_assoc]; exact hd.and h, hr, ht⟩
/-- A list that is not begun: too long, or behind an error. -/
theorem rl_stop {α : Type} {f : α → Ex Bs} {wt : α → Nat} {l : List α} {o : Bs} {e : Int} (hn : inI l.length) (h : ¬ (if e = 0 ∧ 4096 < l.length then 5 else e) = 0) :
    Wd (eL f l) (10 + wtS wt l) o e (o ++ num l.length) (if e = 0 ∧ 4096 < l.length then 5 else e) := by
  have := num_len hn
  refine ⟨fun he => if_neg (fun h => he h.1), fun he => ?_, by rw [List.length_append]; omega⟩
  by_cases hl : 4096 < l.length
  · rw [eL_long hl, if_pos ⟨he, hl⟩]; exact ⟨rfl, by decide⟩
  · rw [if_neg (fun h => hl h.2)] at h; exact absurd he h
theorem wtS_get {α : Type} {wt : α → Nat} {l : List α} {j : Nat} (hj : j < l.length) {n N : Nat} (h : n ≤ 10 + wtS wt (l.take j)) (hN : 10 + wtS wt l ≤ N) : n + wt l[j] ≤ N := by
  have h2 := wtS_le (wt := wt) (l := l) (j + 1)
  rw [wtS_take hj] at h2
  omega
theorem Rt.kpl {F : Nat} {w w' : World} (h : Rt F w w') : Kp (· < F) w w' := Kp.lowBelow h.low (fun _ hb => hb)
section
variable (F : Nat) (o : Bs) (e : Int) (w : World)
set_option maxRecDepth 100000 in
set_option maxHeartbeats 8000000 in
theorem revents_any (v : Value) (l : List Evt) (h : Rw w F o e) (hv : Lst w (· < F) 5 REv v l) (ho : o.length + (10 + wtS wtEv l) ≤ 1000000000) :
    Calls Tryz.prog 75 #[.pointer (some ⟨F, 0, none⟩), v] w (Rws F (eL eEv l) (10 + wtS wtEv l) o e w) := by
  obtain ⟨A, cap, rfl⟩ := hv.form
  have HV := hide hv
  have hlen := hv.len
  unfold maxLen at hlen
  have HIN : Hid (inI (l.length : Int)) := hide (by unfold inI; omega)
  have HST := hide (rl_stop (f := eEv) (wt := wtEv) (l := l) (o := o) (e := e) HIN.out)
  obtain ⟨m, hm⟩ : ∃ m, l.length = m := ⟨_, rfl⟩
  rw [hm] at HV hlen HIN HST ⊢
  have HM := hide hm
  have HW := hide h
  have HO := hide ho
  clear hm hv h ho
  go_enter Tryz.func75, Tryz.ntmps75
  go_wp2_with fail
  refine (rlength_any F o e _ m (by omega) HW.out (by have := HO.out; omega)).mono ?_
  rintro en w1 ⟨rfl, hr, ht⟩
  have HR := hide hr
  have HT := hide ht
  clear hr ht
  by_cases h1 : (if e = 0 ∧ 4096 < m then 5 else e) = 0
  · have hem : e = 0 ∧ ¬ 4096 < m := by
      by_cases he : e = 0
      · refine ⟨he, fun hl => ?_⟩
        rw [if_pos ⟨he, hl⟩] at h1
        cases h1
      · rw [if_neg (fun h => he h.1)] at h1; exact absurd h1 he
    obtain ⟨rfl, hl⟩ := hem
    rw [if_neg (fun h => hl h.2)] at HR
    have HP : Hid (RInv F eEv wtEv l o 0 w 0 w1) := hide (RInv.start (by rw [HM.out]; exact HIN.out) (by rw [HM.out]; exact HR.out) HT.out)
    clear h1 HR HT HST
    go_wp2_with fail
    go_loopw [4] (fun i wr => ∃ j : Nat, j ≤ m ∧ i = .int .i64 j ∧ Hid (RInv F eEv wtEv l o 0 w j wr)) (fun i _ => m - (intOf i).toNat)
    case atStart => exact ⟨0, by omega, rfl, HP⟩
    case round =>
      obtain ⟨j, hj, rfl, HP⟩ := hrel
      obtain ⟨o1, e1, hd, hr, ht⟩ := HP.out
      have HD := hide hd
      have HR := hide hr
      have HT := hide ht
      have c1 := hr.c1
      clear hd hr ht
      by_cases hlt : j < m
      · have hjl : j < l.length := by rw [HM.out]; exact hlt
        by_cases he : e1 = 0
        · subst he
          obtain ⟨g, off, xs, e2, hg, hxl, hc, hR⟩ := HV.out.at_ hjl
          cases e2
          have HNX0 := hide (fun (w' : World) (o'' : Bs) (e'' : Int) h1 h2 h3 => RInv.next (F := F) (w := w) (w' := w') (o'' := o'') (e'' := e'') hjl HD.out h1 h2 h3)
          have HLN0 := hide (wtS_get (wt := wtEv) hjl (N := 1000000000 - o.length) (n := o1.length - o.length) (by have := HD.out.2.2; omega) (by have := HO.out; omega))
          obtain ⟨x, hx⟩ : ∃ x, l[j] = x := ⟨_, rfl⟩
          rw [hx] at hR HNX0 HLN0
          clear hx
          obtain ⟨vv, rfl, hvv, ga, gb, gc, gd⟩ := hR
          obtain ⟨A1, cp1, rfl⟩ := hvv.form
          have HG : Hid (∀ y ∈ [x.a, x.b, x.c, x.d], inI y) := hide (by
            intro y hy
            simp at hy
            rcases hy with rfl | rfl | rfl | rfl
            · exact ga
            · exact gb
            · exact gc
            · exact gd)
          have k0 := HT.out.kpl.cell (p := ⟨g, _, none⟩) hg (hc 0 _ rfl)
          have k1 := HT.out.kpl.cell (p := ⟨g, _, none⟩) hg (hc 1 _ rfl)
          have k2 := HT.out.kpl.cell (p := ⟨g, _, none⟩) hg (hc 2 _ rfl)
          have k3 := HT.out.kpl.cell (p := ⟨g, _, none⟩) hg (hc 3 _ rfl)
          have k4 := HT.out.kpl.cell (p := ⟨g, _, none⟩) hg (hc 4 _ rfl)
          simp only [Nat.add_zero] at k0 k1 k2 k3 k4
          have hgl := World.block_lt_of_cell? wr _ k0
          simp only at hgl
          have hu0 : (0 : Int) ≤ (j : Int) := by omega
          have hu1 : (j : Int) < (m : Int) := by omega
          have HNX := hide HNX0.out
          have HLN : Hid (o1.length + wtEv x ≤ 1000000000) := hide (by have := HLN0.out; have := HO.out; omega)
          have HVV := hide hvv
          have HRL := hide (raw_len HG.out)
          have HB1 := hide (Rx.new HR.out [.int .i64 x.a, .int .i64 x.b, .int .i64 x.c, .int .i64 x.d, .slice A1 x.vs.length cp1] 88)
          have HR1 := hide (HR.out.laid (.cells #[.int .i64 x.a, .int .i64 x.b, .int .i64 x.c, .int .i64 x.d, .slice A1 x.vs.length cp1] 88))
          have HT1 := hide (HT.out.trans (Rt.laid HR.out (.cells #[.int .i64 x.a, .int .i64 x.b, .int .i64 x.c, .int .i64 x.d, .slice A1 x.vs.length cp1] 88)))
          have HB2 := hide (HB1.out.keep (Rt.laid HR1.out (.cells #[.int .i64 x.a, .int .i64 x.b, .int .i64 x.c, .int .i64 x.d] 3)))
          have HT2 := hide (HT1.out.trans (Rt.laid HR1.out (.cells #[.int .i64 x.a, .int .i64 x.b, .int .i64 x.c, .int .i64 x.d] 3)))
          have HR2 := hide (HR1.out.laid (.cells #[.int .i64 x.a, .int .i64 x.b, .int .i64 x.c, .int .i64 x.d] 3))
          have hI := Rx.new HR1.out (ints [x.a, x.b, x.c, x.d]) 3
          rw [World.size_alloc] at hI
          have HI := hide hI
          have hvl := hvv.len
          unfold maxLen at hvl
          have HVL : Hid (inI (x.vs.length : Int)) := hide (by unfold inI; omega)
          clear hc hxl HNX0 HLN0 hvv ga gb gc gd hI
          go_wp2_with fail
          refine (rnumber_any F o1 0 _ [x.a, x.b, x.c, x.d] (wr.heap.size + 1) 4 HG.out HI.out HR2.out (by simp) (by have := HLN.out; unfold wtEv at this; simp only [List.length_cons, List.length_nil]; omega)).mono ?_
          rintro en w3 ⟨rfl, hr, ht⟩
          have HR3 := hide hr
          have HB3 := hide (HB2.out.keep ht)
          have HT3 := hide (HT2.out.trans ht)
          clear hr ht k0 k1 k2 k3 k4 c1 HI HR1 HR2 HT1 HT2 HB1 HB2
          have b4 := HB3.out.2 4 _ rfl
          have HLR : Hid ((o1 ++ [x.a, x.b, x.c, x.d].flatMap num).length + (10 + wtS wtV x.vs) ≤ 1000000000) := hide (by
            have h1 := HRL.out
            have h2 := HLN.out
            unfold wtEv at h2
            rw [List.length_append]
            simp only [List.length_cons, List.length_nil] at h1
            omega)
          have HEV : Hid (∀ o' e', Wd (eL eV x.vs) (10 + wtS wtV x.vs) (o1 ++ [x.a, x.b, x.c, x.d].flatMap num) 0 o' e' → Wd (eEv x) (wtEv x) o1 0 o' e') := hide (fun o' e' h => by
            rw [eEv_raw]
            exact (Wd.raw HRL.out o1 0).and h)
          obtain ⟨oi, hoi⟩ : ∃ oi, o1 ++ [x.a, x.b, x.c, x.d].flatMap num = oi := ⟨_, rfl⟩
          rw [hoi] at HR3 HLR HEV
          clear hoi HRL
          go_wp2_with fail
          refine (rlength_any F oi 0 _ x.vs.length hvl HR3.out (by have := HLR.out; omega)).mono ?_
          rintro en w4 ⟨rfl, hr, ht⟩
          have HR4 := hide hr
          have HB4 := hide (HB3.out.keep ht)
          have HT4 := hide (HT3.out.trans ht)
          have HT34 := hide ht
          clear hr ht b4
          have b4 := HB4.out.2 4 _ rfl
          by_cases h4 : 4096 < x.vs.length
          · rw [if_pos ⟨rfl, h4⟩] at HR4
            have c1 := HR4.out.c1
            have HST := hide (rl_stop (f := eV) (wt := wtV) (o := oi) (e := 0) HVL.out (by rw [if_pos ⟨rfl, h4⟩]; decide))
            rw [if_pos ⟨rfl, h4⟩] at HST
            have HN5 := hide (HNX.out w4 _ _ (HEV.out _ _ HST.out) HR4.out HT4.out)
            go_wp2_with fail
            refine wp_loop_rounds 1 ?_
            rw [rounds_succ]
            go_wp2
            all_goals
              go_roundw
              case rel => exact ⟨j + 1, by omega, by go_num, HN5⟩
              case measure => simp [intOf]; omega
          · rw [if_neg (fun h => h4 h.2)] at HR4
            have HP4 : Hid (RInv F eV wtV x.vs oi 0 w3 0 w4) := hide (RInv.start HVL.out HR4.out HT34.out)
            obtain ⟨n, hn⟩ : ∃ n, x.vs.length = n := ⟨_, rfl⟩
            rw [hn] at b4 h4 HVL HB4 HVV hvl
            have HNV := hide hn
            clear hn HR4 HT4 HT34
            go_wp2_with fail
            go_loopw [6] (fun i wi => ∃ p : Nat, p ≤ n ∧ i = .int .i64 p ∧ Hid (RInv F eV wtV x.vs oi 0 w3 p wi)) (fun i _ => n - (intOf i).toNat)
            case atStart => exact ⟨0, by omega, rfl, HP4⟩
            case round =>
              obtain ⟨p, hp, rfl, HQ⟩ := hrel
              obtain ⟨o5, e5, hd, hr, ht⟩ := HQ.out
              have HD5 := hide hd
              have HR5 := hide hr
              have HT5 := hide ht
              have HB5 := hide (HB3.out.keep ht)
              have c1 := hr.c1
              clear hd hr ht
              have b4' := HB5.out.2 4 _ rfl
              rw [HNV.out] at b4'
              by_cases hlp : p < n
              · have hpl : p < x.vs.length := by rw [HNV.out]; exact hlp
                by_cases he : e5 = 0
                · subst he
                  have hvv5 := (HVV.out.keep rd_V (HT3.out.kpl)).keep rd_V HT5.out.kpl
                  obtain ⟨g2, off2, ys, e3, hg2, hyl, hc2, hR2⟩ := hvv5.at_ hpl
                  cases e3
                  have HNX2 := hide (fun (w' : World) (o'' : Bs) (e'' : Int) h1 h2 h3 => RInv.next (F := F) (w := w3) (w' := w') (o'' := o'') (e'' := e'') hpl HD5.out h1 h2 h3)
                  have HLN2 := hide (wtS_get (wt := wtV) hpl (N := 1000000000 - oi.length) (n := o5.length - oi.length) (by have := HD5.out.2.2; omega) (by have := HLR.out; omega))
                  obtain ⟨y, hy⟩ : ∃ y, x.vs[p] = y := ⟨_, rfl⟩
                  rw [hy] at hR2 HNX2 HLN2
                  clear hy
                  obtain ⟨rfl, gy, gs⟩ := hR2
                  have m0 := hc2 0 _ rfl
                  have m1 := hc2 1 _ rfl
                  have m2 := hc2 2 _ rfl
                  rw [Nat.add_zero] at m0
                  have hv0 : (0 : Int) ≤ (p : Int) := by omega
                  have hv1 : (p : Int) < (n : Int) := by omega
                  have HGY := hide gy
                  have HGS := hide gs
                  clear hc2 hyl hvv5 gy gs
                  go_wp2_with fail
                  refine (rvalue_any F o5 0 _ y HGY.out HGS.out HR5.out (by have := HLN2.out; have := HLR.out; omega)).mono ?_
                  rintro en w6 ⟨rfl, o6, e6, hd, hr, ht⟩
                  have HN6 := hide (HNX2.out w6 o6 e6 hd hr (HT5.out.trans ht))
                  clear hd hr ht m0 m1 m2 c1 b4'
                  go_wp2
                  go_roundw
                  case rel => exact ⟨p + 1, by omega, by go_num, HN6⟩
                  case measure => simp [intOf]; omega
                · have t2 : (e5 == 0) = false := beq_eq_false_iff_ne.2 he
                  have HS := hide (PInv.stop (by rw [HNV.out]; exact h4) he HD5.out)
                  have HN5 := hide (HNX.out wr _ _ (HEV.out _ _ HS.out) HR5.out (HT3.out.trans HT5.out))
                  clear he
                  go_wp2
                  go_roundw
                  case rel => exact ⟨j + 1, by omega, by go_num, HN5⟩
                  case measure => simp [intOf]; omega
              · obtain rfl : p = n := by omega
                have HS := hide (PInv.done (by rw [HNV.out]; exact h4) (by rw [HNV.out]; exact Nat.le_refl _) HD5.out)
                have HN5 := hide (HNX.out wr _ _ (HEV.out _ _ HS.out) HR5.out (HT3.out.trans HT5.out))
                go_wp2
                go_roundw
                case rel => exact ⟨j + 1, by omega, by go_num, HN5⟩
                case measure => simp [intOf]; omega
        · have t2 : (e1 == 0) = false := beq_eq_false_iff_ne.2 he
          have HS := hide (PInv.stop (by rw [HM.out]; exact hl) he HD.out)
          clear he
          go_wp2
          go_end0
          exact ⟨rfl, _, _, HS.out, HR.out, HT.out⟩
      · obtain rfl : j = m := by omega
        have HS := hide (PInv.done (by rw [HM.out]; exact hl) (by rw [HM.out]; exact Nat.le_refl _) HD.out)
        go_wp2
        go_end0
        exact ⟨rfl, _, _, HS.out, HR.out, HT.out⟩
  · have HS := hide (HST.out h1)
    have c1 := HR.out.c1
    obtain ⟨e1, he1⟩ : ∃ e1, (if e = 0 ∧ 4096 < m then 5 else e) = e1 := ⟨_, rfl⟩
    rw [he1] at HS HR h1 c1
    have t2 : (e1 == 0) = false := beq_eq_false_iff_ne.2 h1
    clear h1 he1
    go_wp2_with fail
    refine wp_loop_rounds 1 ?_
    rw [rounds_succ]
    go_wp2
    all_goals
      go_end0
      exact ⟨rfl, _, _, HS.out, HR.out, HT.out⟩
end
end Go.Proofs.YtofdcgojgcnopaaGreat

namespace Go.Proofs.YtofdcgojgcnopaaGreat
open Go.RowKit Go.Lib
set_option linter.unusedVariables false
set_option linter.unusedSimpArgs false
theorem Rw.fresh (w : World) : Rw (w.alloc (.cells #[.string ⟨#[]⟩, .int .i64 0] 67)) w.heap.size [] 0 := by
  have h := cells_lit w [.string ⟨#[]⟩, .int .i64 0] 67
  refine ⟨h 0 _ rfl, h 1 _ rfl, ?_, ?_⟩ <;>
    (unfold World.frozen?; rw [show (⟨w.heap.size, _, none⟩ : Addr).block = w.heap.size from rfl, heap_alloc_new]; simp)
section
variable (w : World)
set_option maxRecDepth 100000 in
set_option maxHeartbeats 4000000 in
theorem rSeal_any (o : Bs) (ho : o.length ≤ 1000000000) : Calls Tryz.prog 47 #[.string (bstr o)] w (Ret (.string (bstr (sealB o))) w) := by
  have HC := hide (fun w => rchecksum_any (bstr o) w (by rw [bstr_size]; unfold maxLen; omega))
  rw [bstr_data] at HC
  have HSO := hide (show sealB o = o ++ sumBytes (sumS o) from rfl)
  have hlt := sum_lt o
  obtain ⟨c, hc⟩ : ∃ c, sumS o = c := ⟨_, rfl⟩
  rw [hc] at HSO hlt HC
  clear hc
  have hcv := conv_lit w (sumBytes c) 5
  rw [← sb4 hlt] at hcv
  have hcv' : (convert 92 9 (.slice (some ⟨w.heap.size, 0, none⟩) 4 4)).run Tryz.prog (w.alloc (.cells #[.int .u8 ((c : Int) / 16777216), .int .u8 ((c : Int) / 65536 % 256), .int .u8 ((c : Int) / 256 % 256), .int .u8 ((c : Int) % 256)] 5)) = .ok (.string (bstr (sumBytes c))) (w.alloc (.cells #[.int .u8 ((c : Int) / 16777216), .int .u8 ((c : Int) / 65536 % 256), .int .u8 ((c : Int) / 256 % 256), .int .u8 ((c : Int) % 256)] 5)) := hcv
  have hct := bstr_cat o (sumBytes c)
  have hsz : (bstr o).size + (bstr (sumBytes c)).size ≤ 9223372036854775807 := by rw [bstr_size, bstr_size]; simp only [sumBytes, List.length_cons, List.length_nil]; omega
  clear hcv
  go_enter Tryz.func47, Tryz.ntmps47
  go_wp2_with fail
  refine (HC.out _).mono ?_
  rintro en w1 ⟨rfl, rfl⟩
  go_wp2
  go_ret
  exact Ret.mk (by rw [HSO.out]; rfl) (below_laid _)
set_option maxRecDepth 100000 in
set_option maxHeartbeats 4000000 in
theorem rseal_any (F : Nat) (r : Ex Bs) (n : Nat) (o : Bs) (e : Int) (hn : n ≤ 900000000) (hd : Wd r n [] 0 o e) (h : Rw w F o e) :
    Calls Tryz.prog 20 #[.pointer (some ⟨F, 0, none⟩)] w (Ret (.tuple #[.string (strE (sealE r)), .int .i64 (numE (sealE r))]) w) := by
  have hol : o.length ≤ n := by have := hd.2.2; simpa using this
  have hsz := bstr_size o
  have c0 := h.c0
  have c1 := h.c1
  have HD := hide hd
  have HSZ := hide hsz
  clear hd h hsz
  by_cases he : e = 0
  · subst he
    by_cases hl : 1048572 < o.length
    · have HR := hide (seal_long HD.out hl)
      obtain ⟨sz, hsz⟩ : ∃ sz, (bstr o).size = sz := ⟨_, rfl⟩
      have hle : sz ≤ 900000000 ∧ 1048572 < sz := by have := HSZ.out; omega
      have t1 : decide ((1048576 : Int) < (sz : Int) + 4) = true := decide_eq_true (by omega)
      have t2 : (sz : Int) + 4 ≤ 9223372036854775807 := by omega
      clear hle HSZ
      go_enter Tryz.func20, Tryz.ntmps20
      go_wp2
      go_ret2
      exact Ret.mk (by rw [HR.out.1, HR.out.2]; rfl) (Below.refl _ _)
    · have HR := hide (seal_ok HD.out hl)
      obtain ⟨sz, hsz⟩ : ∃ sz, (bstr o).size = sz := ⟨_, rfl⟩
      have hle : sz ≤ 900000000 ∧ ¬ 1048572 < sz := by have := HSZ.out; omega
      have t1 : decide ((1048576 : Int) < (sz : Int) + 4) = false := decide_eq_false (by omega)
      have t2 : (sz : Int) + 4 ≤ 9223372036854775807 := by omega
      have HS := hide (fun w => rSeal_any w o (by omega))
      clear hle HSZ hl
      go_enter Tryz.func20, Tryz.ntmps20
      go_wp2_with fail
      refine (HS.out _).mono ?_
      rintro en w1 ⟨rfl, hb⟩
      go_wp2
      go_ret2
      exact Ret.mk (by rw [HR.out.1, HR.out.2]; rfl) hb
  · have t2 : (e != 0) = true := bne_iff_ne.2 he
    have HR := hide (seal_err HD.out he)
    clear he
    go_enter Tryz.func20, Tryz.ntmps20
    go_wp2_with fail
    go_region
    all_goals
      go_wp2
      go_ret2
      exact Ret.mk (by rw [HR.out.1, HR.out.2]; rfl) (Below.refl _ _).drew
end
end Go.Proofs.YtofdcgojgcnopaaGreat
