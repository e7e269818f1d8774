/- The writer's method value. -/
import Derived.Test.YtofdcgojgcnopaaGreatCInt
import Derived.Deep.RegionLaw
namespace Go.Proofs.YtofdcgojgcnopaaGreat
open Go.RowKit Go.Lib
set_option linter.unusedVariables false
set_option linter.unusedSimpArgs false
section
variable {P : Program} {w : World}
theorem run_append_text (base : Nat) (t u ty e : TypeId) (i : TypeInfo) (ht : P.underlying t = some (.slice e)) (hu : P.underlying u = some .string) (hi : P.info? e = some i) (hz : i.zero = some (.int .u8 0))
    (hsize : i.size = 1) (hby : i.bytes = 1)
    (v : Value) (n : Nat) (xs : List Value) (hown : w.ownsRow base e 1 v n xs) (s : ByteArray)
    (h63 : n + s.size ≤ maxLen) (hbytes : n + s.size ≤ 140737488355328) (hbase : base ≤ w.heap.size) :
    ∃ v' w', (Builtin.append_ #[t, u] ty #[v, .string s]).run P w = .ok v' w' ∧ w'.ownsRow base e 1 v' (n + s.size) (xs ++ strCells s) ∧ w.grownBy w' v.ownBlock ∧
      (v'.ownBlock = v.ownBlock ∨ ∃ b, v'.ownBlock = some b ∧ w.heap.size ≤ b) := by
  obtain ⟨v', w', hr, h1, h2, h3⟩ := run_append_own_string (P := P) w base t u ty e i ht hu hi hz hsize hby v n xs hown s h63 hbytes hbase
  refine ⟨v', w', hr, h1, h2, ?_⟩
  have hxl : xs.length = n := by simpa using hown.1
  rcases hown.2 with ⟨rfl, rfl⟩ | ⟨g, cap, cur, rfl, hbg, hg, hnc, hcm, hcs, htake⟩
  · by_cases hm : s.size = 0
    · rw [h3.2 ⟨rfl, hm⟩]; exact .inl rfl
    · have hr2 := run_append_nil_string (P := P) w t u ty e i (.int .u8 0) ht hu hi hz s (by omega) (by unfold maxLen at h63; omega) (by rw [hby]; omega)
      rw [hr] at hr2
      injection hr2 with e1 _
      rw [e1]
      exact .inr ⟨_, rfl, Nat.le_refl _⟩
  · by_cases hroom : n + s.size ≤ cap
    · have hcs' : cur.size = cap := by simpa using hcs
      have hr2 := run_append_room_string (P := P) w t u ty e i ht hu hi hsize g n cap cur hg s hroom (by omega)
      rw [hr] at hr2
      injection hr2 with e1 _
      rw [e1]
      exact .inl rfl
    · have holds : ∀ j u, xs[j]? = some u → w.cell? ((⟨g, 0, none⟩ : Addr).add j) = some u := hown.cells (g := g) rfl
      have hr2 := run_append_grow_string (P := P) w t u ty e i (.int .u8 0) ht hu hi hz ⟨g, 0, none⟩ n cap xs (by rw [hsize]; simpa using hxl) holds s (by omega) (by unfold maxLen at h63; omega) (by rw [hby]; exact growslice_fits (by omega) (by omega))
      rw [hr] at hr2
      injection hr2 with e1 _
      rw [e1]
      exact .inr ⟨_, rfl, Nat.le_refl _⟩
theorem strCells_bytes (s : ByteArray) : strCells s = bytes s.data.toList := rfl
/-- append(w.out, s...) of a string, at a step of a drawn region. -/
theorem step_append_text {ops : Array Oper} {o : Oper} {a : Act} {K : Act → World → Prop} {Q : Exit → Act → World → Prop} {E : Prop} (hgd : o.guard = none) (sl x : Operand) (t u : TypeId)
    (ho : o.op = .call { callee := .builtin .append, args := #[sl, x], argTypes := #[t, u] })
    (i : TypeInfo) (ht : P.underlying t = some (.slice 5)) (hu : P.underlying u = some .string) (hi : P.info? 5 = some i) (hz : i.zero = some (.int .u8 0)) (hsize : i.size = 1) (hby : i.bytes = 1)
    {F : Nat} {v : Value} {out : Bs} {e : Int} (hW : WrV w F v out e) (hs : a.eval sl = v) (s : ByteArray) (hx : a.eval x = .string s) (hn : out.length + s.size < 1099511627776)
    (h : ∀ A m c w', w'.cell? ⟨F, 0, none⟩ = some v → w'.frozen? ⟨F, 0, none⟩ = false → Wr (w'.setCell ⟨F, 0, none⟩ (.slice A m c)) F (out ++ s.data.toList) e → Wt F w (w'.setCell ⟨F, 0, none⟩ (.slice A m c)) → K (a.put o.dst (.slice A m c)) w') :
    if Region.wanted o (yielded ops a.tmps) = true then Oper.wp P o a w K Q else E := by
  have hw : Region.wanted o (yielded ops a.tmps) = true := by simp [Region.wanted, hgd]
  have hlt := hW.lt
  have hrow := hW.row
  rw [if_pos hw]
  obtain ⟨v', w', hr, hown, hg, hat⟩ := run_append_text (P := P) (w := w) (F + 1) t u o.type 5 i ht hu hi hz hsize hby v out.length (bytes out) hW.own s (by unfold maxLen; omega) (by omega) hlt
  have hown' : w'.ownsRow (F + 1) 5 1 v' (out ++ s.data.toList).length (bytes (out ++ s.data.toList)) := by
    rw [bytes_app, List.length_append, show s.data.toList.length = s.size by rw [Array.length_toList]; rfl]; exact hown
  obtain ⟨h1, h2⟩ := hW.store (Below.refl _ _) hown' hg hat
  have hF : w'.heap[F]? = w.heap[F]? := hg.block F hlt (fun he => by have := (hrow F he.symm).1; omega)
  obtain ⟨A, m, c, rfl⟩ := own_form hown'
  unfold Oper.wp execOp
  simp only [ho, resolve, invoke, builtin, Sem.run_bind, Sem.run_pure, Result.andThen_ok, List.map_toArray, List.map_cons, List.map_nil, hs, hx, hr]
  exact h A m c w' ((World.cell?_of_block (w := w) hF).trans hW.c0) ((World.frozen?_of_block (w := w) hF).trans hW.f0) h1 h2
end
section
variable (F : Nat) (o : Bs) (e : Int) (w : World)
set_option maxRecDepth 100000 in
set_option maxHeartbeats 4000000 in
theorem wvalue_any (x : V3) (hg : gV x) (hs : x.s.size ≤ 1000000) (h : Wr w F o e) (ho : o.length + x.s.size + 30 ≤ 1000000000) :
    Calls Tryz.prog 33 #[.pointer (some ⟨F, 0, none⟩), .agg #[.int .i64 x.q, .int .i64 x.n, .string x.s]] w (Wrs F (eV x) (x.s.size + 30) o e w) := by
  obtain ⟨q, n, s⟩ := x
  obtain ⟨hq, hn⟩ := hg
  simp only at hq hn hs ho ⊢
  have HQ := hide hq
  have HN := hide hn
  have HB := hide (Bx.new h [.int .i64 q, .int .i64 n, .string s] 49)
  have HW := hide (h.laid (.cells #[.int .i64 q, .int .i64 n, .string s] 49))
  have HT := hide (Wt.laid h (.cells #[.int .i64 q, .int .i64 n, .string s] 49))
  have HC := hide (fun w => check_any q n s w (by unfold maxLen; omega))
  obtain ⟨i0, hi0, hz0, hz1, hz2⟩ := info_parts info_u8
  have hl := h.lt
  clear h hq hn
  go_enter Tryz.func33, Tryz.ntmps33
  go_wp2_with fail
  refine (HC.out _).mono ?_
  rintro en w1 ⟨rfl, hb⟩
  replace HT := hide (HT.out.trans (Wt.of_below hb (HW.out.lt)))
  replace HB := hide (HB.out.keep (Wt.of_below hb HW.out.lt))
  replace HW := hide (HW.out.keep hb)
  clear hb
  by_cases hc : checkC q n s.size = 0
  · have t1 : (checkC q n s.size != 0) = false := bne_eq_false_iff_eq.2 hc
    have HCC := hide hc
    have hck := checkC_ok hc
    clear hc
    by_cases h2 : q = 2
    · subst h2
      have HS : Hid (s.size ≤ 64) := hide (by omega)
      have HE : Hid (eV ⟨2, n, s⟩ = andE (eN 2) (andE (eN s.size) (.ok s.data.toList))) := hide (by unfold eV; rw [if_neg (fun h => h HCC.out)]; rfl)
      clear hck
      have hx := HB.out.2
      have x0 := hx 0 _ rfl
      have x2 := hx 2 _ rfl
      clear hx
      go_wp2_with fail
      refine (wint_ex F _ e _ 2 HQ.out HW.out (by omega)).mono ?_
      rintro en w2 ⟨rfl, hr, ht⟩
      replace HT := hide (HT.out.trans ht)
      replace HB := hide (HB.out.keep ht)
      have HR := hide hr
      have HL2 := hide (num_len HQ.out)
      clear hr ht x0 x2
      have hx := HB.out.2
      have x0 := hx 0 _ rfl
      have x2 := hx 2 _ rfl
      clear hx
      go_wp2_with fail
      refine (wint_ex F _ e _ (s.size : Int) (by have := HS.out; unfold inI; omega) HR.out (by rw [List.length_append]; have := HL2.out; omega)).mono ?_
      rintro en w3 ⟨rfl, hr, ht⟩
      replace HT := hide (HT.out.trans ht)
      replace HB := hide (HB.out.keep ht)
      have HL3 : Hid ((num (s.size : Int)).length ≤ 10) := hide (num_len (by have := HS.out; unfold inI; omega))
      obtain ⟨v, hv⟩ := hr
      have HV := hide hv
      have hc0 := hv.c0
      clear hv ht x0 x2
      have hx := HB.out.2
      have x2 := hx 2 _ rfl
      clear hx
      go_wp2_with fail
      go_region_law (refine step_append_text rfl _ _ _ _ rfl i0 Tryz.underlying92 Tryz.underlying9 hi0 hz0 hz1 hz2 (w := w3.drew) ⟨HV.out.c0, HV.out.c1, HV.out.f0, HV.out.f1, HV.out.own⟩ (by rfl) s (by rfl) (by rw [List.length_append, List.length_append]; have := HL2.out; have := HL3.out; have := HS.out; omega) ?_; intro A' m' c' w4 hc hf hr ht)
      all_goals
        have HR := hide hr
        replace HT := hide (HT.out.trans ht.undrew)
        clear hr ht hc0 x2
        go_end0
        refine ⟨rfl, _, _, ?_, HR.out, HT.out⟩
        rw [HE.out]
        refine Wd.more ((Wd.num HQ.out o e).and ((Wd.num (n := (s.size : Int)) (by have := HS.out; unfold inI; omega) _ e).and (Wd.raw (n := s.size) (by rw [Array.length_toList]; exact Nat.le_refl _) _ e))) (by omega)
    · have HE : Hid (eV ⟨q, n, s⟩ = andE (eN q) (eN n)) := hide (by unfold eV; rw [if_neg (fun h => h HCC.out), if_neg h2])
      have t2 : (q != 2) = true := bne_iff_ne.2 h2
      have hx := HB.out.2
      have x0 := hx 0 _ rfl
      have x1 := hx 1 _ rfl
      clear hx hck h2
      go_wp2_with fail
      refine (wint_ex F _ e _ q HQ.out HW.out (by omega)).mono ?_
      rintro en w2 ⟨rfl, hr, ht⟩
      replace HT := hide (HT.out.trans ht)
      replace HB := hide (HB.out.keep ht)
      have HR := hide hr
      have HL2 := hide (num_len HQ.out)
      clear hr ht x0 x1
      have hx := HB.out.2
      have x0 := hx 0 _ rfl
      have x1 := hx 1 _ rfl
      clear hx
      go_wp2_with fail
      refine (wint_ex F _ e _ n HN.out HR.out (by rw [List.length_append]; have := HL2.out; omega)).mono ?_
      rintro en w3 ⟨rfl, hr, ht⟩
      replace HT := hide (HT.out.trans ht)
      replace HR := hide hr
      clear hr ht x0 x1
      go_wp2
      go_end0
      refine ⟨rfl, _, _, ?_, HR.out, HT.out⟩
      rw [HE.out]
      exact Wd.more ((Wd.num HQ.out o e).and (Wd.num HN.out _ e)) (by omega)
  · have t1 : (checkC q n s.size != 0) = true := bne_iff_ne.2 hc
    have HE : Hid (eV ⟨q, n, s⟩ = .error (checkC q n s.size)) := hide (if_pos hc)
    have HCC := hide hc
    clear hc
    generalize checkC q n s.size = c at *
    go_wp2_with fail
    refine (wfail_any F _ e _ c HW.out).mono ?_
    rintro en w2 ⟨rfl, hr, ht⟩
    have HR := hide hr
    replace HT := hide (HT.out.trans ht)
    clear hr ht
    go_wp2
    go_end0
    refine ⟨rfl, _, _, ?_, HR.out, HT.out⟩
    rw [HE.out]
    exact ⟨fun h => by rw [if_neg h], fun h => ⟨by rw [if_pos h], HCC.out⟩, by omega⟩
end
end Go.Proofs.YtofdcgojgcnopaaGreat
