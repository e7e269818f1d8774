/- The law of engines. -/
import Derived.Test.YtofdcgojgcnopaaDDecEn
import Derived.Test.YtofdcgojgcnopaaDRDecEn
import Derived.Test.YtofdcgojgcnopaaEncA
import Derived.Test.YtofdcgojgcnopaaSmA
import Derived.Test.YtofdcgojgcnopaaCAwake
import Derived.Test.YtofdcgojgcnopaaCNz
namespace Go.Proofs.Ytofdcgojgcnopaa
open Go.RowKit
set_option linter.unusedVariables false
set_option linter.unusedSimpArgs false
theorem rd_grow {α : Type} {R : World → (Nat → Prop) → List Value → α → Prop} (hR : Rd R) {w w' : World} {xs : List Value} {x : α} (h : R w (· < w.heap.size) xs x) (hb : Below w.heap.size w w') : R w' (· < w'.heap.size) xs x :=
  hR.more (fun _ h => Nat.lt_of_lt_of_le h hb.size) (hR.keep (Kp.of_below hb) h)
def zEng : Eng := ⟨0, [], [], []⟩
theorem opd_en {s : Bs} {w w' : World} {en : Ending} (h : Opd pEng (ROs REn) (.agg #[.int .i64 0, .slice none 0 0, .slice none 0 0, .slice none 0 0]) s w en w') :
    ∃ xs, en = .returned (.tuple #[.agg xs.toArray, .int .i64 (codE (openE pEng s))]) ∧ REn w' (· < w'.heap.size) xs (outE zEng (openE pEng s)) ∧ Below w.heap.size w w' := by
  obtain ⟨v, rfl, hb, hr⟩ := h
  cases ho : openE pEng s with
  | error c =>
    rw [ho] at hr
    obtain rfl := hr
    exact ⟨[.int .i64 0, .slice none 0 0, .slice none 0 0, .slice none 0 0], rfl, ⟨_, _, _, rfl, Lst.nil, Lst.nil, Lst.nil, by show inI 0; unfold inI; omega⟩, hb⟩
  | ok x =>
    rw [ho] at hr
    obtain ⟨xs, rfl, hx⟩ := hr
    exact ⟨xs, rfl, rd_En.more (fun _ h => h.2) (rl_En hx), hb⟩
section
variable (w : World)
set_option maxRecDepth 100000 in
set_option maxHeartbeats 8000000 in
theorem engines_law (x : Eng) (xs : List Value) (s : ByteArray) (hx : REn w (· < w.heap.size) xs x) (hs : s.size ≤ maxLen) : Calls Try.prog 6 #[.agg xs.toArray, .string s] w (Ret (.bool true) w) := by
  unfold maxLen at hs
  have HX := hide hx
  obtain ⟨u1, u2, u3, rfl, h1, h2, h3, -⟩ := hx
  obtain ⟨A1, c1, rfl⟩ := h1.form
  obtain ⟨A2, c2, rfl⟩ := h2.form
  obtain ⟨A3, c3, rfl⟩ := h3.form
  obtain ⟨mk, hmk⟩ : ∃ mk, x.mark = mk := ⟨_, rfl⟩
  obtain ⟨n1, hn1⟩ : ∃ n, x.wait.length = n := ⟨_, rfl⟩
  obtain ⟨n2, hn2⟩ : ∃ n, x.runs.length = n := ⟨_, rfl⟩
  obtain ⟨n3, hn3⟩ : ∃ n, x.held.length = n := ⟨_, rfl⟩
  rw [hmk, hn1, hn2, hn3] at HX ⊢
  clear h1 h2 h3 hmk hn1 hn2 hn3
  have HB0 := hide (below_laid (w := w) (.cells #[.int .i64 mk, .slice A1 n1 c1, .slice A2 n2 c2, .slice A3 n3 c3] 48))
  have HFW := hide (fewen_any (w.alloc (.cells #[.int .i64 mk, .slice A1 n1 c1, .slice A2 n2 c2, .slice A3 n3 c3] 48)) x _ (rd_grow rd_En HX.out HB0.out))
  cases hf : fewG x
  · rw [hf] at HFW
    clear hf
    go_enter Try.func6, Try.ntmps6
    go_wp2_with fail
    refine HFW.out.mono ?_
    rintro en w1 ⟨rfl, hb⟩
    replace HB0 := hide (bthen HB0.out hb)
    clear hb
    go_wp2_with fail
    refine (awake_any _).mono ?_
    rintro en w2 ⟨rfl, hb⟩
    replace HB0 := hide (bthen HB0.out hb)
    clear hb
    go_wp2
    go_ret
    exact Ret.bool rfl HB0.out
  have HE := hide (fun w' hb => encEn_any w' x _ (few_en (rd_grow rd_En (w' := w') HX.out hb) hf) (Nat.le_trans (few_enw hf) (by decide)))
  have HRE := hide (fun w' hb => rencEn_any w' x _ (few_en (rd_grow rd_En (w' := w') HX.out hb) hf) (Nat.le_trans (few_enw hf) (by decide)))
  rw [hf] at HFW
  clear hf
  by_cases hl : 4000 < s.size
  · have t1 : decide ((4000 : Int) < (s.size : Int)) = true := decide_eq_true (by omega)
    go_enter Try.func6, Try.ntmps6
    go_wp2_with fail
    refine HFW.out.mono ?_
    rintro en w1 ⟨rfl, hb⟩
    replace HB0 := hide (bthen HB0.out hb)
    clear hb
    go_wp2_with fail
    refine (awake_any _).mono ?_
    rintro en w2 ⟨rfl, hb⟩
    replace HB0 := hide (bthen HB0.out hb)
    clear hb
    go_wp2
    go_ret
    exact Ret.bool rfl HB0.out
  have t1 : decide ((4000 : Int) < (s.size : Int)) = false := decide_eq_false (by omega)
  have HD := hide (fun w => decEn_any s w (by omega))
  have HRD := hide (fun w => rdecEn_any s w (by omega))
  obtain ⟨S, hS⟩ : ∃ S, strE (sealE (eEng x)) = S := ⟨_, rfl⟩
  obtain ⟨n, hn⟩ : ∃ n, numE (sealE (eEng x)) = n := ⟨_, rfl⟩
  rw [hS, hn] at HE HRE
  clear hS hn hl
  have hc := fun c u h => cells_lit w [.int .i64 mk, .slice A1 n1 c1, .slice A2 n2 c2, .slice A3 n3 c3] 48 c u h
  have HBX : Hid (∀ c u, ([.int .i64 mk, .slice A1 n1 c1, .slice A2 n2 c2, .slice A3 n3 c3] : List Value)[c]? = some u → (w.alloc (.cells #[.int .i64 mk, .slice A1 n1 c1, .slice A2 n2 c2, .slice A3 n3 c3] 48)).cell? ⟨w.heap.size, c, none⟩ = some u) := hide hc
  clear hc
  go_enter Try.func6, Try.ntmps6
  go_wp2_with fail
  refine HFW.out.mono ?_
  rintro en w1 ⟨rfl, hb⟩
  have HBY := hide (fun c u h => keep1 hb (HBX.out c u h))
  replace HB0 := hide (bthen HB0.out hb)
  have b0 := HBY.out 0 _ rfl
  have b1 := HBY.out 1 _ rfl
  have b2 := HBY.out 2 _ rfl
  have b3 := HBY.out 3 _ rfl
  clear hb
  go_wp2_with fail
  refine (HE.out _ HB0.out).mono ?_
  rintro en w2 ⟨rfl, hb⟩
  replace b0 := keep1 hb b0
  replace b1 := keep1 hb b1
  replace b2 := keep1 hb b2
  replace b3 := keep1 hb b3
  replace HB0 := hide (bthen HB0.out hb)
  clear hb
  go_wp2_with fail
  refine (HRE.out _ HB0.out).mono ?_
  rintro en w3 ⟨rfl, hb⟩
  replace HB0 := hide (bthen HB0.out hb)
  clear hb b0 b1 b2 b3
  go_wp2_with fail
  refine (HD.out _).mono ?_
  intro en w4 ho
  obtain ⟨xs1, rfl, hr1, hb⟩ := opd_en ho
  replace HB0 := hide (bthen HB0.out hb)
  have HR1 := hide hr1
  obtain ⟨v1, v2, v3, rfl, k1, k2, k3, -⟩ := hr1
  obtain ⟨E1, p1, rfl⟩ := k1.form
  obtain ⟨E2, p2, rfl⟩ := k2.form
  obtain ⟨E3, p3, rfl⟩ := k3.form
  obtain ⟨y, hy⟩ : ∃ y, outE zEng (openE pEng s.data.toList) = y := ⟨_, rfl⟩
  obtain ⟨m, hm⟩ : ∃ m, codE (openE pEng s.data.toList) = m := ⟨_, rfl⟩
  rw [hy] at HR1 ⊢
  rw [hm]
  clear hb ho k1 k2 k3
  go_wp2_with fail
  refine (HRD.out _).mono ?_
  intro en w5 ho
  obtain ⟨xs2, rfl, hr2, hb⟩ := opd_en ho
  obtain ⟨hb1, hz1, hx⟩ := step_box [.int .i64 y.mark, .slice E1 y.wait.length p1, .slice E2 y.runs.length p2, .slice E3 y.held.length p3] hb
  replace HB0 := hide (bthen HB0.out hb1)
  replace HR1 := hide (rd_grow rd_En HR1.out hb1)
  have b0 := hx 0 _ rfl
  have b1 := hx 1 _ rfl
  have b2 := hx 2 _ rfl
  have b3 := hx 3 _ rfl
  have HR2 := hide hr2
  obtain ⟨v1, v2, v3, rfl, k1, k2, k3, -⟩ := hr2
  obtain ⟨G1, q1, rfl⟩ := k1.form
  obtain ⟨G2, q2, rfl⟩ := k2.form
  obtain ⟨G3, q3, rfl⟩ := k3.form
  rw [hy] at HR2 ⊢
  rw [hm]
  have HB5 := hide (below_laid (w := w5) (.cells #[.int .i64 y.mark, .slice G1 y.wait.length q1, .slice G2 y.runs.length q2, .slice G3 y.held.length q3] 48))
  have HSM := hide (sameen_any _ y y _ _ (rd_grow rd_En HR1.out HB5.out) (rd_grow rd_En HR2.out HB5.out))
  replace HB0 := hide (bthen HB0.out HB5.out)
  clear hb ho hb1 hx hy hm k1 k2 k3
  go_wp2_with fail
  refine HSM.out.mono ?_
  rintro en w6 ⟨bb, hbb, rfl, hb⟩
  obtain rfl : bb = true := by first | exact hbb.2 rfl | exact hbb.2 trivial
  replace HB0 := hide (bthen HB0.out hb)
  clear hb hbb
  go_wp2_with fail
  refine (awake_any _).mono ?_
  rintro en w7 ⟨rfl, hb⟩
  replace HB0 := hide (bthen HB0.out hb)
  clear hb
  go_wp2
  go_ret
  exact Ret.bool rfl HB0.out
end
end Go.Proofs.Ytofdcgojgcnopaa
