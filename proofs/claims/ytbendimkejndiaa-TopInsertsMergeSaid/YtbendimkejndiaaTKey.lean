/- stream.keyed: the key of an event. -/
import Derived.Test.YtbendimkejndiaaTJn
namespace Go.Proofs.Ytbendimkejndiaa
open Go.RowKit
set_option linter.unusedVariables false
set_option linter.unusedSimpArgs false
theorem results_ctt {fn : Func} {p u s : Tmp} {ty : TypeId} (h : fn.results = #[.cell p ty, .tmp u, .tmp s]) (tmps : Array Value) (P : Program) (w : World) :
    (results fn tmps).run P w = ((asAddr (tmps.getD p undef)).run P w).andThen fun a w₁ => ((loadVar ty a).run P w₁).andThen fun v w₂ => .ok (.tuple #[v, tmps.getD u undef, tmps.getD s undef]) w₂ := by
  simp only [results, h]
  simp [Sem.run_bind, Result.andThen]
/-- The cell of a number. -/
def RIn (_ : World) (_ : Nat → Prop) (xs : List Value) (n : Int) : Prop := xs = [.int .i64 n] ∧ inI n
theorem rd_In : Rd RIn := ⟨fun _ h => h, fun _ h => h⟩
/-- What 'keyed' returns. -/
def RetKd (key : List Int) (x : Evt) (w : World) (e : Ending) (w' : World) : Prop :=
  ∃ (y : V3) (ok : Bool) (k : Int), e = .returned (.tuple #[.agg #[.int .i64 y.q, .int .i64 y.n, .string y.s], .bool ok, .int .i64 k]) ∧ (gV y ∧ y.s.size ≤ maxLen) ∧ Below w.heap.size w w' ∧ (k = 0 ↔ keyOkE key x) ∧ (k = 0 → keyVE key x = if ok then some y else none)
theorem keyA {W w' : World} (hB : Below W.heap.size W w') {p : Addr} {v : Value} (h : W.cell? p = some v) : w'.cell? p = some v := keep1 hB h
theorem gV_z : gV V3.z ∧ V3.z.s.size ≤ maxLen := ⟨⟨by show inI 0; unfold inI; omega, by show inI 0; unfold inI; omega⟩, Nat.zero_le _⟩
set_option maxRecDepth 100000 in
set_option maxHeartbeats 8000000 in
theorem keyed_any (x : Evt) (A : Option Addr) (c : Nat) (kv : Value) (key : List Int) (w : World) {Z Y : Nat → Prop} (hv : Lst w Z 3 RV0 (.slice A x.vs.length c) x.vs) (hc : inI x.c) (hk : Lst w Y 1 RIn kv key) :
    Calls Try.prog 23 #[.agg #[.int .i64 x.a, .int .i64 x.b, .int .i64 x.c, .int .i64 x.d, .slice A x.vs.length c], kv] w (RetKd key x w) := by
  obtain ⟨a, b, t, d, l⟩ := x
  simp only at hv hc ⊢
  obtain ⟨K, kc, rfl⟩ := hk.form
  have HK := hide hk
  have HV := hide hv
  have hkl := hk.len
  have hvl := hv.len
  unfold maxLen at hkl hvl
  unfold inI at hc
  have HB := hide (bthen (below_laid (w := w) (.cells #[.int .i64 a, .int .i64 b, .int .i64 t, .int .i64 d, .slice A l.length c] 32)) (below_laid (.cells #[.int .i64 0, .int .i64 0, .string ⟨#[]⟩] 38)))
  have HX := hide ((Bl.new w [.int .i64 a, .int .i64 b, .int .i64 t, .int .i64 d, .slice A l.length c] 32).laid (.cells #[.int .i64 0, .int .i64 0, .string ⟨#[]⟩] 38))
  have HY := hide (Bl.new (w.alloc (.cells #[.int .i64 a, .int .i64 b, .int .i64 t, .int .i64 d, .slice A l.length c] 32)) [.int .i64 0, .int .i64 0, .string ⟨#[]⟩] 38)
  have hsz : (w.alloc (.cells #[.int .i64 a, .int .i64 b, .int .i64 t, .int .i64 d, .slice A l.length c] 32)).heap.size = w.heap.size + 1 := World.size_alloc _ _
  rw [hsz] at HY
  have y0 := HY.out.c 0 _ rfl
  have y1 := HY.out.c 1 _ rfl
  have y2 := HY.out.c 2 _ rfl
  have g0 := HY.out.f 0
  have g1 := HY.out.f 1
  have g2 := HY.out.f 2
  have x2 := HX.out.c 2 _ rfl
  have x4 := HX.out.c 4 _ rfl
  clear hk hv hsz
  by_cases h0 : key = []
  · subst h0
    have HKO : Hid (keyOkE [] ⟨a, b, t, d, l⟩) := hide (.inl rfl)
    have HKV : Hid (keyVE [] ⟨a, b, t, d, l⟩ = some V3.z) := hide (by simp [keyVE])
    go_enter Try.func23, Try.ntmps23
    go_wp2
    refine bodyPost_ret (v := .tuple #[.agg #[.int .i64 0, .int .i64 0, .string ⟨#[]⟩], .bool true, .int .i64 0]) (by rw [results_ctt rfl]; go_simp) rfl ?_
    exact ⟨V3.z, true, 0, rfl, gV_z, HB.out, ⟨fun _ => HKO.out, fun _ => rfl⟩, fun _ => HKV.out⟩
  · have HO : Hid (keyOkE key ⟨a, b, t, d, l⟩ ↔ 0 ≤ t ∧ t < key.length ∧ -1 ≤ key.getD t.toNat 0 ∧ key.getD t.toNat 0 < l.length) := hide ⟨fun h => h.resolve_left h0, .inr⟩
    have HKV : Hid (keyVE key ⟨a, b, t, d, l⟩ = if key.getD t.toNat 0 < 0 then none else some (l.getD (key.getD t.toNat 0).toNat V3.z)) := hide (by unfold keyVE; rw [if_neg h0])
    have hn0 : 0 < key.length := List.length_pos_iff.2 h0
    have t0 : (key.length == 0) = false := beq_eq_false_iff_ne.2 (by omega)
    obtain ⟨n, hn⟩ : ∃ n, key.length = n := ⟨_, rfl⟩
    obtain ⟨m, hm⟩ : ∃ n, l.length = n := ⟨_, rfl⟩
    have HN := hide hn
    have HM := hide hm
    rw [hn] at HK HO hkl hn0 t0 ⊢
    rw [hm] at HV HO HB HX x4 hvl ⊢
    have t0' : ((n : Int) == 0) = false := beq_eq_false_iff_ne.2 (by omega)
    clear hn hm h0
    by_cases h1 : t < 0
    · have t1 : decide (t < 0) = true := decide_eq_true h1
      have HF : Hid (¬ keyOkE key ⟨a, b, t, d, l⟩) := hide (fun h => by have := (HO.out.1 h).1; omega)
      go_enter Try.func23, Try.ntmps23
      go_wp2
      refine bodyPost_ret (v := .tuple #[.agg #[.int .i64 0, .int .i64 0, .string ⟨#[]⟩], .bool false, .int .i64 1]) (by rw [results_ctt rfl]; go_simp) rfl ?_
      exact ⟨V3.z, false, 1, rfl, gV_z, HB.out, ⟨fun h => absurd h (by decide), fun h => absurd h HF.out⟩, fun h => absurd h (by decide)⟩
    have t1 : decide (t < 0) = false := decide_eq_false h1
    obtain ⟨j, rfl⟩ : ∃ j : Nat, t = j := ⟨t.toNat, by omega⟩
    by_cases h2 : n ≤ j
    · have t2 : decide ((n : Int) ≤ (j : Int)) = true := decide_eq_true (by omega)
      have hn2 : (n : Int) ≤ (j : Int) := by omega
      have HF : Hid (¬ keyOkE key ⟨a, b, j, d, l⟩) := hide (fun h => by have := (HO.out.1 h).2.1; omega)
      go_enter Try.func23, Try.ntmps23
      go_wp2
      refine bodyPost_ret (v := .tuple #[.agg #[.int .i64 0, .int .i64 0, .string ⟨#[]⟩], .bool false, .int .i64 1]) (by rw [results_ctt rfl]; go_simp) rfl ?_
      exact ⟨V3.z, false, 1, rfl, gV_z, HB.out, ⟨fun h => absurd h (by decide), fun h => absurd h HF.out⟩, fun h => absurd h (by decide)⟩
    have hj0 : (0 : Int) ≤ (j : Int) := by omega
    have hj1 : (j : Int) < (n : Int) := by omega
    have t2 : decide ((n : Int) ≤ (j : Int)) = false := decide_eq_false (by omega)
    have hjl : j < key.length := by rw [HN.out]; omega
    obtain ⟨g, off, xs, rfl, hgY, hxl, hcc, ⟨rfl, hui⟩⟩ := HK.out.at_ hjl
    have HKU : Hid (key.getD j 0 = key[j]) := hide (by rw [List.getD_eq_getElem?_getD, List.getElem?_eq_getElem hjl]; rfl)
    have ku := keyA HB.out (hcc 0 _ rfl)
    obtain ⟨u, hu⟩ : ∃ u, key[j] = u := ⟨_, rfl⟩
    rw [hu] at HKU hui ku
    rw [Nat.mul_one, Nat.add_zero] at ku
    rw [show ((j : Int)).toNat = j from Int.toNat_natCast j, HKU.out] at HO HKV
    unfold inI at hui
    clear hu hcc hxl HKU
    by_cases h3 : u < -1
    · have t3 : decide (u < -1) = true := decide_eq_true h3
      have HF : Hid (¬ keyOkE key ⟨a, b, j, d, l⟩) := hide (fun h => by have := (HO.out.1 h).2.2.1; omega)
      go_enter Try.func23, Try.ntmps23
      go_wp2_with fail
      go_quiet (fail)
      go_wp2
      refine bodyPost_ret (v := .tuple #[.agg #[.int .i64 0, .int .i64 0, .string ⟨#[]⟩], .bool false, .int .i64 2]) (by rw [results_ctt rfl]; go_simp) rfl ?_
      exact ⟨V3.z, false, 2, rfl, gV_z, (by first | exact HB.out | exact below_drewN HB.out _ | exact ((((below_drewN HB.out _).setCell (p := ⟨w.heap.size + 1, 0, none⟩) (by show w.heap.size ≤ w.heap.size + 1; omega) _).setCell (p := ⟨w.heap.size + 1, 1, none⟩) (by show w.heap.size ≤ w.heap.size + 1; omega) _).setCell (p := ⟨w.heap.size + 1, 2, none⟩) (by show w.heap.size ≤ w.heap.size + 1; omega) _)), ⟨fun h => absurd h (by decide), fun h => absurd h HF.out⟩, fun h => absurd h (by decide)⟩
    have t3 : decide (u < -1) = false := decide_eq_false h3
    by_cases h4 : (m : Int) ≤ u
    · have t4 : decide ((m : Int) ≤ u) = true := decide_eq_true h4
      have HF : Hid (¬ keyOkE key ⟨a, b, j, d, l⟩) := hide (fun h => by have := (HO.out.1 h).2.2.2; omega)
      go_enter Try.func23, Try.ntmps23
      go_wp2_with fail
      go_quiet (fail)
      go_wp2
      refine bodyPost_ret (v := .tuple #[.agg #[.int .i64 0, .int .i64 0, .string ⟨#[]⟩], .bool false, .int .i64 2]) (by rw [results_ctt rfl]; go_simp) rfl ?_
      exact ⟨V3.z, false, 2, rfl, gV_z, (by first | exact HB.out | exact below_drewN HB.out _ | exact ((((below_drewN HB.out _).setCell (p := ⟨w.heap.size + 1, 0, none⟩) (by show w.heap.size ≤ w.heap.size + 1; omega) _).setCell (p := ⟨w.heap.size + 1, 1, none⟩) (by show w.heap.size ≤ w.heap.size + 1; omega) _).setCell (p := ⟨w.heap.size + 1, 2, none⟩) (by show w.heap.size ≤ w.heap.size + 1; omega) _)), ⟨fun h => absurd h (by decide), fun h => absurd h HF.out⟩, fun h => absurd h (by decide)⟩
    have t4 : decide ((m : Int) ≤ u) = false := decide_eq_false h4
    have HOK : Hid (keyOkE key ⟨a, b, j, d, l⟩) := hide (HO.out.2 ⟨by omega, by omega, by omega, by omega⟩)
    by_cases h5 : u = -1
    · subst h5
      have HV0 : Hid (keyVE key ⟨a, b, j, d, l⟩ = none) := hide (by rw [HKV.out, if_pos (by decide)])
      go_enter Try.func23, Try.ntmps23
      go_wp2_with fail
      go_quiet (fail)
      go_wp2
      refine bodyPost_ret (v := .tuple #[.agg #[.int .i64 0, .int .i64 0, .string ⟨#[]⟩], .bool false, .int .i64 0]) (by rw [results_ctt rfl]; go_simp) rfl ?_
      exact ⟨V3.z, false, 0, rfl, gV_z, (by first | exact HB.out | exact below_drewN HB.out _ | exact ((((below_drewN HB.out _).setCell (p := ⟨w.heap.size + 1, 0, none⟩) (by show w.heap.size ≤ w.heap.size + 1; omega) _).setCell (p := ⟨w.heap.size + 1, 1, none⟩) (by show w.heap.size ≤ w.heap.size + 1; omega) _).setCell (p := ⟨w.heap.size + 1, 2, none⟩) (by show w.heap.size ≤ w.heap.size + 1; omega) _)), ⟨fun _ => HOK.out, fun _ => rfl⟩, fun _ => HV0.out⟩
    have t5 : (u == -1) = false := beq_eq_false_iff_ne.2 h5
    obtain ⟨q, rfl⟩ : ∃ q : Nat, u = q := ⟨u.toNat, by omega⟩
    have hq0 : (0 : Int) ≤ (q : Int) := by omega
    have hq1 : (q : Int) < (m : Int) := by omega
    have hql : q < l.length := by rw [HM.out]; omega
    obtain ⟨g2, off2, ys, rfl, hg2Z, hyl, hcd, ⟨rfl, hgy, hys⟩⟩ := HV.out.at_ hql
    have HVV : Hid (keyVE key ⟨a, b, j, d, l⟩ = some l[q]) := hide (by rw [HKV.out, if_neg (by omega), Int.toNat_natCast, List.getD_eq_getElem?_getD, List.getElem?_eq_getElem hql]; rfl)
    have k0 := keyA HB.out (hcd 0 _ rfl)
    have k1 := keyA HB.out (hcd 1 _ rfl)
    have k2 := keyA HB.out (hcd 2 _ rfl)
    rw [Nat.add_zero] at k0
    obtain ⟨y, hy⟩ : ∃ y, l[q] = y := ⟨_, rfl⟩
    rw [hy] at HVV hgy hys k0 k1 k2
    have HGY := hide (And.intro hgy hys)
    clear hcd hyl hy hgy hys
    go_enter Try.func23, Try.ntmps23
    go_wp2_with fail
    go_quiet (fail)
    go_wp2_with fail
    go_region
    go_wp2
    refine bodyPost_ret (v := .tuple #[.agg #[.int .i64 y.q, .int .i64 y.n, .string y.s], .bool true, .int .i64 0]) (by rw [results_ctt rfl]; go_simp) rfl ?_
    exact ⟨y, true, 0, rfl, HGY.out, (by first | exact HB.out | exact below_drewN HB.out _ | exact ((((below_drewN HB.out _).setCell (p := ⟨w.heap.size + 1, 0, none⟩) (by show w.heap.size ≤ w.heap.size + 1; omega) _).setCell (p := ⟨w.heap.size + 1, 1, none⟩) (by show w.heap.size ≤ w.heap.size + 1; omega) _).setCell (p := ⟨w.heap.size + 1, 2, none⟩) (by show w.heap.size ≤ w.heap.size + 1; omega) _)), ⟨fun _ => HOK.out, fun _ => rfl⟩, fun _ => HVV.out⟩
end Go.Proofs.Ytbendimkejndiaa
