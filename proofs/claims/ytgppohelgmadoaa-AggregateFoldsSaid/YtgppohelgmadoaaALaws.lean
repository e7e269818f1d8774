/- The walks of five laws of layer 7. -/
import Derived.Test.YtgppohelgmadoaaAAwake
namespace Go.Proofs.Ytgppohelgmadoaa
open Go.RowKit
set_option linter.unusedVariables false
set_option linter.unusedSimpArgs false
section
variable (k c q n : Int) (s : ByteArray) (p m : Int) (t : ByteArray) (w : World)
set_option maxHeartbeats 2000000 in
theorem results_law (hs : s.size ≤ maxLen) (ht : t.size ≤ maxLen) :
    Calls Try.prog 3 #[.agg #[.int .i64 k, .int .i64 c, .int .i64 q, .int .i64 n, .string s], .agg #[.int .i64 p, .int .i64 m, .string t]] w (Ret (.bool true) w) := by
  have HX1 := hide (fun w => result_any w ⟨k, c, q, n, s⟩ ⟨p, m, t⟩ hs ht)
  have HX2 := hide (fun w => rresult_any w ⟨k, c, q, n, s⟩ ⟨p, m, t⟩ hs ht)
  generalize rsE ⟨k, c, q, n, s⟩ ⟨p, m, t⟩ = er at *
  generalize rs ⟨k, c, q, n, s⟩ ⟨p, m, t⟩ = rv at *
  obtain ⟨rq, rn, rt⟩ := rv
  have hA0 := (Box5.new w ⟨k, c, q, n, s⟩ 25).keep (below_laid (.cells #[.int .i64 p, .int .i64 m, .string t] 23))
  have hB0 := Box3.new (w.alloc (.cells #[.int .i64 k, .int .i64 c, .int .i64 q, .int .i64 n, .string s] 25)) ⟨p, m, t⟩ 23
  rw [World.size_alloc] at hB0
  go_enter Try.func3, Try.ntmps3
  go_wp2_with fail
  refine (HX1.out _).mono ?_
  rintro e w1 ⟨rfl, hb⟩
  have hA := hA0.keep hb
  have hB := hB0.keep hb
  have hbw := bthen (bthen (below_laid _) (below_laid _)) hb
  have hb9 := @below_laid w1 (.cells #[.int .i64 rq, .int .i64 rn, .string rt] 23)
  have hA := hA.keep hb9
  have hB := hB.keep hb9
  have hV := Box3.new w1 ⟨rq, rn, rt⟩ 23
  obtain ⟨⟨a0, a1, a2, a3, a4⟩, -⟩ := hA; simp only at a0 a1 a2 a3 a4; obtain ⟨⟨b0, b1, b2⟩, -⟩ := hB; simp only at b0 b1 b2
  have HV := hide hV
  have HBW := hide (bthen hbw hb9)
  clear hb hA hB hb9 hA0 hB0 hbw hV
  go_wp2_with fail
  refine (HX2.out _).mono ?_
  rintro e w2 ⟨rfl, hb⟩
  have hb9 := @below_laid w2 (.cells #[.int .i64 rq, .int .i64 rn, .string rt] 23)
  have HV := hide ((HV.out.keep hb).keep hb9)
  have HU := hide (Box3.new w2 ⟨rq, rn, rt⟩ 23)
  have HBW := hide (bthen (bthen HBW.out hb) hb9)
  clear hb hb9
  go_wp2_with fail
  refine (awake_any _).mono ?_
  rintro e w3 ⟨rfl, hb⟩
  obtain ⟨⟨v0, v1, v2⟩, -⟩ := (HV.out.keep hb); simp only at v0 v1 v2; obtain ⟨⟨u0, u1, u2⟩, -⟩ := (HU.out.keep hb); simp only at u0 u1 u2
  have HBW := hide (bthen HBW.out hb)
  clear hb
  go_wp2
  go_ret
  exact Ret.bool rfl HBW.out

set_option maxHeartbeats 2000000 in
theorem adds_law (hs : s.size ≤ maxLen) (ht : t.size ≤ maxLen) :
    Calls Try.prog 9 #[.agg #[.int .i64 k, .int .i64 c, .int .i64 q, .int .i64 n, .string s], .agg #[.int .i64 p, .int .i64 m, .string t]] w (Ret (.bool true) w) := by
  have HX1 := hide (fun w => add_any w ⟨k, c, q, n, s⟩ ⟨p, m, t⟩ hs ht)
  have HX2 := hide (fun w => radd_any w ⟨k, c, q, n, s⟩ ⟨p, m, t⟩ hs ht)
  generalize adE ⟨k, c, q, n, s⟩ ⟨p, m, t⟩ = er at *
  generalize ad ⟨k, c, q, n, s⟩ ⟨p, m, t⟩ = rv at *
  obtain ⟨rk, rc, rq, rn, rt⟩ := rv
  have hA0 := (Box5.new w ⟨k, c, q, n, s⟩ 25).keep (below_laid (.cells #[.int .i64 p, .int .i64 m, .string t] 23))
  have hB0 := Box3.new (w.alloc (.cells #[.int .i64 k, .int .i64 c, .int .i64 q, .int .i64 n, .string s] 25)) ⟨p, m, t⟩ 23
  rw [World.size_alloc] at hB0
  go_enter Try.func9, Try.ntmps9
  go_wp2_with fail
  refine (HX1.out _).mono ?_
  rintro e w1 ⟨rfl, hb⟩
  have hA := hA0.keep hb
  have hB := hB0.keep hb
  have hbw := bthen (bthen (below_laid _) (below_laid _)) hb
  have hb9 := @below_laid w1 (.cells #[.int .i64 rk, .int .i64 rc, .int .i64 rq, .int .i64 rn, .string rt] 25)
  have hA := hA.keep hb9
  have hB := hB.keep hb9
  have hV := Box5.new w1 ⟨rk, rc, rq, rn, rt⟩ 25
  obtain ⟨⟨a0, a1, a2, a3, a4⟩, -⟩ := hA; simp only at a0 a1 a2 a3 a4; obtain ⟨⟨b0, b1, b2⟩, -⟩ := hB; simp only at b0 b1 b2
  have HV := hide hV
  have HBW := hide (bthen hbw hb9)
  clear hb hA hB hb9 hA0 hB0 hbw hV
  go_wp2_with fail
  refine (HX2.out _).mono ?_
  rintro e w2 ⟨rfl, hb⟩
  have hb9 := @below_laid w2 (.cells #[.int .i64 rk, .int .i64 rc, .int .i64 rq, .int .i64 rn, .string rt] 25)
  have HV := hide ((HV.out.keep hb).keep hb9)
  have HU := hide (Box5.new w2 ⟨rk, rc, rq, rn, rt⟩ 25)
  have HBW := hide (bthen (bthen HBW.out hb) hb9)
  clear hb hb9
  go_wp2_with fail
  refine (awake_any _).mono ?_
  rintro e w3 ⟨rfl, hb⟩
  obtain ⟨⟨v0, v1, v2, v3, v4⟩, -⟩ := (HV.out.keep hb); simp only at v0 v1 v2 v3 v4; obtain ⟨⟨u0, u1, u2, u3, u4⟩, -⟩ := (HU.out.keep hb); simp only at u0 u1 u2 u3 u4
  have HBW := hide (bthen HBW.out hb)
  clear hb
  go_wp2
  go_ret
  exact Ret.bool rfl HBW.out
end
section
variable (k c q n l d p m : Int) (s t : ByteArray) (w : World)
set_option maxHeartbeats 2000000 in
theorem merges_law (hs : s.size ≤ maxLen) (ht : t.size ≤ maxLen) :
    Calls Try.prog 5 #[.agg #[.int .i64 k, .int .i64 c, .int .i64 q, .int .i64 n, .string s], .agg #[.int .i64 l, .int .i64 d, .int .i64 p, .int .i64 m, .string t]] w (Ret (.bool true) w) := by
  have HX1 := hide (fun w => merge_any w ⟨k, c, q, n, s⟩ ⟨l, d, p, m, t⟩ hs ht)
  have HX2 := hide (fun w => rmerge_any w ⟨k, c, q, n, s⟩ ⟨l, d, p, m, t⟩ hs ht)
  generalize mgE ⟨k, c, q, n, s⟩ ⟨l, d, p, m, t⟩ = er at *
  generalize mg ⟨k, c, q, n, s⟩ ⟨l, d, p, m, t⟩ = rv at *
  obtain ⟨rk, rc, rq, rn, rt⟩ := rv
  have hA0 := (Box5.new w ⟨k, c, q, n, s⟩ 25).keep (below_laid (.cells #[.int .i64 l, .int .i64 d, .int .i64 p, .int .i64 m, .string t] 25))
  have hB0 := Box5.new (w.alloc (.cells #[.int .i64 k, .int .i64 c, .int .i64 q, .int .i64 n, .string s] 25)) ⟨l, d, p, m, t⟩ 25
  rw [World.size_alloc] at hB0
  go_enter Try.func5, Try.ntmps5
  go_wp2_with fail
  refine (HX1.out _).mono ?_
  rintro e w1 ⟨rfl, hb⟩
  have hA := hA0.keep hb
  have hB := hB0.keep hb
  have hbw := bthen (bthen (below_laid _) (below_laid _)) hb
  have hb9 := @below_laid w1 (.cells #[.int .i64 rk, .int .i64 rc, .int .i64 rq, .int .i64 rn, .string rt] 25)
  have hA := hA.keep hb9
  have hB := hB.keep hb9
  have hV := Box5.new w1 ⟨rk, rc, rq, rn, rt⟩ 25
  obtain ⟨⟨a0, a1, a2, a3, a4⟩, -⟩ := hA; simp only at a0 a1 a2 a3 a4; obtain ⟨⟨b0, b1, b2, b3, b4⟩, -⟩ := hB; simp only at b0 b1 b2 b3 b4
  have HV := hide hV
  have HBW := hide (bthen hbw hb9)
  clear hb hA hB hb9 hA0 hB0 hbw hV
  go_wp2_with fail
  refine (HX2.out _).mono ?_
  rintro e w2 ⟨rfl, hb⟩
  have hb9 := @below_laid w2 (.cells #[.int .i64 rk, .int .i64 rc, .int .i64 rq, .int .i64 rn, .string rt] 25)
  have HV := hide ((HV.out.keep hb).keep hb9)
  have HU := hide (Box5.new w2 ⟨rk, rc, rq, rn, rt⟩ 25)
  have HBW := hide (bthen (bthen HBW.out hb) hb9)
  clear hb hb9
  go_wp2_with fail
  refine (awake_any _).mono ?_
  rintro e w3 ⟨rfl, hb⟩
  obtain ⟨⟨v0, v1, v2, v3, v4⟩, -⟩ := (HV.out.keep hb); simp only at v0 v1 v2 v3 v4; obtain ⟨⟨u0, u1, u2, u3, u4⟩, -⟩ := (HU.out.keep hb); simp only at u0 u1 u2 u3 u4
  have HBW := hide (bthen HBW.out hb)
  clear hb
  go_wp2
  go_ret
  exact Ret.bool rfl HBW.out
end

set_option maxHeartbeats 2000000 in
theorem short_any (A : Option Addr) (m cap : Nat) (w : World) (hm : m ≤ 9223372036854775807) :
    Calls Try.prog 14 #[.slice A m cap] w fun e w' => e = .returned (.bool (decide (m ≤ 20 ∨ (4096 ≤ m ∧ m ≤ 4105)))) ∧ w = w' := by
  go_enter Try.func14, Try.ntmps14
  go_wp2
  all_goals go_ret
  all_goals (refine ⟨congrArg (fun b => Ending.returned (.bool b)) ?_, rfl⟩)
  all_goals (try simp only [isEmpty_size, bne_iff_ne, ne_eq, bne_eq_false_iff_eq, beq_iff_eq, beq_eq_false_iff_ne, Bool.not_eq_true', Bool.not_eq_false', decide_eq_true_eq, decide_eq_false_iff_not] at *)
  all_goals (rw [Bool.eq_iff_iff]; simp only [decide_eq_true_eq, bne_iff_ne, beq_iff_eq, ne_eq, Bool.not_eq_true, reduceCtorEq, iff_true, true_iff, iff_false, false_iff, Bool.or_eq_true, Bool.and_eq_true]; omega)

/-- A list of values that has come in. -/
def InV (w : World) (v : Value) (L : List V3) : Prop := L.length ≤ 9223372036854775807 ∧ (∀ x ∈ L, x.s.size ≤ maxLen) ∧ (∃ A cap, v = .slice A L.length cap) ∧ (Row w w.heap.size 3 v L.length (flat L))
set_option maxHeartbeats 2000000 in
theorem lists_law (k : Int) (v : Value) (L : List V3) (p m : Int) (t : ByteArray) (w : World) (ht : t.size ≤ maxLen) (hv : InV w v L) :
    Calls Try.prog 4 #[.int .i64 k, v, .agg #[.int .i64 p, .int .i64 m, .string t]] w (Ret (.bool true) w) := by
  obtain ⟨hl, hsz, ⟨A, cap, rfl⟩, hrow⟩ := hv
  have HSH := hide (fun w => short_any A L.length cap w (by omega))
  by_cases hsh : L.length ≤ 20 ∨ (4096 ≤ L.length ∧ L.length ≤ 4105)
  · rw [decide_eq_true hsh] at HSH
    have HX1 := hide (fun w' (hr : Row w' w'.heap.size 3 (.slice A L.length cap) L.length (flat L)) => of_any k L ⟨p, m, t⟩ w' (.slice A L.length cap) (by omega) ht (fun _ => hsz) ⟨A, cap, rfl⟩ (fun _ => hr))
    have HX2 := hide (fun w' (hr : Row w' w'.heap.size 3 (.slice A L.length cap) L.length (flat L)) => rof_any k L ⟨p, m, t⟩ w' (.slice A L.length cap) (by omega) ht (fun _ => hsz) ⟨A, cap, rfl⟩ (fun _ => hr))
    generalize ofE k L ⟨p, m, t⟩ = er at *
    generalize ofV k L ⟨p, m, t⟩ = rv at *
    obtain ⟨rq, rn, rt⟩ := rv
    have HR := hide (hrow.laid (.cells #[.int .i64 p, .int .i64 m, .string t] 23))
    have hB0 := Box3.new w ⟨p, m, t⟩ 23
    clear hrow hsz hsh
    go_enter Try.func4, Try.ntmps4
    go_wp2_with fail
    refine (HSH.out _).mono ?_
    rintro e w' ⟨rfl, rfl⟩
    go_wp2_with fail
    refine (HX1.out _ HR.out).mono ?_
    rintro e w1 ⟨rfl, hb⟩
    have hb9 := @below_laid w1 (.cells #[.int .i64 rq, .int .i64 rn, .string rt] 23)
    have HR := hide ((HR.out.grow hb).grow hb9)
    have hB := (hB0.keep hb).keep hb9
    have HV := hide (Box3.new w1 ⟨rq, rn, rt⟩ 23)
    obtain ⟨⟨b0, b1, b2⟩, -⟩ := hB; simp only at b0 b1 b2
    have HBW := hide (bthen (bthen (below_laid _) hb) hb9)
    clear hb hb9 hB0
    go_wp2_with fail
    refine (HX2.out _ HR.out).mono ?_
    rintro e w2 ⟨rfl, hb⟩
    have hb9 := @below_laid w2 (.cells #[.int .i64 rq, .int .i64 rn, .string rt] 23)
    have HV := hide ((HV.out.keep hb).keep hb9)
    have HU := hide (Box3.new w2 ⟨rq, rn, rt⟩ 23)
    have HBW := hide (bthen (bthen HBW.out hb) hb9)
    clear hb hb9
    go_wp2_with fail
    refine (awake_any _).mono ?_
    rintro e w3 ⟨rfl, hb⟩
    obtain ⟨⟨v0, v1, v2⟩, -⟩ := (HV.out.keep hb); simp only at v0 v1 v2
    obtain ⟨⟨u0, u1, u2⟩, -⟩ := (HU.out.keep hb); simp only at u0 u1 u2
    have HBW := hide (bthen HBW.out hb)
    clear hb
    go_wp2
    go_ret
    exact Ret.bool rfl HBW.out
  · rw [decide_eq_false hsh] at HSH
    clear hsh hsz hrow
    go_enter Try.func4, Try.ntmps4
    go_wp2_with fail
    refine (HSH.out _).mono ?_
    rintro e w' ⟨rfl, rfl⟩
    go_wp2_with fail
    refine (awake_any _).mono ?_
    rintro e w3 ⟨rfl, hb⟩
    go_wp2
    go_ret
    exact Ret.bool rfl (bthen (below_laid _) hb)
end Go.Proofs.Ytgppohelgmadoaa
