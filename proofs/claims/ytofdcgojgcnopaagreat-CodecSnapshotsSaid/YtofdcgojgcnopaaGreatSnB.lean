/- The law of snapshots. Arguments, opened: snapshots. -/
import Derived.Test.YtofdcgojgcnopaaGreatRtA
import Derived.Test.YtofdcgojgcnopaaGreatWWb
import Derived.Test.YtofdcgojgcnopaaGreatRSnB
import Derived.Test.YtofdcgojgcnopaaGreatDDecB
import Derived.Test.YtofdcgojgcnopaaGreatDRtC
import Derived.Test.YtofdcgojgcnopaaGreatCAwake
import Derived.Test.YtofdcgojgcnopaaGreatCNz
import Derived.Test.YtofdcgojgcnopaaGreatSmA
namespace Go.Proofs.YtofdcgojgcnopaaGreat
open Go.RowKit
set_option linter.unusedVariables false
set_option linter.unusedSimpArgs false
theorem rd_grow {α : Type} {R : World → (Nat → Prop) → List Value → α → Prop} (hR : Rd R) {w w' : World} {xs : List Value} {x : α} (h : R w (· < w.heap.size) xs x) (hb : Below w.heap.size w w') : R w' (· < w'.heap.size) xs x :=
  hR.more (fun _ h => Nat.lt_of_lt_of_le h hb.size) (hR.keep (Kp.of_below hb) h)
def zSnp : Snp := ⟨0, [], []⟩
theorem opd_sn {s : Bs} {w w' : World} {en : Ending} (h : Opd pSnp (ROs RSn) (.agg #[.int .i64 0, .slice none 0 0, .slice none 0 0]) s w en w') :
    ∃ xs, en = .returned (.tuple #[.agg xs.toArray, .int .i64 (codE (openE pSnp s))]) ∧ RSn w' (· < w'.heap.size) xs (outE zSnp (openE pSnp s)) ∧ Below w.heap.size w w' := by
  obtain ⟨v, rfl, hb, hr⟩ := h
  cases ho : openE pSnp s with
  | error c =>
    rw [ho] at hr
    obtain rfl := hr
    exact ⟨[.int .i64 0, .slice none 0 0, .slice none 0 0], rfl, ⟨_, _, rfl, Lst.nil, Lst.nil, by show inI 0; unfold inI; omega⟩, hb⟩
  | ok x =>
    rw [ho] at hr
    obtain ⟨xs, rfl, hx⟩ := hr
    exact ⟨xs, rfl, rd_Sn.more (fun _ h => h.2) (rl_Sn hx), hb⟩
section
variable (w : World)
set_option maxRecDepth 100000 in
set_option maxHeartbeats 8000000 in
theorem snaps_law (x : Snp) (xs : List Value) (s : ByteArray) (hx : RSn w (· < w.heap.size) xs x) (hs : s.size ≤ maxLen) : Calls Tryz.prog 3 #[.agg xs.toArray, .string s] w (Ret (.bool true) w) := by
  unfold maxLen at hs
  have HX := hide hx
  obtain ⟨u1, u2, rfl, h1, h2, -⟩ := hx
  obtain ⟨A1, c1, rfl⟩ := h1.form
  obtain ⟨A2, c2, rfl⟩ := h2.form
  obtain ⟨mk, hmk⟩ : ∃ mk, x.number = mk := ⟨_, rfl⟩
  obtain ⟨n1, hn1⟩ : ∃ n, x.rs.length = n := ⟨_, rfl⟩
  obtain ⟨n2, hn2⟩ : ∃ n, x.os.length = n := ⟨_, rfl⟩
  rw [hmk, hn1, hn2] at HX ⊢
  clear h1 h2 hmk hn1 hn2
  have HB0 := hide (below_laid (w := w) (.cells #[.int .i64 mk, .slice A1 n1 c1, .slice A2 n2 c2] 25))
  have HFW := hide (fewsn_any (w.alloc (.cells #[.int .i64 mk, .slice A1 n1 c1, .slice A2 n2 c2] 25)) x _ (rd_grow rd_Sn HX.out HB0.out))
  have hc := fun c u h => cells_lit w [.int .i64 mk, .slice A1 n1 c1, .slice A2 n2 c2] 25 c u h
  have HBX : Hid (∀ c u, ([.int .i64 mk, .slice A1 n1 c1, .slice A2 n2 c2] : List Value)[c]? = some u → (w.alloc (.cells #[.int .i64 mk, .slice A1 n1 c1, .slice A2 n2 c2] 25)).cell? ⟨w.heap.size, c, none⟩ = some u) := hide hc
  clear hc
  go_enter Tryz.func3, Tryz.ntmps3
  go_wp2_with fail
  refine HFW.out.mono ?_
  rintro en w1 ⟨b, hbf, rfl, hb⟩
  have HBY := hide (fun c u h => keep1 hb (HBX.out c u h))
  replace HB0 := hide (bthen HB0.out hb)
  clear hb
  cases b
  · go_wp2_with fail
    refine (awake_any _).mono ?_
    rintro en w2 ⟨rfl, hb⟩
    replace HB0 := hide (bthen HB0.out hb)
    clear hb
    go_wp2
    go_ret
    exact Ret.bool rfl HB0.out
  have hps : pS x := by first | exact hbf rfl | exact hbf trivial
  have HE := hide (fun w' hb => encSn_any w' x _ (few_sn (rd_grow rd_Sn (w' := w') HX.out hb) hps) (Nat.le_trans (few_snw hps) (by decide)))
  have HRE := hide (fun w' hb => rencSn_any w' x _ (few_sn (rd_grow rd_Sn (w' := w') HX.out hb) hps) (Nat.le_trans (few_snw hps) (by decide)))
  clear hbf hps
  by_cases hl : 8000 < s.size
  · have t1 : decide ((8000 : Int) < (s.size : Int)) = true := decide_eq_true (by omega)
    go_wp2_with fail
    refine (awake_any _).mono ?_
    rintro en w2 ⟨rfl, hb⟩
    replace HB0 := hide (bthen HB0.out hb)
    clear hb
    go_wp2
    go_ret
    exact Ret.bool rfl HB0.out
  have t1 : decide ((8000 : Int) < (s.size : Int)) = false := decide_eq_false (by omega)
  have HD := hide (fun w => decSn_any s w (by omega))
  have HRD := hide (fun w => rdecSn_any s w (by omega))
  obtain ⟨S, hS⟩ : ∃ S, strE (sealE (eSnp x)) = S := ⟨_, rfl⟩
  obtain ⟨n, hn⟩ : ∃ n, numE (sealE (eSnp x)) = n := ⟨_, rfl⟩
  rw [hS, hn] at HE HRE
  clear hS hn hl
  have b0 := HBY.out 0 _ rfl
  have b1 := HBY.out 1 _ rfl
  have b2 := HBY.out 2 _ rfl
  go_wp2_with fail
  refine (HE.out _ HB0.out).mono ?_
  rintro en w2 ⟨rfl, hb⟩
  replace b0 := keep1 hb b0
  replace b1 := keep1 hb b1
  replace b2 := keep1 hb b2
  replace HB0 := hide (bthen HB0.out hb)
  clear hb
  go_wp2_with fail
  refine (HRE.out _ HB0.out).mono ?_
  rintro en w3 ⟨rfl, hb⟩
  replace HB0 := hide (bthen HB0.out hb)
  clear hb b0 b1 b2
  go_wp2_with fail
  refine (HD.out _).mono ?_
  intro en w4 ho
  obtain ⟨xs1, rfl, hr1, hb⟩ := opd_sn ho
  replace HB0 := hide (bthen HB0.out hb)
  have HR1 := hide hr1
  obtain ⟨v1, v2, rfl, k1, k2, -⟩ := hr1
  obtain ⟨E1, p1, rfl⟩ := k1.form
  obtain ⟨E2, p2, rfl⟩ := k2.form
  obtain ⟨y, hy⟩ : ∃ y, outE zSnp (openE pSnp s.data.toList) = y := ⟨_, rfl⟩
  obtain ⟨m, hm⟩ : ∃ m, codE (openE pSnp s.data.toList) = m := ⟨_, rfl⟩
  rw [hy] at HR1 ⊢
  rw [hm]
  clear hb ho k1 k2
  go_wp2_with fail
  refine (HRD.out _).mono ?_
  intro en w5 ho
  obtain ⟨xs2, rfl, hr2, hb⟩ := opd_sn ho
  obtain ⟨hb1, hz1, hx⟩ := step_box [.int .i64 y.number, .slice E1 y.rs.length p1, .slice E2 y.os.length p2] hb
  replace HB0 := hide (bthen HB0.out hb1)
  replace HR1 := hide (rd_grow rd_Sn HR1.out hb1)
  have b0 := hx 0 _ rfl
  have b1 := hx 1 _ rfl
  have b2 := hx 2 _ rfl
  have HR2 := hide hr2
  obtain ⟨v1, v2, rfl, k1, k2, -⟩ := hr2
  obtain ⟨G1, q1, rfl⟩ := k1.form
  obtain ⟨G2, q2, rfl⟩ := k2.form
  rw [hy] at HR2 ⊢
  rw [hm]
  have HB5 := hide (below_laid (w := w5) (.cells #[.int .i64 y.number, .slice G1 y.rs.length q1, .slice G2 y.os.length q2] 25))
  have HSM := hide (smsn_any _ y _ _ (rd_grow rd_Sn HR1.out HB5.out) (rd_grow rd_Sn HR2.out HB5.out))
  replace HB0 := hide (bthen HB0.out HB5.out)
  clear hb ho hb1 hx hy hm k1 k2
  go_wp2_with fail
  refine HSM.out.mono ?_
  rintro en w6 ⟨rfl, hb⟩
  replace HB0 := hide (bthen HB0.out hb)
  clear hb
  go_wp2_with fail
  refine (awake_any _).mono ?_
  rintro en w7 ⟨rfl, hb⟩
  replace HB0 := hide (bthen HB0.out hb)
  clear hb
  go_wp2
  go_ret
  exact Ret.bool rfl HB0.out
end
end Go.Proofs.YtofdcgojgcnopaaGreat

namespace Go.Proofs.YtofdcgojgcnopaaGreat
open Go.ChangeShapes Go.WideShapes Go.ChangeAt Go.RowKit Go.Deep
set_option linter.unusedVariables false
set_option linter.unusedSimpArgs false
variable {H : Type} {enc : TypeId × Value → H} {w : World} {base : Nat} {sp : Nat → Bool} {held : Bool}
theorem len6 {α : Type} {l : List α} (h : l.length = 6) : ∃ a b c d e f, l = [a, b, c, d, e, f] := by
  match l, h with
  | [a, b, c, d, e, f], _ => exact ⟨a, b, c, d, e, f, rfl⟩
theorem len8 {α : Type} {l : List α} (h : l.length = 8) : ∃ a b c d e f g i, l = [a, b, c, d, e, f, g, i] := by
  match l, h with
  | [a, b, c, d, e, f, g, i], _ => exact ⟨a, b, c, d, e, f, g, i, rfl⟩
theorem cells_point : Tryz.prog.cellsOf 124 = 2 := by kernel_rfl
theorem cells_tracker : Tryz.prog.cellsOf 42 = 4 := by kernel_rfl
theorem cells_reader : Tryz.prog.cellsOf 44 = 6 := by kernel_rfl
theorem cells_keyed : Tryz.prog.cellsOf 55 = 8 := by kernel_rfl
theorem cells_operator : Tryz.prog.cellsOf 47 = 2 := by kernel_rfl
theorem cells_snapshot : Tryz.prog.cellsOf 25 = 3 := by kernel_rfl
theorem cells_ints : Tryz.prog.cellsOf 39 = 1 := by kernel_rfl
theorem cells_points : Tryz.prog.cellsOf 40 = 1 := by kernel_rfl
theorem cells_keyeds : Tryz.prog.cellsOf 45 = 1 := by kernel_rfl
theorem cells_readers : Tryz.prog.cellsOf 22 = 1 := by kernel_rfl
theorem cells_operators : Tryz.prog.cellsOf 23 = 1 := by kernel_rfl
instance : Inhabited Pnt := ⟨⟨0, 0⟩⟩
instance : Inhabited Rdr := ⟨⟨0, 0, 0, [], [], 0⟩⟩
instance : Inhabited Kyd := ⟨⟨0, V3.z, ⟨0, [], [], []⟩⟩⟩
instance : Inhabited Opr := ⟨⟨[], []⟩⟩
set_option maxRecDepth 100000 in
theorem trod_int1 {fuel : Nat} {cs : List Value} {x : DataW H × List MemPlace} (h : DataW.trod enc Tryz.prog w base sp held fuel 3 cs = some x) : ∃ n : Int, RIn w (· < w.heap.size) cs n := by
  obtain ⟨n, e, -, hw⟩ := DataW.trod_int Tryz.underlying3 h
  exact ⟨n, e, wf_inI hw⟩
set_option maxRecDepth 100000 in
theorem trod_point {fuel : Nat} {cs : List Value} {x : DataW H × List MemPlace} (h : DataW.trod enc Tryz.prog w base sp held fuel 124 cs = some x) : ∃ d : Pnt, RPn w (· < w.heap.size) cs d := by
  obtain ⟨xs, n, -, -, hlen, hxl, hf⟩ := DataW.trod_struct Tryz.underlying124 h
  rw [cells_point] at hlen
  obtain ⟨c0, c1, rfl⟩ := len2 hlen
  obtain ⟨y0, y1, rfl⟩ := len2 hxl
  have h0 : DataW.trod enc Tryz.prog w base sp held n 3 [c0] = some y0 := by have := hf 0 _ rfl; simpa [cells_int, cells_ints, cells_points, cells_tracker, cells_value, cells_engine, cells_keyeds, cells_readers, cells_operators, cells_string] using this
  have h1 : DataW.trod enc Tryz.prog w base sp held n 3 [c1] = some y1 := by have := hf 1 _ rfl; simpa [cells_int, cells_ints, cells_points, cells_tracker, cells_value, cells_engine, cells_keyeds, cells_readers, cells_operators, cells_string] using this
  obtain ⟨a, rfl, ha⟩ := trod_i h0
  obtain ⟨b, rfl, hb⟩ := trod_i h1
  exact ⟨⟨a, b⟩, rfl, ha, hb⟩
set_option maxRecDepth 100000 in
theorem trod_tracker {fuel : Nat} {cs : List Value} {x : DataW H × List MemPlace} (h : DataW.trod enc Tryz.prog w base sp held fuel 42 cs = some x) : ∃ (a d : Int) (l : List Int) (k : List Pnt) (u v : Value), cs = [.int .i64 a, u, v, .int .i64 d] ∧ Lst w (· < w.heap.size) 1 RIn u l ∧ Lst w (· < w.heap.size) 2 RPn v k ∧ inI a ∧ inI d := by
  obtain ⟨xs, n, -, -, hlen, hxl, hf⟩ := DataW.trod_struct Tryz.underlying42 h
  rw [cells_tracker] at hlen
  obtain ⟨c0, c1, c2, c3, rfl⟩ := len4 hlen
  obtain ⟨y0, y1, y2, y3, rfl⟩ := len4 hxl
  have h0 : DataW.trod enc Tryz.prog w base sp held n 3 [c0] = some y0 := by have := hf 0 _ rfl; simpa [cells_int, cells_ints, cells_points, cells_tracker, cells_value, cells_engine, cells_keyeds, cells_readers, cells_operators, cells_string] using this
  have h1 : DataW.trod enc Tryz.prog w base sp held n 39 [c1] = some y1 := by have := hf 1 _ rfl; simpa [cells_int, cells_ints, cells_points, cells_tracker, cells_value, cells_engine, cells_keyeds, cells_readers, cells_operators, cells_string] using this
  have h2 : DataW.trod enc Tryz.prog w base sp held n 40 [c2] = some y2 := by have := hf 2 _ rfl; simpa [cells_int, cells_ints, cells_points, cells_tracker, cells_value, cells_engine, cells_keyeds, cells_readers, cells_operators, cells_string] using this
  have h3 : DataW.trod enc Tryz.prog w base sp held n 3 [c3] = some y3 := by have := hf 3 _ rfl; simpa [cells_int, cells_ints, cells_points, cells_tracker, cells_value, cells_engine, cells_keyeds, cells_readers, cells_operators, cells_string] using this
  obtain ⟨a, rfl, ha⟩ := trod_i h0
  obtain ⟨l, hl⟩ := trod_lst (R := RIn) Tryz.underlying39 cells_int (by decide) (fun h => trod_int1 h) h1
  obtain ⟨k, hk⟩ := trod_lst (R := RPn) Tryz.underlying40 cells_point (by decide) (fun h => trod_point h) h2
  obtain ⟨d, rfl, hd⟩ := trod_i h3
  exact ⟨a, d, l, k, _, _, rfl, hl, hk, ha, hd⟩
set_option maxRecDepth 100000 in
theorem trod_reader {fuel : Nat} {cs : List Value} {x : DataW H × List MemPlace} (h : DataW.trod enc Tryz.prog w base sp held fuel 44 cs = some x) : ∃ d : Rdr, RRd w (· < w.heap.size) cs d := by
  obtain ⟨xs, n, -, -, hlen, hxl, hf⟩ := DataW.trod_struct Tryz.underlying44 h
  rw [cells_reader] at hlen
  obtain ⟨c0, c1, c2, c3, c4, c5, rfl⟩ := len6 hlen
  obtain ⟨y0, y1, y2, rfl⟩ := len3 hxl
  have h0 : DataW.trod enc Tryz.prog w base sp held n 3 [c0] = some y0 := by have := hf 0 _ rfl; simpa [cells_int, cells_ints, cells_points, cells_tracker, cells_value, cells_engine, cells_keyeds, cells_readers, cells_operators, cells_string] using this
  have h1 : DataW.trod enc Tryz.prog w base sp held n 3 [c1] = some y1 := by have := hf 1 _ rfl; simpa [cells_int, cells_ints, cells_points, cells_tracker, cells_value, cells_engine, cells_keyeds, cells_readers, cells_operators, cells_string] using this
  have h2 : DataW.trod enc Tryz.prog w base sp held n 42 [c2, c3, c4, c5] = some y2 := by have := hf 2 _ rfl; simpa [cells_int, cells_ints, cells_points, cells_tracker, cells_value, cells_engine, cells_keyeds, cells_readers, cells_operators, cells_string] using this
  obtain ⟨a, rfl, ha⟩ := trod_i h0
  obtain ⟨b, rfl, hb⟩ := trod_i h1
  obtain ⟨c, d, l, k, u, v, e, hl, hk, hc, hd⟩ := trod_tracker h2
  simp only [List.cons.injEq, and_true] at e
  obtain ⟨rfl, rfl, rfl, rfl⟩ := e
  exact ⟨⟨a, b, c, l, k, d⟩, _, _, rfl, hl, hk, ha, hb, hc, hd⟩
set_option maxRecDepth 100000 in
theorem trod_keyed {fuel : Nat} {cs : List Value} {x : DataW H × List MemPlace} (h : DataW.trod enc Tryz.prog w base sp held fuel 55 cs = some x) : ∃ d : Kyd, RKy w (· < w.heap.size) cs d := by
  obtain ⟨xs, n, -, -, hlen, hxl, hf⟩ := DataW.trod_struct Tryz.underlying55 h
  rw [cells_keyed] at hlen
  obtain ⟨c0, c1, c2, c3, c4, c5, c6, c7, rfl⟩ := len8 hlen
  obtain ⟨y0, y1, y2, rfl⟩ := len3 hxl
  have h0 : DataW.trod enc Tryz.prog w base sp held n 3 [c0] = some y0 := by have := hf 0 _ rfl; simpa [cells_int, cells_ints, cells_points, cells_tracker, cells_value, cells_engine, cells_keyeds, cells_readers, cells_operators, cells_string] using this
  have h1 : DataW.trod enc Tryz.prog w base sp held n 49 [c1, c2, c3] = some y1 := by have := hf 1 _ rfl; simpa [cells_int, cells_ints, cells_points, cells_tracker, cells_value, cells_engine, cells_keyeds, cells_readers, cells_operators, cells_string] using this
  have h2 : DataW.trod enc Tryz.prog w base sp held n 53 [c4, c5, c6, c7] = some y2 := by have := hf 2 _ rfl; simpa [cells_int, cells_ints, cells_points, cells_tracker, cells_value, cells_engine, cells_keyeds, cells_readers, cells_operators, cells_string] using this
  obtain ⟨a, rfl, ha⟩ := trod_i h0
  obtain ⟨v, e, hg, hs⟩ := trod_value h1
  obtain ⟨g, u1, u2, u3, e2, l1, l2, l3, hm⟩ := trod_engine h2
  simp only [List.cons.injEq, and_true] at e e2
  obtain ⟨rfl, rfl, rfl⟩ := e
  obtain ⟨rfl, rfl, rfl, rfl⟩ := e2
  exact ⟨⟨a, v, g⟩, _, _, _, rfl, l1, l2, l3, ha, hg, hs, hm⟩
set_option maxRecDepth 100000 in
theorem trod_operator {fuel : Nat} {cs : List Value} {x : DataW H × List MemPlace} (h : DataW.trod enc Tryz.prog w base sp held fuel 47 cs = some x) : ∃ d : Opr, ROp w (· < w.heap.size) cs d := by
  obtain ⟨xs, n, -, -, hlen, hxl, hf⟩ := DataW.trod_struct Tryz.underlying47 h
  rw [cells_operator] at hlen
  obtain ⟨c0, c1, rfl⟩ := len2 hlen
  obtain ⟨y0, y1, rfl⟩ := len2 hxl
  have h0 : DataW.trod enc Tryz.prog w base sp held n 39 [c0] = some y0 := by have := hf 0 _ rfl; simpa [cells_int, cells_ints, cells_points, cells_tracker, cells_value, cells_engine, cells_keyeds, cells_readers, cells_operators, cells_string] using this
  have h1 : DataW.trod enc Tryz.prog w base sp held n 45 [c1] = some y1 := by have := hf 1 _ rfl; simpa [cells_int, cells_ints, cells_points, cells_tracker, cells_value, cells_engine, cells_keyeds, cells_readers, cells_operators, cells_string] using this
  obtain ⟨l, hl⟩ := trod_lst (R := RIn) Tryz.underlying39 cells_int (by decide) (fun h => trod_int1 h) h0
  obtain ⟨k, hk⟩ := trod_lst (R := RKy) Tryz.underlying45 cells_keyed (by decide) (fun h => trod_keyed h) h1
  exact ⟨⟨l, k⟩, _, _, rfl, hl, hk⟩
set_option maxRecDepth 100000 in
theorem trod_snapshot {fuel : Nat} {cs : List Value} {x : DataW H × List MemPlace} (h : DataW.trod enc Tryz.prog w base sp held fuel 25 cs = some x) : ∃ d : Snp, RSn w (· < w.heap.size) cs d := by
  obtain ⟨xs, n, -, -, hlen, hxl, hf⟩ := DataW.trod_struct Tryz.underlying25 h
  rw [cells_snapshot] at hlen
  obtain ⟨c0, c1, c2, rfl⟩ := len3 hlen
  obtain ⟨y0, y1, y2, rfl⟩ := len3 hxl
  have h0 : DataW.trod enc Tryz.prog w base sp held n 3 [c0] = some y0 := by have := hf 0 _ rfl; simpa [cells_int, cells_ints, cells_points, cells_tracker, cells_value, cells_engine, cells_keyeds, cells_readers, cells_operators, cells_string] using this
  have h1 : DataW.trod enc Tryz.prog w base sp held n 22 [c1] = some y1 := by have := hf 1 _ rfl; simpa [cells_int, cells_ints, cells_points, cells_tracker, cells_value, cells_engine, cells_keyeds, cells_readers, cells_operators, cells_string] using this
  have h2 : DataW.trod enc Tryz.prog w base sp held n 23 [c2] = some y2 := by have := hf 2 _ rfl; simpa [cells_int, cells_ints, cells_points, cells_tracker, cells_value, cells_engine, cells_keyeds, cells_readers, cells_operators, cells_string] using this
  obtain ⟨a, rfl, ha⟩ := trod_i h0
  obtain ⟨l, hl⟩ := trod_lst (R := RRd) Tryz.underlying22 cells_reader (by decide) (fun h => trod_reader h) h1
  obtain ⟨k, hk⟩ := trod_lst (R := ROp) Tryz.underlying23 cells_operator (by decide) (fun h => trod_operator h) h2
  exact ⟨⟨a, l, k⟩, _, _, rfl, hl, hk, ha⟩
set_option maxRecDepth 100000 in
theorem open_snapshot {r : Reach} {b0 : Nat} {v : Value} {d : DataW H} {ps : List MemPlace} (hval : Value.okWide Tryz.prog w r b0 25 v) (hd : DataW.Trod enc Tryz.prog w base sp held 25 v d ps) :
    ∃ (xs : List Value) (x : Snp), v = .agg xs.toArray ∧ RSn w (· < w.heap.size) xs x := by
  obtain ⟨cs, rfl, hsz⟩ := okWide_struct Tryz.underlying25 hval
  obtain ⟨fuel, hf⟩ := hd
  obtain ⟨x, hx⟩ := trod_snapshot hf
  exact ⟨cs.toList, x, by simp, hx⟩
end Go.Proofs.YtofdcgojgcnopaaGreat
