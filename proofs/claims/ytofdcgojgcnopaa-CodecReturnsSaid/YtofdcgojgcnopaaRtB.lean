/- Arguments, opened: snapshots. The law of returning. -/
import Derived.Test.YtofdcgojgcnopaaSmA
import Derived.Test.YtofdcgojgcnopaaRtA
import Derived.Test.YtofdcgojgcnopaaWWb
import Derived.Test.YtofdcgojgcnopaaDDecSn
import Derived.Test.YtofdcgojgcnopaaOpdX
import Derived.Test.YtofdcgojgcnopaaCAwake
import Derived.Test.YtofdcgojgcnopaaCNz
import Derived.Test.YtofdcgojgcnopaaCEnc
namespace Go.Proofs.Ytofdcgojgcnopaa
open Go.ChangeShapes Go.WideShapes Go.ChangeAt Go.RowKit Go.Deep
set_option linter.unusedVariables false
set_option linter.unusedSimpArgs false
variable {H : Type} {enc : TypeId × Value → H} {w : World} {base : Nat} {sp : Nat → Bool} {held : Bool}
theorem len6 {α : Type} {l : List α} (h : l.length = 6) : ∃ a b c d e f, l = [a, b, c, d, e, f] := by
  match l, h with
  | [a, b, c, d, e, f], _ => exact ⟨a, b, c, d, e, f, rfl⟩
theorem len8 {α : Type} {l : List α} (h : l.length = 8) : ∃ a b c d e f g i, l = [a, b, c, d, e, f, g, i] := by
  match l, h with
  | [a, b, c, d, e, f, g, i], _ => exact ⟨a, b, c, d, e, f, g, i, rfl⟩
theorem cells_point : Try.prog.cellsOf 174 = 2 := by kernel_rfl
theorem cells_tracker : Try.prog.cellsOf 124 = 4 := by kernel_rfl
theorem cells_reader : Try.prog.cellsOf 126 = 6 := by kernel_rfl
theorem cells_keyed : Try.prog.cellsOf 75 = 8 := by kernel_rfl
theorem cells_operator : Try.prog.cellsOf 73 = 2 := by kernel_rfl
theorem cells_snapshot : Try.prog.cellsOf 63 = 3 := by kernel_rfl
theorem cells_ints : Try.prog.cellsOf 70 = 1 := by kernel_rfl
theorem cells_points : Try.prog.cellsOf 122 = 1 := by kernel_rfl
theorem cells_keyeds : Try.prog.cellsOf 71 = 1 := by kernel_rfl
theorem cells_readers : Try.prog.cellsOf 60 = 1 := by kernel_rfl
theorem cells_operators : Try.prog.cellsOf 61 = 1 := by kernel_rfl
instance : Inhabited Pnt := ⟨⟨0, 0⟩⟩
instance : Inhabited Rdr := ⟨⟨0, 0, 0, [], [], 0⟩⟩
instance : Inhabited Kyd := ⟨⟨0, V3.z, ⟨0, [], [], []⟩⟩⟩
instance : Inhabited Opr := ⟨⟨[], []⟩⟩
set_option maxRecDepth 100000 in
theorem trod_int1 {fuel : Nat} {cs : List Value} {x : DataW H × List MemPlace} (h : DataW.trod enc Try.prog w base sp held fuel 3 cs = some x) : ∃ n : Int, RIn w (· < w.heap.size) cs n := by
  obtain ⟨n, e, -, hw⟩ := DataW.trod_int Try.underlying3 h
  exact ⟨n, e, wf_inI hw⟩
set_option maxRecDepth 100000 in
theorem trod_point {fuel : Nat} {cs : List Value} {x : DataW H × List MemPlace} (h : DataW.trod enc Try.prog w base sp held fuel 174 cs = some x) : ∃ d : Pnt, RPn w (· < w.heap.size) cs d := by
  obtain ⟨xs, n, -, -, hlen, hxl, hf⟩ := DataW.trod_struct Try.underlying174 h
  rw [cells_point] at hlen
  obtain ⟨c0, c1, rfl⟩ := len2 hlen
  obtain ⟨y0, y1, rfl⟩ := len2 hxl
  have h0 : DataW.trod enc Try.prog w base sp held n 3 [c0] = some y0 := by have := hf 0 _ rfl; simpa [cells_int, cells_ints, cells_points, cells_tracker, cells_value, cells_engine, cells_keyeds, cells_readers, cells_operators, cells_string] using this
  have h1 : DataW.trod enc Try.prog w base sp held n 3 [c1] = some y1 := by have := hf 1 _ rfl; simpa [cells_int, cells_ints, cells_points, cells_tracker, cells_value, cells_engine, cells_keyeds, cells_readers, cells_operators, cells_string] using this
  obtain ⟨a, rfl, ha⟩ := trod_i h0
  obtain ⟨b, rfl, hb⟩ := trod_i h1
  exact ⟨⟨a, b⟩, rfl, ha, hb⟩
set_option maxRecDepth 100000 in
theorem trod_tracker {fuel : Nat} {cs : List Value} {x : DataW H × List MemPlace} (h : DataW.trod enc Try.prog w base sp held fuel 124 cs = some x) : ∃ (a d : Int) (l : List Int) (k : List Pnt) (u v : Value), cs = [.int .i64 a, u, v, .int .i64 d] ∧ Lst w (· < w.heap.size) 1 RIn u l ∧ Lst w (· < w.heap.size) 2 RPn v k ∧ inI a ∧ inI d := by
  obtain ⟨xs, n, -, -, hlen, hxl, hf⟩ := DataW.trod_struct Try.underlying124 h
  rw [cells_tracker] at hlen
  obtain ⟨c0, c1, c2, c3, rfl⟩ := len4 hlen
  obtain ⟨y0, y1, y2, y3, rfl⟩ := len4 hxl
  have h0 : DataW.trod enc Try.prog w base sp held n 3 [c0] = some y0 := by have := hf 0 _ rfl; simpa [cells_int, cells_ints, cells_points, cells_tracker, cells_value, cells_engine, cells_keyeds, cells_readers, cells_operators, cells_string] using this
  have h1 : DataW.trod enc Try.prog w base sp held n 70 [c1] = some y1 := by have := hf 1 _ rfl; simpa [cells_int, cells_ints, cells_points, cells_tracker, cells_value, cells_engine, cells_keyeds, cells_readers, cells_operators, cells_string] using this
  have h2 : DataW.trod enc Try.prog w base sp held n 122 [c2] = some y2 := by have := hf 2 _ rfl; simpa [cells_int, cells_ints, cells_points, cells_tracker, cells_value, cells_engine, cells_keyeds, cells_readers, cells_operators, cells_string] using this
  have h3 : DataW.trod enc Try.prog w base sp held n 3 [c3] = some y3 := by have := hf 3 _ rfl; simpa [cells_int, cells_ints, cells_points, cells_tracker, cells_value, cells_engine, cells_keyeds, cells_readers, cells_operators, cells_string] using this
  obtain ⟨a, rfl, ha⟩ := trod_i h0
  obtain ⟨l, hl⟩ := trod_lst (R := RIn) Try.underlying70 cells_int (by decide) (fun h => trod_int1 h) h1
  obtain ⟨k, hk⟩ := trod_lst (R := RPn) Try.underlying122 cells_point (by decide) (fun h => trod_point h) h2
  obtain ⟨d, rfl, hd⟩ := trod_i h3
  exact ⟨a, d, l, k, _, _, rfl, hl, hk, ha, hd⟩
set_option maxRecDepth 100000 in
theorem trod_reader {fuel : Nat} {cs : List Value} {x : DataW H × List MemPlace} (h : DataW.trod enc Try.prog w base sp held fuel 126 cs = some x) : ∃ d : Rdr, RRd w (· < w.heap.size) cs d := by
  obtain ⟨xs, n, -, -, hlen, hxl, hf⟩ := DataW.trod_struct Try.underlying126 h
  rw [cells_reader] at hlen
  obtain ⟨c0, c1, c2, c3, c4, c5, rfl⟩ := len6 hlen
  obtain ⟨y0, y1, y2, rfl⟩ := len3 hxl
  have h0 : DataW.trod enc Try.prog w base sp held n 3 [c0] = some y0 := by have := hf 0 _ rfl; simpa [cells_int, cells_ints, cells_points, cells_tracker, cells_value, cells_engine, cells_keyeds, cells_readers, cells_operators, cells_string] using this
  have h1 : DataW.trod enc Try.prog w base sp held n 3 [c1] = some y1 := by have := hf 1 _ rfl; simpa [cells_int, cells_ints, cells_points, cells_tracker, cells_value, cells_engine, cells_keyeds, cells_readers, cells_operators, cells_string] using this
  have h2 : DataW.trod enc Try.prog w base sp held n 124 [c2, c3, c4, c5] = some y2 := by have := hf 2 _ rfl; simpa [cells_int, cells_ints, cells_points, cells_tracker, cells_value, cells_engine, cells_keyeds, cells_readers, cells_operators, cells_string] using this
  obtain ⟨a, rfl, ha⟩ := trod_i h0
  obtain ⟨b, rfl, hb⟩ := trod_i h1
  obtain ⟨c, d, l, k, u, v, e, hl, hk, hc, hd⟩ := trod_tracker h2
  simp only [List.cons.injEq, and_true] at e
  obtain ⟨rfl, rfl, rfl, rfl⟩ := e
  exact ⟨⟨a, b, c, l, k, d⟩, _, _, rfl, hl, hk, ha, hb, hc, hd⟩
set_option maxRecDepth 100000 in
theorem trod_keyed {fuel : Nat} {cs : List Value} {x : DataW H × List MemPlace} (h : DataW.trod enc Try.prog w base sp held fuel 75 cs = some x) : ∃ d : Kyd, RKy w (· < w.heap.size) cs d := by
  obtain ⟨xs, n, -, -, hlen, hxl, hf⟩ := DataW.trod_struct Try.underlying75 h
  rw [cells_keyed] at hlen
  obtain ⟨c0, c1, c2, c3, c4, c5, c6, c7, rfl⟩ := len8 hlen
  obtain ⟨y0, y1, y2, rfl⟩ := len3 hxl
  have h0 : DataW.trod enc Try.prog w base sp held n 3 [c0] = some y0 := by have := hf 0 _ rfl; simpa [cells_int, cells_ints, cells_points, cells_tracker, cells_value, cells_engine, cells_keyeds, cells_readers, cells_operators, cells_string] using this
  have h1 : DataW.trod enc Try.prog w base sp held n 30 [c1, c2, c3] = some y1 := by have := hf 1 _ rfl; simpa [cells_int, cells_ints, cells_points, cells_tracker, cells_value, cells_engine, cells_keyeds, cells_readers, cells_operators, cells_string] using this
  have h2 : DataW.trod enc Try.prog w base sp held n 48 [c4, c5, c6, c7] = some y2 := by have := hf 2 _ rfl; simpa [cells_int, cells_ints, cells_points, cells_tracker, cells_value, cells_engine, cells_keyeds, cells_readers, cells_operators, cells_string] using this
  obtain ⟨a, rfl, ha⟩ := trod_i h0
  obtain ⟨v, e, hg, hs⟩ := trod_value h1
  obtain ⟨g, u1, u2, u3, e2, l1, l2, l3, hm⟩ := trod_engine h2
  simp only [List.cons.injEq, and_true] at e e2
  obtain ⟨rfl, rfl, rfl⟩ := e
  obtain ⟨rfl, rfl, rfl, rfl⟩ := e2
  exact ⟨⟨a, v, g⟩, _, _, _, rfl, l1, l2, l3, ha, hg, hs, hm⟩
set_option maxRecDepth 100000 in
theorem trod_operator {fuel : Nat} {cs : List Value} {x : DataW H × List MemPlace} (h : DataW.trod enc Try.prog w base sp held fuel 73 cs = some x) : ∃ d : Opr, ROp w (· < w.heap.size) cs d := by
  obtain ⟨xs, n, -, -, hlen, hxl, hf⟩ := DataW.trod_struct Try.underlying73 h
  rw [cells_operator] at hlen
  obtain ⟨c0, c1, rfl⟩ := len2 hlen
  obtain ⟨y0, y1, rfl⟩ := len2 hxl
  have h0 : DataW.trod enc Try.prog w base sp held n 70 [c0] = some y0 := by have := hf 0 _ rfl; simpa [cells_int, cells_ints, cells_points, cells_tracker, cells_value, cells_engine, cells_keyeds, cells_readers, cells_operators, cells_string] using this
  have h1 : DataW.trod enc Try.prog w base sp held n 71 [c1] = some y1 := by have := hf 1 _ rfl; simpa [cells_int, cells_ints, cells_points, cells_tracker, cells_value, cells_engine, cells_keyeds, cells_readers, cells_operators, cells_string] using this
  obtain ⟨l, hl⟩ := trod_lst (R := RIn) Try.underlying70 cells_int (by decide) (fun h => trod_int1 h) h0
  obtain ⟨k, hk⟩ := trod_lst (R := RKy) Try.underlying71 cells_keyed (by decide) (fun h => trod_keyed h) h1
  exact ⟨⟨l, k⟩, _, _, rfl, hl, hk⟩
set_option maxRecDepth 100000 in
theorem trod_snapshot {fuel : Nat} {cs : List Value} {x : DataW H × List MemPlace} (h : DataW.trod enc Try.prog w base sp held fuel 63 cs = some x) : ∃ d : Snp, RSn w (· < w.heap.size) cs d := by
  obtain ⟨xs, n, -, -, hlen, hxl, hf⟩ := DataW.trod_struct Try.underlying63 h
  rw [cells_snapshot] at hlen
  obtain ⟨c0, c1, c2, rfl⟩ := len3 hlen
  obtain ⟨y0, y1, y2, rfl⟩ := len3 hxl
  have h0 : DataW.trod enc Try.prog w base sp held n 3 [c0] = some y0 := by have := hf 0 _ rfl; simpa [cells_int, cells_ints, cells_points, cells_tracker, cells_value, cells_engine, cells_keyeds, cells_readers, cells_operators, cells_string] using this
  have h1 : DataW.trod enc Try.prog w base sp held n 60 [c1] = some y1 := by have := hf 1 _ rfl; simpa [cells_int, cells_ints, cells_points, cells_tracker, cells_value, cells_engine, cells_keyeds, cells_readers, cells_operators, cells_string] using this
  have h2 : DataW.trod enc Try.prog w base sp held n 61 [c2] = some y2 := by have := hf 2 _ rfl; simpa [cells_int, cells_ints, cells_points, cells_tracker, cells_value, cells_engine, cells_keyeds, cells_readers, cells_operators, cells_string] using this
  obtain ⟨a, rfl, ha⟩ := trod_i h0
  obtain ⟨l, hl⟩ := trod_lst (R := RRd) Try.underlying60 cells_reader (by decide) (fun h => trod_reader h) h1
  obtain ⟨k, hk⟩ := trod_lst (R := ROp) Try.underlying61 cells_operator (by decide) (fun h => trod_operator h) h2
  exact ⟨⟨a, l, k⟩, _, _, rfl, hl, hk, ha⟩
set_option maxRecDepth 100000 in
theorem open_snapshot {r : Reach} {b0 : Nat} {v : Value} {d : DataW H} {ps : List MemPlace} (hval : Value.okWide Try.prog w r b0 63 v) (hd : DataW.Trod enc Try.prog w base sp held 63 v d ps) :
    ∃ (xs : List Value) (x : Snp), v = .agg xs.toArray ∧ RSn w (· < w.heap.size) xs x := by
  obtain ⟨cs, rfl, hsz⟩ := okWide_struct Try.underlying63 hval
  obtain ⟨fuel, hf⟩ := hd
  obtain ⟨x, hx⟩ := trod_snapshot hf
  exact ⟨cs.toList, x, by simp, hx⟩
end Go.Proofs.Ytofdcgojgcnopaa

namespace Go.Proofs.Ytofdcgojgcnopaa
open Go.RowKit
set_option linter.unusedVariables false
set_option linter.unusedSimpArgs false
def zSnp : Snp := ⟨0, [], []⟩
theorem opd_sn {s : Bs} {w w' : World} {en : Ending} (h : Opd pSnp (ROs RSn) (.agg #[.int .i64 0, .slice none 0 0, .slice none 0 0]) s w en w') :
    ∃ xs, en = .returned (.tuple #[.agg xs.toArray, .int .i64 (codE (openE pSnp s))]) ∧ RSn w' (· < w'.heap.size) xs (outE zSnp (openE pSnp s)) ∧ Below w.heap.size w w' := by
  obtain ⟨v, rfl, hb, hr⟩ := h
  cases ho : openE pSnp s with
  | error c =>
    rw [ho] at hr
    obtain rfl := hr
    exact ⟨[.int .i64 0, .slice none 0 0, .slice none 0 0], rfl, ⟨_, _, rfl, Lst.nil, Lst.nil, by show inI 0; unfold inI; omega⟩, hb⟩
  | ok x =>
    rw [ho] at hr
    obtain ⟨xs, rfl, hx⟩ := hr
    exact ⟨xs, rfl, rd_Sn.more (fun _ h => h.2) (rl_Sn hx), hb⟩
theorem nz_En (x : Eng) : Nz (eEng x) := nz_and (nz_N _) (nz_and (nz_L nz_Ev _) (nz_and (nz_L (fun c => nz_and (nz_N _) (nz_and (nz_L (fun b => nz_and (nz_N _) (nz_and (nz_N _) (nz_and (nz_N _) (nz_N _)))) _) (nz_L (fun b => nz_and (nz_N _) (nz_N _)) _))) _) (nz_L nz_Ev _)))
theorem nz_Sn (x : Snp) : Nz (eSnp x) := nz_and (nz_N _) (nz_and (nz_L (fun r => nz_and (nz_N _) (nz_and (nz_N _) (nz_and (nz_N _) (nz_and (nz_L nz_N _) (nz_and (nz_L (fun b => nz_and (nz_N _) (nz_N _)) _) (nz_N _)))))) _) (nz_L (fun o => nz_and (nz_L nz_N _) (nz_L (fun k => nz_and (nz_N _) (nz_and (nz_V _) (nz_En _))) _)) _))
theorem str_err {r : Ex Bs} (h : numE r ≠ 0) : strE r = ⟨#[]⟩ := by
  cases r with
  | error c => rfl
  | ok b => exact absurd rfl h
section
variable (w : World)
set_option maxRecDepth 100000 in
set_option maxHeartbeats 16000000 in
theorem returns_law (x : Snp) (xs : List Value) (hx : RSn w (· < w.heap.size) xs x) : Calls Try.prog 8 #[.agg xs.toArray] w (Ret (.bool true) w) := by
  have HX := hide hx
  have HG := hide (g_Sn hx)
  obtain ⟨nr, rds, ops⟩ := x
  obtain ⟨u1, u2, rfl, h1, h2, -⟩ := hx
  obtain ⟨A1, c1, rfl⟩ := h1.form
  obtain ⟨A2, c2, rfl⟩ := h2.form
  simp only at *
  have g2 := h2.len
  unfold maxLen at g2
  obtain ⟨n1, hn1⟩ : ∃ n, rds.length = n := ⟨_, rfl⟩
  obtain ⟨n2, hn2⟩ : ∃ n, ops.length = n := ⟨_, rfl⟩
  rw [hn1, hn2] at HX
  rw [hn1, hn2]
  rw [hn2] at h2 g2
  have HM := hide hn2
  have hB := below_laid (w := w) (.cells #[.int .i64 nr, .slice A1 n1 c1, .slice A2 n2 c2] 63)
  have hX := cells_lit w [.int .i64 nr, .slice A1 n1 c1, .slice A2 n2 c2] 63
  clear hn1 hn2 h1
  go_enter Try.func8, Try.ntmps8
  go_wp2_with fail
  obtain ⟨W0, hW⟩ : ∃ W0, w.alloc (.cells #[.int .i64 nr, .slice A1 n1 c1, .slice A2 n2 c2] 63) = W0 := ⟨_, rfl⟩
  rw [hW] at hB ⊢
  have HBX : Hid (∀ c u, ([.int .i64 nr, .slice A1 n1 c1, .slice A2 n2 c2] : List Value)[c]? = some u → W0.cell? ⟨w.heap.size, c, none⟩ = some u) := hide (by rw [← hW]; exact hX)
  have HB00 := hide hB
  have HV2 := hide (h2.grow rd_Op hB)
  replace HX := hide (rd_grow rd_Sn HX.out hB)
  clear hW hB hX h2
  refine (fewsn_any W0 _ _ HX.out).mono ?_
  rintro en w1 ⟨b, hb, rfl, hbb⟩
  have HB := hide hbb
  have HFW := hide hb
  have x0 := keep1 hbb (HBX.out 0 _ rfl)
  have x1 := keep1 hbb (HBX.out 1 _ rfl)
  have x2 := keep1 hbb (HBX.out 2 _ rfl)
  clear hb hbb
  cases b
  · go_wp2_with fail
    refine (awake_any _).mono ?_
    rintro en w2 ⟨rfl, hb⟩
    replace HB := hide (bthen HB.out hb)
    clear hb
    go_wp2
    go_ret
    exact Ret.bool rfl (HB00.out.trans (HB.out.mono HB00.out.size))
  have hps : pS ⟨nr, rds, ops⟩ := by first | exact HFW.out rfl | exact HFW.out trivial
  have HPS := hide hps
  have HE := hide (encSn_any w1 _ _ (few_sn (rd_grow rd_Sn HX.out HB.out) hps) (Nat.le_trans (few_snw hps) (by decide)))
  clear hps
  go_wp2_with fail
  refine HE.out.mono ?_
  rintro en w2 ⟨rfl, hb⟩
  replace HB := hide (bthen HB.out hb)
  clear hb x0 x1 x2 HE
  have x0 := keep1 HB.out (HBX.out 0 _ rfl)
  have x1 := keep1 HB.out (HBX.out 1 _ rfl)
  have x2 := keep1 HB.out (HBX.out 2 _ rfl)
  rcases nz_num (nz_seal (nz_Sn ⟨nr, rds, ops⟩)) with ⟨s, hs⟩ | hn
  · have hS : strE (sealE (eSnp ⟨nr, rds, ops⟩)) = bstr s := by rw [hs]; rfl
    have hN : numE (sealE (eSnp ⟨nr, rds, ops⟩)) = 0 := by rw [hs]; rfl
    have HPT := hide (parts HG.out hs)
    have HOK := hide (open_seal inv_Snp HG.out hs)
    have HSL : Hid (s.length ≤ 1048576) := hide (by obtain ⟨b, -, -, h3, h4⟩ := seal_form hs; omega)
    rw [hS, hN]
    have HDC := hide (decSn_any (bstr s) w2 (by rw [bstr_size]; have := HSL.out; omega))
    rw [bstr_data] at HDC
    obtain ⟨S, hS2⟩ : ∃ S, bstr s = S := ⟨_, rfl⟩
    rw [hS2] at HDC ⊢
    clear hS hN hs hS2
    go_wp2_with fail
    refine HDC.out.mono ?_
    intro en w3 ho
    obtain ⟨xs1, rfl, hr1, hb⟩ := opd_sn ho
    rw [HOK.out] at hr1 ⊢
    replace HB := hide (bthen HB.out hb)
    have HR1 : Hid (RSn w3 (· < w3.heap.size) xs1 ⟨nr, rds, ops⟩) := hide hr1
    obtain ⟨v1, v2, rfl, k1, k2, -⟩ := HR1.out
    obtain ⟨E1, p1, rfl⟩ := k1.form
    obtain ⟨E2, p2, rfl⟩ := k2.form
    have tc : codE (.ok (⟨nr, rds, ops⟩ : Snp)) = 0 := rfl
    rw [tc]
    simp only at HR1 ⊢
    obtain ⟨a1, ha1⟩ : ∃ n, rds.length = n := ⟨_, rfl⟩
    obtain ⟨a2, ha2⟩ : ∃ n, ops.length = n := ⟨_, rfl⟩
    rw [ha1, ha2] at HR1 ⊢
    have HB3 := hide (below_laid (w := w3) (.cells #[.int .i64 nr, .slice E1 a1 p1, .slice E2 a2 p2] 63))
    have HSM := hide (smsn_any _ _ _ _ (rd_grow rd_Sn HX.out (bthen HB.out HB3.out)) (rd_grow rd_Sn HR1.out HB3.out))
    clear hb ho hr1 x0 x1 x2 k1 k2 tc HDC ha1 ha2
    have x0 := keep1 HB.out (HBX.out 0 _ rfl)
    have x1 := keep1 HB.out (HBX.out 1 _ rfl)
    have x2 := keep1 HB.out (HBX.out 2 _ rfl)
    have hz3 : w.heap.size < w3.heap.size := World.block_lt_of_cell? w3 _ x0
    go_wp2_with fail
    refine HSM.out.mono ?_
    rintro en w4 ⟨rfl, hb⟩
    replace HB := hide (bthen (bthen HB.out HB3.out) hb)
    clear hb x0 x1 x2 HSM HB3
    have x2 := keep1 HB.out (HBX.out 2 _ rfl)
    go_wp2
    go_loopw [51] (fun i wr => ∃ j : Nat, j ≤ n2 ∧ i = .int .i64 j ∧ Hid (Below W0.heap.size W0 wr)) (fun i _ => n2 - (intOf i).toNat)
    case atStart => exact ⟨0, by omega, rfl, HB⟩
    case round =>
      clear HB x2
      obtain ⟨j, hj, rfl, HB⟩ := hrel
      obtain ⟨wo, rfl⟩ : ∃ wo : World, wo = wr := ⟨_, rfl⟩
      by_cases hlt : j < n2
      · have hjl : j < ops.length := by rw [HM.out]; exact hlt
        obtain ⟨g, off, ys, e2, hg, hxl, hc, hR⟩ := HV2.out.at_ hjl
        cases e2
        have HPM := hide (List.getElem_mem hjl)
        obtain ⟨p, hp⟩ : ∃ p, ops[j] = p := ⟨_, rfl⟩
        rw [hp] at hR HPM
        obtain ⟨va, vb, rfl, hva, hvb⟩ := hR
        obtain ⟨D1, q1, rfl⟩ := hva.form
        obtain ⟨D2, q2, rfl⟩ := hvb.form
        have k0 := keep1 HB.out (hc 0 _ rfl)
        have k1 := keep1 HB.out (hc 1 _ rfl)
        rw [Nat.add_zero] at k0
        have hl2 := hvb.len
        unfold maxLen at hl2
        obtain ⟨b, hb⟩ : ∃ b, p.engs.length = b := ⟨_, rfl⟩
        rw [hb] at k1 hl2 hvb
        have HMB := hide hb
        have HVB := hide hvb
        have hu0 : (0 : Int) ≤ (j : Int) := by omega
        have hu1 : (j : Int) < (n2 : Int) := by omega
        have HBI := hide (bthen HB.out (below_laid (.cells #[.slice D1 p.marks.length q1, .slice D2 b q2] 73)))
        clear hp hc hxl hb hva hvb
        go_wp2
        go_loopw [58] (fun i wi => ∃ q : Nat, q ≤ b ∧ i = .int .i64 q ∧ Hid (Below W0.heap.size W0 wi)) (fun i _ => b - (intOf i).toNat)
        case atStart => exact ⟨0, by omega, rfl, HBI⟩
        case round =>
          clear HBI k0 k1
          obtain ⟨q, hq, rfl, HC⟩ := hrel
          obtain ⟨wi, rfl⟩ : ∃ wi : World, wi = wr := ⟨_, rfl⟩
          by_cases hlq : q < b
          · have hql : q < p.engs.length := by rw [HMB.out]; exact hlq
            obtain ⟨g3, off3, zs, e3, hg3, hzl, hcz, hRz⟩ := HVB.out.at_ hql
            cases e3
            have HZM := hide (List.getElem_mem hql)
            obtain ⟨z, hz⟩ : ∃ z, p.engs[q] = z := ⟨_, rfl⟩
            rw [hz] at hRz HZM
            obtain ⟨vc, vd, ve, rfl, a1, a2, a3, -, -, hks, a4⟩ := hRz
            obtain ⟨F1, f1, rfl⟩ := a1.form
            obtain ⟨F2, f2, rfl⟩ := a2.form
            obtain ⟨F3, f3, rfl⟩ := a3.form
            have HREN := hide (fun (w' : World) (h : Below W0.heap.size W0 w') => (⟨_, _, _, rfl, a1.grow rd_Ev0 h, a2.grow rd_Cf h, a3.grow rd_Ev0 h, a4⟩ : REn w' (· < w'.heap.size) [.int .i64 z.eng.mark, .slice F1 z.eng.wait.length f1, .slice F2 z.eng.runs.length f2, .slice F3 z.eng.held.length f3] z.eng))
            have HRL := hide (fun (w' : World) (h : Below W0.heap.size W0 w') => a3.grow rd_Ev0 h)
            have hfg : fewG z.eng = true := ((HPS.out.2.2.2 p HPM.out).2.2 z HZM.out).2
            have hfh : fewE z.eng.held = true := by unfold fewG at hfg; simp only [Bool.and_eq_true] at hfg; exact hfg.2.2.2
            obtain ⟨t, u, ⟨ht1, ht2, ht3⟩, hu1', hu2, hu3⟩ := HPT.out p HPM.out z HZM.out
            have HEE := hide (fun w' hb => encEn_any w' z.eng _ (few_en (HREN.out w' hb) hfg) (Nat.le_trans (few_enw hfg) (by decide)))
            have HEL := hide (fun w' hb => encL_any w' _ z.eng.held (Nat.le_trans (few_wt hfh) (by decide)) (few_lst (HRL.out w' hb) hfh))
            have hT : strE (sealE (eEng z.eng)) = bstr t := by rw [ht1]; rfl
            have hU : strE (sealE (eL eEv z.eng.held)) = bstr u := by rw [hu1']; rfl
            have hTn : numE (sealE (eEng z.eng)) = 0 := by rw [ht1]; rfl
            have hUn : numE (sealE (eL eEv z.eng.held)) = 0 := by rw [hu1']; rfl
            rw [hT, hTn] at HEE
            rw [hU, hUn] at HEL
            have HDE := hide (fun w' => decEn_any (bstr t) w' (by rw [bstr_size]; omega))
            have HDL := hide (fun w' => decL_any (bstr u) w' (by rw [bstr_size]; omega))
            rw [bstr_data] at HDE HDL
            have HOE := hide ht2
            have HOL := hide hu2
            obtain ⟨T, hTT⟩ : ∃ T, bstr t = T := ⟨_, rfl⟩
            obtain ⟨U, hUU⟩ : ∃ U, bstr u = U := ⟨_, rfl⟩
            rw [hTT] at HEE HDE
            rw [hUU] at HEL HDL
            have m0 := keep1 HC.out (hcz 0 _ rfl)
            have m1 := keep1 HC.out (hcz 1 _ rfl)
            have m2 := keep1 HC.out (hcz 2 _ rfl)
            have m3 := keep1 HC.out (hcz 3 _ rfl)
            have m4 := keep1 HC.out (hcz 4 _ rfl)
            have m5 := keep1 HC.out (hcz 5 _ rfl)
            have m6 := keep1 HC.out (hcz 6 _ rfl)
            have m7 := keep1 HC.out (hcz 7 _ rfl)
            rw [Nat.add_zero] at m0
            have hv0 : (0 : Int) ≤ (q : Int) := by omega
            have hv1 : (q : Int) < (b : Int) := by omega
            have HC1 := hide (bthen HC.out (below_laid (.cells #[.int .i64 z.query, .int .i64 z.key.q, .int .i64 z.key.n, .string z.key.s, .int .i64 z.eng.mark, .slice F1 z.eng.wait.length f1, .slice F2 z.eng.runs.length f2, .slice F3 z.eng.held.length f3] 75)))
            clear hz hcz hzl a1 a2 a3 a4 hks hfg hfh ht1 ht2 ht3 hu1' hu2 hu3 hT hU hTn hUn hTT hUU
            go_wp2_with fail
            refine (HEE.out _ HC1.out).mono ?_
            rintro en w6 ⟨rfl, hb⟩
            obtain ⟨hb1, hz1, hx⟩ := step_box [.int .i64 z.query, .int .i64 z.key.q, .int .i64 z.key.n, .string z.key.s, .int .i64 z.eng.mark, .slice F1 z.eng.wait.length f1, .slice F2 z.eng.runs.length f2, .slice F3 z.eng.held.length f3] hb
            have HC6 := hide (bthen HC1.out hb)
            have HKB := hide hx
            clear hb hb1 hx m0 m1 m2 m3 m4 m5 m6 m7
            go_wp2_with fail
            refine (HDE.out _).mono ?_
            intro en w7 ho
            obtain ⟨xs2, rfl, hr2, hb⟩ := opd_en ho
            rw [HOE.out] at hr2 ⊢
            have HC7 := hide (bthen HC6.out hb)
            have HKB7 := hide (fun c u h => keep1 hb (HKB.out c u h))
            have HR2 : Hid (REn w7 (· < w7.heap.size) xs2 z.eng) := hide hr2
            obtain ⟨y1, y2, y3, rfl, l1, l2, l3, -⟩ := HR2.out
            obtain ⟨G1, r1, rfl⟩ := l1.form
            obtain ⟨G2, r2, rfl⟩ := l2.form
            obtain ⟨G3, r3, rfl⟩ := l3.form
            have tc2 : codE (.ok z.eng : Ex Eng) = 0 := rfl
            rw [tc2]
            have hz7 : wi.heap.size < w7.heap.size := Nat.lt_of_lt_of_le hz1 hb.size
            have b4 := HKB7.out 4 _ rfl
            have b5 := HKB7.out 5 _ rfl
            have b6 := HKB7.out 6 _ rfl
            have b7 := HKB7.out 7 _ rfl
            have HC8 := hide (bthen HC7.out (below_laid (.cells #[.int .i64 z.eng.mark, .slice G1 z.eng.wait.length r1, .slice G2 z.eng.runs.length r2, .slice G3 z.eng.held.length r3] 48)))
            clear hb ho hr2 l1 l2 l3 tc2
            go_wp2_with fail
            refine (HEL.out _ HC8.out).mono ?_
            rintro en w9 ⟨rfl, hb⟩
            obtain ⟨hb1, hz9, hx⟩ := step_box [.int .i64 z.eng.mark, .slice G1 z.eng.wait.length r1, .slice G2 z.eng.runs.length r2, .slice G3 z.eng.held.length r3] hb
            have HC9 := hide (bthen HC8.out hb)
            have HKB9 := hide (fun c u h => keep1 hb1 (HKB7.out c u h))
            have HZB9 := hide hx
            have HR9 := hide (rd_grow rd_En HR2.out hb1)
            clear hb hb1 hx b4 b5 b6 b7
            go_wp2_with fail
            refine (HDL.out _).mono ?_
            intro en w10 ho
            obtain ⟨uu, rfl, hl1, hb⟩ := opd_l ho
            rw [HOL.out] at hl1 ⊢
            have HC10 := hide (bthen HC9.out hb)
            have tc3 : codE (.ok z.eng.held : Ex (List Evt)) = 0 := rfl
            rw [tc3]
            have b4 := keep1 hb (HKB9.out 4 _ rfl)
            have b5 := keep1 hb (HKB9.out 5 _ rfl)
            have b6 := keep1 hb (HKB9.out 6 _ rfl)
            have b7 := keep1 hb (HKB9.out 7 _ rfl)
            have d0 := keep1 hb (HZB9.out 0 _ rfl)
            have d1 := keep1 hb (HZB9.out 1 _ rfl)
            have d2 := keep1 hb (HZB9.out 2 _ rfl)
            have d3 := keep1 hb (HZB9.out 3 _ rfl)
            have HSE := hide (sameen_any w10 z.eng z.eng _ _ (HREN.out _ HC10.out) (rd_grow rd_En HR9.out hb))
            have HL1 : Hid (Lst w10 (· < w10.heap.size) 5 REv0 uu z.eng.held) := hide hl1
            clear hb ho hl1 tc3
            go_wp2_with fail
            refine HSE.out.mono ?_
            rintro en w11 ⟨bb, hbb, rfl, hb⟩
            obtain rfl : bb = true := by first | exact hbb.2 rfl | exact hbb.2 trivial
            have HC11 := hide (bthen HC10.out hb)
            have HSL := hide (same_any w11 uu _ z.eng.held z.eng.held (HL1.out.grow rd_Ev0 hb) (HRL.out _ HC11.out))
            replace b7 := keep1 hb b7
            clear hb hbb b4 b5 b6 d0 d1 d2 d3
            go_wp2_with fail
            refine HSL.out.mono ?_
            rintro en w12 ⟨bb, hbb, rfl, hb⟩
            obtain rfl : bb = true := by first | exact hbb.2 rfl | exact hbb.2 trivial
            have HC12 := hide (bthen HC11.out hb)
            clear hb hbb b7
            go_wp2
            go_roundw
            case rel => exact ⟨q + 1, by omega, by go_num, HC12⟩
            case measure => simp [intOf]; omega
          · obtain rfl : q = b := by omega
            go_wp2
            go_roundw
            case rel => exact ⟨j + 1, by omega, by go_num, HC⟩
            case measure => simp [intOf]; omega
      · obtain rfl : j = n2 := by omega
        go_wp2_with fail
        refine (awake_any _).mono ?_
        rintro en w5 ⟨rfl, hb⟩
        have HB5 := hide (bthen HB.out hb)
        clear hb
        go_wp2
        go_ret
        exact Ret.bool rfl (HB00.out.trans (HB5.out.mono HB00.out.size))
  · have hS : strE (sealE (eSnp ⟨nr, rds, ops⟩)) = ⟨#[]⟩ := str_err (bne_iff_ne.1 hn)
    rw [hS]
    obtain ⟨n, hn2⟩ : ∃ n, numE (sealE (eSnp ⟨nr, rds, ops⟩)) = n := ⟨_, rfl⟩
    rw [hn2] at hn ⊢
    clear hS hn2
    go_wp2_with fail
    refine (awake_any _).mono ?_
    rintro en w3 ⟨rfl, hb⟩
    replace HB := hide (bthen HB.out hb)
    clear hb
    go_wp2
    go_ret
    exact Ret.bool rfl (HB00.out.trans (HB.out.mono HB00.out.size))
end
end Go.Proofs.Ytofdcgojgcnopaa
