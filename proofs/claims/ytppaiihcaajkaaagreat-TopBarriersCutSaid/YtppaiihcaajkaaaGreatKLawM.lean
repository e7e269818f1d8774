/- tryFew. The law's function. Arguments, opened: messages, actions. -/
import Derived.Test.YtppaiihcaajkaaaGreatKRefM
import Derived.Test.YtppaiihcaajkaaaGreatKSameM
import Derived.Test.YtppaiihcaajkaaaGreatKCut
import Derived.Test.YtppaiihcaajkaaaGreatKEqualM
namespace Go.Proofs.YtppaiihcaajkaaaGreat
open Go.RowKit
set_option linter.unusedVariables false
set_option linter.unusedSimpArgs false
def RetFew (p : Prop) (w : World) (e : Ending) (w' : World) : Prop := ∃ d : Bool, (d = true → p) ∧ e = .returned (.bool d) ∧ Below w.heap.size w w'
theorem RetFew.no {p : Prop} {w w' : World} (hb : Below w.heap.size w w') : RetFew p w (.returned (.bool false)) w' := ⟨false, by simp, rfl, hb⟩
section
variable (w : World)
set_option maxRecDepth 100000 in
set_option maxHeartbeats 16000000 in
theorem tfew_any (W0 : World) (hW : Below W0.heap.size W0 w) (l : List Msg) (A : Option Addr) (c : Nat) (hl : Lst W0 (· < W0.heap.size) 9 (RMs W0) (.slice A l.length c) l) (s : Int) :
    Calls Tryz.prog 5 #[.slice A l.length c, .int .i64 s] w (RetFew (l.length ≤ 8) w) := by
  have HL := hide (fun (w1 : World) (hb : Below w.heap.size w w1) => (show Lst w1 (· < W0.heap.size) 9 (RMs W0) (.slice A l.length c) l from hl.keep rd_Ms (Kp.of_below (hW.trans (hb.mono hW.size)))))
  have HFW := hide (fun (w1 : World) (hb : Below w.heap.size w w1) (y : Msg) (F : Option Addr) (cf : Nat) (hF : VsE W0 F cf y.e) => few4_any w1 y.e F cf (Lst.keep rd_V0 (Kp.of_below (hW.trans (hb.mono hW.size))) hF))
  have HCM := hide (fun (w1 : World) (y : Msg) (F : Option Addr) (cf : Nat) => rcheckm_any w1 y F cf)
  have HSO := hide (fun (w1 : World) (y : Msg) (F : Option Addr) (cf : Nat) => rsource_any w1 y F cf)
  have hlen := hl.len
  unfold maxLen at hlen
  obtain ⟨m, hm⟩ : ∃ m, l.length = m := ⟨_, rfl⟩
  have HM := hide hm
  rw [hm] at hlen ⊢
  clear hl hm
  go_enter Tryz.func5, Tryz.ntmps5
  by_cases h8 : 8 < m
  · have t8 : decide ((8 : Int) < (m : Int)) = true := decide_eq_true (by omega)
    go_wp2
    go_ret
    exact RetFew.no (Below.refl _ _)
  · have t8 : decide ((8 : Int) < (m : Int)) = false := decide_eq_false (by omega)
    have H8 := hide (show m ≤ 8 by omega)
    clear h8
    go_wp2
    clear t8
    go_loopw [12] (fun ix wr => ∃ j : Nat, j ≤ m ∧ ix = .int .i64 j ∧ Hid (Below w.heap.size w wr)) (fun ix _ => m - (intOf ix).toNat)
    case atStart => exact ⟨0, by omega, rfl, hide (Below.refl _ _)⟩
    case round =>
      obtain ⟨j, hj, rfl, HBR⟩ := hrel
      by_cases hlt : j < m
      · have hjl : j < l.length := by rw [HM.out]; exact hlt
        obtain ⟨g, off, xs, e2, hg, hxl, hc, hR⟩ := (HL.out wr HBR.out).at_ hjl
        obtain ⟨y, hy⟩ : ∃ y, l[j] = y := ⟨_, rfl⟩
        rw [hy] at hR
        obtain ⟨F, cf, rfl, hF, -⟩ := hR
        cases e2
        have k0 := hc 0 _ rfl
        have k1 := hc 1 _ rfl
        have k2 := hc 2 _ rfl
        have k3 := hc 3 _ rfl
        have k4 := hc 4 _ rfl
        have k5 := hc 5 _ rfl
        have k6 := hc 6 _ rfl
        have k7 := hc 7 _ rfl
        have k8 := hc 8 _ rfl
        rw [Nat.add_zero] at k0
        have hu0 : (0 : Int) ≤ (j : Int) := by omega
        have hu1 : (j : Int) < (m : Int) := by omega
        have HF := hide hF
        clear hy hc hxl hg hF
        go_upto_region 6 with (fail)
        obtain ⟨W3, hW3⟩ : ∃ W3, wr.alloc (.cells #[.int .i64 y.k, .int .i64 y.e.a, .int .i64 y.e.b, .int .i64 y.e.c, .int .i64 y.e.d, .slice F y.e.vs.length cf, .int .i64 y.s, .int .i64 y.q, .int .i64 y.t] 54) = W3 := ⟨_, rfl⟩
        have HX3 := hide (show Bl W3 wr.heap.size [.int .i64 y.k, .int .i64 y.e.a, .int .i64 y.e.b, .int .i64 y.e.c, .int .i64 y.e.d, .slice F y.e.vs.length cf, .int .i64 y.s, .int .i64 y.q, .int .i64 y.t] by rw [← hW3]; exact Bl.new wr _ _)
        have HB3 := hide (show Below w.heap.size w W3 by rw [← hW3]; exact bthen HBR.out (below_laid _))
        rw [hW3]
        clear hW3 k0 k1 k2 k3 k4 k5 k6 k7 k8
        have HFW3 := hide (HFW.out W3 HB3.out y F cf HF.out)
        have x1 := HX3.out.c 1 _ rfl
        have x2 := HX3.out.c 2 _ rfl
        have x3 := HX3.out.c 3 _ rfl
        have x4 := HX3.out.c 4 _ rfl
        have x5 := HX3.out.c 5 _ rfl
        go_wp2_with fail
        refine HFW3.out.mono ?_
        rintro e4 w4 ⟨b4, rfl, hb4⟩
        have HX4 := hide (HX3.out.keep hb4)
        have HB4 := hide (bthen HB3.out hb4)
        clear hb4 x1 x2 x3 x4 x5
        cases b4
        · go_wp2
          go_ret
          exact RetFew.no HB4.out
        · have HCM4 := hide (HCM.out w4 y F cf)
          have x0 := HX4.out.c 0 _ rfl
          have x1 := HX4.out.c 1 _ rfl
          have x2 := HX4.out.c 2 _ rfl
          have x3 := HX4.out.c 3 _ rfl
          have x4 := HX4.out.c 4 _ rfl
          have x5 := HX4.out.c 5 _ rfl
          have x6 := HX4.out.c 6 _ rfl
          have x7 := HX4.out.c 7 _ rfl
          have x8 := HX4.out.c 8 _ rfl
          go_wp2_with fail
          refine HCM4.out.mono ?_
          rintro e5 w5 ⟨n5, rfl, hb5⟩
          have HX5 := hide (HX4.out.keep hb5)
          have HB5 := hide (bthen HB4.out hb5)
          clear hb5 x0 x1 x2 x3 x4 x5 x6 x7 x8
          by_cases hn5 : n5 = 0
          · subst hn5
            have HSO5 := hide (HSO.out w5 y F cf)
            have x0 := HX5.out.c 0 _ rfl
            have x1 := HX5.out.c 1 _ rfl
            have x2 := HX5.out.c 2 _ rfl
            have x3 := HX5.out.c 3 _ rfl
            have x4 := HX5.out.c 4 _ rfl
            have x5 := HX5.out.c 5 _ rfl
            have x6 := HX5.out.c 6 _ rfl
            have x7 := HX5.out.c 7 _ rfl
            have x8 := HX5.out.c 8 _ rfl
            go_wp2_with fail
            refine HSO5.out.mono ?_
            rintro e6 w6 ⟨n6, rfl, hb6⟩
            have HB6 := hide (bthen HB5.out hb6)
            clear hb6 x0 x1 x2 x3 x4 x5 x6 x7 x8
            by_cases hn6 : n6 = s
            · have tn : (n6 != s) = false := by simp [hn6]
              clear hn6
              go_wp2
              go_roundw
              case rel => exact ⟨j + 1, by omega, by go_num, HB6⟩
              case measure => simp [intOf]; omega
            · have tn : (n6 != s) = true := by simp [hn6]
              clear hn6
              go_wp2
              go_ret
              exact RetFew.no HB6.out
          · have tn : (n5 == 0) = false := by simp [hn5]
            clear hn5
            go_wp2
            go_roundw
            case rel => exact ⟨j + 1, by omega, by go_num, HB5⟩
            case measure => simp [intOf]; omega
      · obtain rfl : j = m := by omega
        go_wp2
        go_ret
        exact ⟨true, fun _ => H8.out, rfl, HBR.out⟩
end
end Go.Proofs.YtppaiihcaajkaaaGreat

namespace Go.Proofs.YtppaiihcaajkaaaGreat
open Go.RowKit
set_option linter.unusedVariables false
set_option linter.unusedSimpArgs false
section
variable (w : World)
set_option maxRecDepth 100000 in
set_option maxHeartbeats 16000000 in
theorem law_any (v0 v1 v2 : Value) (a b : List Msg) (acts : List Int) (h0 : Lst w (· < w.heap.size) 9 (RMs w) v0 a) (h1 : Lst w (· < w.heap.size) 9 (RMs w) v1 b) (h2 : Lst w (· < w.heap.size) 1 RU8 v2 acts) :
    Calls Tryz.prog 3 #[v0, v1, v2] w (Ret (.bool true) w) := by
  obtain ⟨A0, c0, rfl⟩ := h0.form
  obtain ⟨A1, c1, rfl⟩ := h1.form
  obtain ⟨A2, c2, rfl⟩ := h2.form
  have HC := hide (tcut_any w)
  have HF0 := hide (fun (w1 : World) (hb : Below w.heap.size w w1) => tfew_any w1 w hb a A0 c0 h0 0)
  have HF1 := hide (fun (w1 : World) (hb : Below w.heap.size w w1) => tfew_any w1 w hb b A1 c1 h1 1)
  have HST := hide (fun (w1 : World) (hb : Below w.heap.size w w1) => tstart_any w1 w hb (fun i => if i = 0 then a else b) (.slice A0 a.length c0) (.slice A1 b.length c1) h0 h1)
  have HEX := hide (fun (w1 : World) (g : Nat) (f : Nat → Value) (hJ : JobAt w (fun i => if i = 0 then a else b) w1 g f job0) (ha : a.length ≤ 8) (hb : b.length ≤ 8) => texec_any w1 w (fun i => if i = 0 then a else b) g f job0 (fun _ => True) ⟨fun _ _ _ _ _ => trivial, fun _ _ _ _ _ _ _ => trivial, fun _ _ _ _ _ _ _ => trivial⟩ hJ (job0_inv fun i hi => by
    show (if i = 0 then a else b).length ≤ 8
    split <;> assumption) trivial acts A2 c2 h2)
  have HTE := hide (fun (w1 : World) (hW : Below w.heap.size w w1) (l k : List Itm) (A B : Option Addr) (c d : Nat) (hl : Lst w1 (· < w1.heap.size) 7 (RIt w) (.slice A l.length c) l) (hk : Lst w1 (· < w1.heap.size) 7 (RIt w) (.slice B k.length d) k) (hp : l.Perm k) => tequal_any w1 w hW l k A B c d hl hk hp)
  obtain ⟨na, hna⟩ : ∃ n, a.length = n := ⟨_, rfl⟩
  obtain ⟨nb, hnb⟩ : ∃ n, b.length = n := ⟨_, rfl⟩
  obtain ⟨nc, hnc⟩ : ∃ n, acts.length = n := ⟨_, rfl⟩
  rw [hna] at HF0
  rw [hnb] at HF1
  rw [hna, hnb] at HST HEX
  rw [hnc] at HEX
  rw [hna, hnb, hnc]
  clear h0 h1 h2 hna hnb hnc
  go_enter Tryz.func3, Tryz.ntmps3
  go_wp2_with fail
  refine HC.out.mono ?_
  rintro e1 w1 ⟨rfl, hb1⟩
  have HB1 := hide hb1
  have HF01 := hide (HF0.out w1 hb1)
  clear hb1 HC HF0
  go_wp2_with fail
  refine HF01.out.mono ?_
  rintro e2 w2 ⟨d2, hd2, rfl, hb2⟩
  have HD2 := hide hd2
  have HB2 := hide (bthen HB1.out hb2)
  have HF11 := hide (HF1.out w2 HB2.out)
  clear hb2 hd2 HF01 HF1
  cases d2
  · go_wp2
    go_ret
    exact ⟨rfl, HB2.out⟩
  go_wp2_with fail
  refine HF11.out.mono ?_
  rintro e3 w3 ⟨d3, hd3, rfl, hb3⟩
  have HD3 := hide hd3
  have HB3 := hide (bthen HB2.out hb3)
  clear hb3 hd3 HF11
  cases d3
  · go_wp2
    go_ret
    exact ⟨rfl, HB3.out⟩
  by_cases h60 : 60 < nc
  · have t60 : decide ((60 : Int) < (nc : Int)) = true := decide_eq_true (by omega)
    go_wp2
    go_ret
    exact ⟨rfl, HB3.out⟩
  have t60 : decide ((60 : Int) < (nc : Int)) = false := decide_eq_false (by omega)
  have HST3 := hide (HST.out w3 HB3.out)
  clear h60 HST
  go_wp2_with fail
  refine HST3.out.mono ?_
  rintro e4 w4 ⟨g, f4, rfl, hJ4, hb4⟩
  have HB4 := hide (bthen HB3.out hb4)
  have HEX4 := hide (HEX.out w4 g f4 hJ4 (HD2.out (by trivial)) (HD3.out (by trivial)))
  clear hb4 hJ4 HST3 HEX t60
  go_wp2_with fail
  refine HEX4.out.mono ?_
  rintro e5 w5 ⟨rfl, f5, J5, hJ5, hR5, -⟩
  have HJ5 := hide hJ5
  have HE5 := hide (rd80_end hR5)
  have HL5 := hide (fun k (hk : k < 2) => rows_le hR5.inv hk)
  clear hJ5 hR5 HEX4
  go_wp2
  go_loopw [30] (fun ix wr => ∃ i : Nat, i ≤ 2 ∧ ix = .int .i64 i ∧ Hid (Below w5.heap.size w5 wr)) (fun ix _ => 2 - (intOf ix).toNat)
  case atStart => exact ⟨0, by omega, rfl, hide (Below.refl _ _)⟩
  case round =>
    obtain ⟨i, hi, rfl, HBR⟩ := hrel
    by_cases hi2 : i < 2
    · have hi0 : (0 : Int) ≤ (i : Int) := by omega
      have hi1 : (i : Int) < 2 := by omega
      have HJR := hide (HJ5.out.keep HBR.out)
      obtain ⟨hn, hp, -⟩ := HE5.out i hi2
      obtain ⟨l1, -, l2⟩ := HL5.out i hi2
      have gt := HJR.out.rows (2 + i) (by omega)
      have gs := HJR.out.rows i (by omega)
      rw [show rowJ J5 (2 + i) = J5.taken i by unfold rowJ; rw [if_neg (by omega), if_pos (by omega), show 2 + i - 2 = i by omega]] at gt
      rw [show rowJ J5 i = J5.sent i by unfold rowJ; rw [if_pos hi2]] at gs
      rw [show 21 + (2 + i) = 23 + i by omega] at gt
      have lt := (gt.lst rd_It (by decide) (by unfold maxLen; omega)).more rd_It (Y := (· < wr.heap.size)) fun k hk => hk.2
      have ls := (gs.lst rd_It (by decide) (by unfold maxLen; omega)).more rd_It (Y := (· < wr.heap.size)) fun k hk => hk.2
      obtain ⟨At, ct, et⟩ := gt.form
      obtain ⟨As, cs, es⟩ := gs.form
      rw [et] at lt
      rw [es] at ls
      have k27 : wr.cell? ⟨g, 27, none⟩ = some (.bool true) := by rw [← HJR.out.ok]; exact HJR.out.bl.c 27 (by omega)
      have k15 : wr.cell? ⟨g, 15 + i * 2, none⟩ = some (.int .i64 1) := by rw [HJR.out.bl.c _ (by omega), (HJR.out.al i hi2).1, hn]
      have k23 : wr.cell? ⟨g, 23 + i, none⟩ = some (.slice At (J5.taken i).length ct) := by rw [HJR.out.bl.c _ (by omega), et]
      have k21 : wr.cell? ⟨g, 21 + i, none⟩ = some (.slice As (J5.sent i).length cs) := by rw [HJR.out.bl.c _ (by omega), es]
      have HTR := hide (fun (w6 : World) (hb : Below wr.heap.size wr w6) => HTE.out w6 (HJR.out.hw.trans (hb.mono HJR.out.hw.size)) _ _ At As ct cs (lt.below rd_It hb) (ls.below rd_It hb) hp.symm)
      clear lt ls gt gs et es hn hp l1 l2
      go_upto_region 10 with (fail)
      go_region_held3 (fun w' => w'.cell? ⟨g, 27, none⟩ = some (.bool true) ∧ w'.cell? ⟨g, 15 + i * 2, none⟩ = some (.int .i64 1) ∧ w'.cell? ⟨g, 23 + i, none⟩ = some (.slice At (J5.taken i).length ct) ∧ w'.cell? ⟨g, 21 + i, none⟩ = some (.slice As (J5.sent i).length cs))
        (first | with_reducible exact ⟨keep1 hk9 k27, keep1 hk9 k15, keep1 hk9 k23, keep1 hk9 k21⟩ | (go_keep; done))
        ((go_at_call 8; refine (HTR.out _ (by first | exact (Below.refl _ _).drew | exact Below.refl _ _)).mono ?_; rintro e8 w8 ⟨rfl, hb8⟩; have hk9 : Below wr.heap.size wr w8 := (by first | exact below_undrew hb8 | exact hb8); have HB8 := hide hk9; clear hb8))
      all_goals
        go_wp2
        go_roundw
        case rel => exact ⟨i + 1, by omega, by go_num, hide (bthen HBR.out HB8.out)⟩
        case measure => simp [intOf]; omega
    · obtain rfl : i = 2 := by omega
      go_wp2
      go_ret
      exact ⟨rfl, bthen HJ5.out.hw HBR.out⟩
end
end Go.Proofs.YtppaiihcaajkaaaGreat

namespace Go.Proofs.YtppaiihcaajkaaaGreat
open Go.ChangeShapes Go.WideShapes Go.ChangeAt Go.RowKit Go.Deep
set_option linter.unusedVariables false
set_option linter.unusedSimpArgs false
variable {H : Type} {enc : TypeId × Value → H} {w : World} {base : Nat} {sp : Nat → Bool} {held : Bool}
theorem len3 {α : Type} {l : List α} (h : l.length = 3) : ∃ a b c, l = [a, b, c] := by
  match l, h with
  | [a, b, c], _ => exact ⟨a, b, c, rfl⟩
theorem len5 {α : Type} {l : List α} (h : l.length = 5) : ∃ a b c d e, l = [a, b, c, d, e] := by
  match l, h with
  | [a, b, c, d, e], _ => exact ⟨a, b, c, d, e, rfl⟩
theorem len9 {α : Type} {l : List α} (h : l.length = 9) : ∃ a b c d e f g i j, l = [a, b, c, d, e, f, g, i, j] := by
  match l, h with
  | [a, b, c, d, e, f, g, i, j], _ => exact ⟨a, b, c, d, e, f, g, i, j, rfl⟩
instance : Inhabited V3 := ⟨V3.z⟩
instance : Inhabited Msg := ⟨⟨0, ⟨0, 0, 0, 0, []⟩, 0, 0, 0⟩⟩
theorem cells_int : Tryz.prog.cellsOf 3 = 1 := by kernel_rfl
theorem cells_value : Tryz.prog.cellsOf 72 = 3 := by kernel_rfl
theorem cells_event : Tryz.prog.cellsOf 51 = 5 := by kernel_rfl
theorem cells_message : Tryz.prog.cellsOf 54 = 9 := by kernel_rfl
theorem cells_values : Tryz.prog.cellsOf 49 = 1 := by kernel_rfl
theorem cells_string : Tryz.prog.cellsOf 9 = 1 := by kernel_rfl
theorem cells_u8 : Tryz.prog.cellsOf 5 = 1 := by kernel_rfl
theorem wf_inI {n : Int} (h : (Lit.int .i64 n).wf = true) : inI n := by
  unfold inI
  simpa [Lit.wf, IntKind.min, IntKind.max, IntKind.bits, IntKind.signed] using h
theorem wf_u8 {n : Int} (h : (Lit.int .u8 n).wf = true) : 0 ≤ n ∧ n < 256 := by
  have h1 : 0 ≤ n ∧ n ≤ 255 := by simpa [Lit.wf, IntKind.min, IntKind.max, IntKind.bits, IntKind.signed] using h
  omega
theorem trod_i {fuel : Nat} {c : Value} {x : DataW H × List MemPlace} (h : DataW.trod enc Tryz.prog w base sp held fuel 3 [c] = some x) : ∃ n, c = .int .i64 n ∧ inI n := by
  obtain ⟨n, e, -, hw⟩ := DataW.trod_int Tryz.underlying3 h
  simp only [List.cons.injEq, and_true] at e
  exact ⟨n, e, wf_inI hw⟩
theorem trod_value {fuel : Nat} {cs : List Value} {x : DataW H × List MemPlace} (h : DataW.trod enc Tryz.prog w base sp held fuel 72 cs = some x) : ∃ d : V3, RV0 w (· < w.heap.size) cs d := by
  obtain ⟨xs, n, -, -, hlen, hxl, hf⟩ := DataW.trod_struct Tryz.underlying72 h
  rw [cells_value] at hlen
  obtain ⟨c0, c1, c2, rfl⟩ := len3 hlen
  obtain ⟨y0, y1, y2, rfl⟩ := len3 hxl
  have h0 : DataW.trod enc Tryz.prog w base sp held n 3 [c0] = some y0 := by have := hf 0 _ rfl; simpa [cells_int] using this
  have h1 : DataW.trod enc Tryz.prog w base sp held n 3 [c1] = some y1 := by have := hf 1 _ rfl; simpa [cells_int] using this
  have h2 : DataW.trod enc Tryz.prog w base sp held n 9 [c2] = some y2 := by have := hf 2 _ rfl; simpa [cells_string] using this
  obtain ⟨q, rfl, hq⟩ := trod_i h0
  obtain ⟨m, rfl, hm⟩ := trod_i h1
  obtain ⟨s, e2, -, hs⟩ := DataW.trod_string Tryz.underlying9 h2
  simp only [List.cons.injEq, and_true] at e2
  subst e2
  exact ⟨⟨q, m, s⟩, rfl, ⟨hq, hm⟩, hs⟩
theorem trod_values {fuel : Nat} {c : Value} {x : DataW H × List MemPlace} (h : DataW.trod enc Tryz.prog w base sp held fuel 49 [c] = some x) : ∃ l : List V3, Lst w (· < w.heap.size) 3 RV0 c l := by
  obtain ⟨v, l, e, hl⟩ := lst_trod (R := RV0) Tryz.underlying49 cells_value (by decide) (fun h => trod_value h) h
  simp only [List.cons.injEq, and_true] at e
  subst e
  exact ⟨l, hl⟩
theorem trod_event {fuel : Nat} {cs : List Value} {x : DataW H × List MemPlace} (h : DataW.trod enc Tryz.prog w base sp held fuel 51 cs = some x) : ∃ (d : Evt) (A : Option Addr) (c : Nat), cs = [.int .i64 d.a, .int .i64 d.b, .int .i64 d.c, .int .i64 d.d, .slice A d.vs.length c] ∧ VsE w A c d ∧ NumE d := by
  obtain ⟨xs, n, -, -, hlen, hxl, hf⟩ := DataW.trod_struct Tryz.underlying51 h
  rw [cells_event] at hlen
  obtain ⟨c0, c1, c2, c3, c4, rfl⟩ := len5 hlen
  obtain ⟨y0, y1, y2, y3, y4, rfl⟩ := len5 hxl
  have h0 : DataW.trod enc Tryz.prog w base sp held n 3 [c0] = some y0 := by have := hf 0 _ rfl; simpa [cells_int] using this
  have h1 : DataW.trod enc Tryz.prog w base sp held n 3 [c1] = some y1 := by have := hf 1 _ rfl; simpa [cells_int] using this
  have h2 : DataW.trod enc Tryz.prog w base sp held n 3 [c2] = some y2 := by have := hf 2 _ rfl; simpa [cells_int] using this
  have h3 : DataW.trod enc Tryz.prog w base sp held n 3 [c3] = some y3 := by have := hf 3 _ rfl; simpa [cells_int] using this
  have h4 : DataW.trod enc Tryz.prog w base sp held n 49 [c4] = some y4 := by have := hf 4 _ rfl; simpa [cells_values] using this
  obtain ⟨a, rfl, ha⟩ := trod_i h0
  obtain ⟨b, rfl, hb⟩ := trod_i h1
  obtain ⟨c, rfl, hc⟩ := trod_i h2
  obtain ⟨d, rfl, hd⟩ := trod_i h3
  obtain ⟨l, hl⟩ := trod_values h4
  obtain ⟨A, cp, rfl⟩ := hl.form
  exact ⟨⟨a, b, c, d, l⟩, A, cp, rfl, hl, ha, hb, hc, hd⟩
theorem trod_msg {fuel : Nat} {cs : List Value} {x : DataW H × List MemPlace} (h : DataW.trod enc Tryz.prog w base sp held fuel 54 cs = some x) : ∃ d : Msg, RMs w w (· < w.heap.size) cs d := by
  obtain ⟨xs, n, -, -, hlen, hxl, hf⟩ := DataW.trod_struct Tryz.underlying54 h
  rw [cells_message] at hlen
  obtain ⟨c0, c1, c2, c3, c4, c5, c6, c7, c8, rfl⟩ := len9 hlen
  obtain ⟨y0, y1, y2, y3, y4, rfl⟩ := len5 hxl
  have h0 : DataW.trod enc Tryz.prog w base sp held n 3 [c0] = some y0 := by have := hf 0 _ rfl; simpa [cells_int] using this
  have h1 : DataW.trod enc Tryz.prog w base sp held n 51 [c1, c2, c3, c4, c5] = some y1 := by have := hf 1 _ rfl; simpa [cells_int, cells_event] using this
  have h2 : DataW.trod enc Tryz.prog w base sp held n 3 [c6] = some y2 := by have := hf 2 _ rfl; simpa [cells_int, cells_event] using this
  have h3 : DataW.trod enc Tryz.prog w base sp held n 3 [c7] = some y3 := by have := hf 3 _ rfl; simpa [cells_int, cells_event] using this
  have h4 : DataW.trod enc Tryz.prog w base sp held n 3 [c8] = some y4 := by have := hf 4 _ rfl; simpa [cells_int, cells_event] using this
  obtain ⟨k, rfl, hk⟩ := trod_i h0
  obtain ⟨s, rfl, hs⟩ := trod_i h2
  obtain ⟨q, rfl, hq⟩ := trod_i h3
  obtain ⟨t, rfl, ht⟩ := trod_i h4
  obtain ⟨d, A, cp, e, hv, hn⟩ := trod_event h1
  simp only [List.cons.injEq, and_true] at e
  obtain ⟨rfl, rfl, rfl, rfl, rfl⟩ := e
  exact ⟨⟨k, d, s, q, t⟩, A, cp, rfl, hv, hk, hn, hs, hq, ht⟩
theorem trod_act {fuel : Nat} {cs : List Value} {x : DataW H × List MemPlace} (h : DataW.trod enc Tryz.prog w base sp held fuel 5 cs = some x) : ∃ d : Int, RU8 w (· < w.heap.size) cs d := by
  obtain ⟨n, e, -, hw⟩ := DataW.trod_int Tryz.underlying5 h
  exact ⟨n, e, wf_u8 hw⟩
set_option maxRecDepth 100000 in
theorem open_msgs {r : Reach} {b0 : Nat} {v : Value} {d : DataW H} {ps : List MemPlace} (hval : Value.okWide Tryz.prog w r b0 22 v) (hd : DataW.Trod enc Tryz.prog w base sp held 22 v d ps) : ∃ l : List Msg, Lst w (· < w.heap.size) 9 (RMs w) v l := by
  unfold Value.okWide at hval
  simp only [Tryz.underlying22] at hval
  obtain ⟨fuel, hf⟩ := hd
  obtain ⟨A, l, c, rfl⟩ : ∃ A l c, v = .slice A l c := by
    unfold Cell.okWide Cell.ok at hval
    simp only [Tryz.underlying22] at hval
    split at hval <;> first | exact ⟨_, _, _, rfl⟩ | (simp_all; done) | skip
    all_goals (first | exact hval.elim | skip)
    all_goals (split at hval <;> first | exact ⟨_, _, _, rfl⟩ | exact hval.elim | simp_all)
  obtain ⟨v, l, e, hl⟩ := lst_trod (R := RMs w) Tryz.underlying22 cells_message (by decide) (fun h => trod_msg h) hf
  have e' : [Value.slice A _ c] = [v] := e
  simp only [List.cons.injEq, and_true] at e'
  subst e'
  exact ⟨l, hl⟩
set_option maxRecDepth 100000 in
theorem open_acts {r : Reach} {b0 : Nat} {v : Value} {d : DataW H} {ps : List MemPlace} (hval : Value.okWide Tryz.prog w r b0 23 v) (hd : DataW.Trod enc Tryz.prog w base sp held 23 v d ps) : ∃ l : List Int, Lst w (· < w.heap.size) 1 RU8 v l := by
  unfold Value.okWide at hval
  simp only [Tryz.underlying23] at hval
  obtain ⟨fuel, hf⟩ := hd
  obtain ⟨A, l, c, rfl⟩ : ∃ A l c, v = .slice A l c := by
    unfold Cell.okWide Cell.ok at hval
    simp only [Tryz.underlying23] at hval
    split at hval <;> first | exact ⟨_, _, _, rfl⟩ | (simp_all; done) | skip
    all_goals (first | exact hval.elim | skip)
    all_goals (split at hval <;> first | exact ⟨_, _, _, rfl⟩ | exact hval.elim | simp_all)
  obtain ⟨v, l, e, hl⟩ := lst_trod (R := RU8) Tryz.underlying23 cells_u8 (by decide) (fun h => trod_act h) hf
  have e' : [Value.slice A _ c] = [v] := e
  simp only [List.cons.injEq, and_true] at e'
  subst e'
  exact ⟨l, hl⟩
end Go.Proofs.YtppaiihcaajkaaaGreat
