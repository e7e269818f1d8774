/- tryCount, tryEqual. tryEqual, of two lists with the same items. -/
import Derived.Test.YtppaiihcaajkaaaGreatKSameM
import Derived.Deep.RegionHeld3
namespace Go.Proofs.YtppaiihcaajkaaaGreat
open Go.RowKit
set_option linter.unusedVariables false
set_option linter.unusedSimpArgs false
open Classical in
/-- How often an item stands in a list. -/
noncomputable def cntI (x : Itm) (l : List Itm) : Nat := l.countP fun y => decide (x = y)
theorem cntI_perm {x : Itm} {l k : List Itm} (h : l.Perm k) : cntI x l = cntI x k := h.countP_eq _
theorem cntI_le (x : Itm) (l : List Itm) : cntI x l ≤ l.length := List.countP_le_length
theorem cntI_take {x : Itm} {l : List Itm} {j : Nat} (h : j < l.length) : (x = l[j] → cntI x (l.take (j + 1)) = cntI x (l.take j) + 1) ∧ (x ≠ l[j] → cntI x (l.take (j + 1)) = cntI x (l.take j)) := by
  classical
  unfold cntI
  rw [List.take_succ_eq_append_getElem h, List.countP_append, List.countP_cons, List.countP_nil, Nat.zero_add]
  exact ⟨fun e => by simp [e], fun e => by simp [e]⟩
section
variable (w : World)
set_option maxRecDepth 100000 in
set_option maxHeartbeats 16000000 in
theorem tcount_any (W0 : World) (hW : Below W0.heap.size W0 w) (l : List Itm) (A : Option Addr) (c : Nat) (hl : Lst w (· < w.heap.size) 7 (RIt W0) (.slice A l.length c) l) (x : Itm) (E : Option Addr) (ce : Nat) (hE : VsE W0 E ce x.e) :
    Calls Tryz.prog 20 #[.slice A l.length c, .agg #[.int .i64 x.k, .int .i64 x.e.a, .int .i64 x.e.b, .int .i64 x.e.c, .int .i64 x.e.d, .slice E x.e.vs.length ce, .int .i64 x.n]] w (Ret (.int .i64 (cntI x l : Int)) w) := by
  have HL := hide (fun (w1 : World) (hb : Below w.heap.size w w1) => hl.below rd_It hb)
  have hlen := hl.len
  unfold maxLen at hlen
  have HSM := hide (fun (w1 : World) (hb : Below w.heap.size w w1) (y : Itm) (F : Option Addr) (cf : Nat) (hF : VsE W0 F cf y.e) => same_any w1 x y E F ce cf (Lst.keep rd_V0 (Kp.of_below (hW.trans (hb.mono hW.size))) hE) (Lst.keep rd_V0 (Kp.of_below (hW.trans (hb.mono hW.size))) hF) (fun k hk => Nat.lt_of_lt_of_le hk (Nat.le_trans hW.size hb.size)) (fun k hk => Nat.lt_of_lt_of_le hk (Nat.le_trans hW.size hb.size)))
  have HX := hide (Bl.new w [.int .i64 x.k, .int .i64 x.e.a, .int .i64 x.e.b, .int .i64 x.e.c, .int .i64 x.e.d, .slice E x.e.vs.length ce, .int .i64 x.n] 58)
  have HB := hide (below_laid (w := w) (.cells #[.int .i64 x.k, .int .i64 x.e.a, .int .i64 x.e.b, .int .i64 x.e.c, .int .i64 x.e.d, .slice E x.e.vs.length ce, .int .i64 x.n] 58))
  obtain ⟨m, hm⟩ : ∃ m, l.length = m := ⟨_, rfl⟩
  have HM := hide hm
  rw [hm] at hlen ⊢
  clear hl hE hm
  go_enter Tryz.func20, Tryz.ntmps20
  go_upto_region 1 with (fail)
  obtain ⟨W1, hW1⟩ : ∃ W1, w.alloc (.cells #[.int .i64 x.k, .int .i64 x.e.a, .int .i64 x.e.b, .int .i64 x.e.c, .int .i64 x.e.d, .slice E x.e.vs.length ce, .int .i64 x.n] 58) = W1 := ⟨_, rfl⟩
  rw [hW1] at HX HB ⊢
  clear hW1
  go_wp2
  go_loopw [5, 10] (fun n ix wr => ∃ j : Nat, j ≤ m ∧ ix = .int .i64 j ∧ n = .int .i64 (cntI x (l.take j) : Int) ∧ Hid (Below W1.heap.size W1 wr)) (fun _ ix _ => m - (intOf ix).toNat)
  case atStart => exact ⟨0, by omega, rfl, by simp [cntI], hide (Below.refl _ _)⟩
  case round =>
    obtain ⟨j, hj, rfl, rfl, HBR⟩ := hrel
    have HBW := hide (bthen HB.out HBR.out)
    have HXR := hide (HX.out.keep HBR.out)
    by_cases hlt : j < m
    · have hjl : j < l.length := by rw [HM.out]; exact hlt
      obtain ⟨g, off, xs, e2, hg, hxl, hc, hR⟩ := (HL.out wr HBW.out).at_ hjl
      have HCT := hide (cntI_take (x := x) hjl)
      obtain ⟨y, hy⟩ : ∃ y, l[j] = y := ⟨_, rfl⟩
      rw [hy] at hR HCT
      obtain ⟨F, cf, rfl, hF, -⟩ := hR
      cases e2
      have HSM1 := hide (fun (w1 : World) (hb : Below w.heap.size w w1) => HSM.out w1 hb y F cf hF)
      have k0 := hc 0 _ rfl
      have k1 := hc 1 _ rfl
      have k2 := hc 2 _ rfl
      have k3 := hc 3 _ rfl
      have k4 := hc 4 _ rfl
      have k5 := hc 5 _ rfl
      have k6 := hc 6 _ rfl
      rw [Nat.add_zero] at k0
      obtain ⟨K, hK⟩ : ∃ K, cntI x (l.take j) = K := ⟨_, rfl⟩
      have hKm : K ≤ j := by rw [← hK]; have := cntI_le x (l.take j); rw [List.length_take] at this; omega
      have HK := hide hK
      rw [hK]
      have hu0 : (0 : Int) ≤ (j : Int) := by omega
      have hu1 : (j : Int) < (m : Int) := by omega
      clear hy hc hxl hF hg hK
      go_upto_region 5 with (fail)
      obtain ⟨W3, hW3⟩ : ∃ W3, wr.alloc (.cells #[.int .i64 y.k, .int .i64 y.e.a, .int .i64 y.e.b, .int .i64 y.e.c, .int .i64 y.e.d, .slice F y.e.vs.length cf, .int .i64 y.n] 58) = W3 := ⟨_, rfl⟩
      have HY3 := hide (show Bl W3 wr.heap.size [.int .i64 y.k, .int .i64 y.e.a, .int .i64 y.e.b, .int .i64 y.e.c, .int .i64 y.e.d, .slice F y.e.vs.length cf, .int .i64 y.n] by rw [← hW3]; exact Bl.new wr _ _)
      have HX3 := hide (show Bl W3 w.heap.size [.int .i64 x.k, .int .i64 x.e.a, .int .i64 x.e.b, .int .i64 x.e.c, .int .i64 x.e.d, .slice E x.e.vs.length ce, .int .i64 x.n] by rw [← hW3]; exact HXR.out.laid _)
      have HB3 := hide (show Below w.heap.size w W3 by rw [← hW3]; exact bthen HBW.out (below_laid _))
      have HR3 := hide (show Below W1.heap.size W1 W3 by rw [← hW3]; exact bthen HBR.out (below_laid _))
      rw [hW3]
      clear hW3 k0 k1 k2 k3 k4 k5 k6 HXR
      have x0 := HX3.out.c 0 _ rfl
      have x1 := HX3.out.c 1 _ rfl
      have x2 := HX3.out.c 2 _ rfl
      have x3 := HX3.out.c 3 _ rfl
      have x4 := HX3.out.c 4 _ rfl
      have x5 := HX3.out.c 5 _ rfl
      have x6 := HX3.out.c 6 _ rfl
      have y0 := HY3.out.c 0 _ rfl
      have y1 := HY3.out.c 1 _ rfl
      have y2 := HY3.out.c 2 _ rfl
      have y3 := HY3.out.c 3 _ rfl
      have y4 := HY3.out.c 4 _ rfl
      have y5 := HY3.out.c 5 _ rfl
      have y6 := HY3.out.c 6 _ rfl
      have HSM3 := hide (HSM1.out W3 HB3.out)
      go_wp2_with fail
      refine HSM3.out.mono ?_
      rintro e4 w4 ⟨d, hd, rfl, hb4⟩
      have HD := hide hd
      have HR4 := hide (bthen HR3.out hb4)
      clear hd hb4 HSM3 HSM1 x0 x1 x2 x3 x4 x5 x6 y0 y1 y2 y3 y4 y5 y6
      cases d
      · go_wp2
        go_roundw
        case rel => exact ⟨j + 1, by omega, by go_num, by rw [HCT.out.2 (by have h := HD.out; simpa using h), HK.out], HR4⟩
        case measure => simp [intOf]; omega
      · go_wp2
        go_roundw
        case rel => exact ⟨j + 1, by omega, by go_num, by rw [HCT.out.1 (by have h := HD.out; simpa using h), HK.out]; go_num, HR4⟩
        case measure => simp [intOf]; omega
    · obtain rfl : j = m := by omega
      have HTK := hide (show l.take j = l from List.take_of_length_le (by rw [HM.out]; exact Nat.le_refl _))
      obtain ⟨K, hK⟩ : ∃ K, cntI x (l.take j) = K := ⟨_, rfl⟩
      have HK := hide hK
      rw [hK]
      clear hK
      go_wp2
      go_ret
      exact ⟨by have h := HK.out; rw [HTK.out] at h; rw [h]; (first | rfl | done), HBW.out⟩
end
end Go.Proofs.YtppaiihcaajkaaaGreat

namespace Go.Proofs.YtppaiihcaajkaaaGreat
open Go.RowKit
set_option linter.unusedVariables false
set_option linter.unusedSimpArgs false
section
variable (w : World)
set_option maxRecDepth 100000 in
set_option maxHeartbeats 16000000 in
theorem tequal_any (W0 : World) (hW : Below W0.heap.size W0 w) (l k : List Itm) (A B : Option Addr) (c d : Nat) (hl : Lst w (· < w.heap.size) 7 (RIt W0) (.slice A l.length c) l) (hk : Lst w (· < w.heap.size) 7 (RIt W0) (.slice B k.length d) k) (hp : l.Perm k) :
    Calls Tryz.prog 8 #[.slice A l.length c, .slice B k.length d] w (Ret (.bool true) w) := by
  have hlen := hl.len
  unfold maxLen at hlen
  have HL := hide (fun (w1 : World) (hb : Below w.heap.size w w1) => hl.below rd_It hb)
  have HCA := hide (fun (w1 : World) (hb : Below w.heap.size w w1) (y : Itm) (F : Option Addr) (cf : Nat) (hF : VsE W0 F cf y.e) => tcount_any w1 W0 (hW.trans (hb.mono hW.size)) l A c (hl.below rd_It hb) y F cf hF)
  have HCB := hide (fun (w1 : World) (hb : Below w.heap.size w w1) (y : Itm) (F : Option Addr) (cf : Nat) (hF : VsE W0 F cf y.e) => tcount_any w1 W0 (hW.trans (hb.mono hW.size)) k B d (hk.below rd_It hb) y F cf hF)
  have HPE := hide (fun (y : Itm) => cntI_perm (x := y) hp)
  have hkl : k.length = l.length := hp.length_eq.symm
  obtain ⟨m, hm⟩ : ∃ m, l.length = m := ⟨_, rfl⟩
  have HM := hide hm
  rw [hkl] at HCB ⊢
  rw [hm] at HCA HCB hlen ⊢
  clear hl hk hp hm hkl
  go_enter Tryz.func8, Tryz.ntmps8
  go_wp2
  go_loopw [14] (fun ix wr => ∃ j : Nat, j ≤ m ∧ ix = .int .i64 j ∧ Hid (Below w.heap.size w wr)) (fun ix _ => m - (intOf ix).toNat)
  case atStart => exact ⟨0, by omega, rfl, hide (Below.refl _ _)⟩
  case round =>
    obtain ⟨j, hj, rfl, HB⟩ := hrel
    by_cases hlt : j < m
    · have hjl : j < l.length := by rw [HM.out]; exact hlt
      obtain ⟨g, off, xs, e2, hg, hxl, hc, hR⟩ := (HL.out wr HB.out).at_ hjl
      obtain ⟨y, hy⟩ : ∃ y, l[j] = y := ⟨_, rfl⟩
      rw [hy] at hR
      obtain ⟨F, cf, rfl, hF, -⟩ := hR
      cases e2
      have HCA1 := hide (fun (w1 : World) (hb : Below w.heap.size w w1) => HCA.out w1 hb y F cf hF)
      have HCB1 := hide (fun (w1 : World) (hb : Below w.heap.size w w1) => HCB.out w1 hb y F cf hF)
      rw [← HPE.out y] at HCB1
      obtain ⟨C9, hK⟩ : ∃ C9, cntI y l = C9 := ⟨_, rfl⟩
      rw [hK] at HCA1 HCB1
      have k0 := hc 0 _ rfl
      have k1 := hc 1 _ rfl
      have k2 := hc 2 _ rfl
      have k3 := hc 3 _ rfl
      have k4 := hc 4 _ rfl
      have k5 := hc 5 _ rfl
      have k6 := hc 6 _ rfl
      rw [Nat.add_zero] at k0
      have hu0 : (0 : Int) ≤ (j : Int) := by omega
      have hu1 : (j : Int) < (m : Int) := by omega
      clear hy hc hxl hF hg hK
      go_upto_region 6 with (fail)
      obtain ⟨W3, hW3⟩ : ∃ W3, wr.alloc (.cells #[.int .i64 y.k, .int .i64 y.e.a, .int .i64 y.e.b, .int .i64 y.e.c, .int .i64 y.e.d, .slice F y.e.vs.length cf, .int .i64 y.n] 58) = W3 := ⟨_, rfl⟩
      have HY3 := hide (show Bl W3 wr.heap.size [.int .i64 y.k, .int .i64 y.e.a, .int .i64 y.e.b, .int .i64 y.e.c, .int .i64 y.e.d, .slice F y.e.vs.length cf, .int .i64 y.n] by rw [← hW3]; exact Bl.new wr _ _)
      have HB3 := hide (show Below w.heap.size w W3 by rw [← hW3]; exact bthen HB.out (below_laid _))
      rw [hW3]
      clear hW3 k0 k1 k2 k3 k4 k5 k6 HCA HCB
      have y0 := HY3.out.c 0 _ rfl
      have y1 := HY3.out.c 1 _ rfl
      have y2 := HY3.out.c 2 _ rfl
      have y3 := HY3.out.c 3 _ rfl
      have y4 := HY3.out.c 4 _ rfl
      have y5 := HY3.out.c 5 _ rfl
      have y6 := HY3.out.c 6 _ rfl
      go_cut [24] from 18 to 24 (fun p wx => p = .bool false ∧ Hid (Below W3.heap.size W3 wx))
      case first =>
        refine wp_region_all0 [some 18, some 19, some 20, some 21, some 22, some 23, some 24] [[18], [19], [20], [21], [22], [23], [24]] [Fix1 (.slice (some ⟨g, off, none⟩) m c), Fix1 (.agg #[.int .i64 y.k, .int .i64 y.e.a, .int .i64 y.e.b, .int .i64 y.e.c, .int .i64 y.e.d, .slice F y.e.vs.length cf, .int .i64 y.n]), Fix1 (.int .i64 (C9 : Int)), Fix1 (.slice B m d), Fix1 (.agg #[.int .i64 y.k, .int .i64 y.e.a, .int .i64 y.e.b, .int .i64 y.e.c, .int .i64 y.e.d, .slice F y.e.vs.length cf, .int .i64 y.n]), Fix1 (.int .i64 (C9 : Int)), Fix1 (.bool false)] (by kernel_rfl) (by kernel_rfl) (by kernel_rfl) (fun d w5 => match d with | 0 => (fun w5 => Below W3.heap.size W3 w5) w5 | _ + 1 => True) (fun k => []) (fun k => [0]) (by kernel_rfl) ?_ (fun k w5 w6 => ((True) ∧ Below w5.heap.size w5 w6)) (fun _ => []) ?_ ?_ ?_ ?_ ?_
        · intro d
          match d with
          | 0 => exact (Below.refl _ _).drew
          | _ + 1 => trivial
        · intro j w5 w6 ht
          rcases ht with ⟨-, hb⟩
          · exact hb.size
        · intro j k hj hk hne hsp hwt w5 w6 vs hsz ht hv
          have hkc : k = 0 ∨ k = 1 ∨ k = 2 ∨ k = 3 ∨ k = 4 ∨ k = 5 ∨ k = 6 := by have : k < 7 := hk; omega
          rcases hkc with rfl | rfl | rfl | rfl | rfl | rfl | rfl
          · exact hv
          · exact hv
          · exact hv
          · exact hv
          · exact hv
          · exact hv
          · exact hv
        · intro j d hj hd w5 w6 hsz ht hI
          match d with
          | 0 =>
            rcases ht with ⟨-, hb⟩
            · exact hI.trans (hb.mono hI.size)
          | _ + 1 => trivial
        · intro j9 o9 hj9 ho x w5 hsz hI hd
          have hjc : j9 = 0 ∨ j9 = 1 ∨ j9 = 2 ∨ j9 = 3 ∨ j9 = 4 ∨ j9 = 5 ∨ j9 = 6 := by have : j9 < 7 := hj9; omega
          rcases hjc with rfl | rfl | rfl | rfl | rfl | rfl | rfl
          all_goals obtain rfl := Option.some.inj ho
          all_goals generalize hK : (fun (a' : Act) (w' : World) => _) = K
          all_goals simp only [List.filterMap_cons, List.filterMap_nil, _root_.id, puts]
          · have i0 := hI 0 (by decide)
            have y0 := keep1 i0 (HY3.out.c 0 _ rfl)
            have y1 := keep1 i0 (HY3.out.c 1 _ rfl)
            have y2 := keep1 i0 (HY3.out.c 2 _ rfl)
            have y3 := keep1 i0 (HY3.out.c 3 _ rfl)
            have y4 := keep1 i0 (HY3.out.c 4 _ rfl)
            have y5 := keep1 i0 (HY3.out.c 5 _ rfl)
            have y6 := keep1 i0 (HY3.out.c 6 _ rfl)
            clear hI hd
            go_simp
            rw [← hK]
            exact ⟨.slice (some ⟨g, off, none⟩) m c, (by simp only [List.filterMap_cons, List.filterMap_nil, _root_.id, puts]; go_simp), ⟨trivial, Below.refl _ _⟩, rfl⟩
          · have i0 := hI 0 (by decide)
            have y0 := keep1 i0 (HY3.out.c 0 _ rfl)
            have y1 := keep1 i0 (HY3.out.c 1 _ rfl)
            have y2 := keep1 i0 (HY3.out.c 2 _ rfl)
            have y3 := keep1 i0 (HY3.out.c 3 _ rfl)
            have y4 := keep1 i0 (HY3.out.c 4 _ rfl)
            have y5 := keep1 i0 (HY3.out.c 5 _ rfl)
            have y6 := keep1 i0 (HY3.out.c 6 _ rfl)
            clear hI hd
            go_simp
            rw [← hK]
            exact ⟨.agg #[.int .i64 y.k, .int .i64 y.e.a, .int .i64 y.e.b, .int .i64 y.e.c, .int .i64 y.e.d, .slice F y.e.vs.length cf, .int .i64 y.n], (by simp only [List.filterMap_cons, List.filterMap_nil, _root_.id, puts]; go_simp), ⟨trivial, Below.refl _ _⟩, rfl⟩
          · have i0 := hI 0 (by decide)
            have y0 := keep1 i0 (HY3.out.c 0 _ rfl)
            have y1 := keep1 i0 (HY3.out.c 1 _ rfl)
            have y2 := keep1 i0 (HY3.out.c 2 _ rfl)
            have y3 := keep1 i0 (HY3.out.c 3 _ rfl)
            have y4 := keep1 i0 (HY3.out.c 4 _ rfl)
            have y5 := keep1 i0 (HY3.out.c 5 _ rfl)
            have y6 := keep1 i0 (HY3.out.c 6 _ rfl)
            have e18 : x 18 = .slice (some ⟨g, off, none⟩) m c := fix1 (hd 0 (by kernel_rfl) (by kernel_rfl))
            have e19 : x 19 = .agg #[.int .i64 y.k, .int .i64 y.e.a, .int .i64 y.e.b, .int .i64 y.e.c, .int .i64 y.e.d, .slice F y.e.vs.length cf, .int .i64 y.n] := fix1 (hd 1 (by kernel_rfl) (by kernel_rfl))
            have HR := hide (HCA1.out w5 (HB3.out.trans (i0.mono HB3.out.size)))
            clear hI hd
            go_simp
            go_at_call 20
            refine HR.out.mono ?_
            rintro e1 w1 ⟨rfl, hb1⟩
            go_simp
            rw [← hK]
            exact ⟨.int .i64 (C9 : Int), (by simp only [List.filterMap_cons, List.filterMap_nil, _root_.id, puts]; go_simp), ⟨trivial, hb1⟩, rfl⟩
          · have i0 := hI 0 (by decide)
            have y0 := keep1 i0 (HY3.out.c 0 _ rfl)
            have y1 := keep1 i0 (HY3.out.c 1 _ rfl)
            have y2 := keep1 i0 (HY3.out.c 2 _ rfl)
            have y3 := keep1 i0 (HY3.out.c 3 _ rfl)
            have y4 := keep1 i0 (HY3.out.c 4 _ rfl)
            have y5 := keep1 i0 (HY3.out.c 5 _ rfl)
            have y6 := keep1 i0 (HY3.out.c 6 _ rfl)
            clear hI hd
            go_simp
            rw [← hK]
            exact ⟨.slice B m d, (by simp only [List.filterMap_cons, List.filterMap_nil, _root_.id, puts]; go_simp), ⟨trivial, Below.refl _ _⟩, rfl⟩
          · have i0 := hI 0 (by decide)
            have y0 := keep1 i0 (HY3.out.c 0 _ rfl)
            have y1 := keep1 i0 (HY3.out.c 1 _ rfl)
            have y2 := keep1 i0 (HY3.out.c 2 _ rfl)
            have y3 := keep1 i0 (HY3.out.c 3 _ rfl)
            have y4 := keep1 i0 (HY3.out.c 4 _ rfl)
            have y5 := keep1 i0 (HY3.out.c 5 _ rfl)
            have y6 := keep1 i0 (HY3.out.c 6 _ rfl)
            clear hI hd
            go_simp
            rw [← hK]
            exact ⟨.agg #[.int .i64 y.k, .int .i64 y.e.a, .int .i64 y.e.b, .int .i64 y.e.c, .int .i64 y.e.d, .slice F y.e.vs.length cf, .int .i64 y.n], (by simp only [List.filterMap_cons, List.filterMap_nil, _root_.id, puts]; go_simp), ⟨trivial, Below.refl _ _⟩, rfl⟩
          · have i0 := hI 0 (by decide)
            have y0 := keep1 i0 (HY3.out.c 0 _ rfl)
            have y1 := keep1 i0 (HY3.out.c 1 _ rfl)
            have y2 := keep1 i0 (HY3.out.c 2 _ rfl)
            have y3 := keep1 i0 (HY3.out.c 3 _ rfl)
            have y4 := keep1 i0 (HY3.out.c 4 _ rfl)
            have y5 := keep1 i0 (HY3.out.c 5 _ rfl)
            have y6 := keep1 i0 (HY3.out.c 6 _ rfl)
            have e21 : x 21 = .slice B m d := fix1 (hd 3 (by kernel_rfl) (by kernel_rfl))
            have e22 : x 22 = .agg #[.int .i64 y.k, .int .i64 y.e.a, .int .i64 y.e.b, .int .i64 y.e.c, .int .i64 y.e.d, .slice F y.e.vs.length cf, .int .i64 y.n] := fix1 (hd 4 (by kernel_rfl) (by kernel_rfl))
            have HR := hide (HCB1.out w5 (HB3.out.trans (i0.mono HB3.out.size)))
            clear hI hd
            go_simp
            go_at_call 20
            refine HR.out.mono ?_
            rintro e1 w1 ⟨rfl, hb1⟩
            go_simp
            rw [← hK]
            exact ⟨.int .i64 (C9 : Int), (by simp only [List.filterMap_cons, List.filterMap_nil, _root_.id, puts]; go_simp), ⟨trivial, hb1⟩, rfl⟩
          · have i0 := hI 0 (by decide)
            have y0 := keep1 i0 (HY3.out.c 0 _ rfl)
            have y1 := keep1 i0 (HY3.out.c 1 _ rfl)
            have y2 := keep1 i0 (HY3.out.c 2 _ rfl)
            have y3 := keep1 i0 (HY3.out.c 3 _ rfl)
            have y4 := keep1 i0 (HY3.out.c 4 _ rfl)
            have y5 := keep1 i0 (HY3.out.c 5 _ rfl)
            have y6 := keep1 i0 (HY3.out.c 6 _ rfl)
            have e20 : x 20 = .int .i64 (C9 : Int) := fix1 (hd 2 (by kernel_rfl) (by kernel_rfl))
            have e23 : x 23 = .int .i64 (C9 : Int) := fix1 (hd 5 (by kernel_rfl) (by kernel_rfl))
            clear hI hd
            go_simp
            rw [← hK]
            exact ⟨.bool false, (by simp only [List.filterMap_cons, List.filterMap_nil, _root_.id, puts]; go_simp), ⟨trivial, Below.refl _ _⟩, rfl⟩
        · intro x w9 hsz hI hP
          have i0 := hI 0 (fun j _ => by simp)
          have e18 : x 18 = .slice (some ⟨g, off, none⟩) m c := fix1 (hP 0 (by decide) (fun _ _ h => by cases h))
          have e19 : x 19 = .agg #[.int .i64 y.k, .int .i64 y.e.a, .int .i64 y.e.b, .int .i64 y.e.c, .int .i64 y.e.d, .slice F y.e.vs.length cf, .int .i64 y.n] := fix1 (hP 1 (by decide) (fun _ _ h => by cases h))
          have e20 : x 20 = .int .i64 (C9 : Int) := fix1 (hP 2 (by decide) (fun _ _ h => by cases h))
          have e21 : x 21 = .slice B m d := fix1 (hP 3 (by decide) (fun _ _ h => by cases h))
          have e22 : x 22 = .agg #[.int .i64 y.k, .int .i64 y.e.a, .int .i64 y.e.b, .int .i64 y.e.c, .int .i64 y.e.d, .slice F y.e.vs.length cf, .int .i64 y.n] := fix1 (hP 4 (by decide) (fun _ _ h => by cases h))
          have e23 : x 23 = .int .i64 (C9 : Int) := fix1 (hP 5 (by decide) (fun _ _ h => by cases h))
          have e24 : x 24 = .bool false := fix1 (hP 6 (by decide) (fun _ _ h => by cases h))
          clear hI hP
          simp only [List.filterMap_cons, List.filterMap_nil, _root_.id, puts, Act.put, List.setIfInBounds_toArray, List.set_cons_succ, List.set_cons_zero]
          go_wp2_with fail
          go_meet
          exact ⟨(by first | exact e24 | rfl), hide i0⟩
      case rest =>
        obtain ⟨rfl, HC⟩ := hcut
        have HB9 := hide (bthen HB3.out HC.out)
        clear HC
        go_wp2
        go_roundw
        case rel => exact ⟨j + 1, by omega, by go_num, HB9⟩
        case measure => simp [intOf]; omega
    · obtain rfl : j = m := by omega
      go_wp2
      go_ret
      exact ⟨rfl, HB.out⟩
end
end Go.Proofs.YtppaiihcaajkaaaGreat
