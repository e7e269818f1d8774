/- kind, of a typer. -/
import Derived.Test.YtkcbjnhphekadaaFKind
import Derived.Test.YtkcbjnhphekadaaFTot
namespace Go.Proofs.Ytkcbjnhphekadaa
open Go.RowKit
set_option linter.unusedVariables false
set_option linter.unusedSimpArgs false
section
variable {LK : Nd → Int × Int}
def okK0 (LK : Nd → Int × Int) (l : List Tr) : Bool := l.all fun a => decide ((kindT LK a).2 = 0)
def ksOf (LK : Nd → Int × Int) (l : List Tr) : List Int := l.map fun a => (kindT LK a).1
theorem kindL_ok : ∀ {l : List Tr}, okK0 LK l = true → kindL LK l = .inr (ksOf LK l)
  | [], _ => by rw [kindL]; rfl
  | t :: l, h => by
    unfold okK0 at h
    simp only [List.all_cons, Bool.and_eq_true, decide_eq_true_eq] at h
    rw [kindL, if_neg (by simpa using h.1), kindL_ok (l := l) h.2]
    rfl
theorem kindL_bad : ∀ {l : List Tr} {j : Nat} (hj : j < l.length), okK0 LK (l.take j) = true → (kindT LK l[j]).2 ≠ 0 → kindL LK l = .inl (kindT LK l[j]).2
  | t :: l, 0, _, _, h => by rw [kindL, if_pos (by simpa using h)]; rfl
  | t :: l, j + 1, hj, h0, h => by
    unfold okK0 at h0
    simp only [List.take_succ_cons, List.all_cons, Bool.and_eq_true, decide_eq_true_eq] at h0
    rw [kindL, if_neg (by simpa using h0.1), kindL_bad (l := l) (j := j) (by simpa using hj) h0.2 (by simpa using h)]
    rfl
theorem okK0_snoc {l : List Tr} {j : Nat} (h : j < l.length) (ht : okK0 LK (l.take j) = true) (hf : (kindT LK l[j]).2 = 0) : okK0 LK (l.take (j + 1)) = true := by
  unfold okK0 at ht ⊢
  rw [List.take_succ_eq_append_getElem h, List.all_append, ht]
  simp [hf]
theorem ksOf_snoc {l : List Tr} {j : Nat} (h : j < l.length) : ksOf LK (l.take (j + 1)) = ksOf LK (l.take j) ++ [(kindT LK l[j]).1] := by
  unfold ksOf
  rw [List.take_succ_eq_append_getElem h, List.map_append]
  rfl
theorem kindT_bad {d : Nd} {l : List Tr} {e : Int} (h : kindL LK l = .inl e) (hl : l ≠ []) : kindT LK (.mk d l) = (0, e) := by
  rw [kindT, if_neg hl, h]
theorem kindT_ops {d : Nd} {l : List Tr} {ks : List Int} (h : kindL LK l = .inr ks) (hl : l ≠ []) : kindT LK (.mk d l) = if opsE d.op ks ≠ 0 then (0, opsE d.op ks) else (resK d.op, 0) := by
  rw [kindT, if_neg hl, h]
end
theorem info_int : (Try.prog.info? 3).map (fun i => (i.zero, i.size, i.bytes)) = some (some (.int .i64 0), 1, 8) := by kernel_rfl
section
variable (T : List Scx) (V : List Vrx) (hr : ∀ x ∈ V, 0 ≤ x.typ ∧ x.typ < T.length)
include hr
set_option maxRecDepth 100000 in
set_option maxHeartbeats 8000000 in
theorem xkind_any : ∀ (t : Tr), OkT 16 8 t → ∀ (w : World) (v1 v2 : Value) (xs : List Value), There RSc 2 w v1 T → There RVr 2 w v2 V → Tx w xs t →
    Calls Try.prog 18 #[.agg #[v1, v2], .agg xs.toArray] w (Ret (.tuple #[.int .i64 (kindT (leafK T V) t).1, .int .i64 (kindT (leafK T V) t).2]) w) := by
  refine tr_ind fun d args ih => ?_
  intro hok w v1 v2 xs h1 h2 h
  obtain ⟨v, rfl, hl, hd⟩ := RTx.out h
  obtain ⟨A, cap, rfl⟩ := hl.form
  obtain ⟨i0, hi0, hz0, hz1, hz2⟩ := info_parts info_int
  have hrg : 0 ≤ d.var ∧ 0 ≤ d.field := by cases hok with | mk hn _ => exact node_rng hn
  have HLF := hide (fun w h1 h2 => kleaf_any T V w v1 v2 d A args.length cap h1 h2 hrg.1 hrg.2 hr)
  have HIH := hide (fun j (hj : j < args.length) => ih args[j] (List.getElem_mem hj) (by cases hok with | mk _ ha => exact ha _ (List.getElem_mem hj)))
  have HL := hide hl
  have H1 := hide h1
  have H2 := hide h2
  have hm := hl.len
  unfold maxLen at hm
  have HND := hide hd
  obtain ⟨A1, cap1, rfl⟩ := h1.form
  obtain ⟨A2, cap2, rfl⟩ := h2.form
  obtain ⟨m1, hm1⟩ : ∃ k, T.length = k := ⟨_, rfl⟩
  obtain ⟨m2, hm2⟩ : ∃ k, V.length = k := ⟨_, rfl⟩
  have har : args.length ≤ 2 := by
    cases hok with
    | mk hn _ => have := (node_ar hn).2.2; unfold arQ at this; split at this <;> (try split at this) <;> omega
  obtain ⟨m, hmm⟩ : ∃ m, args.length = m := ⟨_, rfl⟩
  have HM := hide hmm
  obtain ⟨R, hR⟩ : ∃ r, kindT (leafK T V) (.mk d args) = r := ⟨_, rfl⟩
  have HR := hide hR
  rw [hR]
  rw [hm1] at H1 HLF ⊢
  rw [hm2] at H2 HLF ⊢
  rw [hmm] at HL hm har HLF ⊢
  have hX := (Bxs.new w [.slice A1 m1 cap1, .slice A2 m2 cap2] 67).keep (below_laid (.cells ([.int .i64 d.op, .slice A m cap, .int .i64 d.var, .int .i64 d.field, .int .i64 d.kind, .int .i64 d.val.q, .int .i64 d.val.n, .string d.val.s]).toArray 30))
  have hY := Bxs.new (w.alloc (.cells #[.slice A1 m1 cap1, .slice A2 m2 cap2] 67)) ([.int .i64 d.op, .slice A m cap, .int .i64 d.var, .int .i64 d.field, .int .i64 d.kind, .int .i64 d.val.q, .int .i64 d.val.n, .string d.val.s]) 30
  rw [World.size_alloc] at hY
  have hB := bthen (below_laid (w := w) (.cells #[.slice A1 m1 cap1, .slice A2 m2 cap2] 67)) (below_laid (.cells ([.int .i64 d.op, .slice A m cap, .int .i64 d.var, .int .i64 d.field, .int .i64 d.kind, .int .i64 d.val.q, .int .i64 d.val.n, .string d.val.s]).toArray 30))
  replace H1 := hide (H1.out.keep rd_Sc hB)
  replace H2 := hide (H2.out.keep rd_Vr hB)
  have HB := hide hB
  have HX := hide hX
  have HY := hide hY
  have y0 := hY 0 _ rfl
  have y1 := hY 1 _ rfl
  clear h hl hd ih hmm hm1 hm2 hR h1 h2 hok hX hY hB hrg hr
  rcases Nat.eq_zero_or_pos m with rfl | hpos
  · have HQ := hide (show R = leafK T V d by
      rw [← HR.out, show args = [] from List.length_eq_zero_iff.1 HM.out]; exact kind_0 d)
    obtain ⟨Q, hQ⟩ : ∃ q, leafK T V d = q := ⟨_, rfl⟩
    rw [hQ] at HQ HLF
    have x0 := HX.out 0 _ rfl
    have x1 := HX.out 1 _ rfl
    have y2 := HY.out 2 _ rfl
    have y3 := HY.out 3 _ rfl
    have y4 := HY.out 4 _ rfl
    have y5 := HY.out 5 _ rfl
    have y6 := HY.out 6 _ rfl
    have y7 := HY.out 7 _ rfl
    rw [HQ.out]
    clear hQ HIH HL HR
    go_enter Try.func18, Try.ntmps18
    go_wp2_with fail
    refine (HLF.out _ H1.out H2.out).mono ?_
    rintro e w3 ⟨rfl, hb⟩
    have HW := hide (bthen HB.out hb)
    clear hb
    go_wp2
    go_ret2
    exact Ret.mk rfl HW.out
  · have tm : ((m : Int) == 0) = false := by rw [beq_eq_false_iff_ne]; omega
    have tm2 : (m == 0) = false := by rw [beq_eq_false_iff_ne]; omega
    have HNE := hide (show args ≠ [] by intro h; rw [h] at HM; have := HM.out; simp at this; omega)
    clear HLF
    go_enter Try.func18, Try.ntmps18
    go_wp2_with fail
    have HBS := hide (show w.heap.size + 1 + 1 ≤ ((w.alloc (.cells #[.slice A1 m1 cap1, .slice A2 m2 cap2] 67)).alloc (.cells #[.int .i64 d.op, .slice A m cap, .int .i64 d.var, .int .i64 d.field, .int .i64 d.kind, .int .i64 d.val.q, .int .i64 d.val.n, .string d.val.s] 30)).heap.size by simp)
    obtain ⟨w0, hw0⟩ : ∃ w0, ((w.alloc (.cells #[.slice A1 m1 cap1, .slice A2 m2 cap2] 67)).alloc (.cells #[.int .i64 d.op, .slice A m cap, .int .i64 d.var, .int .i64 d.field, .int .i64 d.kind, .int .i64 d.val.q, .int .i64 d.val.n, .string d.val.s] 30)) = w0 := ⟨_, rfl⟩
    have HW0 := hide hw0
    have e0 : ((w.alloc (.cells #[.slice A1 m1 cap1, .slice A2 m2 cap2] 67)).alloc (.cells ([.int .i64 d.op, .slice A m cap, .int .i64 d.var, .int .i64 d.field, .int .i64 d.kind, .int .i64 d.val.q, .int .i64 d.val.n, .string d.val.s]).toArray 30)) = w0 := hw0
    rw [hw0]
    rw [e0] at H1 H2 HB HX HY
    rw [hw0] at HBS
    clear hw0 e0 HW0 y0 y1
    go_loopw [6, 24] (fun v i wr => ∃ j : Nat, j ≤ m ∧ i = .int .i64 j ∧ wr.ownsRow w0.heap.size 3 1 v j (ints (ksOf (leafK T V) (args.take j))) ∧ Hid (okK0 (leafK T V) (args.take j) = true) ∧ Below w0.heap.size w0 wr) (fun _ i _ => m - (intOf i).toNat)
    case atStart => exact ⟨0, by omega, rfl, World.ownsRow_nil _ _ _ _, hide rfl, Below.refl _ _⟩
    case round =>
      obtain ⟨j, hj, rfl, hown, HA, hW⟩ := hrel
      have HXr := hide (HX.out.keep hW)
      have HYr := hide (HY.out.keep hW)
      have x0 := HXr.out 0 _ rfl
      have x1 := HXr.out 1 _ rfl
      have y0 := HYr.out 0 _ rfl
      have y1 := HYr.out 1 _ rfl
      have l0 := World.block_lt_of_cell? wr _ x0
      have l1 := World.block_lt_of_cell? wr _ y0
      simp only at l0 l1
      by_cases hlt : j < m
      · have hja : j < args.length := by rw [HM.out]; exact hlt
        have HKS := hide (show ints (ksOf (leafK T V) (args.take (j + 1))) = ints (ksOf (leafK T V) (args.take j)) ++ [.int .i64 (kindT (leafK T V) args[j]).1] by rw [ksOf_snoc hja, ints_app]; rfl)
        have HA1 := hide (fun h => okK0_snoc hja HA.out h)
        have HA2 := hide (fun h => kindT_bad (d := d) (kindL_bad hja HA.out h) HNE.out)
        obtain ⟨g, off, ys, e2, hg, hyl, hc, hrx⟩ := Lst.at_ (Lst.keep rd_Tx (Kp.of_below (bthen HB.out hW)) HL.out) hja
        subst e2
        have hgw : g < wr.heap.size := Nat.lt_of_lt_of_le hg (bthen HB.out hW).size
        have HTX := hide (show Tx wr ys args[j] from RTx.more (fun _ hz => Nat.lt_of_lt_of_le hz (bthen HB.out hW).size) hrx)
        have HC := hide (HIH.out j hja)
        obtain ⟨t, ht⟩ : ∃ t, args[j] = t := ⟨_, rfl⟩
        rw [ht] at HTX HC HKS HA1 HA2
        obtain ⟨K, hK⟩ : ∃ k, kindT (leafK T V) t = k := ⟨_, rfl⟩
        rw [hK] at HC HKS HA1 HA2
        clear ht hK hrx hyl
        obtain ⟨d2, l2⟩ := t
        obtain ⟨v2, rfl, hl2, hd2⟩ := RTx.out HTX.out
        obtain ⟨A5, cap5, rfl⟩ := hl2.form
        obtain ⟨n2, hn2⟩ : ∃ n, l2.length = n := ⟨_, rfl⟩
        rw [hn2] at hc HTX
        have k0 := hc 0 _ rfl
        have k1 := hc 1 _ rfl
        have k2 := hc 2 _ rfl
        have k3 := hc 3 _ rfl
        have k4 := hc 4 _ rfl
        have k5 := hc 5 _ rfl
        have k6 := hc 6 _ rfl
        have k7 := hc 7 _ rfl
        rw [Nat.add_zero] at k0
        have hu0 : (0 : Int) ≤ (j : Int) := by omega
        have hu1 : (j : Int) < (m : Int) := by omega
        clear hc hl2 hd2 hn2 hg
        obtain ⟨kq, ke⟩ := K
        simp only at HC HKS HA1 HA2
        have hlb := below_laid (w := wr) (.cells #[.int .i64 d2.op, .slice A5 n2 cap5, .int .i64 d2.var, .int .i64 d2.field, .int .i64 d2.kind, .int .i64 d2.val.q, .int .i64 d2.val.n, .string d2.val.s] 30)
        replace HC := hide (HC.out _ _ _ _ ((H1.out.keep rd_Sc hW).keep rd_Sc hlb) ((H2.out.keep rd_Vr hW).keep rd_Vr hlb) (HTX.out.grow hlb))
        clear hlb
        go_wp2_with fail
        refine HC.out.mono ?_
        rintro e w3 ⟨rfl, hb⟩
        have hbw := bel1 hb
        have hown := own_keep hown hbw
        have hW2 := hW.trans (hbw.mono hW.size)
        clear hb x0 x1 y0 y1 k0 k1 k2 k3 k4 k5 k6 k7 HC HTX HXr HYr hgw
        by_cases hE : ke = 0
        · have tE : (ke != 0) = false := by rw [bne_eq_false_iff_eq]; exact hE
          have HA3 := hide (HA1.out hE)
          clear hE HA1 HA2 HA hW hbw
          go_wp2_with (at_builtin; refine wpList_append_one rfl _ _ 24 rfl w0.heap.size 3 i0 _ 8 Try.underlying24 hi0 hz0 [.int .i64 kq] hz1 hz2 rfl (by simp) _ _ _ rfl hown _ (by first | rfl | (rw [World.size_alloc]; rfl)) (by simp [Value.oneCell']) ?c1 (by decide) ?c2 ?_; (case c1 => omega); (case c2 => exact hW2.size); intro v3 w4 hown2 hb2 _)
          go_roundw
          case rel => exact ⟨j + 1, by omega, by go_num, by rw [HKS.out]; exact hown2, HA3, hW2.trans hb2⟩
          case measure => simp [intOf]; omega
        · have tE : (ke != 0) = true := by rw [bne_iff_ne]; exact hE
          have HQ := hide (show R = (0, ke) by rw [← HR.out]; exact HA2.out hE)
          have HW := hide (bthen HB.out hW2)
          clear hE HA1 HA2 HA HKS HR hown hW2 hW hbw
          go_wp2
          go_ret2
          exact Ret.mk (by rw [HQ.out]; first | done | rfl) HW.out
      · obtain rfl : j = m := by omega
        have hta : args.take j = args := List.take_of_length_le (by rw [HM.out]; exact Nat.le_refl _)
        rw [hta] at hown HA
        have hkl : (ksOf (leafK T V) args).length = j := by unfold ksOf; rw [List.length_map, HM.out]
        have HQ := hide (show R = if opsE d.op (ksOf (leafK T V) args) ≠ 0 then (0, opsE d.op (ksOf (leafK T V) args)) else (resK d.op, 0) by rw [← HR.out]; exact kindT_ops (kindL_ok HA.out) HNE.out)
        have HOP := hide (opd_any wr d.op (ksOf (leafK T V) args) u6 (by omega) (by rw [hkl]; exact Row.of_own hown))
        have HW := hide (bthen HB.out hW)
        obtain ⟨E, hE⟩ : ∃ e, opsE d.op (ksOf (leafK T V) args) = e := ⟨_, rfl⟩
        rw [hE] at HOP HQ
        clear hta hkl hE HR hown hW HA
        go_wp2_with fail
        refine HOP.out.mono ?_
        rintro e w3 ⟨rfl, hb⟩
        have HYs := hide (HYr.out.keep hb)
        replace HW := hide (bthen HW.out hb)
        clear x0 x1 y0 y1 HXr HYr HOP hb
        have y0 := HYs.out 0 _ rfl
        by_cases hE : E = 0
        · have tE : (E != 0) = false := by rw [bne_eq_false_iff_eq]; exact hE
          by_cases h5 : d.op = 5
          · have t5 : (d.op == 5) = true := by rw [beq_iff_eq]; exact h5
            have HQ2 := hide (show R = (0, 0) by rw [HQ.out, if_neg (by simpa using hE)]; unfold resK; rw [if_pos (.inl h5)])
            clear hE h5 HQ
            go_wp2
            go_ret2
            exact Ret.mk (by rw [HQ2.out]; first | done | rfl) HW.out
          · have t5 : (d.op == 5) = false := by rw [beq_eq_false_iff_ne]; exact h5
            by_cases h6 : d.op = 6
            · have t6 : (d.op == 6) = true := by rw [beq_iff_eq]; exact h6
              have HQ2 := hide (show R = (0, 0) by rw [HQ.out, if_neg (by simpa using hE)]; unfold resK; rw [if_pos (.inr h6)])
              clear hE h5 h6 HQ
              go_wp2
              go_ret2
              exact Ret.mk (by rw [HQ2.out]; first | done | rfl) HW.out
            · have t6 : (d.op == 6) = false := by rw [beq_eq_false_iff_ne]; exact h6
              have HQ2 := hide (show R = (1, 0) by rw [HQ.out, if_neg (by simpa using hE)]; unfold resK; rw [if_neg (by omega)])
              clear hE h5 h6 HQ
              go_wp2
              go_ret2
              exact Ret.mk (by rw [HQ2.out]; first | done | rfl) HW.out
        · have tE : (E != 0) = true := by rw [bne_iff_ne]; exact hE
          have HQ2 := hide (show R = (0, E) by rw [HQ.out, if_pos hE])
          clear hE HQ
          go_wp2
          go_ret2
          exact Ret.mk (by rw [HQ2.out]; first | done | rfl) HW.out
end
end Go.Proofs.Ytkcbjnhphekadaa
