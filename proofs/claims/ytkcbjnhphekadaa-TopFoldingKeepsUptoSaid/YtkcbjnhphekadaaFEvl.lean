/- eval, of an evaluator: the value of a node. -/
import Derived.Test.YtkcbjnhphekadaaFLeaf
import Derived.Test.YtkcbjnhphekadaaFKind2
import Derived.Test.YtkcbjnhphekadaaFRegA
namespace Go.Proofs.Ytkcbjnhphekadaa
open Go.RowKit
set_option linter.unusedVariables false
set_option linter.unusedSimpArgs false
section
variable {LV : Nd → V3 × Int}
def okV0 (LV : Nd → V3 × Int) (l : List Tr) : Bool := l.all fun a => decide ((evalT LV a).2 = 0)
def vsOf (LV : Nd → V3 × Int) (l : List Tr) : List V3 := l.map fun a => (evalT LV a).1
theorem evalL_ok : ∀ {l : List Tr}, okV0 LV l = true → evalL LV l = .inr (vsOf LV l)
  | [], _ => by rw [evalL]; rfl
  | t :: l, h => by
    unfold okV0 at h
    simp only [List.all_cons, Bool.and_eq_true, decide_eq_true_eq] at h
    rw [evalL, if_neg (by simpa using h.1), evalL_ok (l := l) h.2]
    rfl
theorem evalL_bad : ∀ {l : List Tr} {j : Nat} (hj : j < l.length), okV0 LV (l.take j) = true → (evalT LV l[j]).2 ≠ 0 → evalL LV l = .inl (evalT LV l[j]).2
  | t :: l, 0, _, _, h => by rw [evalL, if_pos (by simpa using h)]; rfl
  | t :: l, j + 1, hj, h0, h => by
    unfold okV0 at h0
    simp only [List.take_succ_cons, List.all_cons, Bool.and_eq_true, decide_eq_true_eq] at h0
    rw [evalL, if_neg (by simpa using h0.1), evalL_bad (l := l) (j := j) (by simpa using hj) h0.2 (by simpa using h)]
    rfl
theorem okV0_snoc {l : List Tr} {j : Nat} (h : j < l.length) (ht : okV0 LV (l.take j) = true) (hf : (evalT LV l[j]).2 = 0) : okV0 LV (l.take (j + 1)) = true := by
  unfold okV0 at ht ⊢
  rw [List.take_succ_eq_append_getElem h, List.all_append, ht]
  simp [hf]
theorem vsOf_snoc {l : List Tr} {j : Nat} (h : j < l.length) : vsOf LV (l.take (j + 1)) = vsOf LV (l.take j) ++ [(evalT LV l[j]).1] := by
  unfold vsOf
  rw [List.take_succ_eq_append_getElem h, List.map_append]
  rfl
theorem evalT_bad {d : Nd} {l : List Tr} {e : Int} (h : evalL LV l = .inl e) (hl : l ≠ []) : evalT LV (.mk d l) = (V3.z, e) := by
  rw [evalT, if_neg hl, h]
theorem evalT_ops {d : Nd} {l : List Tr} {vs : List V3} (h : evalL LV l = .inr vs) (hl : l ≠ []) : evalT LV (.mk d l) = if opsE d.op (vs.map (·.q)) ≠ 0 then (V3.z, opsE d.op (vs.map (·.q))) else (resV d.op vs, 0) := by
  rw [evalT, if_neg hl, h]
end
def evLV (E : List (List Evx)) (d : Nd) : V3 × Int := (leafV E d, leafE E d)
section
variable (E : List (List Evx)) (hE : ∀ k, (evsQ E k).length ≤ 4096)
include hE
set_option maxRecDepth 100000 in
set_option maxHeartbeats 8000000 in
theorem xeval_any : ∀ (t : Tr), OkT 16 8 t → ∀ (w : World) (v : Value) (mp : Nat) (xs : List Value), There RLx 1 w v E → Opz w mp → Tx w xs t →
    Calls Try.prog 22 #[.agg (evC v (.map (some mp))).toArray, .agg xs.toArray] w (Ret (.tuple #[V3.v (evalT (evLV E) t).1, .int .i64 (evalT (evLV E) t).2]) w) := by
  refine tr_ind fun d args ih => ?_
  intro hok w v mp xs h1 h2 h
  obtain ⟨v0, rfl, hl, hd⟩ := RTx.out h
  obtain ⟨A, cap, rfl⟩ := hl.form
  obtain ⟨i0, hi0, hz0, hz1, hz2⟩ := info_parts info_int
  obtain ⟨j0, hj0, hw0, hw1, hw2⟩ := info_parts info_value
  have hrg : 0 ≤ d.var ∧ 0 ≤ d.field := by cases hok with | mk hn _ => exact node_rng hn
  have HLF := hide (fun w h1 => xleaf_any E (.map (some mp)) w v d A args.length cap h1 hrg.1 hrg.2 hd.2.2.2.2.2.2 (hE _))
  have HIH := hide (fun j (hj : j < args.length) => ih args[j] (List.getElem_mem hj) (by cases hok with | mk _ ha => exact ha _ (List.getElem_mem hj)))
  have HL := hide hl
  have H1 := hide h1
  have H2 := hide h2
  have hm := hl.len
  unfold maxLen at hm
  have HND := hide hd
  obtain ⟨A1, cap1, rfl⟩ := h1.form
  obtain ⟨m1, hm1⟩ : ∃ k, E.length = k := ⟨_, rfl⟩
  have har : args.length ≤ 2 := by
    cases hok with
    | mk hn _ => have := (node_ar hn).2.2; unfold arQ at this; split at this <;> (try split at this) <;> omega
  have HAQ := hide (show args.length = arQ d.op ∧ 0 ≤ d.op ∧ d.op ≤ 12 by cases hok with | mk hn _ => exact ⟨(node_ar hn).2.2, (node_ar hn).1, (node_ar hn).2.1⟩)
  obtain ⟨m, hmm⟩ : ∃ m, args.length = m := ⟨_, rfl⟩
  have HM := hide hmm
  obtain ⟨R, hR⟩ : ∃ r, evalT (evLV E) (.mk d args) = r := ⟨_, rfl⟩
  have HR := hide hR
  rw [hR]
  rw [hm1] at H1 HLF ⊢
  rw [hmm] at HL hm har HLF HAQ ⊢
  have hX := (Bxs.new w [.slice A1 m1 cap1, .int .i64 (-1), .int .i64 0, .int .i64 0, .int .i64 0, .int .i64 0, .slice none 0 0, .map (some mp)] 74).keep (below_laid (.cells ([.int .i64 d.op, .slice A m cap, .int .i64 d.var, .int .i64 d.field, .int .i64 d.kind, .int .i64 d.val.q, .int .i64 d.val.n, .string d.val.s]).toArray 30))
  replace hX := hX.keep (below_laid (.cells #[.int .i64 0, .int .i64 0, .string ⟨#[]⟩] 28))
  have hY := (Bxs.new (w.alloc (.cells ([.slice A1 m1 cap1, .int .i64 (-1), .int .i64 0, .int .i64 0, .int .i64 0, .int .i64 0, .slice none 0 0, .map (some mp)]).toArray 74)) ([.int .i64 d.op, .slice A m cap, .int .i64 d.var, .int .i64 d.field, .int .i64 d.kind, .int .i64 d.val.q, .int .i64 d.val.n, .string d.val.s]) 30).keep (below_laid (.cells #[.int .i64 0, .int .i64 0, .string ⟨#[]⟩] 28))
  rw [World.size_alloc] at hY
  have hZ : Box3 (((w.alloc (.cells ([.slice A1 m1 cap1, .int .i64 (-1), .int .i64 0, .int .i64 0, .int .i64 0, .int .i64 0, .slice none 0 0, .map (some mp)]).toArray 74)).alloc (.cells ([.int .i64 d.op, .slice A m cap, .int .i64 d.var, .int .i64 d.field, .int .i64 d.kind, .int .i64 d.val.q, .int .i64 d.val.n, .string d.val.s]).toArray 30)).alloc (.cells #[.int .i64 0, .int .i64 0, .string ⟨#[]⟩] 28)) (w.heap.size + 1 + 1) V3.z := by
    have := Box3.new ((w.alloc (.cells ([.slice A1 m1 cap1, .int .i64 (-1), .int .i64 0, .int .i64 0, .int .i64 0, .int .i64 0, .slice none 0 0, .map (some mp)]).toArray 74)).alloc (.cells ([.int .i64 d.op, .slice A m cap, .int .i64 d.var, .int .i64 d.field, .int .i64 d.kind, .int .i64 d.val.q, .int .i64 d.val.n, .string d.val.s]).toArray 30)) V3.z 28
    simp only [World.size_alloc] at this
    exact this
  have hB := bthen (bthen (below_laid (w := w) (.cells ([.slice A1 m1 cap1, .int .i64 (-1), .int .i64 0, .int .i64 0, .int .i64 0, .int .i64 0, .slice none 0 0, .map (some mp)]).toArray 74)) (below_laid (.cells ([.int .i64 d.op, .slice A m cap, .int .i64 d.var, .int .i64 d.field, .int .i64 d.kind, .int .i64 d.val.q, .int .i64 d.val.n, .string d.val.s]).toArray 30))) (below_laid (.cells #[.int .i64 0, .int .i64 0, .string ⟨#[]⟩] 28))
  replace H1 := hide (H1.out.keep rd_Lx hB)
  replace H2 := hide (H2.out.keep hB)
  have HB := hide hB
  have HX := hide hX
  have HY := hide hY
  have HZ := hide hZ
  have y0 := hY 0 _ rfl
  have y1 := hY 1 _ rfl
  clear h hl hd ih hmm hm1 hR h1 h2 hok hX hY hZ hB hrg
  rcases Nat.eq_zero_or_pos m with rfl | hpos
  · have HQ := hide (show R = (leafV E d, leafE E d) by
      rw [← HR.out, show args = [] from List.length_eq_zero_iff.1 HM.out]; exact eval_0 d)
    obtain ⟨Q, hQ⟩ : ∃ q, leafV E d = q := ⟨_, rfl⟩
    obtain ⟨QE, hQE⟩ : ∃ q, leafE E d = q := ⟨_, rfl⟩
    rw [hQ, hQE] at HQ HLF
    obtain ⟨qq, qn, qs⟩ := Q
    have x0 := HX.out 0 _ rfl
    have x1 := HX.out 1 _ rfl
    have x2 := HX.out 2 _ rfl
    have x3 := HX.out 3 _ rfl
    have x4 := HX.out 4 _ rfl
    have x5 := HX.out 5 _ rfl
    have x6 := HX.out 6 _ rfl
    have x7 := HX.out 7 _ rfl
    have y2 := HY.out 2 _ rfl
    have y3 := HY.out 3 _ rfl
    have y4 := HY.out 4 _ rfl
    have y5 := HY.out 5 _ rfl
    have y6 := HY.out 6 _ rfl
    have y7 := HY.out 7 _ rfl
    rw [HQ.out]
    clear hQ hQE HIH HL HR
    go_enter Try.func22, Try.ntmps22
    go_wp2_with fail
    refine (HLF.out _ H1.out).mono ?_
    rintro e w3 ⟨rfl, hb⟩
    have HW := hide (bthen HB.out hb)
    obtain ⟨⟨r0, r1, r2⟩, g0, g1, g2⟩ := HZ.out.keep hb
    simp only [V3.z] at r0 r1 r2
    clear hb x0 x1 x2 x3 x4 x5 x6 x7 y0 y1 y2 y3 y4 y5 y6 y7
    go_wp2
    refine bodyPost_ret (v := .tuple #[.agg #[.int .i64 qq, .int .i64 qn, .string qs], .int .i64 QE]) (by rw [results_cell_tmp rfl]; go_simp) rfl ?_
    exact Ret.mk rfl (below_set3' HW.out (by omega) _ _ _)
  · have tm : ((m : Int) == 0) = false := by rw [beq_eq_false_iff_ne]; omega
    have tm2 : (m == 0) = false := by rw [beq_eq_false_iff_ne]; omega
    have HNE := hide (show args ≠ [] by intro h; rw [h] at HM; have := HM.out; simp at this; omega)
    clear HLF
    go_enter Try.func22, Try.ntmps22
    go_wp2_with fail
    obtain ⟨w0, hw0⟩ : ∃ w0, (((w.alloc (.cells ([.slice A1 m1 cap1, .int .i64 (-1), .int .i64 0, .int .i64 0, .int .i64 0, .int .i64 0, .slice none 0 0, .map (some mp)]).toArray 74)).alloc (.cells #[.int .i64 d.op, .slice A m cap, .int .i64 d.var, .int .i64 d.field, .int .i64 d.kind, .int .i64 d.val.q, .int .i64 d.val.n, .string d.val.s] 30)).alloc (.cells #[.int .i64 0, .int .i64 0, .string ⟨#[]⟩] 28)) = w0 := ⟨_, rfl⟩
    have e0 : (((w.alloc (.cells ([.slice A1 m1 cap1, .int .i64 (-1), .int .i64 0, .int .i64 0, .int .i64 0, .int .i64 0, .slice none 0 0, .map (some mp)]).toArray 74)).alloc (.cells ([.int .i64 d.op, .slice A m cap, .int .i64 d.var, .int .i64 d.field, .int .i64 d.kind, .int .i64 d.val.q, .int .i64 d.val.n, .string d.val.s]).toArray 30)).alloc (.cells #[.int .i64 0, .int .i64 0, .string ⟨#[]⟩] 28)) = w0 := hw0
    have e1 : (((w.alloc (.cells (evC (.slice A1 m1 cap1) (.map (some mp))).toArray 74)).alloc (.cells (cellsX d (.slice A m cap)).toArray 30)).alloc (.cells #[.int .i64 0, .int .i64 0, .string ⟨#[]⟩] 28)) = w0 := hw0
    first | rw [hw0] | rw [e0] | rw [e1] | skip
    rw [e0] at H1 H2 HB HX HY HZ
    clear hw0 e0 e1 y0 y1
    go_loopw [6, 7, 25] (fun v u i wr => ∃ j : Nat, j ≤ m ∧ i = .int .i64 j ∧ wr.ownsRow w0.heap.size 28 3 v j (flat (vsOf (evLV E) (args.take j))) ∧ wr.ownsRow w0.heap.size 3 1 u j (ints ((vsOf (evLV E) (args.take j)).map (·.q))) ∧ Hid (okV0 (evLV E) (args.take j) = true) ∧ Below w0.heap.size w0 wr) (fun _ _ i _ => m - (intOf i).toNat)
    case atStart => exact ⟨0, by omega, rfl, World.ownsRow_nil _ _ _ _, World.ownsRow_nil _ _ _ _, hide rfl, Below.refl _ _⟩
    case round =>
      obtain ⟨j, hj, rfl, hown, hownk, HA, hW⟩ := hrel
      have HXr := hide (HX.out.keep hW)
      have HYr := hide (HY.out.keep hW)
      have HZr := hide (HZ.out.keep hW)
      have y0 := HYr.out 0 _ rfl
      have y1 := HYr.out 1 _ rfl
      have x0 := HXr.out 0 _ rfl
      have x1 := HXr.out 1 _ rfl
      have x2 := HXr.out 2 _ rfl
      have x3 := HXr.out 3 _ rfl
      have x4 := HXr.out 4 _ rfl
      have x5 := HXr.out 5 _ rfl
      have x6 := HXr.out 6 _ rfl
      have x7 := HXr.out 7 _ rfl
      have z0 := HZr.out.1.1
      have l0 := World.block_lt_of_cell? wr _ x0
      have l1 := World.block_lt_of_cell? wr _ y0
      have l2 := World.block_lt_of_cell? wr _ z0
      simp only at l0 l1 l2
      clear z0
      by_cases hlt : j < m
      · have hja : j < args.length := by rw [HM.out]; exact hlt
        have HVS := hide (show flat (vsOf (evLV E) (args.take (j + 1))) = flat (vsOf (evLV E) (args.take j)) ++ [.int .i64 (evalT (evLV E) args[j]).1.q, .int .i64 (evalT (evLV E) args[j]).1.n, .string (evalT (evLV E) args[j]).1.s] by rw [vsOf_snoc hja, flat_app]; rfl)
        have HKS := hide (show ints ((vsOf (evLV E) (args.take (j + 1))).map (·.q)) = ints ((vsOf (evLV E) (args.take j)).map (·.q)) ++ [.int .i64 (evalT (evLV E) args[j]).1.q] by rw [vsOf_snoc hja, List.map_append, ints_app]; rfl)
        have HA1 := hide (fun h => okV0_snoc hja HA.out h)
        have HA2 := hide (fun h => evalT_bad (d := d) (evalL_bad hja HA.out h) HNE.out)
        obtain ⟨g, off, ys, e2, hg, hyl, hc, hrx⟩ := Lst.at_ (Lst.keep rd_Tx (Kp.of_below (bthen HB.out hW)) HL.out) hja
        subst e2
        have hgw : g < wr.heap.size := Nat.lt_of_lt_of_le hg (bthen HB.out hW).size
        have HTX := hide (show Tx wr ys args[j] from RTx.more (fun _ hz => Nat.lt_of_lt_of_le hz (bthen HB.out hW).size) hrx)
        have HC := hide (HIH.out j hja)
        obtain ⟨t, ht⟩ : ∃ t, args[j] = t := ⟨_, rfl⟩
        rw [ht] at HTX HC HVS HKS HA1 HA2
        obtain ⟨K, hK⟩ : ∃ k, evalT (evLV E) t = k := ⟨_, rfl⟩
        rw [hK] at HC HVS HKS HA1 HA2
        clear ht hK hrx hyl
        obtain ⟨d2, l2'⟩ := t
        obtain ⟨v2, rfl, hl2, hd2⟩ := RTx.out HTX.out
        obtain ⟨A5, cap5, rfl⟩ := hl2.form
        obtain ⟨n2, hn2⟩ : ∃ n, l2'.length = n := ⟨_, rfl⟩
        rw [hn2] at hc HTX
        have k0 := hc 0 _ rfl
        have k1 := hc 1 _ rfl
        have k2 := hc 2 _ rfl
        have k3 := hc 3 _ rfl
        have k4 := hc 4 _ rfl
        have k5 := hc 5 _ rfl
        have k6 := hc 6 _ rfl
        have k7 := hc 7 _ rfl
        rw [Nat.add_zero] at k0
        have hu0 : (0 : Int) ≤ (j : Int) := by omega
        have hu1 : (j : Int) < (m : Int) := by omega
        clear hc hl2 hd2 hn2 hg
        obtain ⟨⟨kq, kn, ks⟩, ke⟩ := K
        simp only at HC HKS HVS HA1 HA2
        have hlb := below_laid (w := wr) (.cells #[.int .i64 d2.op, .slice A5 n2 cap5, .int .i64 d2.var, .int .i64 d2.field, .int .i64 d2.kind, .int .i64 d2.val.q, .int .i64 d2.val.n, .string d2.val.s] 30)
        replace HC := hide (HC.out _ _ _ _ ((H1.out.keep rd_Lx hW).keep rd_Lx hlb) ((H2.out.keep hW).keep hlb) (HTX.out.grow hlb))
        clear hlb
        go_wp2_with fail
        refine HC.out.mono ?_
        rintro e w3 ⟨rfl, hb⟩
        have hbw := bel1 hb
        have hown := own_keep hown hbw
        have hownk := own_keep hownk hbw
        have hW2 := hW.trans (hbw.mono hW.size)
        replace HZr := hide (HZr.out.keep hbw)
        clear hb x0 x1 x2 x3 x4 x5 x6 x7 y0 y1 k0 k1 k2 k3 k4 k5 k6 k7 HC HTX HXr HYr hgw l0 l1 l2
        by_cases hE : ke = 0
        · have tE : (ke != 0) = false := by rw [bne_eq_false_iff_eq]; exact hE
          have HA3 := hide (HA1.out hE)
          clear hE HA1 HA2 HA hW hbw
          go_wp2_with fail
          obtain ⟨FV, hFV⟩ : ∃ x, flat (vsOf (evLV E) (args.take j)) = x := ⟨_, rfl⟩
          obtain ⟨FK, hFK⟩ : ∃ x, ints ((vsOf (evLV E) (args.take j)).map (·.q)) = x := ⟨_, rfl⟩
          obtain ⟨FV1, hFV1⟩ : ∃ x, flat (vsOf (evLV E) (args.take (j + 1))) = x := ⟨_, rfl⟩
          obtain ⟨FK1, hFK1⟩ : ∃ x, ints ((vsOf (evLV E) (args.take (j + 1))).map (·.q)) = x := ⟨_, rfl⟩
          rw [hFV] at hown HVS
          rw [hFK] at hownk HKS
          rw [hFV1] at HVS
          rw [hFK1] at HKS
          have HF1 := hide (And.intro hFV1 hFK1)
          have hV6 : ∀ k, u6.ownBlock = some k → k < w3.heap.size := fun k hk => (hown.lt k hk).2
          have hV7 : ∀ k, u7.ownBlock = some k → k < w3.heap.size := fun k hk => (hownk.lt k hk).2
          have hn67 : u6.ownBlock = none ∨ u6.ownBlock ≠ u7.ownBlock := own_type_ne hown hownk (by decide)
          have hn76 : u7.ownBlock = none ∨ u7.ownBlock ≠ u6.ownBlock := own_type_ne hownk hown (by decide)
          have hbx := cells_lit w3 [.int .i64 kq, .int .i64 kn, .string ks] 28
          have hba := below_laid (w := w3) (.cells #[.int .i64 kq, .int .i64 kn, .string ks] 28)
          have hza : (w3.alloc (.cells #[.int .i64 kq, .int .i64 kn, .string ks] 28)).heap.size = w3.heap.size + 1 := by simp
          have ho1 := own_keep hown hba
          have ho2 := own_keep hownk hba
          obtain ⟨wa, hwa⟩ : ∃ wa, w3.alloc (.cells #[.int .i64 kq, .int .i64 kn, .string ks] 28) = wa := ⟨_, rfl⟩
          have e0 : w3.alloc (.cells [.int .i64 kq, .int .i64 kn, .string ks].toArray 28) = wa := hwa
          rw [hwa] at hba hza ho1 ho2 ⊢
          rw [e0] at hbx
          have HBA := hide (hW2.trans (hba.mono hW2.size))
          have hsz0 := hW2.size
          clear hwa e0 hFV hFK hFV1 hFK1 hown hownk hW2 hba
          have ndr : ∀ x : World, Below x.heap.size x x.drew := fun x => (Below.refl _ _).drew
          refine wp_region_grow2 w0.heap.size (by omega) 9 [39, 40, 41, 42, 43, 44, 45, 46, 47] [Fix u6, Fix (.agg #[.int .i64 kq, .int .i64 kn, .string ks]), LitH w3.heap.size [.int .i64 kq, .int .i64 kn, .string ks], RowP w0.heap.size w3.heap.size 28 3 u6.ownBlock (j + 1) (FV ++ [.int .i64 kq, .int .i64 kn, .string ks]), Fix u7, Fix (.pointer (some ⟨w3.heap.size, 0, none⟩)), Fix (.int .i64 kq), LitH w3.heap.size [.int .i64 kq], RowP w0.heap.size w3.heap.size 3 1 u7.ownBlock (j + 1) (FK ++ [.int .i64 kq])] (by kernel_rfl) (by kernel_rfl) (by kernel_rfl) (by kernel_rfl) (by kernel_rfl) (IvV w0.heap.size w3.heap.size 28 3 u6 u7 j FV FK [.int .i64 kq, .int .i64 kn, .string ks]) spIV usV (by kernel_rfl) ?_ (trV w0.heap.size u6.ownBlock u7.ownBlock) spV ?_ ?_ ?_ ?_ ?_
          · intro d
            match d with
            | 0 => exact own_keep ho1 (ndr _)
            | 1 => exact own_keep ho2 (ndr _)
            | 2 => exact hbx
            | _ + 3 => trivial
          · intro j9 w5 w6 _ ht hsz
            exact trV_below ht (by omega)
          · intro j9 k9 hj9 hk9 hne _ _ w5 w6 v5 hsz ht hP5
            have hkc : k9 = 0 ∨ k9 = 1 ∨ k9 = 2 ∨ k9 = 3 ∨ k9 = 4 ∨ k9 = 5 ∨ k9 = 6 ∨ k9 = 7 ∨ k9 = 8 := by omega
            rcases trV_cases ht with ⟨rfl, ht⟩ | ⟨rfl, ht⟩ | ⟨-, -, ht⟩
            · rcases hkc with rfl | rfl | rfl | rfl | rfl | rfl | rfl | rfl | rfl
              all_goals first | exact absurd rfl hne | exact hP5 | exact rowP_grown hP5 ht hn76 hV6 | exact litH_grown hP5 ht hV6
            · rcases hkc with rfl | rfl | rfl | rfl | rfl | rfl | rfl | rfl | rfl
              all_goals first | exact absurd rfl hne | exact hP5 | exact rowP_grown hP5 ht hn67 hV7 | exact litH_grown hP5 ht hV7
            · rcases hkc with rfl | rfl | rfl | rfl | rfl | rfl | rfl | rfl | rfl
              all_goals first | exact hP5 | exact rowP_below hP5 ht | exact litH_below hP5 ht
          · intro j9 d9 hj9 hd9 w5 w6 hsz ht hI5
            rcases trV_cases ht with ⟨rfl, ht⟩ | ⟨rfl, ht⟩ | ⟨-, -, ht⟩
            · match d9 with
              | 0 => exact absurd (by decide) hd9
              | 1 => exact hI5.kept ht.1 hn76
              | 2 => exact fun c y hy => cell_grown (hI5 c y hy) ht fun e => by have := hV6 _ e; omega
              | _ + 3 => trivial
            · match d9 with
              | 0 => exact hI5.kept ht.1 hn67
              | 1 => exact absurd (by decide) hd9
              | 2 => exact fun c y hy => cell_grown (hI5 c y hy) ht fun e => by have := hV7 _ e; omega
              | _ + 3 => trivial
            · match d9 with
              | 0 => exact own_keep hI5 ht
              | 1 => exact own_keep hI5 ht
              | 2 => exact fun c y hy => keep1 ht (hI5 c y hy)
              | _ + 3 => trivial
          · intro j9 o9 hj9 ho x w5 hb hI hd
            have hjc : j9 = 0 ∨ j9 = 1 ∨ j9 = 2 ∨ j9 = 3 ∨ j9 = 4 ∨ j9 = 5 ∨ j9 = 6 ∨ j9 = 7 ∨ j9 = 8 := by omega
            have hw5 : w3.heap.size ≤ w5.heap.size := by have := hb.size; omega
            rcases hjc with rfl | rfl | rfl | rfl | rfl | rfl | rfl | rfl | rfl
            all_goals obtain rfl := Option.some.inj ho
            all_goals generalize hK : (fun (a' : Act) (w' : World) => _) = K
            all_goals simp only [puts]
            · go_simp
              rw [← hK]
              exact ⟨u6, (by simp only [puts]; go_simp), trV_0 (by decide) (by decide) (Below.refl _ _), rfl⟩
            · have hc := hI 2 (by decide)
              have c0 : w5.cell? ⟨w3.heap.size, 0, none⟩ = _ := hc 0 _ rfl
              have c1 : w5.cell? ⟨w3.heap.size, 1, none⟩ = _ := hc 1 _ rfl
              have c2 : w5.cell? ⟨w3.heap.size, 2, none⟩ = _ := hc 2 _ rfl
              clear hc
              go_simp
              rw [← hK]
              exact ⟨.agg #[.int .i64 kq, .int .i64 kn, .string ks], (by simp only [puts]; go_simp), trV_0 (by decide) (by decide) (Below.refl _ _), rfl⟩
            · have e : x 40 = .agg #[.int .i64 kq, .int .i64 kn, .string ks] := hd 1 (by kernel_rfl) (by kernel_rfl)
              go_simp
              rw [← hK]
              exact ⟨.slice (some ⟨w5.heap.size, 0, none⟩) 1 1, (by simp only [puts]; go_simp), trV_0 (by decide) (by decide) (below_laid _), litH_new w5 [.int .i64 kq, .int .i64 kn, .string ks] 28 hw5⟩
            · have e : x 39 = u6 := hd 0 (by kernel_rfl) (by kernel_rfl)
              have hLt : LitH w3.heap.size [.int .i64 kq, .int .i64 kn, .string ks] w5 (x 41) := hd 2 (by kernel_rfl) (by kernel_rfl)
              have hG : w5.ownsRow w0.heap.size 28 3 u6 j FV := hI 0 (by decide)
              obtain ⟨u9, e3⟩ : ∃ u, x 41 = u := ⟨_, rfl⟩
              rw [e3] at hLt
              refine wp_append_rowP (.tmp 39) (.tmp 41) 48 (by rfl) w0.heap.size w3.heap.size 28 j0 _ 32 Try.underlying48 hj0 hw0 [.int .i64 kq, .int .i64 kn, .string ks] hw1 hw2 (by rfl) (by simp) u6 j FV (by go_simp) hG u9 (by go_simp) hLt (fun y hy => by simp at hy; rcases hy with rfl | rfl | rfl <;> rfl) (by omega) (by decide) (by omega) hw5 ?_
              intro v9 w9 hg9 ht9
              rw [← hK]
              exact ⟨v9, (by simp only [puts]), trV_1 ht9, hg9⟩
            · go_simp
              rw [← hK]
              exact ⟨u7, (by simp only [puts]; go_simp), trV_0 (by decide) (by decide) (Below.refl _ _), rfl⟩
            · go_simp
              rw [← hK]
              exact ⟨.pointer (some ⟨w3.heap.size, 0, none⟩), (by simp only [puts]; go_simp), trV_0 (by decide) (by decide) (Below.refl _ _), rfl⟩
            · have e : x 44 = .pointer (some ⟨w3.heap.size, 0, none⟩) := hd 5 (by kernel_rfl) (by kernel_rfl)
              have hc := hI 2 (by decide)
              have c0 : w5.cell? ⟨w3.heap.size, 0, none⟩ = _ := hc 0 _ rfl
              clear hc
              go_simp
              rw [← hK]
              exact ⟨.int .i64 kq, (by simp only [puts]; go_simp), trV_0 (by decide) (by decide) (Below.refl _ _), rfl⟩
            · have e : x 45 = .int .i64 kq := hd 6 (by kernel_rfl) (by kernel_rfl)
              go_simp
              rw [← hK]
              exact ⟨.slice (some ⟨w5.heap.size, 0, none⟩) 1 1, (by simp only [puts]; go_simp), trV_0 (by decide) (by decide) (below_laid _), litH_new w5 [.int .i64 kq] 3 hw5⟩
            · have e : x 43 = u7 := hd 4 (by kernel_rfl) (by kernel_rfl)
              have hLt : LitH w3.heap.size [.int .i64 kq] w5 (x 46) := hd 7 (by kernel_rfl) (by kernel_rfl)
              have hG : w5.ownsRow w0.heap.size 3 1 u7 j FK := hI 1 (by decide)
              obtain ⟨u9, e3⟩ : ∃ u, x 46 = u := ⟨_, rfl⟩
              rw [e3] at hLt
              refine wp_append_rowP (.tmp 43) (.tmp 46) 24 (by rfl) w0.heap.size w3.heap.size 3 i0 _ 8 Try.underlying24 hi0 hz0 [.int .i64 kq] hz1 hz2 (by rfl) (by simp) u7 j FK (by go_simp) hG u9 (by go_simp) hLt (fun y hy => by simp at hy; subst hy; rfl) (by omega) (by decide) (by omega) hw5 ?_
              intro v9 w9 hg9 ht9
              rw [← hK]
              exact ⟨v9, (by simp only [puts]), trV_2 ht9, hg9⟩
          · intro x w9 hb hP
            have hR1 : RowP w0.heap.size w3.heap.size 28 3 u6.ownBlock (j + 1) (FV ++ [.int .i64 kq, .int .i64 kn, .string ks]) w9 (x 42) := hP 3 (by decide) (by decide)
            have hR2 : RowP w0.heap.size w3.heap.size 3 1 u7.ownBlock (j + 1) (FK ++ [.int .i64 kq]) w9 (x 47) := hP 8 (by decide) (by decide)
            have HR1 := hide hR1.1
            have HR2 := hide hR2.1
            have HB9 := hide (HBA.out.trans hb)
            clear hP hR1 hR2 hb
            simp only [puts, Act.put, List.setIfInBounds_toArray, List.set_cons_succ, List.set_cons_zero, List.drop]
            go_wp2
            go_roundw
            case rel => exact ⟨j + 1, by omega, by go_num, by rw [HF1.out.1, HVS.out]; exact HR1.out, by rw [HF1.out.2, HKS.out]; exact HR2.out, HA3, HB9.out⟩
            case measure => simp [intOf]; omega
        · have tE : (ke != 0) = true := by rw [bne_iff_ne]; exact hE
          have HQ := hide (show R = (V3.z, ke) by rw [← HR.out]; exact HA2.out hE)
          have HW := hide (bthen HB.out hW2)
          obtain ⟨⟨r0, r1, r2⟩, g0, g1, g2⟩ := HZr.out
          simp only [V3.z] at r0 r1 r2
          have l2 := World.block_lt_of_cell? w3 _ r0
          simp only at l2
          clear hE HA1 HA2 HA HKS HVS HR hown hownk hW2 hW hbw
          go_wp2
          refine bodyPost_ret (v := .tuple #[.agg #[.int .i64 0, .int .i64 0, .string ⟨#[]⟩], .int .i64 ke]) (by rw [results_cell_tmp rfl]; go_simp) rfl ?_
          exact Ret.mk (by rw [HQ.out]; first | done | rfl) (bthen (below_set3' HW.out (by omega) _ _ _) (below_laid _))
      · obtain rfl : j = m := by omega
        have hta : args.take j = args := List.take_of_length_le (by rw [HM.out]; exact Nat.le_refl _)
        rw [hta] at hown hownk HA
        obtain ⟨vs, hvs⟩ : ∃ vs, vsOf (evLV E) args = vs := ⟨_, rfl⟩
        have hkl : vs.length = j := by rw [← hvs]; unfold vsOf; rw [List.length_map, HM.out]
        rw [hvs] at hown hownk
        have HQ := hide (show R = if opsE d.op (vs.map (·.q)) ≠ 0 then (V3.z, opsE d.op (vs.map (·.q))) else (resV d.op vs, 0) by rw [← HR.out, ← hvs]; exact evalT_ops (evalL_ok HA.out) HNE.out)
        have HOP := hide (opd_any wr d.op (vs.map (·.q)) u7 (by rw [List.length_map]; omega) (by rw [List.length_map, hkl]; exact Row.of_own hownk))
        have HW := hide (bthen HB.out hW)
        have HWW := hide hW
        have HO := hide hown
        have HVL := hide hkl
        obtain ⟨EO, hEO⟩ : ∃ e, opsE d.op (vs.map (·.q)) = e := ⟨_, rfl⟩
        rw [hEO] at HOP HQ
        clear hta hkl hEO HR hown hownk hW HA hvs
        go_wp2_with fail
        refine HOP.out.mono ?_
        rintro e w3 ⟨rfl, hb⟩
        have HYs := hide (HYr.out.keep hb)
        have HXs := hide (HXr.out.keep hb)
        replace HZr := hide (HZr.out.keep hb)
        replace HW := hide (bthen HW.out hb)
        replace HO := hide (own_keep HO.out hb)
        replace H2 := hide ((H2.out.keep HWW.out).keep hb)
        clear x0 x1 x2 x3 x4 x5 x6 x7 y0 y1 HXr HYr HOP hb l0 l1 l2
        obtain ⟨⟨r0, r1, r2⟩, g0, g1, g2⟩ := HZr.out
        simp only [V3.z] at r0 r1 r2
        have l2 := World.block_lt_of_cell? w3 _ r0
        simp only at l2
        have y0 := HYs.out 0 _ rfl
        by_cases hE : EO = 0
        · have tE : (EO != 0) = false := by rw [bne_eq_false_iff_eq]; exact hE
          by_cases h9 : d.op = 9
          · have t9 : (d.op == 9) = true := by rw [beq_iff_eq]; exact h9
            obtain rfl : j = 2 := by have := HAQ.out.1; rw [h9] at this; exact this
            obtain ⟨a, b, rfl⟩ : ∃ a b, vs = [a, b] := by
              match vs, HVL.out with
              | [a, b], _ => exact ⟨a, b, rfl⟩
            obtain ⟨g6, c6, rfl, -, hg6, -, hcl⟩ := own_cellsN HO.out (by omega)
            obtain ⟨rz, hrz⟩ : ∃ z, flagQ (eqQ a b) = z := ⟨_, rfl⟩
            have HQ2 := hide (show R = (rz, 0) by rw [HQ.out, if_neg (by simpa using hE)]; unfold resV; rw [if_pos h9, ← hrz]; rfl)
            have HFL := hide (fun w => flag_any w (eqQ a b))
            rw [hrz] at HFL
            obtain ⟨rq, rn, rs⟩ := rz
            obtain ⟨ev, hev⟩ : ∃ z, eqQ a b = z := ⟨_, rfl⟩
            rw [hev] at HFL
            have HEV := hide hev
            have q0 := hcl 0 _ rfl
            have q1 := hcl 1 _ rfl
            have q2 := hcl 2 _ rfl
            have q3 := hcl 3 _ rfl
            have q4 := hcl 4 _ rfl
            have q5 := hcl 5 _ rfl
            clear hE h9 HQ HO hcl hrz hev
            go_wp2_with fail
            refine wp_region_grow 8 [60, 61, 62, 63, 64, 65, 66, 67] [Fix (.slice (some ⟨g6, 0, none⟩) 2 c6), Fix (.pointer (some ⟨g6, 0, none⟩)), Fix (.agg #[.int .i64 a.q, .int .i64 a.n, .string a.s]), Fix (.slice (some ⟨g6, 0, none⟩) 2 c6), Fix (.pointer (some ⟨g6, 3, none⟩)), Fix (.agg #[.int .i64 b.q, .int .i64 b.n, .string b.s]), Fix (.bool ev), Fix (.agg #[.int .i64 rq, .int .i64 rn, .string rs])] (by kernel_rfl) (by kernel_rfl) (by kernel_rfl) (by kernel_rfl) (by kernel_rfl) ?_ ?_ ?_
            · intro p hp
              simp only [List.mem_cons, List.not_mem_nil, or_false] at hp
              rcases hp with rfl | rfl | rfl | rfl | rfl | rfl | rfl | rfl
              all_goals exact fun _ _ _ _ h => h
            · intro j9 o9 hj9 ho x w5 hb hd
              have hjc : j9 = 0 ∨ j9 = 1 ∨ j9 = 2 ∨ j9 = 3 ∨ j9 = 4 ∨ j9 = 5 ∨ j9 = 6 ∨ j9 = 7 := by omega
              rcases hjc with rfl | rfl | rfl | rfl | rfl | rfl | rfl | rfl
              all_goals obtain rfl := Option.some.inj ho
              all_goals generalize hK : (fun (a' : Act) (w' : World) => _) = K
              all_goals simp only [puts]
              · go_simp
                rw [← hK]
                exact ⟨.slice (some ⟨g6, 0, none⟩) 2 c6, (by simp only [puts]; go_simp), Below.refl _ _, rfl⟩
              · have e : x 60 = .slice (some ⟨g6, 0, none⟩) 2 c6 := hd 0 (by kernel_rfl)
                go_simp
                rw [← hK]
                exact ⟨.pointer (some ⟨g6, 0, none⟩), (by simp only [puts]; go_simp), Below.refl _ _, rfl⟩
              · have e : x 61 = .pointer (some ⟨g6, 0, none⟩) := hd 1 (by kernel_rfl)
                have z0 := keep1 hb q0
                have z1 := keep1 hb q1
                have z2 := keep1 hb q2
                go_simp
                rw [← hK]
                exact ⟨.agg #[.int .i64 a.q, .int .i64 a.n, .string a.s], (by simp only [puts]; go_simp), Below.refl _ _, rfl⟩
              · go_simp
                rw [← hK]
                exact ⟨.slice (some ⟨g6, 0, none⟩) 2 c6, (by simp only [puts]; go_simp), Below.refl _ _, rfl⟩
              · have e : x 63 = .slice (some ⟨g6, 0, none⟩) 2 c6 := hd 3 (by kernel_rfl)
                go_simp
                rw [← hK]
                exact ⟨.pointer (some ⟨g6, 3, none⟩), (by simp only [puts]; go_simp), Below.refl _ _, rfl⟩
              · have e : x 64 = .pointer (some ⟨g6, 3, none⟩) := hd 4 (by kernel_rfl)
                have z3 := keep1 hb q3
                have z4 := keep1 hb q4
                have z5 := keep1 hb q5
                go_simp
                rw [← hK]
                exact ⟨.agg #[.int .i64 b.q, .int .i64 b.n, .string b.s], (by simp only [puts]; go_simp), Below.refl _ _, rfl⟩
              · have e : x 62 = .agg #[.int .i64 a.q, .int .i64 a.n, .string a.s] := hd 2 (by kernel_rfl)
                have e' : x 65 = .agg #[.int .i64 b.q, .int .i64 b.n, .string b.s] := hd 5 (by kernel_rfl)
                go_simp
                rw [eql_v3, HEV.out]
                cases ev
                · go_simp
                  rw [← hK]
                  exact ⟨.bool false, (by simp only [puts]; go_simp), Below.refl _ _, rfl⟩
                · go_simp
                  rw [← hK]
                  exact ⟨.bool true, (by simp only [puts]; go_simp), Below.refl _ _, rfl⟩
              · have e : x 66 = .bool ev := hd 6 (by kernel_rfl)
                go_simp
                go_at_call 26
                refine (HFL.out _).mono ?_
                rintro en w9 ⟨rfl, hbc⟩
                rw [← hK]
                exact ⟨.agg #[.int .i64 rq, .int .i64 rn, .string rs], (by simp only [puts]; go_simp), hbc, rfl⟩
            · intro x w9 hb hP
              have e : x 67 = .agg #[.int .i64 rq, .int .i64 rn, .string rs] := hP 7 (by decide)
              have HWF := hide (bthen HW.out hb)
              have s0 := keep1 hb r0
              have s1 := keep1 hb r1
              have s2 := keep1 hb r2
              have f0 := ((bcell hb).2 (w.heap.size + 1 + 1) 0 (by omega)).trans g0
              have f1 := ((bcell hb).2 (w.heap.size + 1 + 1) 1 (by omega)).trans g1
              have f2 := ((bcell hb).2 (w.heap.size + 1 + 1) 2 (by omega)).trans g2
              have l9 := World.block_lt_of_cell? w9 _ s0
              simp only at l9
              clear hP hb r0 r1 r2 g0 g1 g2 q0 q1 q2 q3 q4 q5 l2 y0
              simp only [puts, Act.put, List.setIfInBounds_toArray, List.set_cons_succ, List.set_cons_zero, List.drop]
              go_wp2
              refine bodyPost_ret (v := .tuple #[.agg #[.int .i64 rq, .int .i64 rn, .string rs], .int .i64 0]) (by rw [results_cell_tmp rfl]; go_simp) rfl ?_
              exact Ret.mk (by rw [HQ2.out]; first | done | rfl) (below_set3' HWF.out (by omega) _ _ _)
          · have t9 : (d.op == 9) = false := by rw [beq_eq_false_iff_ne]; exact h9
            have hops : isOp d.op := by
              have h := HAQ.out
              unfold arQ at h
              unfold isOp
              split at h <;> omega
            have hj12 : j = 1 ∨ j = 2 := by omega
            rcases hj12 with rfl | rfl
            · obtain ⟨a, rfl⟩ : ∃ a, vs = [a] := by
                match vs, HVL.out with
                | [a], _ => exact ⟨a, rfl⟩
              obtain ⟨g6, c6, rfl, -, hg6, -, hcl⟩ := own_cellsN HO.out (by omega)
              obtain ⟨rz, hrz⟩ : ∃ z, appQ d.op a.n a.n = z := ⟨_, rfl⟩
              have HRZ := hide hrz
              have HQ2 := hide (show R = (rz, 0) by rw [HQ.out, if_neg (by simpa using hE)]; unfold resV; rw [if_neg h9, ← hrz]; rfl)
              obtain ⟨rq, rn, rs⟩ := rz
              have q1 := hcl 1 _ rfl
              have q4 := hcl 1 _ rfl
              have HXI := hide (HXs.out 7 _ rfl)
              have HOPS := hide hops
              have HY0 := hide y0
              have H2' := H2
              clear hE h9 HQ HO hcl hrz hops
              go_wp2_with fail
              clear y0
              refine wp_region_grow 17 [68, 69, 70, 71, 72, 73, 74, 75, 76, 77, 78, 79, 80, 81, 82, 83, 84] [Fix (.pointer (some ⟨w.heap.size, 7, none⟩)), Fix (.map (some mp)), Fix (.pointer (some ⟨w.heap.size + 1, 0, none⟩)), Fix (.int .i64 d.op), FnOp d.op, Fix (.slice (some ⟨g6, 0, none⟩) 1 c6), Fix (.pointer (some ⟨g6, 0, none⟩)), Fix (.pointer (some ⟨g6, 1, none⟩)), Fix (.int .i64 a.n), Fix (.slice (some ⟨g6, 0, none⟩) 1 c6), Fix (.slice (some ⟨g6, 0, none⟩) 1 c6), Fix (.int .i64 1), Fix (.int .i64 0), Fix (.pointer (some ⟨g6, 0, none⟩)), Fix (.pointer (some ⟨g6, 1, none⟩)), Fix (.int .i64 a.n), Fix (.agg #[.int .i64 rq, .int .i64 rn, .string rs])] (by kernel_rfl) (by kernel_rfl) (by kernel_rfl) (by kernel_rfl) (by kernel_rfl) ?_ ?_ ?_
              · intro p hp
                simp only [List.mem_cons, List.not_mem_nil, or_false] at hp
                rcases hp with rfl | rfl | rfl | rfl | rfl | rfl | rfl | rfl | rfl | rfl | rfl | rfl | rfl | rfl | rfl | rfl | rfl
                all_goals first | exact (fun _ _ _ _ h => h) | exact (fun _ _ _ hb h => fnOp_below h hb)
              · intro j9 o9 hj9 ho x w5 hb hd
                have hjc : j9 = 0 ∨ j9 = 1 ∨ j9 = 2 ∨ j9 = 3 ∨ j9 = 4 ∨ j9 = 5 ∨ j9 = 6 ∨ j9 = 7 ∨ j9 = 8 ∨ j9 = 9 ∨ j9 = 10 ∨ j9 = 11 ∨ j9 = 12 ∨ j9 = 13 ∨ j9 = 14 ∨ j9 = 15 ∨ j9 = 16 := by omega
                rcases hjc with rfl | rfl | rfl | rfl | rfl | rfl | rfl | rfl | rfl | rfl | rfl | rfl | rfl | rfl | rfl | rfl | rfl
                all_goals obtain rfl := Option.some.inj ho
                all_goals generalize hK : (fun (a' : Act) (w' : World) => _) = K
                all_goals simp only [puts]
                · go_simp
                  rw [← hK]
                  exact ⟨.pointer (some ⟨w.heap.size, 7, none⟩), (by simp only [puts]; go_simp), Below.refl _ _, rfl⟩
                · have e : x 68 = .pointer (some ⟨w.heap.size, 7, none⟩) := hd 0 (by kernel_rfl)
                  have z0 := keep1 hb HXI.out
                  go_simp
                  rw [← hK]
                  exact ⟨.map (some mp), (by simp only [puts]; go_simp), Below.refl _ _, rfl⟩
                · go_simp
                  rw [← hK]
                  exact ⟨.pointer (some ⟨w.heap.size + 1, 0, none⟩), (by simp only [puts]; go_simp), Below.refl _ _, rfl⟩
                · have e : x 70 = .pointer (some ⟨w.heap.size + 1, 0, none⟩) := hd 2 (by kernel_rfl)
                  have z0 := keep1 hb HY0.out
                  go_simp
                  rw [← hK]
                  exact ⟨.int .i64 d.op, (by simp only [puts]; go_simp), Below.refl _ _, rfl⟩
                · have e : x 69 = .map (some mp) := hd 1 (by kernel_rfl)
                  have e' : x 71 = .int .i64 d.op := hd 3 (by kernel_rfl)
                  have hk2 : Opz w5 mp := Opz.keep H2.out hb
                  with_reducible refine wp_look_op (.tmp 69) (.tmp 71) mp d.op ?_ hk2 HOPS.out ?_ ?_ ?_
                  · rfl
                  · go_simp
                  · go_simp
                  · intro fv9 hk4
                    rw [← hK]
                    exact ⟨fv9, (by simp only [puts]), Below.refl _ _, hk4⟩
                · go_simp
                  rw [← hK]
                  exact ⟨.slice (some ⟨g6, 0, none⟩) 1 c6, (by simp only [puts]; go_simp), Below.refl _ _, rfl⟩
                · have e : x 73 = .slice (some ⟨g6, 0, none⟩) 1 c6 := hd 5 (by kernel_rfl)
                  go_simp
                  rw [← hK]
                  exact ⟨.pointer (some ⟨g6, 0, none⟩), (by simp only [puts]; go_simp), Below.refl _ _, rfl⟩
                · have e : x 74 = .pointer (some ⟨g6, 0, none⟩) := hd 6 (by kernel_rfl)
                  go_simp
                  rw [← hK]
                  exact ⟨.pointer (some ⟨g6, 1, none⟩), (by simp only [puts]; go_simp), Below.refl _ _, rfl⟩
                · have e : x 75 = .pointer (some ⟨g6, 1, none⟩) := hd 7 (by kernel_rfl)
                  have z1 := keep1 hb q1
                  go_simp
                  rw [← hK]
                  exact ⟨.int .i64 a.n, (by simp only [puts]; go_simp), Below.refl _ _, rfl⟩
                · go_simp
                  rw [← hK]
                  exact ⟨.slice (some ⟨g6, 0, none⟩) 1 c6, (by simp only [puts]; go_simp), Below.refl _ _, rfl⟩
                · go_simp
                  rw [← hK]
                  exact ⟨.slice (some ⟨g6, 0, none⟩) 1 c6, (by simp only [puts]; go_simp), Below.refl _ _, rfl⟩
                · have e : x 78 = .slice (some ⟨g6, 0, none⟩) 1 c6 := hd 10 (by kernel_rfl)
                  go_simp
                  rw [← hK]
                  exact ⟨.int .i64 1, (by simp only [puts]; go_simp), Below.refl _ _, rfl⟩
                · have e : x 79 = .int .i64 1 := hd 11 (by kernel_rfl)
                  have hwr : IntKind.i64.wrap 0 = 0 := by decide
                  go_simp
                  rw [← hK]
                  exact ⟨.int .i64 0, (by simp only [puts]; go_simp), Below.refl _ _, rfl⟩
                · have e : x 77 = .slice (some ⟨g6, 0, none⟩) 1 c6 := hd 9 (by kernel_rfl)
                  have e' : x 80 = .int .i64 0 := hd 12 (by kernel_rfl)
                  go_simp
                  rw [← hK]
                  exact ⟨.pointer (some ⟨g6, 0, none⟩), (by simp only [puts]; go_simp), Below.refl _ _, rfl⟩
                · have e : x 81 = .pointer (some ⟨g6, 0, none⟩) := hd 13 (by kernel_rfl)
                  go_simp
                  rw [← hK]
                  exact ⟨.pointer (some ⟨g6, 1, none⟩), (by simp only [puts]; go_simp), Below.refl _ _, rfl⟩
                · have e : x 82 = .pointer (some ⟨g6, 1, none⟩) := hd 14 (by kernel_rfl)
                  have z1 := keep1 hb q4
                  go_simp
                  rw [← hK]
                  exact ⟨.int .i64 a.n, (by simp only [puts]; go_simp), Below.refl _ _, rfl⟩
                · have hF : FnOp d.op w5 (x 72) := hd 4 (by kernel_rfl)
                  have e' : x 76 = .int .i64 a.n := hd 8 (by kernel_rfl)
                  have e'' : x 83 = .int .i64 a.n := hd 15 (by kernel_rfl)
                  have hrz := HRZ.out
                  clear hd
                  with_reducible refine wp_call_op (.tmp 72) (.tmp 76) (.tmp 83) d.op a.n a.n ?_ (x 72) hF HOPS.out ?_ ?_ ?_ ?_
                  · rfl
                  · go_simp
                  · go_simp
                  · go_simp
                  · intro w9 hbc
                    rw [← hK]
                    exact ⟨V3.v (appQ d.op a.n a.n), (by simp only [puts]), hbc, by rw [hrz]; rfl⟩
              · intro x w9 hb hP
                have e : x 84 = .agg #[.int .i64 rq, .int .i64 rn, .string rs] := hP 16 (by decide)
                have HWF := hide (bthen HW.out hb)
                have s0 := keep1 hb r0
                have s1 := keep1 hb r1
                have s2 := keep1 hb r2
                have f0 := ((bcell hb).2 (w.heap.size + 1 + 1) 0 (by omega)).trans g0
                have f1 := ((bcell hb).2 (w.heap.size + 1 + 1) 1 (by omega)).trans g1
                have f2 := ((bcell hb).2 (w.heap.size + 1 + 1) 2 (by omega)).trans g2
                have l9 := World.block_lt_of_cell? w9 _ s0
                simp only at l9
                clear hP hb r0 r1 r2 g0 g1 g2 q1 q4 l2
                simp only [puts, Act.put, List.setIfInBounds_toArray, List.set_cons_succ, List.set_cons_zero, List.drop]
                go_wp2
                refine bodyPost_ret (v := .tuple #[.agg #[.int .i64 rq, .int .i64 rn, .string rs], .int .i64 0]) (by rw [results_cell_tmp rfl]; go_simp) rfl ?_
                exact Ret.mk (by rw [HQ2.out]; first | done | rfl) (below_set3' HWF.out (by omega) _ _ _)
            · obtain ⟨a, b, rfl⟩ : ∃ a b, vs = [a, b] := by
                match vs, HVL.out with
                | [a, b], _ => exact ⟨a, b, rfl⟩
              obtain ⟨g6, c6, rfl, -, hg6, -, hcl⟩ := own_cellsN HO.out (by omega)
              obtain ⟨rz, hrz⟩ : ∃ z, appQ d.op a.n b.n = z := ⟨_, rfl⟩
              have HRZ := hide hrz
              have HQ2 := hide (show R = (rz, 0) by rw [HQ.out, if_neg (by simpa using hE)]; unfold resV; rw [if_neg h9, ← hrz]; rfl)
              obtain ⟨rq, rn, rs⟩ := rz
              have q1 := hcl 1 _ rfl
              have q4 := hcl 4 _ rfl
              have HXI := hide (HXs.out 7 _ rfl)
              have HOPS := hide hops
              have HY0 := hide y0
              have H2' := H2
              clear hE h9 HQ HO hcl hrz hops
              go_wp2_with fail
              clear y0
              refine wp_region_grow 17 [68, 69, 70, 71, 72, 73, 74, 75, 76, 77, 78, 79, 80, 81, 82, 83, 84] [Fix (.pointer (some ⟨w.heap.size, 7, none⟩)), Fix (.map (some mp)), Fix (.pointer (some ⟨w.heap.size + 1, 0, none⟩)), Fix (.int .i64 d.op), FnOp d.op, Fix (.slice (some ⟨g6, 0, none⟩) 2 c6), Fix (.pointer (some ⟨g6, 0, none⟩)), Fix (.pointer (some ⟨g6, 1, none⟩)), Fix (.int .i64 a.n), Fix (.slice (some ⟨g6, 0, none⟩) 2 c6), Fix (.slice (some ⟨g6, 0, none⟩) 2 c6), Fix (.int .i64 2), Fix (.int .i64 1), Fix (.pointer (some ⟨g6, 3, none⟩)), Fix (.pointer (some ⟨g6, 4, none⟩)), Fix (.int .i64 b.n), Fix (.agg #[.int .i64 rq, .int .i64 rn, .string rs])] (by kernel_rfl) (by kernel_rfl) (by kernel_rfl) (by kernel_rfl) (by kernel_rfl) ?_ ?_ ?_
              · intro p hp
                simp only [List.mem_cons, List.not_mem_nil, or_false] at hp
                rcases hp with rfl | rfl | rfl | rfl | rfl | rfl | rfl | rfl | rfl | rfl | rfl | rfl | rfl | rfl | rfl | rfl | rfl
                all_goals first | exact (fun _ _ _ _ h => h) | exact (fun _ _ _ hb h => fnOp_below h hb)
              · intro j9 o9 hj9 ho x w5 hb hd
                have hjc : j9 = 0 ∨ j9 = 1 ∨ j9 = 2 ∨ j9 = 3 ∨ j9 = 4 ∨ j9 = 5 ∨ j9 = 6 ∨ j9 = 7 ∨ j9 = 8 ∨ j9 = 9 ∨ j9 = 10 ∨ j9 = 11 ∨ j9 = 12 ∨ j9 = 13 ∨ j9 = 14 ∨ j9 = 15 ∨ j9 = 16 := by omega
                rcases hjc with rfl | rfl | rfl | rfl | rfl | rfl | rfl | rfl | rfl | rfl | rfl | rfl | rfl | rfl | rfl | rfl | rfl
                all_goals obtain rfl := Option.some.inj ho
                all_goals generalize hK : (fun (a' : Act) (w' : World) => _) = K
                all_goals simp only [puts]
                · go_simp
                  rw [← hK]
                  exact ⟨.pointer (some ⟨w.heap.size, 7, none⟩), (by simp only [puts]; go_simp), Below.refl _ _, rfl⟩
                · have e : x 68 = .pointer (some ⟨w.heap.size, 7, none⟩) := hd 0 (by kernel_rfl)
                  have z0 := keep1 hb HXI.out
                  go_simp
                  rw [← hK]
                  exact ⟨.map (some mp), (by simp only [puts]; go_simp), Below.refl _ _, rfl⟩
                · go_simp
                  rw [← hK]
                  exact ⟨.pointer (some ⟨w.heap.size + 1, 0, none⟩), (by simp only [puts]; go_simp), Below.refl _ _, rfl⟩
                · have e : x 70 = .pointer (some ⟨w.heap.size + 1, 0, none⟩) := hd 2 (by kernel_rfl)
                  have z0 := keep1 hb HY0.out
                  go_simp
                  rw [← hK]
                  exact ⟨.int .i64 d.op, (by simp only [puts]; go_simp), Below.refl _ _, rfl⟩
                · have e : x 69 = .map (some mp) := hd 1 (by kernel_rfl)
                  have e' : x 71 = .int .i64 d.op := hd 3 (by kernel_rfl)
                  have hk2 : Opz w5 mp := Opz.keep H2.out hb
                  with_reducible refine wp_look_op (.tmp 69) (.tmp 71) mp d.op ?_ hk2 HOPS.out ?_ ?_ ?_
                  · rfl
                  · go_simp
                  · go_simp
                  · intro fv9 hk4
                    rw [← hK]
                    exact ⟨fv9, (by simp only [puts]), Below.refl _ _, hk4⟩
                · go_simp
                  rw [← hK]
                  exact ⟨.slice (some ⟨g6, 0, none⟩) 2 c6, (by simp only [puts]; go_simp), Below.refl _ _, rfl⟩
                · have e : x 73 = .slice (some ⟨g6, 0, none⟩) 2 c6 := hd 5 (by kernel_rfl)
                  go_simp
                  rw [← hK]
                  exact ⟨.pointer (some ⟨g6, 0, none⟩), (by simp only [puts]; go_simp), Below.refl _ _, rfl⟩
                · have e : x 74 = .pointer (some ⟨g6, 0, none⟩) := hd 6 (by kernel_rfl)
                  go_simp
                  rw [← hK]
                  exact ⟨.pointer (some ⟨g6, 1, none⟩), (by simp only [puts]; go_simp), Below.refl _ _, rfl⟩
                · have e : x 75 = .pointer (some ⟨g6, 1, none⟩) := hd 7 (by kernel_rfl)
                  have z1 := keep1 hb q1
                  go_simp
                  rw [← hK]
                  exact ⟨.int .i64 a.n, (by simp only [puts]; go_simp), Below.refl _ _, rfl⟩
                · go_simp
                  rw [← hK]
                  exact ⟨.slice (some ⟨g6, 0, none⟩) 2 c6, (by simp only [puts]; go_simp), Below.refl _ _, rfl⟩
                · go_simp
                  rw [← hK]
                  exact ⟨.slice (some ⟨g6, 0, none⟩) 2 c6, (by simp only [puts]; go_simp), Below.refl _ _, rfl⟩
                · have e : x 78 = .slice (some ⟨g6, 0, none⟩) 2 c6 := hd 10 (by kernel_rfl)
                  go_simp
                  rw [← hK]
                  exact ⟨.int .i64 2, (by simp only [puts]; go_simp), Below.refl _ _, rfl⟩
                · have e : x 79 = .int .i64 2 := hd 11 (by kernel_rfl)
                  have hwr : IntKind.i64.wrap 1 = 1 := by decide
                  go_simp
                  rw [← hK]
                  exact ⟨.int .i64 1, (by simp only [puts]; go_simp), Below.refl _ _, rfl⟩
                · have e : x 77 = .slice (some ⟨g6, 0, none⟩) 2 c6 := hd 9 (by kernel_rfl)
                  have e' : x 80 = .int .i64 1 := hd 12 (by kernel_rfl)
                  go_simp
                  rw [← hK]
                  exact ⟨.pointer (some ⟨g6, 3, none⟩), (by simp only [puts]; go_simp), Below.refl _ _, rfl⟩
                · have e : x 81 = .pointer (some ⟨g6, 3, none⟩) := hd 13 (by kernel_rfl)
                  go_simp
                  rw [← hK]
                  exact ⟨.pointer (some ⟨g6, 4, none⟩), (by simp only [puts]; go_simp), Below.refl _ _, rfl⟩
                · have e : x 82 = .pointer (some ⟨g6, 4, none⟩) := hd 14 (by kernel_rfl)
                  have z1 := keep1 hb q4
                  go_simp
                  rw [← hK]
                  exact ⟨.int .i64 b.n, (by simp only [puts]; go_simp), Below.refl _ _, rfl⟩
                · have hF : FnOp d.op w5 (x 72) := hd 4 (by kernel_rfl)
                  have e' : x 76 = .int .i64 a.n := hd 8 (by kernel_rfl)
                  have e'' : x 83 = .int .i64 b.n := hd 15 (by kernel_rfl)
                  have hrz := HRZ.out
                  clear hd
                  with_reducible refine wp_call_op (.tmp 72) (.tmp 76) (.tmp 83) d.op a.n b.n ?_ (x 72) hF HOPS.out ?_ ?_ ?_ ?_
                  · rfl
                  · go_simp
                  · go_simp
                  · go_simp
                  · intro w9 hbc
                    rw [← hK]
                    exact ⟨V3.v (appQ d.op a.n b.n), (by simp only [puts]), hbc, by rw [hrz]; rfl⟩
              · intro x w9 hb hP
                have e : x 84 = .agg #[.int .i64 rq, .int .i64 rn, .string rs] := hP 16 (by decide)
                have HWF := hide (bthen HW.out hb)
                have s0 := keep1 hb r0
                have s1 := keep1 hb r1
                have s2 := keep1 hb r2
                have f0 := ((bcell hb).2 (w.heap.size + 1 + 1) 0 (by omega)).trans g0
                have f1 := ((bcell hb).2 (w.heap.size + 1 + 1) 1 (by omega)).trans g1
                have f2 := ((bcell hb).2 (w.heap.size + 1 + 1) 2 (by omega)).trans g2
                have l9 := World.block_lt_of_cell? w9 _ s0
                simp only at l9
                clear hP hb r0 r1 r2 g0 g1 g2 q1 q4 l2
                simp only [puts, Act.put, List.setIfInBounds_toArray, List.set_cons_succ, List.set_cons_zero, List.drop]
                go_wp2
                refine bodyPost_ret (v := .tuple #[.agg #[.int .i64 rq, .int .i64 rn, .string rs], .int .i64 0]) (by rw [results_cell_tmp rfl]; go_simp) rfl ?_
                exact Ret.mk (by rw [HQ2.out]; first | done | rfl) (below_set3' HWF.out (by omega) _ _ _)
        · have tE : (EO != 0) = true := by rw [bne_iff_ne]; exact hE
          have HQ2 := hide (show R = (V3.z, EO) by rw [HQ.out, if_pos hE])
          clear hE HQ HO
          go_wp2
          refine bodyPost_ret (v := .tuple #[.agg #[.int .i64 0, .int .i64 0, .string ⟨#[]⟩], .int .i64 EO]) (by rw [results_cell_tmp rfl]; go_simp) rfl ?_
          exact Ret.mk (by rw [HQ2.out]; first | done | rfl) (below_set3' HW.out (by omega) _ _ _)
end
end Go.Proofs.Ytkcbjnhphekadaa
