/- good and of, of the laws. -/
import Derived.Test.YtgppohelgmadoaaAJoins
import Derived.Deep.RegionWith
namespace Go.Proofs.Ytgppohelgmadoaa
open Go.RowKit
set_option linter.unusedVariables false
set_option linter.unusedSimpArgs false
def okV (k : Int) (x : V3) : Bool := decide (checkC x.q x.n x.s.size = 0) && rsuitsB k x.q
def goodB (k : Int) (L : List V3) (o : V3) : Bool := decide (L.length ≤ 20) && (L.all (okV k) && (decide (0 ≤ k) && (decide (k ≤ 5) && okV k o)))

section
variable (k : Int) (L : List V3) (w : World)
set_option maxRecDepth 100000 in
set_option maxHeartbeats 4000000 in
theorem of_right (v : Value) (hk : knownB k = true) (hr : Right k L) (hl : L.length ≤ 4096) (hsz : ∀ x ∈ L, x.s.size ≤ maxLen) (hv : Row w w.heap.size 3 v L.length (flat L)) :
    Calls Try.prog 26 #[.int .i64 k, v] w (Ret (.tuple #[A5.v (fld k L), .bool true]) w) := by
  have HB := hide (abegin_any k)
  rw [show begV k = k from if_pos hk, show begE k = 0 from if_pos hk] at HB
  have HT := hide (fld_tk hk L hr hl)
  have HV := hide hv
  obtain ⟨A, cap, rfl⟩ := hv.form
  obtain ⟨m, hm⟩ : ∃ m, L.length = m := ⟨_, rfl⟩
  rw [hm] at hl HV HT
  have HM := hide hm
  have HR := hide hr
  have HSZ := hide hsz
  rw [hm]
  clear hm hk hr hsz hv
  go_enter Try.func26, Try.ntmps26
  go_wp2_with fail
  refine (HB.out _).mono ?_
  rintro e w1 ⟨rfl, hb⟩
  have hR0 := (Box5.new w A5.z 25).keep hb
  have hb9 := @below_laid w1 (.cells #[.int .i64 k, .int .i64 0, .int .i64 0, .int .i64 0, .string ⟨#[]⟩] 25)
  have HZ0 := hide (hR0.keep hb9)
  have HA0 := hide (Box5.new w1 (beg k) 25)
  have HW := hide (bthen (bel1 hb) hb9)
  have hz1 := hb.size
  rw [World.size_alloc] at hz1
  have hz1' : w.heap.size ≤ w1.heap.size := by omega
  clear hb hR0 hb9
  go_wp2_with fail
  go_loopw [7, 8] (fun e i wr => ∃ j : Nat, j ≤ m ∧ e = .int .i64 0 ∧ i = .int .i64 j ∧ Hid (Box5 wr w1.heap.size (fld k (L.take j))) ∧ Hid (Box5 wr w.heap.size A5.z) ∧ Hid (Below w.heap.size w wr)) (fun _ i _ => m - (intOf i).toNat)
  case atStart => exact ⟨0, by omega, rfl, rfl, hide HA0.out, HZ0, HW⟩
  case round =>
    obtain ⟨j, hj, rfl, rfl, HF, HZ, HB⟩ := hrel
    obtain ⟨hA1, hA2, hA3⟩ := HT.out j hj
    have hF := World.block_lt_of_cell? wr _ HF.out.1.1
    have hF : w1.heap.size < wr.heap.size := hF
    by_cases hlt : j < m
    · have hjl : j < L.length := by rw [HM.out]; exact hlt
      obtain ⟨g, off, cap', e', hg, -, hcell⟩ := HV.out.at_ (by omega)
      cases e'
      obtain ⟨f1, f2, f3⟩ := flat_at L j hjl
      have e0 := (HB.out.cell (p := ⟨g, off + j * 3, none⟩) hg).trans (hcell _ _ f1)
      have e1 := (HB.out.cell (p := ⟨g, off + j * 3 + 1, none⟩) hg).trans (hcell _ _ f2)
      have e2 := (HB.out.cell (p := ⟨g, off + j * 3 + 2, none⟩) hg).trans (hcell _ _ f3)
      have hx := HR.out L[j] (List.getElem_mem hjl)
      have hxs := HSZ.out L[j] (List.getElem_mem hjl)
      have hadE := ad_eq (x := L[j]) hA1 hA2 (by omega)
      rw [hx] at hadE
      have hadV : ad (fld k (L.take j)) L[j] = fld k (L.take (j + 1)) := by
        rw [fld_take k L hjl]
        unfold ad
        rw [if_pos hadE, hA2]
      have hAD := fun w' => add_any w' (fld k (L.take j)) L[j] (by have := good_len hA1; unfold maxLen; omega) hxs
      rw [hadE, hadV] at hAD
      have HAD := hide hAD
      obtain ⟨x, hxe⟩ : ∃ x, L[j] = x := ⟨_, rfl⟩
      rw [hxe] at e0 e1 e2 HAD
      obtain ⟨a, hae⟩ : ∃ a, fld k (L.take j) = a := ⟨_, rfl⟩
      rw [hae] at HF HAD
      obtain ⟨b, hbe⟩ : ∃ b, fld k (L.take (j + 1)) = b := ⟨_, rfl⟩
      rw [hbe] at HAD
      have HBE := hide hbe
      clear hxe hae hbe f1 f2 f3 hcell hx hxs hadE hadV hAD hA1 hA2 hA3
      obtain ⟨⟨a0, a1, a2, a3, a4⟩, -⟩ := HF.out
      have hu0 : (0 : Int) ≤ (j : Int) := by omega
      have hu1 : (j : Int) < (m : Int) := by omega
      have t1 : decide ((j : Int) < (m : Int)) = true := decide_eq_true hu1
      go_wp2_with fail
      go_region_with (first | (go_at_call 24; refine (HAD.out _).mono ?_; rintro e w3 ⟨rfl, hb'⟩; have hb : Below wr.heap.size wr w3 := below_undrew hb'; obtain ⟨⟨y0, y1, y2, y3, y4⟩, z0, z1, z2, z3, z4⟩ := HF.out.keep hb))
      all_goals
        have HF3 := hide (HF.out.keep hb)
        have HZ3 := hide (HZ.out.keep hb)
        have HB3 := hide (bthen HB.out hb)
        clear hb hb' a0 a1 a2 a3 a4 e0 e1 e2
        go_wp2
        go_roundw
        case rel => exact ⟨j + 1, by omega, rfl, by go_num, hide (by rw [HBE.out]; exact HF3.out.set b), hide (HZ3.out.far (by omega) _ _ _ _ _), hide (below_set5 HB3.out hz1' _ _ _ _ _)⟩
        case measure => simp [intOf]; omega
    · obtain rfl : j = m := by omega
      have htk : L.take j = L := List.take_of_length_le (by rw [HM.out]; exact Nat.le_refl _)
      rw [htk] at HF
      clear htk hA1 hA2 hA3
      generalize fld k L = fa at *
      obtain ⟨⟨a0, a1, a2, a3, a4⟩, -⟩ := HF.out
      obtain ⟨⟨r0, r1, r2, r3, r4⟩, g0, g1, g2, g3, g4⟩ := HZ.out
      simp only [A5.z] at r0 r1 r2 r3 r4
      go_wp2
      refine bodyPost_ret (v := .tuple #[A5.v fa, .bool true]) (by rw [results_cell_tmp rfl]; go_simp) rfl ?_
      exact Ret.mk rfl (below_set5 HB.out (Nat.le_refl _) _ _ _ _ _)
end

section
variable (k : Int) (L : List V3) (o : V3) (w : World)
theorem all_take {p : V3 → Bool} {L : List V3} {j : Nat} (hj : j < L.length) (h : (L.take j).all p = true) (hx : p L[j] = true) : (L.take (j + 1)).all p = true := by
  rw [List.take_succ_eq_append_getElem hj, List.all_append, h]; simp [hx]
theorem all_no {p : V3 → Bool} {L : List V3} {j : Nat} (hj : j < L.length) (hx : p L[j] = false) : L.all p = false := by
  rw [List.all_eq_false]
  exact ⟨L[j], List.getElem_mem hj, by simp [hx]⟩
theorem goodB_no {k : Int} {L : List V3} {o : V3} {j : Nat} (hj : j < L.length) (hx : okV k L[j] = false) : goodB k L o = false := by
  unfold goodB; rw [all_no hj hx]; simp
theorem goodB_long {k : Int} {L : List V3} {o : V3} (h : ¬ L.length ≤ 20) : goodB k L o = false := by unfold goodB; rw [decide_eq_false h]; rfl
theorem goodB_end {k : Int} {L : List V3} {o : V3} (h : L.length ≤ 20) (ha : L.all (okV k) = true) : goodB k L o = (decide (0 ≤ k) && (decide (k ≤ 5) && okV k o)) := by
  unfold goodB; rw [decide_eq_true h, ha]; rfl

set_option maxRecDepth 100000 in
set_option maxHeartbeats 4000000 in
theorem good_any (v : Value) (ho : o.s.size ≤ maxLen) (hv : InV w v L) :
    Calls Try.prog 19 #[.int .i64 k, v, .agg #[.int .i64 o.q, .int .i64 o.n, .string o.s]] w (Ret (.bool (goodB k L o)) w) := by
  obtain ⟨hl, hsz, -, hv⟩ := hv
  have HV := hide hv
  obtain ⟨A, cap, rfl⟩ := hv.form
  have HO := hide ho
  have HSZ := hide hsz
  have HX0 := hide (Box3.new w o 23)
  have HE := hide (@goodB_end k L o)
  have HLO := hide (@goodB_long k L o)
  have HNO := hide (fun (j : Nat) (hj : j < L.length) (h : okV k L[j] = false) => goodB_no (o := o) hj h)
  generalize goodB k L o = gb at *
  obtain ⟨m, hm⟩ : ∃ m, L.length = m := ⟨_, rfl⟩
  rw [hm] at hl HV HE HLO
  have HM := hide hm
  rw [hm]
  clear hm hsz hv ho
  go_enter Try.func19, Try.ntmps19
  go_wp2_with fail
  go_loopw [7] (fun i wr => ∃ j : Nat, j ≤ m ∧ j ≤ 20 ∧ i = .int .i64 j ∧ Hid ((L.take j).all (okV k) = true) ∧ Hid (Box3 wr w.heap.size o) ∧ Hid (Below w.heap.size w wr)) (fun i _ => 20 - (intOf i).toNat)
  case atStart => exact ⟨0, by omega, by omega, rfl, hide rfl, HX0, hide (below_laid _)⟩
  case round =>
    obtain ⟨j, hj, hj20, rfl, HA, HX, HB⟩ := hrel
    by_cases hlt : j < m ∧ j < 20
    · obtain ⟨hlt, hlt2⟩ := hlt
      have hjl : j < L.length := by rw [HM.out]; exact hlt
      obtain ⟨g, off, cap', e', hg, -, hcell⟩ := HV.out.at_ (by omega)
      cases e'
      obtain ⟨f1, f2, f3⟩ := flat_at L j hjl
      have e0 := (HB.out.cell (p := ⟨g, off + j * 3, none⟩) hg).trans (hcell _ _ f1)
      have e1 := (HB.out.cell (p := ⟨g, off + j * 3 + 1, none⟩) hg).trans (hcell _ _ f2)
      have e2 := (HB.out.cell (p := ⟨g, off + j * 3 + 2, none⟩) hg).trans (hcell _ _ f3)
      have hxs := HSZ.out L[j] (List.getElem_mem hjl)
      have HN1 := hide (fun h => HNO.out j hjl h)
      have HN2 := hide (fun h => all_take hjl HA.out h)
      obtain ⟨x, hxe⟩ : ∃ x, L[j] = x := ⟨_, rfl⟩
      rw [hxe] at e0 e1 e2 HN1 HN2 hxs
      clear hxe f1 f2 f3 hcell
      have HCK := hide (fun w => rcheck_any x.q x.n x.s w hxs)
      have HSU := hide (fun w => rsuits_any k x.q x.n x.s w)
      have HOK : Hid (okV k x = (decide (checkC x.q x.n x.s.size = 0) && rsuitsB k x.q)) := hide rfl
      clear hxs
      obtain ⟨bv, hbv⟩ : ∃ bv, okV k x = bv := ⟨_, rfl⟩
      rw [hbv] at HN1 HN2 HOK
      clear hbv
      generalize checkC x.q x.n x.s.size = cc at *
      generalize rsuitsB k x.q = sb at *
      by_cases hcc : cc = 0
      · subst hcc
        go_wp2_with fail
        refine (HCK.out _).mono ?_
        rintro e w3 ⟨rfl, hb⟩
        have HX3 := hide (HX.out.keep hb)
        have HB3 := hide (bthen HB.out hb)
        replace e0 := keep1 hb e0
        replace e1 := keep1 hb e1
        replace e2 := keep1 hb e2
        clear hb
        go_wp2_with fail
        refine (HSU.out _).mono ?_
        rintro e w4 ⟨rfl, hb⟩
        have HX4 := hide (HX3.out.keep hb)
        have HB4 := hide (bthen HB3.out hb)
        clear hb e0 e1 e2
        cases sb
        · have HG := hide (HN1.out (by rw [HOK.out]; rfl))
          go_wp2
          go_ret
          exact Ret.bool HG.out.symm HB4.out
        · have HG := hide (HN2.out (by rw [HOK.out]; rfl))
          go_wp2
          go_roundw
          case rel => exact ⟨j + 1, by omega, by omega, by go_num, HG, HX4, HB4⟩
          case measure => simp [intOf]; omega
      · have HG := hide (HN1.out (by rw [HOK.out, decide_eq_false hcc]; rfl))
        have t1 : (cc != 0) = true := bne_iff_ne.2 hcc
        clear hcc
        go_wp2_with fail
        refine (HCK.out _).mono ?_
        rintro e w3 ⟨rfl, hb⟩
        have HB3 := hide (bthen HB.out hb)
        clear hb e0 e1 e2
        go_wp2
        go_ret
        exact Ret.bool HG.out.symm HB3.out
    · by_cases hm20 : m ≤ 20
      · obtain rfl : j = m := by omega
        have htk : L.take j = L := List.take_of_length_le (by rw [HM.out]; exact Nat.le_refl _)
        rw [htk] at HA
        have HG := hide (HE.out hm20 HA.out)
        have HCK := hide (fun w => rcheck_any o.q o.n o.s w HO.out)
        have HSU := hide (fun w => rsuits_any k o.q o.n o.s w)
        have HOK : Hid (okV k o = (decide (checkC o.q o.n o.s.size = 0) && rsuitsB k o.q)) := hide rfl
        rw [HOK.out] at HG
        clear htk HOK
        generalize checkC o.q o.n o.s.size = cc at *
        generalize rsuitsB k o.q = sb at *
        obtain ⟨⟨q0, q1, q2⟩, -⟩ := HX.out
        by_cases hk0 : 0 ≤ k
        · by_cases hk5 : k ≤ 5
          · rw [decide_eq_true hk0, decide_eq_true hk5] at HG
            go_wp2_with fail
            refine (HCK.out _).mono ?_
            rintro e w3 ⟨rfl, hb⟩
            have HB3 := hide (bthen HB.out hb)
            replace q0 := keep1 hb q0
            replace q1 := keep1 hb q1
            replace q2 := keep1 hb q2
            clear hb
            by_cases hcc : cc = 0
            · subst hcc
              go_wp2_with fail
              refine (HSU.out _).mono ?_
              rintro e w4 ⟨rfl, hb⟩
              go_wp2
              go_ret
              exact Ret.bool (by rw [HG.out]; rfl) (bthen HB3.out hb)
            · have t1 : (cc == 0) = false := beq_eq_false_iff_ne.2 hcc
              rw [decide_eq_false hcc] at HG
              clear hcc
              go_wp2
              go_ret
              exact Ret.bool (by rw [HG.out]; rfl) HB3.out
          · rw [decide_eq_true hk0, decide_eq_false hk5] at HG
            have t1 : decide (k ≤ 5) = false := decide_eq_false hk5
            clear hk5
            go_wp2
            go_ret
            exact Ret.bool (by rw [HG.out]; rfl) HB.out
        · rw [decide_eq_false hk0] at HG
          have t1 : decide (0 ≤ k) = false := decide_eq_false hk0
          clear hk0
          go_wp2
          go_ret
          exact Ret.bool (by rw [HG.out]; rfl) HB.out
      · have HG := hide (HLO.out hm20)
        obtain rfl : j = 20 := by omega
        have t1 : decide ((m : Int) ≤ 20) = false := decide_eq_false (by omega)
        have t2 : decide (m ≤ 20) = false := decide_eq_false (by omega)
        go_wp2
        go_ret
        exact Ret.bool HG.out.symm HB.out
end
end Go.Proofs.Ytgppohelgmadoaa
