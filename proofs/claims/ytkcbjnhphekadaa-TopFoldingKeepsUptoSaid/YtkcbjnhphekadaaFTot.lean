/- total, of an evaluator: the aggregate of a field over the events of a variable. -/
import Derived.Test.YtkcbjnhphekadaaFEnv
import Derived.Test.YtkcbjnhphekadaaAFolds
namespace Go.Proofs.Ytkcbjnhphekadaa
open Go.RowKit
set_option linter.unusedVariables false
set_option linter.unusedSimpArgs false
def colB (k : Int) (l : List Evx) : Bool := l.all fun e => decide (fieldE e k = 0)
def colV (k : Int) (l : List Evx) : List V3 := l.map fun e => fieldV e k
def totE (l : List Evx) (d : Nd) : Int := if colB d.field l = true then ofE d.kind (colV d.field l) d.val else 6
def totV (l : List Evx) (d : Nd) : V3 := if colB d.field l = true then ofV d.kind (colV d.field l) d.val else V3.z
theorem ex_sz {w : World} {v : Value} {L : List Evx} (h : There REx 5 w v L) : ∀ e ∈ L, ∀ x ∈ e.vs, x.s.size ≤ maxLen := by
  intro e he x hx
  obtain ⟨j, hj, rfl⟩ := List.getElem_of_mem he
  obtain ⟨g, off, cap, xs, -, -, -, -, ⟨u, -, hl⟩⟩ := h.2 j hj
  obtain ⟨i, hi, rfl⟩ := List.getElem_of_mem hx
  obtain ⟨g, off, cap, xs, -, -, -, -, ⟨-, hs⟩⟩ := hl.2 i hi
  exact hs
theorem field_sz {e : Evx} (h : ∀ x ∈ e.vs, x.s.size ≤ maxLen) (k : Int) : (fieldV e k).s.size ≤ maxLen := by
  unfold fieldV
  split
  · exact Nat.zero_le _
  · by_cases hk : k.toNat < e.vs.length
    · rw [List.getD_eq_getElem?_getD, List.getElem?_eq_getElem hk]
      exact h _ (List.getElem_mem hk)
    · rw [List.getD_eq_getElem?_getD, List.getElem?_eq_none (by omega)]
      exact Nat.zero_le _
theorem col_sz {w : World} {v : Value} {L : List Evx} (h : There REx 5 w v L) (k : Int) : ∀ x ∈ colV k L, x.s.size ≤ maxLen := by
  intro x hx
  obtain ⟨e, he, rfl⟩ := List.mem_map.1 hx
  exact field_sz (ex_sz h e he) k
theorem col_all {k : Int} {L : List Evx} {j : Nat} (h : j < L.length) (ht : colB k (L.take j) = true) (hf : fieldE L[j] k = 0) : colB k (L.take (j + 1)) = true := by
  unfold colB at ht ⊢
  rw [List.take_succ_eq_append_getElem h, List.all_append, ht]
  simp [hf]
theorem col_bad {k : Int} {L : List Evx} {j : Nat} (h : j < L.length) (hf : fieldE L[j] k ≠ 0) : colB k L = false := by
  unfold colB
  rw [List.all_eq_false]
  exact ⟨L[j], List.getElem_mem h, by simp [hf]⟩
theorem field_err (e : Evx) (k : Int) : fieldE e k = 0 ∨ (fieldE e k = 6 ∧ fieldV e k = V3.z) := by
  unfold fieldE fieldV
  split <;> simp
theorem own_keep {w w' : World} {base : Nat} {e : TypeId} {size : Nat} {v : Value} {n : Nat} {xs : List Value} (h : w.ownsRow base e size v n xs) (hb : Below w.heap.size w w') : w'.ownsRow base e size v n xs :=
  h.kept (row := none) ⟨hb.os, hb.tape, hb.output, hb.size, fun k hk _ => hb.block k hk⟩ (by cases v.ownBlock <;> simp)
section
variable (E : List (List Evx)) (mv : Value) (w : World)
set_option maxRecDepth 100000 in
set_option maxHeartbeats 8000000 in
theorem xtotal_any (v : Value) (d : Nd) (A : Option Addr) (n cap : Nat) (h : There RLx 1 w v E) (hk : 0 ≤ d.field) (hs : d.val.s.size ≤ maxLen) (hf : (evsQ E d.var).length ≤ 4096) :
    Calls Try.prog 61 #[.agg (evC v mv).toArray, .agg ([.int .i64 d.op, .slice A n cap, .int .i64 d.var, .int .i64 d.field, .int .i64 d.kind, .int .i64 d.val.q, .int .i64 d.val.n, .string d.val.s]).toArray] w (Ret (.tuple #[V3.v (totV (evsQ E d.var) d), .int .i64 (totE (evsQ E d.var) d)]) w) := by
  have HV := hide (fun w h => xevents_any E mv w v d.var h)
  obtain ⟨L, hL⟩ : ∃ L, evsQ E d.var = L := ⟨_, rfl⟩
  rw [hL] at HV hf ⊢
  obtain ⟨A0, cap0, rfl⟩ := h.form
  obtain ⟨i0, hi0, hz0, hz1, hz2⟩ := info_parts info_value
  obtain ⟨m, hm⟩ : ∃ m, L.length = m := ⟨_, rfl⟩
  rw [hm] at hf
  obtain ⟨K, hK⟩ : ∃ K, d.field = K := ⟨_, rfl⟩
  have HM := hide hm
  have hX := (Bxs.new w (evC (.slice A0 E.length cap0) mv) 74).keep (below_laid (.cells ([.int .i64 d.op, .slice A n cap, .int .i64 d.var, .int .i64 d.field, .int .i64 d.kind, .int .i64 d.val.q, .int .i64 d.val.n, .string d.val.s]).toArray 30))
  have hX2 := hX.keep (below_laid (.cells #[.int .i64 0, .int .i64 0, .string ⟨#[]⟩] 28))
  have hY := (Bxs.new (w.alloc (.cells (evC (.slice A0 E.length cap0) mv).toArray 74)) ([.int .i64 d.op, .slice A n cap, .int .i64 d.var, .int .i64 d.field, .int .i64 d.kind, .int .i64 d.val.q, .int .i64 d.val.n, .string d.val.s]) 30).keep (below_laid (.cells #[.int .i64 0, .int .i64 0, .string ⟨#[]⟩] 28))
  rw [World.size_alloc] at hY
  have hR := Box3.new ((w.alloc (.cells (evC (.slice A0 E.length cap0) mv).toArray 74)).alloc (.cells ([.int .i64 d.op, .slice A n cap, .int .i64 d.var, .int .i64 d.field, .int .i64 d.kind, .int .i64 d.val.q, .int .i64 d.val.n, .string d.val.s]).toArray 30)) V3.z 28
  simp only [World.size_alloc] at hR
  have HX := hide hX2
  have HY := hide hY
  have HR := hide hR
  have hB3 := bthen (bthen (below_laid (w := w) (.cells (evC (.slice A0 E.length cap0) mv).toArray 74)) (below_laid (.cells ([.int .i64 d.op, .slice A n cap, .int .i64 d.var, .int .i64 d.field, .int .i64 d.kind, .int .i64 d.val.q, .int .i64 d.val.n, .string d.val.s]).toArray 30))) (below_laid (.cells #[.int .i64 0, .int .i64 0, .string ⟨#[]⟩] 28))
  have HT := hide (h.keep rd_Lx hB3)
  have HB0 := hide hB3
  have HOF := hide (fun L' hsz w' v' (hl : L'.length ≤ 4096) (h : Row w' w'.heap.size 3 v' L'.length (flat L')) => of_any d.kind L' d.val w' v' (by omega) hs (fun _ => hsz) h.form (fun _ => h))
  have HRES : Hid (totV L d = (if colB K L = true then ofV d.kind (colV K L) d.val else V3.z) ∧ totE L d = if colB K L = true then ofE d.kind (colV K L) d.val else 6) := hide (by unfold totV totE; rw [hK]; exact ⟨rfl, rfl⟩)
  rw [hK] at hk
  obtain ⟨RV, hRV⟩ : ∃ r, totV L d = r := ⟨_, rfl⟩
  obtain ⟨RE, hRE⟩ : ∃ r, totE L d = r := ⟨_, rfl⟩
  rw [hRV, hRE] at HRES ⊢
  have HK := hide hK
  obtain ⟨len0, hlen0⟩ : ∃ k, E.length = k := ⟨_, rfl⟩
  rw [hlen0] at HT HX HV HB0 HR HY ⊢
  clear h hX hX2 hY hR hB3 hm hs hL hRV hRE hK hlen0
  have x0 := HX.out 0 _ rfl
  have x1 := HX.out 1 _ rfl
  have x2 := HX.out 2 _ rfl
  have x3 := HX.out 3 _ rfl
  have x4 := HX.out 4 _ rfl
  have x5 := HX.out 5 _ rfl
  have x6 := HX.out 6 _ rfl
  have x7 := HX.out 7 _ rfl
  have y2 := HY.out 2 _ rfl
  go_enter Try.func61, Try.ntmps61
  go_wp2_with fail
  refine (HV.out _ HT.out).mono ?_
  rintro e w1 ⟨U, ⟨rfl, hb⟩, hU⟩
  obtain ⟨A1, cap1, rfl⟩ := hU.form
  have HU := hide (hU.keep rd_Ex hb)
  rw [HM.out] at HU ⊢
  have HB := hide (bthen HB0.out hb)
  replace HX := hide (HX.out.keep hb)
  replace HY := hide (HY.out.keep hb)
  replace HR := hide (HR.out.keep hb)
  clear hb x0 x1 x2 x3 x4 x5 x6 x7 y2 hU HB0 HT HV
  go_wp2_with fail
  go_loopw [6, 16] (fun v i wr => ∃ j : Nat, j ≤ m ∧ i = .int .i64 j ∧ wr.ownsRow w1.heap.size 28 3 v j (flat (colV K (L.take j))) ∧ Hid (colB K (L.take j) = true) ∧ Below w1.heap.size w1 wr) (fun _ i _ => m - (intOf i).toNat)
  case atStart => exact ⟨0, by omega, rfl, World.ownsRow_nil _ _ _ _, hide rfl, Below.refl _ _⟩
  case round =>
    obtain ⟨j, hj, rfl, hown, HA, hB⟩ := hrel
    have HYr := hide (HY.out.keep hB)
    have HUr := hide (HU.out.keep rd_Ex hB)
    by_cases hlt : j < m
    · have hjl : j < L.length := by rw [HM.out]; exact hlt
      have HS : Hid (flat (colV K (L.take (j + 1))) = flat (colV K (L.take j)) ++ [.int .i64 (fieldV L[j] K).q, .int .i64 (fieldV L[j] K).n, .string (fieldV L[j] K).s]) := hide (by
        unfold colV
        rw [List.take_succ_eq_append_getElem hjl, List.map_append, flat_app]; rfl)
      have HA1 := hide (fun h => col_all (k := K) hjl HA.out h)
      have HA2 := hide (fun h => col_bad (k := K) hjl h)
      have HFE := hide (field_err L[j] K)
      obtain ⟨g, off, ys, e2, hg, hyl, hc, ⟨u, rfl, hl⟩⟩ := Lst.at_ HUr.out hjl
      subst e2
      obtain ⟨ev, hev⟩ : ∃ ev, L[j] = ev := ⟨_, rfl⟩
      rw [hev] at hc hl HS HA1 HA2 HFE
      have HFD := hide (fun u w' h => xfield_any w' ev u K hk h)
      obtain ⟨A3, cap3, rfl⟩ := hl.form
      obtain ⟨n3, hn3⟩ : ∃ k, ev.vs.length = k := ⟨_, rfl⟩
      rw [hn3] at hl hc
      have HL := hide (show There RVx 3 wr (.slice A3 n3 cap3) ev.vs from hl)
      have k0 := hc 0 _ rfl
      have k1 := hc 1 _ rfl
      have k2 := hc 2 _ rfl
      have k3 := hc 3 _ rfl
      have k4 := hc 4 _ rfl
      rw [Nat.add_zero] at k0
      obtain ⟨fE, hfE⟩ : ∃ r, fieldE ev K = r := ⟨_, rfl⟩
      obtain ⟨fV, hfV⟩ : ∃ r, fieldV ev K = r := ⟨_, rfl⟩
      rw [hfE] at HA1 HA2 HFE HFD
      rw [hfV] at HFE HFD HS
      have hu0 : (0 : Int) ≤ (j : Int) := by omega
      have hu1 : (j : Int) < (m : Int) := by omega
      have hgw : g < wr.heap.size := hg
      have y3 := HYr.out 3 _ rfl
      have hKK := HK.out
      rw [hKK] at y3
      have hlY := World.block_lt_of_cell? wr _ y3
      have hlY : w.heap.size + 1 < wr.heap.size := hlY
      have ne1 : wr.heap.size ≠ w.heap.size + 1 := by omega
      have ne2 : wr.heap.size ≠ g := by omega
      clear hc hl hg hyl hev hfE hfV hKK HA hlY hn3
      obtain ⟨ea, eb, ec, et, evs⟩ := ev
      obtain ⟨q, nn, s⟩ := fV
      simp only at k0 k1 k2 k3 HS HFD
      go_wp2_with fail
      refine (HFD.out _ _ (HL.out.keep rd_Vx (below_laid _))).mono ?_
      rintro e w2 ⟨rfl, hb⟩
      have hbw := bel1 hb
      have hbx := bthen hbw (below_laid (.cells #[.int .i64 q, .int .i64 nn, .string s] 28))
      have hB2 := hB.trans (hbx.mono hB.size)
      have hown := own_keep hown hbx
      clear hb hbw y3 k0 k1 k2 k3 k4 HUr HL HFD
      by_cases hF : fE = 0
      · have tF : (fE != 0) = false := by rw [bne_eq_false_iff_eq]; exact hF
        have HA := hide (HA1.out hF)
        have HBB := hide hB2
        clear hbx hB HYr
        clear hF HA1 HA2 HFE
        go_wp2_with (at_builtin; refine wpList_append_one rfl _ _ 48 rfl w1.heap.size 28 i0 _ 32 Try.underlying48 hi0 hz0 [.int .i64 q, .int .i64 nn, .string s] hz1 hz2 rfl (by simp) _ _ _ rfl hown _ (by rw [World.size_alloc]; rfl) (by simp [Value.oneCell']) ?c1 (by decide) ?c2 ?_; (case c1 => omega); (case c2 => exact hB2.size); intro v2 w3 hown2 hb2 _)
        go_roundw
        case rel => exact ⟨j + 1, by omega, by go_num, by rw [HS.out]; exact hown2, HA, HBB.out.trans hb2⟩
        case measure => simp [intOf]; omega
      · have tF : (fE != 0) = true := by rw [bne_iff_ne]; exact hF
        have HF6 := hide (show fE = 6 by have := HFE.out; omega)
        have HBAD := hide (show RV = V3.z ∧ RE = 6 by
          have h9 := HA2.out hF
          have h8 := HRES.out
          rw [h9] at h8
          exact ⟨by simpa using h8.1, by simpa using h8.2⟩)
        have HW := hide (bthen HB.out hB2)
        have HR := hide (HR.out.keep hB2)
        obtain ⟨⟨r0, r1, r2⟩, g0, g1, g2⟩ := HR.out
        simp only [V3.z] at r0 r1 r2
        clear hbx hB hB2 HYr hF HA1 HA2 HFE
        go_wp2
        refine bodyPost_ret (v := .tuple #[.agg #[.int .i64 0, .int .i64 0, .string ⟨#[]⟩], .int .i64 fE]) (by rw [results_cell_tmp rfl]; go_simp) rfl ?_
        exact Ret.mk (by rw [HBAD.out.1, HBAD.out.2, HF6.out]; rfl) (below_set3' HW.out (by omega) _ _ _)
    · obtain rfl : j = m := by omega
      have hta : L.take j = L := List.take_of_length_le (by rw [HM.out]; exact Nat.le_refl _)
      rw [hta] at hown HA
      have HGOOD := hide (show RV = ofV d.kind (colV K L) d.val ∧ RE = ofE d.kind (colV K L) d.val by
        have h8 := HRES.out
        rw [HA.out] at h8
        exact ⟨by simpa using h8.1, by simpa using h8.2⟩)
      have hcl : (colV K L).length = j := by unfold colV; rw [List.length_map, HM.out]
      have HO := hide (HOF.out (colV K L) (col_sz HU.out K) wr u6 (by omega) (by rw [hcl]; exact Row.of_own hown))
      have HW := hide (bthen HB.out hB)
      have HR := hide (HR.out.keep hB)
      clear hown hB hta HRES HA hcl HUr
      obtain ⟨r, hr⟩ : ∃ r, ofV d.kind (colV K L) d.val = r := ⟨_, rfl⟩
      obtain ⟨z, hz⟩ : ∃ r, ofE d.kind (colV K L) d.val = r := ⟨_, rfl⟩
      rw [hr, hz] at HO HGOOD
      clear hr hz
      obtain ⟨rq, rn, rs⟩ := r
      have y4 := HYr.out 4 _ rfl
      have y5 := HYr.out 5 _ rfl
      have y6 := HYr.out 6 _ rfl
      have y7 := HYr.out 7 _ rfl
      go_wp2_with fail
      refine (HO.out).mono ?_
      rintro e w2 ⟨rfl, hb⟩
      have HW := hide (bthen HW.out hb)
      have HR := hide (HR.out.keep hb)
      clear hb y4 y5 y6 y7
      obtain ⟨⟨r0, r1, r2⟩, g0, g1, g2⟩ := HR.out
      simp only [V3.z] at r0 r1 r2
      go_wp2
      refine bodyPost_ret (v := .tuple #[V3.v ⟨rq, rn, rs⟩, .int .i64 z]) (by rw [results_cell_tmp rfl]; go_simp) rfl ?_
      exact Ret.mk (by rw [HGOOD.out.1, HGOOD.out.2]) (below_set3' HW.out (by omega) _ _ _)
end
end Go.Proofs.Ytkcbjnhphekadaa
