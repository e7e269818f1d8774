/- Ready, of the program and of the reference. -/
import Derived.Test.YtihbonndinnohaaQFin2
namespace Go.Proofs.Ytihbonndinnohaa
open Go.RowKit
set_option linter.unusedVariables false
set_option linter.unusedSimpArgs false
theorem results_ctt {fn : Func} {p q r : Tmp} {ty : TypeId} (h : fn.results = #[.cell p ty, .tmp q, .tmp r]) (tmps : Array Value) (P : Program) (w : World) :
    (results fn tmps).run P w = ((asAddr (tmps.getD p undef)).run P w).andThen fun a w₁ => ((loadVar ty a).run P w₁).andThen fun v w₂ => .ok (.tuple #[v, tmps.getD q undef, tmps.getD r undef]) w₂ := by
  simp only [results, h]
  simp [Sem.run_bind, Result.andThen]
/-- What Ready returns. -/
def rdyN (c : Cq) : Int := if rdyB c then (attQ c 0).num else 0
def rdyR (c : Cq) : List Rq := if rdyB c then (attQ c 0).rds else []
def rdyO (c : Cq) : List Oq := if rdyB c then (attQ c 0).ops else []
def RetRdy (w : World) (c : Cq) (e : Ending) (w' : World) : Prop := ∃ v u, e = .returned (.tuple #[.agg #[.int .i64 (rdyN c), v, u], .bool (rdyB c), .int .i64 (chkQ c)]) ∧ Lq w' 6 RRq v (rdyR c) ∧ Lq w' 2 ROq u (rdyO c) ∧ Below w.heap.size w w'
theorem RetRdy.no {w w' : World} {c : Cq} {E : Int} (hB : rdyB c = false) (hE : chkQ c = E) (hb : Below w.heap.size w w') : RetRdy w c (.returned (.tuple #[.agg #[.int .i64 0, .slice none 0 0, .slice none 0 0], .bool false, .int .i64 E])) w' := by
  refine ⟨.slice none 0 0, .slice none 0 0, by unfold rdyN; rw [hB, hE]; rfl, ?_, ?_, hb⟩
  · unfold rdyR; rw [hB]; exact Lst.nil
  · unfold rdyO; rw [hB]; exact Lst.nil
theorem RetRdy.yes {w w' : World} {c : Cq} {n : Int} {v u : Value} (hB : rdyB c = true) (hn : (attQ c 0).num = n) (hE : chkQ c = 0) (h1 : Lq w' 6 RRq v (attQ c 0).rds) (h2 : Lq w' 2 ROq u (attQ c 0).ops) (hb : Below w.heap.size w w') : RetRdy w c (.returned (.tuple #[.agg #[.int .i64 n, v, u], .bool true, .int .i64 0])) w' := by
  refine ⟨v, u, by unfold rdyN; rw [hB, hE, if_pos rfl, hn], ?_, ?_, hb⟩
  · unfold rdyR; rw [hB]; exact h1
  · unfold rdyO; rw [hB]; exact h2
theorem lst_box {α : Type} {R : World → (Nat → Prop) → List Value → α → Prop} (hR : Rd R) {w : World} {Z : Nat → Prop} {sz b : Nat} {v : Value} {l : List α} (h : Lst w Z sz R v l) (hb : ∀ k, Z k → k ≠ b) (hZ : ∀ k, Z k → k < w.heap.size) (x0 x1 x2 : Value) (ob : Obj) :
    Lq ((((w.setCell ⟨b, 0, none⟩ x0).setCell ⟨b, 1, none⟩ x1).setCell ⟨b, 2, none⟩ x2).alloc ob) sz R v l := (lst_set3 hR h hb hZ x0 x1 x2).grow hR (below_laid ob)
section
variable (w : World) (c : Cq)
set_option maxRecDepth 100000 in
set_option maxHeartbeats 8000000 in
theorem ready_any (v : Value) (h : CoV w v c) : Calls Try.prog 21 #[v] w (RetRdy w c) := by
  obtain ⟨u, rfl, hl, hq1, hq2⟩ := id h
  obtain ⟨A, cap, rfl⟩ := hl.form
  have HK := hide (chk_any _ _ c (CoV.laid (CoV.laid h (.cells #[.int .i64 c.next, .slice A c.atts.length cap, .int .i64 c.dur] 24)) (.cells #[.int .i64 0, .slice none 0 0, .slice none 0 0] 54)))
  by_cases hc : chkQ c = 0
  · have HE := hide hc
    obtain ⟨b1, b2, b3, b4, b5, b6⟩ := chk0 hc
    rw [hc] at HK
    rcases Nat.eq_zero_or_pos c.atts.length with h0 | h0
    · have HB : Hid (rdyB c = false) := hide (by unfold rdyB; rw [h0]; simp)
      rw [h0] at HK ⊢
      clear hc h hl b6 h0
      go_enter Try.func21, Try.ntmps21
      go_wp2_with fail
      refine HK.out.mono ?_
      rintro e w1 ⟨rfl, hb⟩
      obtain ⟨hb1, hz1, hx1⟩ := step_box [.int .i64 0, .slice none 0 0, .slice none 0 0] hb
      have u0 := hx1 0 _ rfl
      have u1 := hx1 1 _ rfl
      have u2 := hx1 2 _ rfl
      have v0 := step_frozen [.int .i64 0, .slice none 0 0, .slice none 0 0] hb 0
      have v1 := step_frozen [.int .i64 0, .slice none 0 0, .slice none 0 0] hb 1
      have v2 := step_frozen [.int .i64 0, .slice none 0 0, .slice none 0 0] hb 2
      obtain ⟨hb2, hz2, hx2⟩ := step_box [.int .i64 c.next, .slice A 0 cap, .int .i64 c.dur] hb1
      have y0 := hx2 0 _ rfl
      have y1 := hx2 1 _ rfl
      have y2 := hx2 2 _ rfl
      have HB1 := hide hb2
      simp only [World.size_alloc] at u0 u1 u2 v0 v1 v2 hz1
      clear hx1 hx2 hb hb1 hb2
      go_wp2
      refine bodyPost_ret (v := .tuple #[.agg #[.int .i64 0, .slice none 0 0, .slice none 0 0], .bool false, .int .i64 (0)]) (by rw [results_ctt rfl]; go_simp) rfl ?_
      exact RetRdy.no HB.out HE.out (((HB1.out.setCell (p := ⟨w.heap.size + 1, 0, none⟩) (Nat.le_succ _) _).setCell (p := ⟨w.heap.size + 1, 1, none⟩) (Nat.le_succ _) _).setCell (p := ⟨w.heap.size + 1, 2, none⟩) (Nat.le_succ _) _)
    · obtain ⟨g, off, xs, eA, -⟩ := Lst.at_ hl (j := 0) h0
      subst eA
      obtain ⟨hg, A1, A2, A3, c1, c2, c3, ha⟩ := att_at hl h0
      rw [Nat.zero_mul, Nat.add_zero] at ha
      have h8 := err0 (b6 0 h0)
      have HCO := hide (fun (w' : World) (hb : Below w.heap.size w w') => compl_any w' (attQ c 0).num A1 A2 A3 (attQ c 0).rds.length (attQ c 0).ops.length c1 c2 c3 (attQ c 0).hv (ha.l3.grow rd_Bq hb) (by omega))
      obtain ⟨cr, q1, d1, el1⟩ := lst_raw one_Rq ha.l1
      obtain ⟨co, q2, d2, el2⟩ := lst_raw one_Oq ha.l2
      obtain ⟨ch, q3, d3, el3⟩ := lst_raw one_Bq ha.l3
      have HOWN := hide (fun (w' : World) (hb : Below w.heap.size w w') => own_any w' (attQ c 0).num A1 A2 A3 (attQ c 0).rds.length (attQ c 0).ops.length (attQ c 0).hv.length c1 c2 c3 cr co ch (Lq.grow rd_Wq q1 hb) (Lq.grow rd_Wq q2 hb) (Lq.grow rd_Wq q3 hb) d1 d2 d3 (by omega) (by omega) (by omega))
      have HCP1 := hide (fun (w2 : World) (b : Nat) (V : Value) (hb : Below w.heap.size w w2) (ho : w2.ownsRow b 68 6 V cr.length cr.flatten) => copy_lst rd_Rq (w := w) (by decide) (by unfold maxLen; omega) ho d1 el1 hb)
      have HCP2 := hide (fun (w2 : World) (b : Nat) (V : Value) (hb : Below w.heap.size w w2) (ho : w2.ownsRow b 42 2 V co.length co.flatten) => copy_lst rd_Oq (w := w) (by decide) (by unfold maxLen; omega) ho d2 el2 hb)
      clear q1 q2 q3 d1 d2 d3 el1 el2 el3
      have k0 := ha.k0
      have k1 := ha.k1
      have k2 := ha.k2
      have k3 := ha.k3
      have hn0 : (0 : Int) < (c.atts.length : Int) := by omega
      have te : ((c.atts.length : Int) == 0) = false := by rw [beq_eq_false_iff_ne]; omega
      have HBB : Hid (rdyB c = compQ (attQ c 0)) := hide (by unfold rdyB; rw [decide_eq_true hc, decide_eq_true h0]; rfl)
      obtain ⟨a, hae⟩ : ∃ a, attQ c 0 = a := ⟨_, rfl⟩
      have HAE := hide hae
      rw [hae] at HCO HOWN HCP1 HCP2 HBB k0 k1 k2 k3
      obtain ⟨r1, hr1⟩ : ∃ n, a.rds.length = n := ⟨_, rfl⟩
      obtain ⟨r2, hr2⟩ : ∃ n, a.ops.length = n := ⟨_, rfl⟩
      obtain ⟨r3, hr3⟩ : ∃ n, a.hv.length = n := ⟨_, rfl⟩
      obtain ⟨r0, hr0⟩ : ∃ n, a.num = n := ⟨_, rfl⟩
      have HR0 := hide hr0
      rw [hr1] at k1
      rw [hr2] at k2
      rw [hr3] at k3
      rw [hr0] at k0
      rw [hr1, hr2, hr3, hr0] at HCO HOWN
      skip
      skip
      clear h8 ha hae hr1 hr2 hr3 hr0 b6 h hl hc
      obtain ⟨n, hn⟩ : ∃ n, c.atts.length = n := ⟨_, rfl⟩
      rw [hn] at HK te hn0 h0 b5 ⊢
      clear hn
      cases hcm : compQ a
      · have HB : Hid (rdyB c = false) := hide (by rw [HBB.out, hcm])
        rw [show a.hv.all id = false from hcm] at HCO
        clear hcm
        go_enter Try.func21, Try.ntmps21
        go_wp2_with fail
        refine HK.out.mono ?_
        rintro e w1 ⟨rfl, hb⟩
        obtain ⟨hb1, hz1, hx1⟩ := step_box [.int .i64 0, .slice none 0 0, .slice none 0 0] hb
        have u0 := hx1 0 _ rfl
        have u1 := hx1 1 _ rfl
        have u2 := hx1 2 _ rfl
        have v0 := step_frozen [.int .i64 0, .slice none 0 0, .slice none 0 0] hb 0
        have v1 := step_frozen [.int .i64 0, .slice none 0 0, .slice none 0 0] hb 1
        have v2 := step_frozen [.int .i64 0, .slice none 0 0, .slice none 0 0] hb 2
        obtain ⟨hb2, hz2, hx2⟩ := step_box [.int .i64 c.next, .slice (some ⟨g, off, none⟩) n cap, .int .i64 c.dur] hb1
        have y0 := hx2 0 _ rfl
        have y1 := hx2 1 _ rfl
        have y2 := hx2 2 _ rfl
        have HB1 := hide hb2
        simp only [World.size_alloc] at u0 u1 u2 v0 v1 v2 hz1
        clear hx1 hx2 hb hb1 hb2
        have m0 := keep1 HB1.out k0
        have m1 := keep1 HB1.out k1
        have m2 := keep1 HB1.out k2
        have m3 := keep1 HB1.out k3
        have HCP := hide (HCO.out _ HB1.out)
        go_wp2_with fail
        refine HCP.out.mono ?_
        rintro e w3 ⟨rfl, hb4⟩
        have hs3 := hb4.size
        replace u0 := keep1 hb4 u0
        replace y0 := keep1 hb4 y0
        replace u1 := keep1 hb4 u1
        replace y1 := keep1 hb4 y1
        replace u2 := keep1 hb4 u2
        replace y2 := keep1 hb4 y2
        replace v0 := ((bcell hb4).2 _ 0 (by omega)).trans v0
        replace v1 := ((bcell hb4).2 _ 1 (by omega)).trans v1
        replace v2 := ((bcell hb4).2 _ 2 (by omega)).trans v2
        replace HB1 := hide (bthen HB1.out hb4)
        clear hb4 m0 m1 m2 m3
        go_wp2
        refine bodyPost_ret (v := .tuple #[.agg #[.int .i64 0, .slice none 0 0, .slice none 0 0], .bool false, .int .i64 (0)]) (by rw [results_ctt rfl]; go_simp) rfl ?_
        exact RetRdy.no HB.out HE.out (((HB1.out.setCell (p := ⟨w.heap.size + 1, 0, none⟩) (Nat.le_succ _) _).setCell (p := ⟨w.heap.size + 1, 1, none⟩) (Nat.le_succ _) _).setCell (p := ⟨w.heap.size + 1, 2, none⟩) (Nat.le_succ _) _)
      · have HB : Hid (rdyB c = true) := hide (by rw [HBB.out, hcm])
        rw [show a.hv.all id = true from hcm] at HCO
        clear hcm
        go_enter Try.func21, Try.ntmps21
        go_wp2_with fail
        refine HK.out.mono ?_
        rintro e w1 ⟨rfl, hb⟩
        obtain ⟨hb1, hz1, hx1⟩ := step_box [.int .i64 0, .slice none 0 0, .slice none 0 0] hb
        have u0 := hx1 0 _ rfl
        have u1 := hx1 1 _ rfl
        have u2 := hx1 2 _ rfl
        have v0 := step_frozen [.int .i64 0, .slice none 0 0, .slice none 0 0] hb 0
        have v1 := step_frozen [.int .i64 0, .slice none 0 0, .slice none 0 0] hb 1
        have v2 := step_frozen [.int .i64 0, .slice none 0 0, .slice none 0 0] hb 2
        obtain ⟨hb2, hz2, hx2⟩ := step_box [.int .i64 c.next, .slice (some ⟨g, off, none⟩) n cap, .int .i64 c.dur] hb1
        have y0 := hx2 0 _ rfl
        have y1 := hx2 1 _ rfl
        have y2 := hx2 2 _ rfl
        have HB1 := hide hb2
        simp only [World.size_alloc] at u0 u1 u2 v0 v1 v2 hz1
        clear hx1 hx2 hb hb1 hb2
        have m0 := keep1 HB1.out k0
        have m1 := keep1 HB1.out k1
        have m2 := keep1 HB1.out k2
        have m3 := keep1 HB1.out k3
        have HCP := hide (HCO.out _ HB1.out)
        go_wp2_with fail
        refine HCP.out.mono ?_
        rintro e w3 ⟨rfl, hb4⟩
        have hs3 := hb4.size
        replace u0 := keep1 hb4 u0
        replace y0 := keep1 hb4 y0
        replace u1 := keep1 hb4 u1
        replace y1 := keep1 hb4 y1
        replace u2 := keep1 hb4 u2
        replace y2 := keep1 hb4 y2
        replace v0 := ((bcell hb4).2 _ 0 (by omega)).trans v0
        replace v1 := ((bcell hb4).2 _ 1 (by omega)).trans v1
        replace v2 := ((bcell hb4).2 _ 2 (by omega)).trans v2
        replace HB1 := hide (bthen HB1.out hb4)
        replace m0 := keep1 hb4 m0
        replace m1 := keep1 hb4 m1
        replace m2 := keep1 hb4 m2
        replace m3 := keep1 hb4 m3
        have hgw : g < w3.heap.size := World.block_lt_of_cell? w3 _ m0
        clear hb4
        go_wp2_with fail
        refine (HOWN.out _ HB1.out).mono ?_
        rintro e w4 ⟨V, U, T, s1, s2, rfl, q1, q2, q3, o1, l1, o2, l2, o3, hb5⟩
        obtain ⟨P1, p1, rfl⟩ := own_form o1
        obtain ⟨P2, p2, rfl⟩ := own_form o2
        obtain ⟨P3, p3, rfl⟩ := own_form o3
        have hs4 := hb5.size
        replace u0 := keep1 hb5 u0
        replace y0 := keep1 hb5 y0
        replace u1 := keep1 hb5 u1
        replace y1 := keep1 hb5 y1
        replace u2 := keep1 hb5 u2
        replace y2 := keep1 hb5 y2
        replace v0 := ((bcell hb5).2 _ 0 (by omega)).trans v0
        replace v1 := ((bcell hb5).2 _ 1 (by omega)).trans v1
        replace v2 := ((bcell hb5).2 _ 2 (by omega)).trans v2
        replace HB1 := hide (bthen HB1.out hb5)
        have HX1 := hide (HCP1.out _ _ _ HB1.out o1)
        have HX2 := hide (HCP2.out _ _ _ HB1.out o2)
        have hw31 : w.heap.size + 1 < w3.heap.size := by omega
        have hq1' : w3.heap.size ≤ s1 := q1
        clear hb5 o1 o2 o3 l1 l2 q1 q2 q3 m0 m1 m2 m3
        have hws : w.heap.size + 1 < w4.heap.size := by omega
        go_wp2
        refine bodyPost_ret (v := .tuple #[.agg #[.int .i64 r0, .slice P1 cr.length p1, .slice P2 co.length p2], .bool true, .int .i64 0]) (by rw [results_ctt rfl]; go_simp) rfl ?_
        exact RetRdy.yes HB.out (by rw [HAE.out]; exact HR0.out) HE.out (by rw [HAE.out]; exact lst_box rd_Rq HX1.out (fun k hk => by omega) (fun k hk => by omega) _ _ _ _) (by rw [HAE.out]; exact lst_box rd_Oq HX2.out (fun k hk => by omega) (fun k hk => by omega) _ _ _ _) ((((HB1.out.setCell (p := ⟨w.heap.size + 1, 0, none⟩) (Nat.le_succ _) _).setCell (p := ⟨w.heap.size + 1, 1, none⟩) (Nat.le_succ _) _).setCell (p := ⟨w.heap.size + 1, 2, none⟩) (Nat.le_succ _) _).alloc (by simp [World.setCell]; omega) _)
  · have HE : Hid (chkQ c = chkQ c) := hide rfl
    have HB : Hid (rdyB c = false) := hide (by unfold rdyB; rw [decide_eq_false hc]; rfl)
    have te : (chkQ c != 0) = true := by rw [bne_iff_ne]; exact hc
    obtain ⟨E, hE⟩ : ∃ E, chkQ c = E := ⟨_, rfl⟩
    replace HE := hide hE
    rw [hE] at HK te
    clear hc hE h hl
    go_enter Try.func21, Try.ntmps21
    go_wp2_with fail
    refine HK.out.mono ?_
    rintro e w1 ⟨rfl, hb⟩
    obtain ⟨hb1, hz1, hx1⟩ := step_box [.int .i64 0, .slice none 0 0, .slice none 0 0] hb
    have u0 := hx1 0 _ rfl
    have u1 := hx1 1 _ rfl
    have u2 := hx1 2 _ rfl
    have v0 := step_frozen [.int .i64 0, .slice none 0 0, .slice none 0 0] hb 0
    have v1 := step_frozen [.int .i64 0, .slice none 0 0, .slice none 0 0] hb 1
    have v2 := step_frozen [.int .i64 0, .slice none 0 0, .slice none 0 0] hb 2
    obtain ⟨hb2, hz2, hx2⟩ := step_box [.int .i64 c.next, .slice A c.atts.length cap, .int .i64 c.dur] hb1
    have y0 := hx2 0 _ rfl
    have y1 := hx2 1 _ rfl
    have y2 := hx2 2 _ rfl
    have HB1 := hide hb2
    simp only [World.size_alloc] at u0 u1 u2 v0 v1 v2 hz1
    clear hx1 hx2 hb hb1 hb2
    go_wp2
    refine bodyPost_ret (v := .tuple #[.agg #[.int .i64 0, .slice none 0 0, .slice none 0 0], .bool false, .int .i64 (E)]) (by rw [results_ctt rfl]; go_simp) rfl ?_
    exact RetRdy.no HB.out HE.out (((HB1.out.setCell (p := ⟨w.heap.size + 1, 0, none⟩) (Nat.le_succ _) _).setCell (p := ⟨w.heap.size + 1, 1, none⟩) (Nat.le_succ _) _).setCell (p := ⟨w.heap.size + 1, 2, none⟩) (Nat.le_succ _) _)
set_option maxRecDepth 100000 in
set_option maxHeartbeats 8000000 in
theorem rready_any (v : Value) (h : CoV w v c) : Calls Try.prog 22 #[v] w (RetRdy w c) := by
  obtain ⟨u, rfl, hl, hq1, hq2⟩ := id h
  obtain ⟨A, cap, rfl⟩ := hl.form
  have HK := hide (rchk_any _ c _ (CoV.laid (CoV.laid h (.cells #[.int .i64 c.next, .slice A c.atts.length cap, .int .i64 c.dur] 24)) (.cells #[.int .i64 0, .slice none 0 0, .slice none 0 0] 54)))
  by_cases hc : chkQ c = 0
  · have HE := hide hc
    obtain ⟨b1, b2, b3, b4, b5, b6⟩ := chk0 hc
    rw [hc] at HK
    rcases Nat.eq_zero_or_pos c.atts.length with h0 | h0
    · have HB : Hid (rdyB c = false) := hide (by unfold rdyB; rw [h0]; simp)
      rw [h0] at HK ⊢
      clear hc h hl b6 h0
      go_enter Try.func22, Try.ntmps22
      go_wp2_with fail
      refine HK.out.mono ?_
      rintro e w1 ⟨rfl, hb⟩
      obtain ⟨hb1, hz1, hx1⟩ := step_box [.int .i64 0, .slice none 0 0, .slice none 0 0] hb
      have u0 := hx1 0 _ rfl
      have u1 := hx1 1 _ rfl
      have u2 := hx1 2 _ rfl
      have v0 := step_frozen [.int .i64 0, .slice none 0 0, .slice none 0 0] hb 0
      have v1 := step_frozen [.int .i64 0, .slice none 0 0, .slice none 0 0] hb 1
      have v2 := step_frozen [.int .i64 0, .slice none 0 0, .slice none 0 0] hb 2
      obtain ⟨hb2, hz2, hx2⟩ := step_box [.int .i64 c.next, .slice A 0 cap, .int .i64 c.dur] hb1
      have y0 := hx2 0 _ rfl
      have y1 := hx2 1 _ rfl
      have y2 := hx2 2 _ rfl
      have HB1 := hide hb2
      simp only [World.size_alloc] at u0 u1 u2 v0 v1 v2 hz1
      clear hx1 hx2 hb hb1 hb2
      go_wp2
      refine bodyPost_ret (v := .tuple #[.agg #[.int .i64 0, .slice none 0 0, .slice none 0 0], .bool false, .int .i64 (0)]) (by rw [results_ctt rfl]; go_simp) rfl ?_
      exact RetRdy.no HB.out HE.out (((HB1.out.setCell (p := ⟨w.heap.size + 1, 0, none⟩) (Nat.le_succ _) _).setCell (p := ⟨w.heap.size + 1, 1, none⟩) (Nat.le_succ _) _).setCell (p := ⟨w.heap.size + 1, 2, none⟩) (Nat.le_succ _) _)
    · obtain ⟨g, off, xs, eA, -⟩ := Lst.at_ hl (j := 0) h0
      subst eA
      obtain ⟨hg, A1, A2, A3, c1, c2, c3, ha⟩ := att_at hl h0
      rw [Nat.zero_mul, Nat.add_zero] at ha
      have h8 := err0 (b6 0 h0)
      have HCO := hide (fun (w' : World) (hb : Below w.heap.size w w') => rcompl_any w' (attQ c 0).num A1 A2 A3 (attQ c 0).rds.length (attQ c 0).ops.length c1 c2 c3 (attQ c 0).hv (ha.l3.grow rd_Bq hb) (by omega))
      have HL1 := hide ha.l1
      have HL2 := hide ha.l2
      have k0 := ha.k0
      have k1 := ha.k1
      have k2 := ha.k2
      have k3 := ha.k3
      have hn0 : (0 : Int) < (c.atts.length : Int) := by omega
      have te : ((c.atts.length : Int) == 0) = false := by rw [beq_eq_false_iff_ne]; omega
      have HBB : Hid (rdyB c = compQ (attQ c 0)) := hide (by unfold rdyB; rw [decide_eq_true hc, decide_eq_true h0]; rfl)
      obtain ⟨a, hae⟩ : ∃ a, attQ c 0 = a := ⟨_, rfl⟩
      have HAE := hide hae
      rw [hae] at HCO HL1 HL2 HBB k0 k1 k2 k3
      obtain ⟨r1, hr1⟩ : ∃ n, a.rds.length = n := ⟨_, rfl⟩
      obtain ⟨r2, hr2⟩ : ∃ n, a.ops.length = n := ⟨_, rfl⟩
      obtain ⟨r3, hr3⟩ : ∃ n, a.hv.length = n := ⟨_, rfl⟩
      obtain ⟨r0, hr0⟩ : ∃ n, a.num = n := ⟨_, rfl⟩
      have HR0 := hide hr0
      rw [hr1] at k1
      rw [hr2] at k2
      rw [hr3] at k3
      rw [hr0] at k0
      rw [hr1, hr2, hr3, hr0] at HCO 
      rw [hr1] at HL1
      rw [hr2] at HL2
      clear h8 ha hae hr1 hr2 hr3 hr0 b6 h hl hc
      obtain ⟨n, hn⟩ : ∃ n, c.atts.length = n := ⟨_, rfl⟩
      rw [hn] at HK te hn0 h0 b5 ⊢
      clear hn
      cases hcm : compQ a
      · have HB : Hid (rdyB c = false) := hide (by rw [HBB.out, hcm])
        rw [show a.hv.all id = false from hcm] at HCO
        clear hcm
        go_enter Try.func22, Try.ntmps22
        go_wp2_with fail
        refine HK.out.mono ?_
        rintro e w1 ⟨rfl, hb⟩
        obtain ⟨hb1, hz1, hx1⟩ := step_box [.int .i64 0, .slice none 0 0, .slice none 0 0] hb
        have u0 := hx1 0 _ rfl
        have u1 := hx1 1 _ rfl
        have u2 := hx1 2 _ rfl
        have v0 := step_frozen [.int .i64 0, .slice none 0 0, .slice none 0 0] hb 0
        have v1 := step_frozen [.int .i64 0, .slice none 0 0, .slice none 0 0] hb 1
        have v2 := step_frozen [.int .i64 0, .slice none 0 0, .slice none 0 0] hb 2
        obtain ⟨hb2, hz2, hx2⟩ := step_box [.int .i64 c.next, .slice (some ⟨g, off, none⟩) n cap, .int .i64 c.dur] hb1
        have y0 := hx2 0 _ rfl
        have y1 := hx2 1 _ rfl
        have y2 := hx2 2 _ rfl
        have HB1 := hide hb2
        simp only [World.size_alloc] at u0 u1 u2 v0 v1 v2 hz1
        clear hx1 hx2 hb hb1 hb2
        have m0 := keep1 HB1.out k0
        have m1 := keep1 HB1.out k1
        have m2 := keep1 HB1.out k2
        have m3 := keep1 HB1.out k3
        have HCP := hide (HCO.out _ HB1.out)
        go_wp2_with fail
        refine HCP.out.mono ?_
        rintro e w3 ⟨rfl, hb4⟩
        have hs3 := hb4.size
        replace u0 := keep1 hb4 u0
        replace y0 := keep1 hb4 y0
        replace u1 := keep1 hb4 u1
        replace y1 := keep1 hb4 y1
        replace u2 := keep1 hb4 u2
        replace y2 := keep1 hb4 y2
        replace v0 := ((bcell hb4).2 _ 0 (by omega)).trans v0
        replace v1 := ((bcell hb4).2 _ 1 (by omega)).trans v1
        replace v2 := ((bcell hb4).2 _ 2 (by omega)).trans v2
        replace HB1 := hide (bthen HB1.out hb4)
        clear hb4 m0 m1 m2 m3
        go_wp2
        refine bodyPost_ret (v := .tuple #[.agg #[.int .i64 0, .slice none 0 0, .slice none 0 0], .bool false, .int .i64 (0)]) (by rw [results_ctt rfl]; go_simp) rfl ?_
        exact RetRdy.no HB.out HE.out (((HB1.out.setCell (p := ⟨w.heap.size + 1, 0, none⟩) (Nat.le_succ _) _).setCell (p := ⟨w.heap.size + 1, 1, none⟩) (Nat.le_succ _) _).setCell (p := ⟨w.heap.size + 1, 2, none⟩) (Nat.le_succ _) _)
      · have HB : Hid (rdyB c = true) := hide (by rw [HBB.out, hcm])
        rw [show a.hv.all id = true from hcm] at HCO
        clear hcm
        go_enter Try.func22, Try.ntmps22
        go_wp2_with fail
        refine HK.out.mono ?_
        rintro e w1 ⟨rfl, hb⟩
        obtain ⟨hb1, hz1, hx1⟩ := step_box [.int .i64 0, .slice none 0 0, .slice none 0 0] hb
        have u0 := hx1 0 _ rfl
        have u1 := hx1 1 _ rfl
        have u2 := hx1 2 _ rfl
        have v0 := step_frozen [.int .i64 0, .slice none 0 0, .slice none 0 0] hb 0
        have v1 := step_frozen [.int .i64 0, .slice none 0 0, .slice none 0 0] hb 1
        have v2 := step_frozen [.int .i64 0, .slice none 0 0, .slice none 0 0] hb 2
        obtain ⟨hb2, hz2, hx2⟩ := step_box [.int .i64 c.next, .slice (some ⟨g, off, none⟩) n cap, .int .i64 c.dur] hb1
        have y0 := hx2 0 _ rfl
        have y1 := hx2 1 _ rfl
        have y2 := hx2 2 _ rfl
        have HB1 := hide hb2
        simp only [World.size_alloc] at u0 u1 u2 v0 v1 v2 hz1
        clear hx1 hx2 hb hb1 hb2
        have m0 := keep1 HB1.out k0
        have m1 := keep1 HB1.out k1
        have m2 := keep1 HB1.out k2
        have m3 := keep1 HB1.out k3
        have HCP := hide (HCO.out _ HB1.out)
        go_wp2_with fail
        refine HCP.out.mono ?_
        rintro e w3 ⟨rfl, hb4⟩
        have hs3 := hb4.size
        replace u0 := keep1 hb4 u0
        replace y0 := keep1 hb4 y0
        replace u1 := keep1 hb4 u1
        replace y1 := keep1 hb4 y1
        replace u2 := keep1 hb4 u2
        replace y2 := keep1 hb4 y2
        replace v0 := ((bcell hb4).2 _ 0 (by omega)).trans v0
        replace v1 := ((bcell hb4).2 _ 1 (by omega)).trans v1
        replace v2 := ((bcell hb4).2 _ 2 (by omega)).trans v2
        replace HB1 := hide (bthen HB1.out hb4)
        replace m0 := keep1 hb4 m0
        replace m1 := keep1 hb4 m1
        replace m2 := keep1 hb4 m2
        replace m3 := keep1 hb4 m3
        have hgw : g < w3.heap.size := World.block_lt_of_cell? w3 _ m0
        clear hb4
        have hw31 : w.heap.size + 1 < w3.heap.size := by omega
        have HX1 := hide ((Lst.keep rd_Rq (Kp.of_below HB1.out) HL1.out))
        have HX2 := hide ((Lst.keep rd_Oq (Kp.of_below HB1.out) HL2.out))
        have hws : w.heap.size ≤ w3.heap.size := by omega
        go_wp2
        refine bodyPost_ret (v := .tuple #[.agg #[.int .i64 r0, .slice A1 r1 c1, .slice A2 r2 c2], .bool true, .int .i64 0]) (by rw [results_ctt rfl]; go_simp) rfl ?_
        exact RetRdy.yes HB.out (by rw [HAE.out]; exact HR0.out) HE.out (by rw [HAE.out]; exact lst_box rd_Rq HX1.out (fun k hk => by omega) (fun k hk => by omega) _ _ _ _) (by rw [HAE.out]; exact lst_box rd_Oq HX2.out (fun k hk => by omega) (fun k hk => by omega) _ _ _ _) ((((HB1.out.setCell (p := ⟨w.heap.size + 1, 0, none⟩) (Nat.le_succ _) _).setCell (p := ⟨w.heap.size + 1, 1, none⟩) (Nat.le_succ _) _).setCell (p := ⟨w.heap.size + 1, 2, none⟩) (Nat.le_succ _) _).alloc (by simp [World.setCell]; omega) _)
  · have HE : Hid (chkQ c = chkQ c) := hide rfl
    have HB : Hid (rdyB c = false) := hide (by unfold rdyB; rw [decide_eq_false hc]; rfl)
    have te : (chkQ c != 0) = true := by rw [bne_iff_ne]; exact hc
    obtain ⟨E, hE⟩ : ∃ E, chkQ c = E := ⟨_, rfl⟩
    replace HE := hide hE
    rw [hE] at HK te
    clear hc hE h hl
    go_enter Try.func22, Try.ntmps22
    go_wp2_with fail
    refine HK.out.mono ?_
    rintro e w1 ⟨rfl, hb⟩
    obtain ⟨hb1, hz1, hx1⟩ := step_box [.int .i64 0, .slice none 0 0, .slice none 0 0] hb
    have u0 := hx1 0 _ rfl
    have u1 := hx1 1 _ rfl
    have u2 := hx1 2 _ rfl
    have v0 := step_frozen [.int .i64 0, .slice none 0 0, .slice none 0 0] hb 0
    have v1 := step_frozen [.int .i64 0, .slice none 0 0, .slice none 0 0] hb 1
    have v2 := step_frozen [.int .i64 0, .slice none 0 0, .slice none 0 0] hb 2
    obtain ⟨hb2, hz2, hx2⟩ := step_box [.int .i64 c.next, .slice A c.atts.length cap, .int .i64 c.dur] hb1
    have y0 := hx2 0 _ rfl
    have y1 := hx2 1 _ rfl
    have y2 := hx2 2 _ rfl
    have HB1 := hide hb2
    simp only [World.size_alloc] at u0 u1 u2 v0 v1 v2 hz1
    clear hx1 hx2 hb hb1 hb2
    go_wp2
    refine bodyPost_ret (v := .tuple #[.agg #[.int .i64 0, .slice none 0 0, .slice none 0 0], .bool false, .int .i64 (E)]) (by rw [results_ctt rfl]; go_simp) rfl ?_
    exact RetRdy.no HB.out HE.out (((HB1.out.setCell (p := ⟨w.heap.size + 1, 0, none⟩) (Nat.le_succ _) _).setCell (p := ⟨w.heap.size + 1, 1, none⟩) (Nat.le_succ _) _).setCell (p := ⟨w.heap.size + 1, 2, none⟩) (Nat.le_succ _) _)
end
end Go.Proofs.Ytihbonndinnohaa
