/- Finish of the reference. -/
import Derived.Test.YtihbonndinnohaaQFin
namespace Go.Proofs.Ytihbonndinnohaa
open Go.RowKit
set_option linter.unusedVariables false
set_option linter.unusedSimpArgs false
/-- A copy of a list, in memory of its own from base on. -/
theorem copy_lst {α : Type} {R : World → (Nat → Prop) → List Value → α → Prop} (hR : Rd R) {w w' : World} {base sz : Nat} {te : TypeId} {V : Value} {cells : List (List Value)} {l : List α} (hsz : 0 < sz) (hm : l.length ≤ maxLen) (hown : w'.ownsRow base te sz V cells.length cells.flatten) (hlen : cells.length = l.length)
    (hel : ∀ j (hj : j < l.length), ∃ xs, cells[j]? = some xs ∧ xs.length = sz ∧ R w (· < w.heap.size) xs l[j]) (hb : Below w.heap.size w w') : Lst w' (fun b => b < w.heap.size ∨ (base ≤ b ∧ b < w'.heap.size)) sz R V l := by
  have he := (els_of (B := (· < w.heap.size)) hlen hel).keep hR (Kp.of_below hb)
  refine row_lst hsz hlen hm hown (fun j hj => ?_) (fun k hk => .inr (hown.lt k hk))
  obtain ⟨ys, h1, h2, h3⟩ := he j hj
  exact ⟨ys, h1, h2, hR.more (fun b hb => .inl hb) h3⟩
/-- A list that does not lie in the box b is a list behind three stores into it. -/
theorem lst_set3 {α : Type} {R : World → (Nat → Prop) → List Value → α → Prop} (hR : Rd R) {w : World} {Z : Nat → Prop} {sz b : Nat} {v : Value} {l : List α} (h : Lst w Z sz R v l) (hb : ∀ k, Z k → k ≠ b) (hZ : ∀ k, Z k → k < w.heap.size) (x0 x1 x2 : Value) :
    Lq (((w.setCell ⟨b, 0, none⟩ x0).setCell ⟨b, 1, none⟩ x1).setCell ⟨b, 2, none⟩ x2) sz R v l := by
  have hk : Kp Z w (((w.setCell ⟨b, 0, none⟩ x0).setCell ⟨b, 1, none⟩ x1).setCell ⟨b, 2, none⟩ x2) := ((Kp.set ⟨b, 0, none⟩ _ hb).trans (Kp.set ⟨b, 1, none⟩ _ hb)).trans (Kp.set ⟨b, 2, none⟩ _ hb)
  exact (h.keep hR hk).more hR fun k hz => Nat.lt_of_lt_of_le (hZ k hz) hk.1
section
variable (w : World) (c : Cq)
set_option maxRecDepth 100000 in
set_option maxHeartbeats 8000000 in
theorem rfinish_any (v : Value) (num : Int) (h : CoV w v c) (hnum : inQ num) : Calls Try.prog 24 #[v, .int .i64 num] w (RetC1 w (finC c num) (finE c num)) := by
  obtain ⟨u, rfl, hl, hq1, hq2⟩ := id h
  obtain ⟨A, cap, rfl⟩ := hl.form
  have HK := hide (rchk_any _ c _ (CoV.laid (CoV.laid h (.cells #[.int .i64 c.next, .slice A c.atts.length cap, .int .i64 c.dur] 24)) (.cells #[.int .i64 0, .slice none 0 0, .int .i64 0] 24)))
  by_cases hc : chkQ c = 0
  · obtain ⟨b1, b2, b3, b4, b5, b6⟩ := chk0 hc
    have hE0 : finE c num = if findQ num c.atts = c.atts.length then 6 else if 0 < findQ num c.atts then 14 else if compQ (attQ c 0) = false then 21 else 0 := by unfold finE; rw [if_neg (by simp [hc])]
    have HFI := hide (fun (w' : World) (hb : Below w.heap.size w w') => rfind_any w' c (.agg #[.int .i64 c.next, .slice A c.atts.length cap, .int .i64 c.dur]) num (h.grow hb) b5)
    rw [hc] at HK
    have hle := findQ_le num c.atts
    by_cases hf : findQ num c.atts = c.atts.length
    · have HE : Hid (finE c num = 6) := hide (by rw [hE0, if_pos hf])
      have HC : Hid (finC c num = Cq.z) := hide (by unfold finC; rw [HE.out]; rfl)
      rw [HE.out]
      rw [if_pos hf] at HFI
      clear hc h hl hE0 hf hle b6
      go_enter Try.func24, Try.ntmps24
      go_wp2_with fail
      refine HK.out.mono ?_
      rintro e w1 ⟨rfl, hb⟩
      obtain ⟨hb1, hz1, hx1⟩ := step_box [.int .i64 0, .slice none 0 0, .int .i64 0] hb
      have u0 := hx1 0 _ rfl
      have u1 := hx1 1 _ rfl
      have u2 := hx1 2 _ rfl
      have v0 := step_frozen [.int .i64 0, .slice none 0 0, .int .i64 0] hb 0
      have v1 := step_frozen [.int .i64 0, .slice none 0 0, .int .i64 0] hb 1
      have v2 := step_frozen [.int .i64 0, .slice none 0 0, .int .i64 0] hb 2
      obtain ⟨hb2, hz2, hx2⟩ := step_box [.int .i64 c.next, .slice A c.atts.length cap, .int .i64 c.dur] hb1
      have y0 := hx2 0 _ rfl
      have y1 := hx2 1 _ rfl
      have y2 := hx2 2 _ rfl
      have HB1 := hide hb2
      simp only [World.size_alloc] at u0 u1 u2 v0 v1 v2 hz1
      clear hx1 hx2 hb hb1 hb2
      go_wp2_with fail
      refine (HFI.out _ HB1.out).mono ?_
      rintro e w2 ⟨rfl, hb3⟩
      replace u0 := keep1 hb3 u0
      replace y0 := keep1 hb3 y0
      replace u1 := keep1 hb3 u1
      replace y1 := keep1 hb3 y1
      replace u2 := keep1 hb3 u2
      replace y2 := keep1 hb3 y2
      replace v0 := ((bcell hb3).2 _ 0 (by omega)).trans v0
      replace v1 := ((bcell hb3).2 _ 1 (by omega)).trans v1
      replace v2 := ((bcell hb3).2 _ 2 (by omega)).trans v2
      replace HB1 := hide (bthen HB1.out hb3)
      clear hb3
      go_wp2
      refine bodyPost_ret (v := .tuple #[.agg #[.int .i64 0, .slice none 0 0, .int .i64 0], .int .i64 (6)]) (by rw [results_ct rfl]; go_simp) rfl ?_
      exact RetC1.zero HC.out rfl (((HB1.out.setCell (p := ⟨w.heap.size + 1, 0, none⟩) (Nat.le_succ _) _).setCell (p := ⟨w.heap.size + 1, 1, none⟩) (Nat.le_succ _) _).setCell (p := ⟨w.heap.size + 1, 2, none⟩) (Nat.le_succ _) _)
    · have hlt : findQ num c.atts < c.atts.length := by omega
      rw [if_neg hf] at HFI
      by_cases hp : 0 < findQ num c.atts
      · have HE : Hid (finE c num = 14) := hide (by rw [hE0, if_neg hf, if_pos hp])
        have HC : Hid (finC c num = Cq.z) := hide (by unfold finC; rw [HE.out]; rfl)
        rw [HE.out]
        obtain ⟨k, hk⟩ : ∃ k, findQ num c.atts = k := ⟨_, rfl⟩
        rw [hk] at HFI hp
        have t1 : decide ((k : Int) < 0) = false := decide_eq_false (by omega)
        have t2 : decide ((0 : Int) < (k : Int)) = true := decide_eq_true (by omega)
        have t3 : decide (0 < k) = true := decide_eq_true hp
        clear hc h hl hE0 hf hle b6 hlt hp hk
        go_enter Try.func24, Try.ntmps24
        go_wp2_with fail
        refine HK.out.mono ?_
        rintro e w1 ⟨rfl, hb⟩
        obtain ⟨hb1, hz1, hx1⟩ := step_box [.int .i64 0, .slice none 0 0, .int .i64 0] hb
        have u0 := hx1 0 _ rfl
        have u1 := hx1 1 _ rfl
        have u2 := hx1 2 _ rfl
        have v0 := step_frozen [.int .i64 0, .slice none 0 0, .int .i64 0] hb 0
        have v1 := step_frozen [.int .i64 0, .slice none 0 0, .int .i64 0] hb 1
        have v2 := step_frozen [.int .i64 0, .slice none 0 0, .int .i64 0] hb 2
        obtain ⟨hb2, hz2, hx2⟩ := step_box [.int .i64 c.next, .slice A c.atts.length cap, .int .i64 c.dur] hb1
        have y0 := hx2 0 _ rfl
        have y1 := hx2 1 _ rfl
        have y2 := hx2 2 _ rfl
        have HB1 := hide hb2
        simp only [World.size_alloc] at u0 u1 u2 v0 v1 v2 hz1
        clear hx1 hx2 hb hb1 hb2
        go_wp2_with fail
        refine (HFI.out _ HB1.out).mono ?_
        rintro e w2 ⟨rfl, hb3⟩
        replace u0 := keep1 hb3 u0
        replace y0 := keep1 hb3 y0
        replace u1 := keep1 hb3 u1
        replace y1 := keep1 hb3 y1
        replace u2 := keep1 hb3 u2
        replace y2 := keep1 hb3 y2
        replace v0 := ((bcell hb3).2 _ 0 (by omega)).trans v0
        replace v1 := ((bcell hb3).2 _ 1 (by omega)).trans v1
        replace v2 := ((bcell hb3).2 _ 2 (by omega)).trans v2
        replace HB1 := hide (bthen HB1.out hb3)
        clear hb3
        go_wp2
        refine bodyPost_ret (v := .tuple #[.agg #[.int .i64 0, .slice none 0 0, .int .i64 0], .int .i64 (14)]) (by rw [results_ct rfl]; go_simp) rfl ?_
        exact RetC1.zero HC.out rfl (((HB1.out.setCell (p := ⟨w.heap.size + 1, 0, none⟩) (Nat.le_succ _) _).setCell (p := ⟨w.heap.size + 1, 1, none⟩) (Nat.le_succ _) _).setCell (p := ⟨w.heap.size + 1, 2, none⟩) (Nat.le_succ _) _)
      · have hz : findQ num c.atts = 0 := by omega
        have h0 : 0 < c.atts.length := by omega
        obtain ⟨g, off, xs, eA, -⟩ := Lst.at_ hl (j := 0) h0
        subst eA
        obtain ⟨hg, A1, A2, A3, c1, c2, c3, ha⟩ := att_at hl h0
        rw [Nat.zero_mul, Nat.add_zero] at ha
        have h8 := err0 (b6 0 h0)
        have HCO := hide (fun (w' : World) (hb : Below w.heap.size w w') => rcompl_any w' (attQ c 0).num A1 A2 A3 (attQ c 0).rds.length (attQ c 0).ops.length c1 c2 c3 (attQ c 0).hv (ha.l3.grow rd_Bq hb) (by omega))
        have hE1 : finE c num = if compQ (attQ c 0) = false then 21 else 0 := by rw [hE0, if_neg hf, if_neg hp]
        have k0 := ha.k0
        have k1 := ha.k1
        have k2 := ha.k2
        have k3 := ha.k3
        rw [hz] at HFI
        have hn0 : (0 : Int) < (c.atts.length : Int) := by omega
        obtain ⟨r1, hr1⟩ : ∃ n, (attQ c 0).rds.length = n := ⟨_, rfl⟩
        obtain ⟨r2, hr2⟩ : ∃ n, (attQ c 0).ops.length = n := ⟨_, rfl⟩
        obtain ⟨r3, hr3⟩ : ∃ n, (attQ c 0).hv.length = n := ⟨_, rfl⟩
        obtain ⟨r0, hr0⟩ : ∃ n, (attQ c 0).num = n := ⟨_, rfl⟩
        rw [hr1] at k1
        rw [hr2] at k2
        rw [hr3] at k3
        rw [hr0] at k0
        rw [hr1, hr2, hr3, hr0] at HCO
        cases hcm : compQ (attQ c 0)
        · have HE : Hid (finE c num = 21) := hide (by rw [hE1, if_pos hcm])
          have HC : Hid (finC c num = Cq.z) := hide (by unfold finC; rw [HE.out]; rfl)
          rw [show (attQ c 0).hv.all id = false from hcm] at HCO
          rw [HE.out]
          clear hc h hl hE0 hf hle b6 hlt hp hz ha h8 hE1 hcm hr1 hr2 hr3 hr0
          go_enter Try.func24, Try.ntmps24
          go_wp2_with fail
          refine HK.out.mono ?_
          rintro e w1 ⟨rfl, hb⟩
          obtain ⟨hb1, hz1, hx1⟩ := step_box [.int .i64 0, .slice none 0 0, .int .i64 0] hb
          have u0 := hx1 0 _ rfl
          have u1 := hx1 1 _ rfl
          have u2 := hx1 2 _ rfl
          have v0 := step_frozen [.int .i64 0, .slice none 0 0, .int .i64 0] hb 0
          have v1 := step_frozen [.int .i64 0, .slice none 0 0, .int .i64 0] hb 1
          have v2 := step_frozen [.int .i64 0, .slice none 0 0, .int .i64 0] hb 2
          obtain ⟨hb2, hz2, hx2⟩ := step_box [.int .i64 c.next, .slice (some ⟨g, off, none⟩) c.atts.length cap, .int .i64 c.dur] hb1
          have y0 := hx2 0 _ rfl
          have y1 := hx2 1 _ rfl
          have y2 := hx2 2 _ rfl
          have HB1 := hide hb2
          simp only [World.size_alloc] at u0 u1 u2 v0 v1 v2 hz1
          clear hx1 hx2 hb hb1 hb2
          go_wp2_with fail
          refine (HFI.out _ HB1.out).mono ?_
          rintro e w2 ⟨rfl, hb3⟩
          have hs2 := hb3.size
          replace u0 := keep1 hb3 u0
          replace y0 := keep1 hb3 y0
          replace u1 := keep1 hb3 u1
          replace y1 := keep1 hb3 y1
          replace u2 := keep1 hb3 u2
          replace y2 := keep1 hb3 y2
          replace v0 := ((bcell hb3).2 _ 0 (by omega)).trans v0
          replace v1 := ((bcell hb3).2 _ 1 (by omega)).trans v1
          replace v2 := ((bcell hb3).2 _ 2 (by omega)).trans v2
          replace HB1 := hide (bthen HB1.out hb3)
          have m0 := keep1 HB1.out k0
          have m1 := keep1 HB1.out k1
          have m2 := keep1 HB1.out k2
          have m3 := keep1 HB1.out k3
          have HCP := hide (HCO.out _ HB1.out)
          clear hb3
          go_wp2_with fail
          refine HCP.out.mono ?_
          rintro e w3 ⟨rfl, hb4⟩
          have hs3 := hb4.size
          replace u0 := keep1 hb4 u0
          replace y0 := keep1 hb4 y0
          replace u1 := keep1 hb4 u1
          replace y1 := keep1 hb4 y1
          replace u2 := keep1 hb4 u2
          replace y2 := keep1 hb4 y2
          replace v0 := ((bcell hb4).2 _ 0 (by omega)).trans v0
          replace v1 := ((bcell hb4).2 _ 1 (by omega)).trans v1
          replace v2 := ((bcell hb4).2 _ 2 (by omega)).trans v2
          replace HB1 := hide (bthen HB1.out hb4)
          clear hb4 m0 m1 m2 m3
          go_wp2
          refine bodyPost_ret (v := .tuple #[.agg #[.int .i64 0, .slice none 0 0, .int .i64 0], .int .i64 (21)]) (by rw [results_ct rfl]; go_simp) rfl ?_
          exact RetC1.zero HC.out rfl (((HB1.out.setCell (p := ⟨w.heap.size + 1, 0, none⟩) (Nat.le_succ _) _).setCell (p := ⟨w.heap.size + 1, 1, none⟩) (Nat.le_succ _) _).setCell (p := ⟨w.heap.size + 1, 2, none⟩) (Nat.le_succ _) _)
        · have HE : Hid (finE c num = 0) := hide (by rw [hE1, if_neg (by simp [hcm])])
          have HC : Hid (finC c num = ⟨c.next, c.atts.drop 1, num⟩) := hide (by unfold finC; rw [if_pos HE.out])
          rw [show (attQ c 0).hv.all id = true from hcm] at HCO
          rw [HE.out]
          have HQ := hide (And.intro hq1 hnum)
          have hcp : c.atts.length ≤ cap := by obtain ⟨_, _, e, h1, -⟩ := hl.1; injection e with _ _ e; omega
          have hT := lst_tail hl h0
          obtain ⟨cells, hraw, hlen, hel⟩ := lst_raw one_Aq hT
          have hl1 : (c.atts.drop 1).length = c.atts.length - 1 := List.length_drop
          have HRA := hide (fun (w' : World) (hb : Below w.heap.size w w') => show Calls Try.prog 35 #[.slice (if cap = 1 then some ⟨g, off, none⟩ else some ⟨g, off + 4, none⟩) (c.atts.length - 1) (cap - 1)] w' (RetCp w' 51 4 cells) by
            have := ratts_any w' (if cap = 1 then some ⟨g, off, none⟩ else some ⟨g, off + 4, none⟩) (cap - 1) cells (by rw [hlen, hl1]; exact Lq.grow rd_Wq hraw hb) (by omega)
            rwa [hlen, hl1] at this)
          have HFL := hide (fun (w1 w2 : World) (V : Value) (hb1 : Below w.heap.size w w1) (hb2 : Below w1.heap.size w1 w2) (ho : w2.ownsRow w1.heap.size 51 4 V cells.length cells.flatten) => copy_lst rd_Aq (w := w) (by decide) (by rw [hl1]; unfold maxLen; omega) ho hlen hel (bthen hb1 hb2))
          obtain ⟨n, hn⟩ : ∃ n, c.atts.length = n := ⟨_, rfl⟩
          rw [hn] at HRA hcp h0 b5 hn0 HK HFI
          have HN := hide hn
          clear hc h hl hE0 hf hle b6 hlt hp hz ha h8 hE1 hcm hr1 hr2 hr3 hr0 hT hraw hlen hel hl1
          rw [hn]
          clear hn
          have p0 : (1 : Int) ≤ (n : Int) := by omega
          have p1 : (n : Int) ≤ (cap : Int) := by omega
          by_cases hq : cap = 1
          · subst hq
            obtain rfl : n = 1 := by omega
            simp only [if_true, Nat.sub_self] at HRA
            go_enter Try.func24, Try.ntmps24
            go_wp2_with fail
            refine HK.out.mono ?_
            rintro e w1 ⟨rfl, hb⟩
            obtain ⟨hb1, hz1, hx1⟩ := step_box [.int .i64 0, .slice none 0 0, .int .i64 0] hb
            have u0 := hx1 0 _ rfl
            have u1 := hx1 1 _ rfl
            have u2 := hx1 2 _ rfl
            have v0 := step_frozen [.int .i64 0, .slice none 0 0, .int .i64 0] hb 0
            have v1 := step_frozen [.int .i64 0, .slice none 0 0, .int .i64 0] hb 1
            have v2 := step_frozen [.int .i64 0, .slice none 0 0, .int .i64 0] hb 2
            obtain ⟨hb2, hz2, hx2⟩ := step_box [.int .i64 c.next, .slice (some ⟨g, off, none⟩) 1 1, .int .i64 c.dur] hb1
            have y0 := hx2 0 _ rfl
            have y1 := hx2 1 _ rfl
            have y2 := hx2 2 _ rfl
            have HB1 := hide hb2
            simp only [World.size_alloc] at u0 u1 u2 v0 v1 v2 hz1
            clear hx1 hx2 hb hb1 hb2
            go_wp2_with fail
            refine (HFI.out _ HB1.out).mono ?_
            rintro e w2 ⟨rfl, hb3⟩
            have hs2 := hb3.size
            replace u0 := keep1 hb3 u0
            replace y0 := keep1 hb3 y0
            replace u1 := keep1 hb3 u1
            replace y1 := keep1 hb3 y1
            replace u2 := keep1 hb3 u2
            replace y2 := keep1 hb3 y2
            replace v0 := ((bcell hb3).2 _ 0 (by omega)).trans v0
            replace v1 := ((bcell hb3).2 _ 1 (by omega)).trans v1
            replace v2 := ((bcell hb3).2 _ 2 (by omega)).trans v2
            replace HB1 := hide (bthen HB1.out hb3)
            have m0 := keep1 HB1.out k0
            have m1 := keep1 HB1.out k1
            have m2 := keep1 HB1.out k2
            have m3 := keep1 HB1.out k3
            have HCP := hide (HCO.out _ HB1.out)
            clear hb3
            go_wp2_with fail
            refine HCP.out.mono ?_
            rintro e w3 ⟨rfl, hb4⟩
            have hs3 := hb4.size
            replace u0 := keep1 hb4 u0
            replace y0 := keep1 hb4 y0
            replace u1 := keep1 hb4 u1
            replace y1 := keep1 hb4 y1
            replace u2 := keep1 hb4 u2
            replace y2 := keep1 hb4 y2
            replace v0 := ((bcell hb4).2 _ 0 (by omega)).trans v0
            replace v1 := ((bcell hb4).2 _ 1 (by omega)).trans v1
            replace v2 := ((bcell hb4).2 _ 2 (by omega)).trans v2
            replace HB1 := hide (bthen HB1.out hb4)
            have hs31 : w.heap.size + 1 < w3.heap.size := by omega
            clear hb4 m0 m1 m2 m3
            go_wp2
            go_region_law (go_simp; go_at_call 35; refine (HRA.out _ (below_drewN HB1.out 1)).mono ?_; rintro e w4 ⟨V, rfl, ho, hb5'⟩; obtain ⟨B, q, rfl⟩ := own_form ho; have hb5 : Below w3.heap.size w3 w4 := below_undrew hb5'; have HLL := hide (HFL.out w3 w4 _ HB1.out hb5 ho); have HB5 := hide (bthen HB1.out hb5); have hs4 := hb5.size; have uu0 := keep1 hb5 u0; have uu1 := keep1 hb5 u1; have uu2 := keep1 hb5 u2; have yy0 := keep1 hb5 y0; have vv0 := ((bcell hb5).2 _ 0 hs31).trans v0; have vv1 := ((bcell hb5).2 _ 1 hs31).trans v1; have vv2 := ((bcell hb5).2 _ 2 hs31).trans v2)
            all_goals
              go_wp2
              refine bodyPost_ret (v := .tuple #[.agg #[.int .i64 c.next, .slice B cells.length q, .int .i64 num], .int .i64 0]) (by rw [results_ct rfl]; go_simp) rfl ?_
              refine ⟨_, rfl, ?_, (((HB5.out.setCell (p := ⟨w.heap.size + 1, 0, none⟩) (Nat.le_succ _) _).setCell (p := ⟨w.heap.size + 1, 1, none⟩) (Nat.le_succ _) _).setCell (p := ⟨w.heap.size + 1, 2, none⟩) (Nat.le_succ _) _)⟩
              rw [HC.out]
              exact ⟨_, rfl, lst_set3 rd_Aq HLL.out (fun k hk => by omega) (fun k hk => by omega) _ _ _, HQ.out.1, HQ.out.2⟩
          · rw [if_neg hq] at HRA
            have q1 : 1 < cap := by omega
            go_enter Try.func24, Try.ntmps24
            go_wp2_with fail
            refine HK.out.mono ?_
            rintro e w1 ⟨rfl, hb⟩
            obtain ⟨hb1, hz1, hx1⟩ := step_box [.int .i64 0, .slice none 0 0, .int .i64 0] hb
            have u0 := hx1 0 _ rfl
            have u1 := hx1 1 _ rfl
            have u2 := hx1 2 _ rfl
            have v0 := step_frozen [.int .i64 0, .slice none 0 0, .int .i64 0] hb 0
            have v1 := step_frozen [.int .i64 0, .slice none 0 0, .int .i64 0] hb 1
            have v2 := step_frozen [.int .i64 0, .slice none 0 0, .int .i64 0] hb 2
            obtain ⟨hb2, hz2, hx2⟩ := step_box [.int .i64 c.next, .slice (some ⟨g, off, none⟩) n cap, .int .i64 c.dur] hb1
            have y0 := hx2 0 _ rfl
            have y1 := hx2 1 _ rfl
            have y2 := hx2 2 _ rfl
            have HB1 := hide hb2
            simp only [World.size_alloc] at u0 u1 u2 v0 v1 v2 hz1
            clear hx1 hx2 hb hb1 hb2
            go_wp2_with fail
            refine (HFI.out _ HB1.out).mono ?_
            rintro e w2 ⟨rfl, hb3⟩
            have hs2 := hb3.size
            replace u0 := keep1 hb3 u0
            replace y0 := keep1 hb3 y0
            replace u1 := keep1 hb3 u1
            replace y1 := keep1 hb3 y1
            replace u2 := keep1 hb3 u2
            replace y2 := keep1 hb3 y2
            replace v0 := ((bcell hb3).2 _ 0 (by omega)).trans v0
            replace v1 := ((bcell hb3).2 _ 1 (by omega)).trans v1
            replace v2 := ((bcell hb3).2 _ 2 (by omega)).trans v2
            replace HB1 := hide (bthen HB1.out hb3)
            have m0 := keep1 HB1.out k0
            have m1 := keep1 HB1.out k1
            have m2 := keep1 HB1.out k2
            have m3 := keep1 HB1.out k3
            have HCP := hide (HCO.out _ HB1.out)
            clear hb3
            go_wp2_with fail
            refine HCP.out.mono ?_
            rintro e w3 ⟨rfl, hb4⟩
            have hs3 := hb4.size
            replace u0 := keep1 hb4 u0
            replace y0 := keep1 hb4 y0
            replace u1 := keep1 hb4 u1
            replace y1 := keep1 hb4 y1
            replace u2 := keep1 hb4 u2
            replace y2 := keep1 hb4 y2
            replace v0 := ((bcell hb4).2 _ 0 (by omega)).trans v0
            replace v1 := ((bcell hb4).2 _ 1 (by omega)).trans v1
            replace v2 := ((bcell hb4).2 _ 2 (by omega)).trans v2
            replace HB1 := hide (bthen HB1.out hb4)
            have hs31 : w.heap.size + 1 < w3.heap.size := by omega
            clear hb4 m0 m1 m2 m3
            go_wp2
            go_region_law (go_simp; go_at_call 35; refine (HRA.out _ (below_drewN HB1.out 1)).mono ?_; rintro e w4 ⟨V, rfl, ho, hb5'⟩; obtain ⟨B, q, rfl⟩ := own_form ho; have hb5 : Below w3.heap.size w3 w4 := below_undrew hb5'; have HLL := hide (HFL.out w3 w4 _ HB1.out hb5 ho); have HB5 := hide (bthen HB1.out hb5); have hs4 := hb5.size; have uu0 := keep1 hb5 u0; have uu1 := keep1 hb5 u1; have uu2 := keep1 hb5 u2; have yy0 := keep1 hb5 y0; have vv0 := ((bcell hb5).2 _ 0 hs31).trans v0; have vv1 := ((bcell hb5).2 _ 1 hs31).trans v1; have vv2 := ((bcell hb5).2 _ 2 hs31).trans v2)
            all_goals
              go_wp2
              refine bodyPost_ret (v := .tuple #[.agg #[.int .i64 c.next, .slice B cells.length q, .int .i64 num], .int .i64 0]) (by rw [results_ct rfl]; go_simp) rfl ?_
              refine ⟨_, rfl, ?_, (((HB5.out.setCell (p := ⟨w.heap.size + 1, 0, none⟩) (Nat.le_succ _) _).setCell (p := ⟨w.heap.size + 1, 1, none⟩) (Nat.le_succ _) _).setCell (p := ⟨w.heap.size + 1, 2, none⟩) (Nat.le_succ _) _)⟩
              rw [HC.out]
              exact ⟨_, rfl, lst_set3 rd_Aq HLL.out (fun k hk => by omega) (fun k hk => by omega) _ _ _, HQ.out.1, HQ.out.2⟩
  · have hE0 : finE c num = chkQ c := by unfold finE; rw [if_pos hc]
    have HC : Hid (finC c num = Cq.z) := hide (by unfold finC; rw [if_neg (by rw [hE0]; exact hc)])
    rw [hE0]
    have te : (chkQ c != 0) = true := by rw [bne_iff_ne]; exact hc
    obtain ⟨E, hE⟩ : ∃ E, chkQ c = E := ⟨_, rfl⟩
    rw [hE] at HK te ⊢
    clear hc hE h hl hE0
    go_enter Try.func24, Try.ntmps24
    go_wp2_with fail
    refine HK.out.mono ?_
    rintro e w1 ⟨rfl, hb⟩
    obtain ⟨hb1, hz1, hx1⟩ := step_box [.int .i64 0, .slice none 0 0, .int .i64 0] hb
    have u0 := hx1 0 _ rfl
    have u1 := hx1 1 _ rfl
    have u2 := hx1 2 _ rfl
    have v0 := step_frozen [.int .i64 0, .slice none 0 0, .int .i64 0] hb 0
    have v1 := step_frozen [.int .i64 0, .slice none 0 0, .int .i64 0] hb 1
    have v2 := step_frozen [.int .i64 0, .slice none 0 0, .int .i64 0] hb 2
    obtain ⟨hb2, hz2, hx2⟩ := step_box [.int .i64 c.next, .slice A c.atts.length cap, .int .i64 c.dur] hb1
    have y0 := hx2 0 _ rfl
    have y1 := hx2 1 _ rfl
    have y2 := hx2 2 _ rfl
    have HB1 := hide hb2
    simp only [World.size_alloc] at u0 u1 u2 v0 v1 v2 hz1
    clear hx1 hx2 hb hb1 hb2
    go_wp2
    refine bodyPost_ret (v := .tuple #[.agg #[.int .i64 0, .slice none 0 0, .int .i64 0], .int .i64 (E)]) (by rw [results_ct rfl]; go_simp) rfl ?_
    exact RetC1.zero HC.out rfl (((HB1.out.setCell (p := ⟨w.heap.size + 1, 0, none⟩) (Nat.le_succ _) _).setCell (p := ⟨w.heap.size + 1, 1, none⟩) (Nat.le_succ _) _).setCell (p := ⟨w.heap.size + 1, 2, none⟩) (Nat.le_succ _) _)
end
end Go.Proofs.Ytihbonndinnohaa
