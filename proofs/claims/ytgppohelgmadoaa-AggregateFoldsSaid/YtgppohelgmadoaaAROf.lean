/- Of, of the reference. -/
import Derived.Test.YtgppohelgmadoaaAOf3
namespace Go.Proofs.Ytgppohelgmadoaa
open Go.RowKit
set_option linter.unusedVariables false
set_option linter.unusedSimpArgs false
theorem right_take {k : Int} {L : List V3} {j : Nat} (hj : j < L.length) (h : Right k (L.take j)) (hx : wrE k L[j].q L[j].n L[j].s.size = 0) : Right k (L.take (j + 1)) := by
  rw [List.take_succ_eq_append_getElem hj]
  intro x hm
  rcases List.mem_append.1 hm with h1 | h1
  · exact h x h1
  · rw [List.mem_singleton.1 h1]; exact hx
theorem ad_eq {k : Int} {a : A5} {x : V3} (hg : Good a) (hk : a.k = k) (hc : a.c < 4096) : adE a x = wrE k x.q x.n x.s.size := by
  unfold adE
  rw [if_neg (by simp [(good_iff a).2 hg]), hk]
  split
  · rfl
  · rename_i h; rw [if_neg (by omega)]; omega

section
variable (k : Int) (L : List V3) (o : V3) (w : World)
set_option maxRecDepth 100000 in
set_option maxHeartbeats 4000000 in
theorem rof_no (v : Value) (hno : knownB k = false ∨ 4096 < L.length) (hm : L.length ≤ 9223372036854775807) (hv : ∃ A cap, v = .slice A L.length cap) :
    Calls Try.prog 16 #[.int .i64 k, v, .agg #[.int .i64 o.q, .int .i64 o.n, .string o.s]] w (Ret (.tuple #[V3.v (ofV k L o), .int .i64 (ofE k L o)]) w) := by
  obtain ⟨A, cap, rfl⟩ := hv
  cases hk : knownB k
  · have HE := hide (of_unknown (L := L) (o := o) hk)
    have HK := hide (rkind_any k)
    rw [hk] at HK
    clear hk hno
    go_enter Try.func16, Try.ntmps16
    go_wp2_with fail
    refine (HK.out _).mono ?_
    rintro e w1 ⟨rfl, rfl⟩
    go_wp2
    refine bodyPost_ret (v := .tuple #[V3.v V3.z, .int .i64 1]) (by simp only [V3.z]; rw [results_cell_tmp rfl]; go_simp) rfl ?_; exact of_mk HE.out ((below_laid _).alloc (by simp) _)
  · have h4 : 4096 < L.length := by
      rcases hno with h | h
      · rw [h] at hk; cases hk
      · exact h
    have HE := hide (of_many (o := o) hk h4)
    have HK := hide (rkind_any k)
    rw [hk] at HK
    have t1 : decide ((4096 : Int) < (L.length : Int)) = true := decide_eq_true (by omega)
    clear hk hno
    go_enter Try.func16, Try.ntmps16
    go_wp2_with fail
    refine (HK.out _).mono ?_
    rintro e w1 ⟨rfl, rfl⟩
    go_wp2
    refine bodyPost_ret (v := .tuple #[V3.v V3.z, .int .i64 5]) (by simp only [V3.z]; rw [results_cell_tmp rfl]; go_simp) rfl ?_; exact of_mk HE.out ((below_laid _).alloc (by simp) _)

/-- What the loop of the reference's Of leaves. -/
def ROfInv (o : V3) (a : A5) (w wr : World) : Prop := Box3 wr w.heap.size o ∧ Box3 wr (w.heap.size + 1) V3.z ∧ Box5 wr (w.heap.size + 1 + 1) a ∧ Below w.heap.size w wr
theorem ROfInv.keep {o : V3} {x : A5} {w a b : World} (h : ROfInv o x w a) (hb : Below a.heap.size a b) : ROfInv o x w b :=
  ⟨h.1.keep hb, h.2.1.keep hb, h.2.2.1.keep hb, bthen h.2.2.2 hb⟩
theorem Box3.far {w : World} {F R : Nat} {a : V3} (h : Box3 w R a) (hne : F ≠ R) (v0 v1 v2 v3 v4 : Value) : Box3 (((((w.setCell ⟨F, 0, none⟩ v0).setCell ⟨F, 1, none⟩ v1).setCell ⟨F, 2, none⟩ v2).setCell ⟨F, 3, none⟩ v3).setCell ⟨F, 4, none⟩ v4) R a := by
  obtain ⟨⟨a0, a1, a2⟩, g0, g1, g2⟩ := h
  exact ⟨⟨(set5_far (p := ⟨R, 0, none⟩) hne).trans a0, (set5_far (p := ⟨R, 1, none⟩) hne).trans a1, (set5_far (p := ⟨R, 2, none⟩) hne).trans a2⟩, set5_frozen.trans g0, set5_frozen.trans g1, set5_frozen.trans g2⟩

set_option maxRecDepth 100000 in
set_option maxHeartbeats 4000000 in
theorem rof_yes (v : Value) (hk : knownB k = true) (hl : L.length ≤ 4096) (ho : o.s.size ≤ maxLen) (hsz : ∀ x ∈ L, x.s.size ≤ maxLen) (hv : Row w w.heap.size 3 v L.length (flat L)) :
    Calls Try.prog 16 #[.int .i64 k, v, .agg #[.int .i64 o.q, .int .i64 o.n, .string o.s]] w (Ret (.tuple #[V3.v (ofV k L o), .int .i64 (ofE k L o)]) w) := by
  have HKN := hide (rkind_any k)
  rw [hk] at HKN
  have HBAD := hide (@of_bad k L o hk hl)
  have HOK := hide (@of_ok k L o hk hl)
  have HFG := hide (fun (j : Nat) (h : Right k (L.take j)) => fld_good hk (L.take j) h (by rw [List.length_take]; omega))
  have HV := hide hv
  obtain ⟨A, cap, rfl⟩ := hv.form
  obtain ⟨m, hm⟩ : ∃ m, L.length = m := ⟨_, rfl⟩
  rw [hm] at hv hl HV ⊢
  have HM := hide hm
  have HSZ := hide hsz
  have HO := hide ho
  have t1 : decide ((4096 : Int) < (m : Int)) = false := decide_eq_false (by omega)
  clear hm hk hsz ho hv
  obtain ⟨oq, on, os⟩ := o
  go_enter Try.func16, Try.ntmps16
  go_wp2_with fail
  refine (HKN.out _).mono ?_
  rintro e w1 ⟨rfl, rfl⟩
  go_wp2_with fail
  go_loopw [9] (fun i wr => ∃ j : Nat, j ≤ m ∧ i = .int .i64 j ∧ Hid (fE k (L.drop j) = fE k L) ∧ Hid (Right k (L.take j)) ∧ Hid (ROfInv ⟨oq, on, os⟩ (fld k (L.take j)) w wr)) (fun i _ => m - (intOf i).toNat)
  case atStart =>
    refine ⟨0, by omega, rfl, hide (by simp), hide (by simp [Right]), hide ⟨?_, ?_, ?_, ((below_laid _).alloc (by simp) _).alloc (by simp; omega) _⟩⟩
    · exact ((Box3.new w ⟨oq, on, os⟩ 23).keep (below_laid _)).keep (below_laid _)
    · have := (Box3.new (w.alloc (.cells #[.int .i64 oq, .int .i64 on, .string os] 23)) V3.z 23).keep (below_laid (.cells #[.int .i64 k, .int .i64 0, .int .i64 0, .int .i64 0, .string ⟨#[]⟩] 25))
      rw [World.size_alloc] at this
      exact this
    · have := Box5.new ((w.alloc (.cells #[.int .i64 oq, .int .i64 on, .string os] 23)).alloc (.cells #[.int .i64 0, .int .i64 0, .string ⟨#[]⟩] 23)) (beg k) 25
      simp only [World.size_alloc] at this
      exact this
  case round =>
    obtain ⟨j, hj, rfl, HF, HR, HI⟩ := hrel
    obtain ⟨hgd, hak, hac⟩ := HFG.out j HR.out
    rw [List.length_take] at hac
    by_cases hlt : j < m
    · have hjl : j < L.length := by rw [HM.out]; exact hlt
      obtain ⟨g, off, cap', e', hg, -, hcell⟩ := HV.out.at_ (by omega)
      cases e'
      obtain ⟨f1, f2, f3⟩ := flat_at L j hjl
      have hB := HI.out.2.2.2
      have e0 := (hB.cell (p := ⟨g, off + j * 3, none⟩) hg).trans (hcell _ _ f1)
      have e1 := (hB.cell (p := ⟨g, off + j * 3 + 1, none⟩) hg).trans (hcell _ _ f2)
      have e2 := (hB.cell (p := ⟨g, off + j * 3 + 2, none⟩) hg).trans (hcell _ _ f3)
      have hxs := HSZ.out L[j] (List.getElem_mem hjl)
      have HAE := hide (ad_eq (x := L[j]) hgd hak (by omega))
      have HAV : Hid (wrE k L[j].q L[j].n L[j].s.size = 0 → ad (fld k (L.take j)) L[j] = fld k (L.take (j + 1))) := hide (fun h => by
        rw [fld_take k L hjl]
        unfold ad
        rw [HAE.out, if_pos h, hak])
      have hsa := good_len hgd
      have HND : Hid (wrE k L[j].q L[j].n L[j].s.size = 0 → fE k (L.drop (j + 1)) = fE k L) := hide (fun h => (fE_drop hjl h).symm.trans HF.out)
      have HNR : Hid (wrE k L[j].q L[j].n L[j].s.size = 0 → Right k (L.take (j + 1))) := hide (fun h => right_take hjl HR.out h)
      have HNE : Hid (¬ wrE k L[j].q L[j].n L[j].s.size = 0 → ofE k L ⟨oq, on, os⟩ = wrE k L[j].q L[j].n L[j].s.size ∧ ofV k L ⟨oq, on, os⟩ = V3.z) := hide (fun h => by
        have hE := fE_hit hjl h
        rw [HF.out] at hE
        have := HBAD.out (by rw [hE]; exact h)
        rw [hE] at this
        exact this)
      obtain ⟨x, hxe⟩ : ∃ x, L[j] = x := ⟨_, rfl⟩
      obtain ⟨a, hae⟩ : ∃ a, fld k (L.take j) = a := ⟨_, rfl⟩
      rw [hxe] at e0 e1 e2 hxs HAE HAV HND HNR HNE
      rw [hae] at HAE HAV hsa HI hak
      clear hxe f1 f2 f3 hB hcell hae hac hgd HF HR
      obtain ⟨p, mm, t⟩ := x
      obtain ⟨k', c, q, n, s⟩ := a
      simp only at e0 e1 e2 hxs hsa HAE HAV HND HNR HNE hak
      have hu0 : (0 : Int) ≤ (j : Int) := by omega
      have hu1 : (j : Int) < (m : Int) := by omega
      have HAD := hide (fun w => radd_any w ⟨k', c, q, n, s⟩ ⟨p, mm, t⟩ (by show s.size ≤ maxLen; unfold maxLen; omega) hxs)
      rw [HAE.out] at HAD
      generalize wrE k p mm t.size = er at *
      generalize ad ⟨k', c, q, n, s⟩ ⟨p, mm, t⟩ = av at *
      clear hxs hsa hak
      obtain ⟨⟨-, -⟩, -, ⟨⟨a0, a1, a2, a3, a4⟩, -⟩, -⟩ := HI.out
      have hlA := World.block_lt_of_cell? wr _ a0
      have hlA : w.heap.size + 1 + 1 < wr.heap.size := hlA
      have ne1 : wr.heap.size ≠ w.heap.size + 1 + 1 := by omega
      have ne2 : wr.heap.size ≠ g := by omega
      simp only at a0 a1 a2 a3 a4
      go_wp2_with fail
      go_region_held3 (fun w' => w'.cell? ⟨w.heap.size + 1 + 1, 0, none⟩ = some (.int .i64 k') ∧ w'.cell? ⟨w.heap.size + 1 + 1, 1, none⟩ = some (.int .i64 c) ∧ w'.cell? ⟨w.heap.size + 1 + 1, 2, none⟩ = some (.int .i64 q) ∧ w'.cell? ⟨w.heap.size + 1 + 1, 3, none⟩ = some (.int .i64 n) ∧ w'.cell? ⟨w.heap.size + 1 + 1, 4, none⟩ = some (.string s) ∧
          w'.cell? ⟨g, off + j * 3, none⟩ = some (.int .i64 p) ∧ w'.cell? ⟨g, off + j * 3 + 1, none⟩ = some (.int .i64 mm) ∧ w'.cell? ⟨g, off + j * 3 + 2, none⟩ = some (.string t))
        (first
          | with_reducible exact ⟨keep1 hb a0, keep1 hb a1, keep1 hb a2, keep1 hb a3, keep1 hb a4, keep1 hb e0, keep1 hb e1, keep1 hb e2⟩
          | with_reducible exact ⟨(set5_far (p := ⟨w.heap.size + 1 + 1, 0, none⟩) ne1).trans (keep1 hb a0), (set5_far (p := ⟨w.heap.size + 1 + 1, 1, none⟩) ne1).trans (keep1 hb a1), (set5_far (p := ⟨w.heap.size + 1 + 1, 2, none⟩) ne1).trans (keep1 hb a2), (set5_far (p := ⟨w.heap.size + 1 + 1, 3, none⟩) ne1).trans (keep1 hb a3), (set5_far (p := ⟨w.heap.size + 1 + 1, 4, none⟩) ne1).trans (keep1 hb a4), (set5_far (p := ⟨g, off + j * 3, none⟩) ne2).trans (keep1 hb e0), (set5_far (p := ⟨g, off + j * 3 + 1, none⟩) ne2).trans (keep1 hb e1), (set5_far (p := ⟨g, off + j * 3 + 2, none⟩) ne2).trans (keep1 hb e2)⟩
          | with_reducible exact ⟨keep1 (bthen hb (below_laid _)) a0, keep1 (bthen hb (below_laid _)) a1, keep1 (bthen hb (below_laid _)) a2, keep1 (bthen hb (below_laid _)) a3, keep1 (bthen hb (below_laid _)) a4, keep1 (bthen hb (below_laid _)) e0, keep1 (bthen hb (below_laid _)) e1, keep1 (bthen hb (below_laid _)) e2⟩
          | (go_keep; done))
        (first
          | (go_at_call 25; refine (HAD.out _).mono ?_; rintro e w3 ⟨rfl, hb'⟩; obtain ⟨k2, c2, q2, n2, s2⟩ := av; have hb0 : Below (wr.alloc (.cells #[.int .i64 0, .int .i64 0, .int .i64 0, .int .i64 0, .string ⟨#[]⟩] 25)).heap.size (wr.alloc (.cells #[.int .i64 0, .int .i64 0, .int .i64 0, .int .i64 0, .string ⟨#[]⟩] 25)) w3 := below_undrew hb'; have hb : Below wr.heap.size wr w3 := bel1 hb0; have hx := (Box5.new wr ⟨0, 0, 0, 0, ⟨#[]⟩⟩ 25).keep hb0; obtain ⟨⟨y0, y1, y2, y3, y4⟩, z0, z1, z2, z3, z4⟩ := hx; simp only at y0 y1 y2 y3 y4)
          | (go_at_call 25; refine (HAD.out _).mono ?_; rintro e w3 ⟨rfl, hb'⟩; obtain ⟨k2, c2, q2, n2, s2⟩ := av; have hb : Below wr.heap.size wr w3 := below_undrew hb'))
      · have HI3 := HI.out.keep hb
        have hF5 : Box5 (w3.alloc (.cells #[.int .i64 k2, .int .i64 c2, .int .i64 q2, .int .i64 n2, .string s2] 25)) w3.heap.size ⟨k2, c2, q2, n2, s2⟩ := Box5.new w3 ⟨k2, c2, q2, n2, s2⟩ _
        have HI5 : ROfInv ⟨oq, on, os⟩ ⟨k', c, q, n, s⟩ w (w3.alloc (.cells #[.int .i64 k2, .int .i64 c2, .int .i64 q2, .int .i64 n2, .string s2] 25)) := HI3.keep (below_laid _)
        obtain ⟨w5, hw5⟩ : ∃ w5, (w3.alloc (.cells #[.int .i64 k2, .int .i64 c2, .int .i64 q2, .int .i64 n2, .string s2] 25)) = w5 := ⟨_, rfl⟩
        rw [hw5] at hF5 HI5
        have HI5 := hide HI5
        obtain ⟨⟨b0, b1, b2, b3, b4⟩, -⟩ := hF5
        obtain ⟨-, ⟨⟨r0, r1, r2⟩, g0, g1, g2⟩, ⟨⟨x0, x1, x2, x3, x4⟩, f0, f1, f2, f3, f4⟩, -⟩ := HI5.out
        simp only [V3.z] at b0 b1 b2 b3 b4 r0 r1 r2 x0 x1 x2 x3 x4
        clear hb HI3 a0 a1 a2 a3 a4 e0 e1 e2
        by_cases her : er = 0
        · subst her
          have HV4 := hide (HAV.out rfl)
          have HN1 := hide (HND.out rfl)
          have HN2 := hide (HNR.out rfl)
          go_wp2
          go_roundw
          case rel => exact ⟨j + 1, by omega, by go_num, HN1.out, HN2.out, hide ⟨HI5.out.1.far (by omega) _ _ _ _ _, HI5.out.2.1.far (by omega) _ _ _ _ _, by rw [← HV4.out]; exact HI5.out.2.2.1.set ⟨k2, c2, q2, n2, s2⟩, below_set5 HI5.out.2.2.2 (by omega) _ _ _ _ _⟩⟩
          case measure => simp [intOf]; omega
        · have HE := hide (HNE.out her)
          have t2 : (er != 0) = true := by rw [bne_iff_ne]; exact her
          clear her
          go_wp2
          refine bodyPost_ret (v := .tuple #[V3.v V3.z, .int .i64 er]) (by simp only [V3.z]; rw [results_cell_tmp rfl]; go_simp) rfl ?_
          exact of_mk HE.out (below_set3' HI5.out.2.2.2 (by omega) _ _ _)
      · have HI3 := HI.out.keep hb
        have hF5 : Box5 (((((w3.setCell ⟨wr.heap.size, 0, none⟩ (.int .i64 k2)).setCell ⟨wr.heap.size, 1, none⟩ (.int .i64 c2)).setCell ⟨wr.heap.size, 2, none⟩ (.int .i64 q2)).setCell ⟨wr.heap.size, 3, none⟩ (.int .i64 n2)).setCell ⟨wr.heap.size, 4, none⟩ (.string s2)) wr.heap.size ⟨k2, c2, q2, n2, s2⟩ := ((Box5.new wr ⟨0, 0, 0, 0, ⟨#[]⟩⟩ 25).keep hb0).set ⟨k2, c2, q2, n2, s2⟩
        have HI5 : ROfInv ⟨oq, on, os⟩ ⟨k', c, q, n, s⟩ w (((((w3.setCell ⟨wr.heap.size, 0, none⟩ (.int .i64 k2)).setCell ⟨wr.heap.size, 1, none⟩ (.int .i64 c2)).setCell ⟨wr.heap.size, 2, none⟩ (.int .i64 q2)).setCell ⟨wr.heap.size, 3, none⟩ (.int .i64 n2)).setCell ⟨wr.heap.size, 4, none⟩ (.string s2)) := ⟨HI3.1.far (by omega) _ _ _ _ _, HI3.2.1.far (by omega) _ _ _ _ _, HI3.2.2.1.far (by omega) _ _ _ _ _, below_set5 HI3.2.2.2 (by omega) _ _ _ _ _⟩
        obtain ⟨w5, hw5⟩ : ∃ w5, (((((w3.setCell ⟨wr.heap.size, 0, none⟩ (.int .i64 k2)).setCell ⟨wr.heap.size, 1, none⟩ (.int .i64 c2)).setCell ⟨wr.heap.size, 2, none⟩ (.int .i64 q2)).setCell ⟨wr.heap.size, 3, none⟩ (.int .i64 n2)).setCell ⟨wr.heap.size, 4, none⟩ (.string s2)) = w5 := ⟨_, rfl⟩
        rw [hw5] at hF5 HI5
        have HI5 := hide HI5
        obtain ⟨⟨b0, b1, b2, b3, b4⟩, -⟩ := hF5
        obtain ⟨-, ⟨⟨r0, r1, r2⟩, g0, g1, g2⟩, ⟨⟨x0, x1, x2, x3, x4⟩, f0, f1, f2, f3, f4⟩, -⟩ := HI5.out
        simp only [V3.z] at b0 b1 b2 b3 b4 r0 r1 r2 x0 x1 x2 x3 x4
        clear hb HI3 a0 a1 a2 a3 a4 e0 e1 e2
        by_cases her : er = 0
        · subst her
          have HV4 := hide (HAV.out rfl)
          have HN1 := hide (HND.out rfl)
          have HN2 := hide (HNR.out rfl)
          go_wp2
          go_roundw
          case rel => exact ⟨j + 1, by omega, by go_num, HN1.out, HN2.out, hide ⟨HI5.out.1.far (by omega) _ _ _ _ _, HI5.out.2.1.far (by omega) _ _ _ _ _, by rw [← HV4.out]; exact HI5.out.2.2.1.set ⟨k2, c2, q2, n2, s2⟩, below_set5 HI5.out.2.2.2 (by omega) _ _ _ _ _⟩⟩
          case measure => simp [intOf]; omega
        · have HE := hide (HNE.out her)
          have t2 : (er != 0) = true := by rw [bne_iff_ne]; exact her
          clear her
          go_wp2
          refine bodyPost_ret (v := .tuple #[V3.v V3.z, .int .i64 er]) (by simp only [V3.z]; rw [results_cell_tmp rfl]; go_simp) rfl ?_
          exact of_mk HE.out (below_set3' HI5.out.2.2.2 (by omega) _ _ _)
    · obtain rfl : j = m := by omega
      have hE := HF.out
      rw [fE_end (by rw [HM.out]; exact Nat.le_refl _)] at hE
      have HE := hide (HOK.out hE.symm)
      have hgl := good_len hgd
      have htk : L.take j = L := List.take_of_length_le (by rw [HM.out]; exact Nat.le_refl _)
      rw [htk] at HI hgl
      clear hE htk hgd hak hac
      obtain ⟨fa, hfa⟩ : ∃ fa, fld k L = fa := ⟨_, rfl⟩
      rw [hfa] at HI HE hgl
      clear hfa
      obtain ⟨fk, fc, fq, fn, fs⟩ := fa
      obtain ⟨⟨⟨q0, q1, q2⟩, -⟩, -, ⟨⟨a0, a1, a2, a3, a4⟩, -⟩, -⟩ := HI.out
      simp only at q0 q1 q2 a0 a1 a2 a3 a4 hgl
      have HRS := hide (fun w => rresult_any w ⟨fk, fc, fq, fn, fs⟩ ⟨oq, on, os⟩ (by show fs.size ≤ maxLen; unfold maxLen; omega) HO.out)
      generalize rsE ⟨fk, fc, fq, fn, fs⟩ ⟨oq, on, os⟩ = re at *
      generalize rs ⟨fk, fc, fq, fn, fs⟩ ⟨oq, on, os⟩ = rv at *
      go_wp2_with fail
      refine (HRS.out _).mono ?_
      rintro e w4 ⟨rfl, hb⟩
      obtain ⟨rq, rn, rss⟩ := rv
      obtain ⟨-, ⟨⟨r0, r1, r2⟩, g0, g1, g2⟩, -, hB3⟩ := HI.out.keep hb
      simp only [V3.z] at r0 r1 r2
      have HB3 := hide hB3
      clear hb q0 q1 q2 hB3 a0 a1 a2 a3 a4
      go_wp2
      refine bodyPost_ret (v := .tuple #[V3.v ⟨rq, rn, rss⟩, .int .i64 re]) (by rw [results_cell_tmp rfl]; go_simp) rfl ?_
      exact of_mk HE.out (below_set3' HB3.out (by omega) _ _ _)
end
end Go.Proofs.Ytgppohelgmadoaa
