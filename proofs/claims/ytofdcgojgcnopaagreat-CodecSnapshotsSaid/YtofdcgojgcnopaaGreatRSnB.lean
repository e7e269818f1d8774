/- Trackers; what a snapshot's parts are for the reference's writers; integers. The reference's tracker. The reference's snapshot. Encode of the reference. -/
import Derived.Test.YtofdcgojgcnopaaGreatRStA
import Derived.Test.YtofdcgojgcnopaaGreatWBase2
import Derived.Test.YtofdcgojgcnopaaGreatTrk0
import Derived.Test.YtofdcgojgcnopaaGreatRVE
namespace Go.Proofs.YtofdcgojgcnopaaGreat
open Go.RowKit Go.Lib
set_option linter.unusedVariables false
set_option linter.unusedSimpArgs false
def eTrk (x : Trk) : Ex Bs := andE (eN x.next) (andE (eL eN x.beyond) (andE (eL ePnt x.points) (eN x.mark)))
def wtTr (x : Trk) : Nat := 10 + ((10 + wtS wtI x.beyond) + ((10 + wtS wtPn x.points) + 10))
theorem eTr_one (x : Trk) : eTrk x = andE (.ok ([x.next].flatMap num)) (andE (eL eN x.beyond) (andE (eL ePnt x.points) (.ok ([x.mark].flatMap num)))) := by rw [num_one, num_one]; rfl
theorem eRd_two (x : Rdr) : eRdr x = andE (.ok ([x.src, x.off].flatMap num)) (eTrk x.trk) := by
  simp only [List.flatMap_cons, List.flatMap_nil, andE_raw, andE_empty]; rfl
theorem eKy_one (x : Kyd) : eKyd x = andE (.ok ([x.query].flatMap num)) (andE (eV x.key) (eEng x.eng)) := by rw [num_one]; rfl
theorem eI_one (x : Int) : eN x = .ok ([x].flatMap num) := by rw [num_one]; rfl
theorem eSn_one (x : Snp) : eSnp x = andE (.ok ([x.number].flatMap num)) (andE (eL eRdr x.rs) (eL eOpr x.os)) := by rw [num_one]; rfl
section
variable (F : Nat) (o : Bs) (e : Int) (w : World)
set_option maxRecDepth 100000 in
set_option maxHeartbeats 8000000 in
theorem rints_any (v : Value) (l : List Int) (h : Rw w F o e) (hv : Lst w (· < F) 1 RIn v l) (ho : o.length + (10 + wtS wtI l) ≤ 1000000000) :
    Calls Tryz.prog 44 #[.pointer (some ⟨F, 0, none⟩), v] w (Rws F (eL eN l) (10 + wtS wtI l) o e w) := by
  obtain ⟨A, cp, rfl⟩ := hv.form
  have HV := hide hv
  have HIN : Hid (inI (l.length : Int)) := hide (by have := hv.len; unfold maxLen at this; unfold inI; omega)
  have hlen : l.length ≤ 9223372036854775807 := by have := hv.len; unfold maxLen at this; exact this
  have HO := hide ho
  have HCL := hide (rlength_any F o e w l.length hlen h (by omega))
  clear hv h ho
  go_enter Tryz.func44, Tryz.ntmps44
  go_wp2_with fail
  refine HCL.out.mono ?_
  rintro en w1 ⟨rfl, hr, ht⟩
  have HP : Hid (RL F eN wtI l o e w 0 w1) := hide (RL.start rfl HIN.out hr ht)
  clear hr ht HCL
  go_wp2_with fail
  go_loopw [4] (fun i wr => ∃ j : Nat, j ≤ l.length ∧ i = .int .i64 j ∧ Hid (RL F eN wtI l o e w j wr)) (fun i _ => l.length - (intOf i).toNat)
  case atStart => exact ⟨0, Nat.zero_le _, rfl, HP⟩
  case round =>
    clear HP
    obtain ⟨j, hj, rfl, HP⟩ := hrel
    obtain ⟨p, f, hr, ht, hdd⟩ := HP.out
    have HR := hide hr
    have HTL := hide ht
    have HDD := hide hdd
    have c1 := hr.c1
    clear hr ht hdd HP
    by_cases hlt : j < l.length
    · by_cases he : f = 0
      · subst he
        obtain ⟨hl, hd⟩ : ¬ 4096 < l.length ∧ Wd (andE (eN l.length) (eMany eN (l.take j))) (10 + wtS wtI (l.take j)) o e p 0 := by
          rcases HDD.out with ⟨h, -⟩ | ⟨-, h⟩
          · exact absurd rfl h
          · exact h
        have HD := hide hd
        obtain ⟨g, off, xs, e2, hg, hxl, hc, hR⟩ := (HV.out.keep rd_In HTL.out.kpl).at_ hlt
        cases e2
        have HNX := hide (fun (w' : World) (o'' : Bs) (e'' : Int) h1 h2 h3 => RL.next (F := F) (w := w) (w' := w') (o'' := o'') (e'' := e'') hlt hl HD.out h1 h2 h3)
        have HLN0 := hide (wtS_get (wt := wtI) hlt (N := 1000000000 - o.length) (n := p.length - o.length) (by have := HD.out.2.2; omega) (by have := HO.out; omega))
        obtain ⟨y, hy⟩ : ∃ y, l[j] = y := ⟨_, rfl⟩
        rw [hy] at hR HNX HLN0
        clear hy hl hd
        obtain ⟨rfl, g1⟩ := hR
        have k0 := hc 0 _ rfl
        rw [Nat.add_zero, Nat.mul_one] at k0
        have hgl := World.block_lt_of_cell? wr _ k0
        simp only at hgl
        have hu0 : (0 : Int) ≤ (j : Int) := by omega
        have hu1 : (j : Int) < (l.length : Int) := by omega
        have HLN : Hid (p.length + wtI y ≤ 1000000000) := hide (by have := HLN0.out; have := HO.out; omega)
        clear hc hxl HLN0
        have HG : Hid (∀ z ∈ ([y] : List Int), inI z) := hide (by intro z hz; simp at hz; subst hz; exact g1)
        have HRL := hide (raw_len HG.out)
        have HI := hide (Rx.new HR.out (ints [y]) 3)
        have HR2 := hide (HR.out.laid (.cells (ints [y]).toArray 3))
        have HTX := hide (HTL.out.trans (Rt.laid HR.out (.cells (ints [y]).toArray 3)))
        have HCL := hide (rnumber_any F p 0 _ [y] wr.heap.size 1 HG.out HI.out HR2.out (by simp) (by have := HLN.out; unfold wtI at this; simp only [List.length_cons, List.length_nil]; omega))
        go_wp2_with fail
        refine HCL.out.mono ?_
        rintro en w8 ⟨rfl, hr, ht⟩
        clear HCL HI k0 c1
        have HN2 := hide (HNX.out w8 _ _ (by rw [eI_one]; exact Wd.raw (by have := HRL.out; unfold wtI; simpa using this) _ 0) hr (HTX.out.trans ht))
        clear hr ht
        go_wp2
        go_roundw
        case rel => exact ⟨j + 1, by omega, by go_num, HN2⟩
        case measure => simp [intOf]; omega
      · have te : (f == 0) = false := beq_eq_false_iff_ne.2 he
        go_wp2
        go_end0
        exact ⟨rfl, _, _, rl_stop2 he HDD.out, HR.out, HTL.out⟩
    · obtain rfl : j = l.length := by omega
      go_wp2
      go_end0
      exact ⟨rfl, _, _, rl_done (Nat.le_refl _) HDD.out, HR.out, HTL.out⟩
end
end Go.Proofs.YtofdcgojgcnopaaGreat

namespace Go.Proofs.YtofdcgojgcnopaaGreat
open Go.RowKit Go.Lib
set_option linter.unusedVariables false
set_option linter.unusedSimpArgs false
section
variable (F : Nat) (o : Bs) (e : Int) (w : World)
set_option maxRecDepth 100000 in
set_option maxHeartbeats 16000000 in
theorem rtr_any (x : Trk) (xs : List Value) (hx : RTr w (· < F) xs x) (h : Rw w F o e) (ho : o.length + wtTr x ≤ 1000000000) :
    Calls Tryz.prog 43 #[.pointer (some ⟨F, 0, none⟩), .agg xs.toArray] w (Rws F (eTrk x) (wtTr x) o e w) := by
  obtain ⟨u, v, rfl, hla, hlb, g1, g2⟩ := hx
  obtain ⟨A1, cp1, rfl⟩ := hla.form
  obtain ⟨A2, cp2, rfl⟩ := hlb.form
  unfold wtTr at ho
  have HO := hide ho
  have HB := hide (Rx.new h [.int .i64 x.next, .slice A1 x.beyond.length cp1, .slice A2 x.points.length cp2, .int .i64 x.mark] 42)
  have HT := hide (Rt.laid h (.cells #[.int .i64 x.next, .slice A1 x.beyond.length cp1, .slice A2 x.points.length cp2, .int .i64 x.mark] 42))
  have HR := hide (h.laid (.cells #[.int .i64 x.next, .slice A1 x.beyond.length cp1, .slice A2 x.points.length cp2, .int .i64 x.mark] 42))
  have HHLA := hide hla
  have HHLB := hide hlb
  clear h ho hla hlb
  go_enter Tryz.func43, Tryz.ntmps43
  obtain ⟨-, hx⟩ := HB.out
  have b0 := hx 0 _ rfl
  clear hx
  have HG : Hid (∀ y ∈ ([x.next] : List Int), inI y) := hide (by intro y hy; simp at hy; subst hy; assumption)
  have HLN := hide (raw_len HG.out)
  have hI := Rx.new HR.out (ints [x.next]) 3
  rw [World.size_alloc] at hI
  have HI := hide hI
  clear hI
  have HR0 := hide (HR.out.laid (.cells (ints [x.next]).toArray 3))
  replace HT := hide (HT.out.trans (Rt.laid HR.out (.cells (ints [x.next]).toArray 3)))
  replace HB := hide (HB.out.keep (Rt.laid HR.out (.cells (ints [x.next]).toArray 3)))
  have HCL := hide (rnumber_any F o e _ [x.next] _ 1 HG.out HI.out HR0.out (by simp) (by simp only [List.length_cons, List.length_nil]; have := HO.out; first | omega | (simp only [List.length_cons, List.length_nil] at *; omega)))
  go_wp2_with fail
  refine HCL.out.mono ?_
  rintro en w1 ⟨rfl, hr, ht⟩
  have HD1 := hide (Wd.raw HLN.out o e)
  replace HR := hide hr
  replace HB := hide (HB.out.keep ht)
  replace HT := hide (HT.out.trans ht)
  clear hr ht HCL HI HR0 HG HLN b0
  obtain ⟨-, hx⟩ := HB.out
  have b1 := hx 1 _ rfl
  clear hx
  have HCL := hide (rints_any F (o ++ ([x.next] : List Int).flatMap num) e _ _ _ HR.out (HHLA.out.keep rd_In HT.out.kpl) (by have := HD1.out.2.2; have := HO.out; first | omega | (simp only [List.length_cons, List.length_nil] at *; omega)))
  go_wp2_with fail
  refine HCL.out.mono ?_
  rintro en w2 ⟨rfl, o2, e2, hd, hr, ht⟩
  have HD2 := hide hd
  clear hd
  replace HR := hide hr
  replace HB := hide (HB.out.keep ht)
  replace HT := hide (HT.out.trans ht)
  clear hr ht HCL b1
  obtain ⟨-, hx⟩ := HB.out
  have b2 := hx 2 _ rfl
  clear hx
  have HIN : Hid (inI (x.points.length : Int)) := hide (by have := HHLB.out.len; unfold maxLen at this; unfold inI; omega)
  have HLEN : Hid (x.points.length ≤ 9223372036854775807) := hide (by have := HHLB.out.len; unfold maxLen at this; exact this)
  have hlen := HLEN.out
  have HCL := hide (rlength_any F o2 e2 w2 x.points.length hlen HR.out (by have := HD1.out.2.2; have := HD2.out.2.2; have := HO.out; first | omega | (simp only [List.length_cons, List.length_nil] at *; omega)))
  go_wp2_with fail
  refine HCL.out.mono ?_
  rintro en w3 ⟨rfl, hr, ht⟩
  have HP : Hid (RL F ePnt wtPn x.points o2 e2 w2 0 w3) := hide (RL.start rfl HIN.out hr ht)
  have HB0 := HB
  have HT0 := HT
  clear hr ht HCL HR b2 HB HT
  go_wp2_with fail
  go_loopw [4] (fun i wr => ∃ j : Nat, j ≤ x.points.length ∧ i = .int .i64 j ∧ Hid (RL F ePnt wtPn x.points o2 e2 w2 j wr)) (fun i _ => x.points.length - (intOf i).toNat)
  case atStart => exact ⟨0, Nat.zero_le _, rfl, HP⟩
  case round =>
    clear HP
    obtain ⟨j, hj, rfl, HP⟩ := hrel
    obtain ⟨p3, f3, hr, ht, hdd⟩ := HP.out
    have HR := hide hr
    have HTL := hide ht
    have HB := hide (HB0.out.keep ht)
    have HT := hide (HT0.out.trans ht)
    have HDD := hide hdd
    have c1 := hr.c1
    have b2 := HB.out.2 2 _ rfl
    clear hr ht hdd HP
    by_cases hlt : j < x.points.length
    · by_cases he : f3 = 0
      · subst he
        obtain ⟨hl, hd⟩ : ¬ 4096 < x.points.length ∧ Wd (andE (eN x.points.length) (eMany ePnt (x.points.take j))) (10 + wtS wtPn (x.points.take j)) o2 e2 p3 0 := by
          rcases HDD.out with ⟨h, -⟩ | ⟨-, h⟩
          · exact absurd rfl h
          · exact h
        have HD := hide hd
        obtain ⟨g, off, xs, e2, hg, hxl, hc, hR⟩ := (HHLB.out.keep rd_Pn HT.out.kpl).at_ hlt
        cases e2
        have HNX := hide (fun (w' : World) (o'' : Bs) (e'' : Int) h1 h2 h3 => RL.next (F := F) (w := w2) (w' := w') (o'' := o'') (e'' := e'') hlt hl HD.out h1 h2 h3)
        have HLN0 := hide (wtS_get (wt := wtPn) hlt (N := 1000000000 - o2.length) (n := p3.length - o2.length) (by have := HD.out.2.2; omega) (by have := HD1.out.2.2; have := HD2.out.2.2; have := HO.out; first | omega | (simp only [List.length_cons, List.length_nil] at *; omega)))
        obtain ⟨y, hy⟩ : ∃ y, x.points[j] = y := ⟨_, rfl⟩
        rw [hy] at hR HNX HLN0
        clear hy hl hd
        obtain ⟨rfl, g1, g2⟩ := hR
        have k0 := hc 0 _ rfl
        have k1 := hc 1 _ rfl
        simp only [Nat.add_zero] at k0 k1
        have hgl := World.block_lt_of_cell? wr _ k0
        simp only at hgl
        have hu0 : (0 : Int) ≤ (j : Int) := by omega
        have hu1 : (j : Int) < (x.points.length : Int) := by omega
        have hbz : w.heap.size < wr.heap.size := World.block_lt_of_cell? wr _ b2
        have HLN : Hid (p3.length + wtPn y ≤ 1000000000) := hide (by have := HLN0.out; have := HD1.out.2.2; have := HD2.out.2.2; have := HO.out; first | omega | (simp only [List.length_cons, List.length_nil] at *; omega))
        clear hc hxl HLN0
        have HG : Hid (∀ z ∈ ([y.s, y.t] : List Int), inI z) := hide (by intro z hz; simp at hz; rcases hz with rfl | rfl <;> assumption)
        have HRL := hide (raw_len HG.out)
        have HEN : Hid (ePnt y = .ok (([y.s, y.t] : List Int).flatMap num)) := hide (ePnt_raw y)
        have hgF : g ≠ F := by have : g < F := hg; omega
        have HR1 := hide HR.out.drewR
        have HI := hide (Rx.new HR1.out (ints [y.s, y.t]) 3)
        have HR2 := hide (HR1.out.laid (.cells (ints [y.s, y.t]).toArray 3))
        have HTX := hide (HTL.out.trans (Rt.laid HR1.out (.cells (ints [y.s, y.t]).toArray 3)).undrew)
        have HCL := hide (rnumber_any F p3 0 _ [y.s, y.t] wr.heap.size 2 HG.out HI.out HR2.out (by simp) (by have := HLN.out; unfold wtPn at this; simp only [List.length_cons, List.length_nil]; omega))
        go_wp2_with fail
        go_region_held3 (fun w' => w'.cell? ⟨w.heap.size, 2, none⟩ = some (.slice (some ⟨g, off, none⟩) x.points.length cp2) ∧ w'.cell? ⟨g, off + j * 2, none⟩ = some (.int .i64 y.s) ∧ w'.cell? ⟨g, off + j * 2 + 1, none⟩ = some (.int .i64 y.t))
          (first | (go_keep; done))
          (first | (go_at_call 41; refine HCL.out.mono ?_; rintro en w8 ⟨rfl, hr, ht⟩; have htx := (Rt.laid HR1.out (.cells (ints [y.s, y.t]).toArray 3)).undrew.trans ht; have mb := htx.kp.cell (p := ⟨w.heap.size, 2, none⟩) HB.out.1 b2; have m0 := htx.kp.cell (p := ⟨g, _, none⟩) hgF k0; have m1 := htx.kp.cell (p := ⟨g, _, none⟩) hgF k1))
        have HN2 := hide (HNX.out w8 _ _ (by rw [HEN.out]; exact Wd.raw (by have := HRL.out; unfold wtPn; simpa using this) _ 0) hr (HTX.out.trans ht))
        clear hr ht
        go_wp2
        go_roundw
        case rel => exact ⟨j + 1, by omega, by go_num, HN2⟩
        case measure => simp [intOf]; omega
      · have te : (f3 == 0) = false := beq_eq_false_iff_ne.2 he
        have HD3 := hide (rl_stop2 he HDD.out)
        clear HDD HTL HB0 HT0
        obtain ⟨w3, rfl⟩ : ∃ z : World, z = wr := ⟨_, rfl⟩
        obtain ⟨-, hx⟩ := HB.out
        have b3 := hx 3 _ rfl
        clear hx
        have HG : Hid (∀ y ∈ ([x.mark] : List Int), inI y) := hide (by intro y hy; simp at hy; subst hy; assumption)
        have HLN := hide (raw_len HG.out)
        have hI := Rx.new HR.out (ints [x.mark]) 3
        have HI := hide hI
        clear hI
        have HR0 := hide (HR.out.laid (.cells (ints [x.mark]).toArray 3))
        replace HT := hide (HT.out.trans (Rt.laid HR.out (.cells (ints [x.mark]).toArray 3)))
        replace HB := hide (HB.out.keep (Rt.laid HR.out (.cells (ints [x.mark]).toArray 3)))
        have HCL := hide (rnumber_any F p3 f3 _ [x.mark] _ 1 HG.out HI.out HR0.out (by simp) (by simp only [List.length_cons, List.length_nil]; have := HD1.out.2.2; have := HD2.out.2.2; have := HD3.out.2.2; have := HO.out; first | omega | (simp only [List.length_cons, List.length_nil] at *; omega)))
        go_wp2_with fail
        refine HCL.out.mono ?_
        rintro en w4 ⟨rfl, hr, ht⟩
        have HD4 := hide (Wd.raw HLN.out p3 f3)
        replace HR := hide hr
        replace HB := hide (HB.out.keep ht)
        replace HT := hide (HT.out.trans ht)
        clear hr ht HCL HI HR0 HG HLN b3
        go_wp2
        go_end0
        refine ⟨rfl, _, _, ?_, HR.out, HT.out⟩
        rw [eTr_one]
        exact Wd.more (HD1.out.and (HD2.out.and (HD3.out.and HD4.out))) (by unfold wtTr; (try simp only [List.length_cons, List.length_nil]); omega)
    · obtain rfl : j = x.points.length := by omega
      have HD3 := hide (rl_done (Nat.le_refl _) HDD.out)
      clear HDD HTL HB0 HT0
      obtain ⟨w3, rfl⟩ : ∃ z : World, z = wr := ⟨_, rfl⟩
      obtain ⟨-, hx⟩ := HB.out
      have b3 := hx 3 _ rfl
      clear hx
      have HG : Hid (∀ y ∈ ([x.mark] : List Int), inI y) := hide (by intro y hy; simp at hy; subst hy; assumption)
      have HLN := hide (raw_len HG.out)
      have hI := Rx.new HR.out (ints [x.mark]) 3
      have HI := hide hI
      clear hI
      have HR0 := hide (HR.out.laid (.cells (ints [x.mark]).toArray 3))
      replace HT := hide (HT.out.trans (Rt.laid HR.out (.cells (ints [x.mark]).toArray 3)))
      replace HB := hide (HB.out.keep (Rt.laid HR.out (.cells (ints [x.mark]).toArray 3)))
      have HCL := hide (rnumber_any F p3 f3 _ [x.mark] _ 1 HG.out HI.out HR0.out (by simp) (by simp only [List.length_cons, List.length_nil]; have := HD1.out.2.2; have := HD2.out.2.2; have := HD3.out.2.2; have := HO.out; first | omega | (simp only [List.length_cons, List.length_nil] at *; omega)))
      go_wp2_with fail
      refine HCL.out.mono ?_
      rintro en w4 ⟨rfl, hr, ht⟩
      have HD4 := hide (Wd.raw HLN.out p3 f3)
      replace HR := hide hr
      replace HB := hide (HB.out.keep ht)
      replace HT := hide (HT.out.trans ht)
      clear hr ht HCL HI HR0 HG HLN b3
      go_wp2
      go_end0
      refine ⟨rfl, _, _, ?_, HR.out, HT.out⟩
      rw [eTr_one]
      exact Wd.more (HD1.out.and (HD2.out.and (HD3.out.and HD4.out))) (by unfold wtTr; (try simp only [List.length_cons, List.length_nil]); omega)
end
end Go.Proofs.YtofdcgojgcnopaaGreat

namespace Go.Proofs.YtofdcgojgcnopaaGreat
open Go.RowKit Go.Lib
set_option linter.unusedVariables false
set_option linter.unusedSimpArgs false
section
variable (F : Nat) (o : Bs) (e : Int) (w : World)
set_option maxRecDepth 100000 in
set_option maxHeartbeats 16000000 in
theorem rsn_any (x : Snp) (xs : List Value) (hx : RSnW w (· < F) xs x) (h : Rw w F o e) (ho : o.length + wtSn x ≤ 1000000000) :
    Calls Tryz.prog 19 #[.pointer (some ⟨F, 0, none⟩), .agg xs.toArray] w (Rws F (eSnp x) (wtSn x) o e w) := by
  obtain ⟨u, v, rfl, hla, hlb, g1⟩ := hx
  obtain ⟨A1, cp1, rfl⟩ := hla.form
  obtain ⟨A2, cp2, rfl⟩ := hlb.form
  unfold wtSn at ho
  have HO := hide ho
  have HB := hide (Rx.new h [.int .i64 x.number, .slice A1 x.rs.length cp1, .slice A2 x.os.length cp2] 25)
  have HT := hide (Rt.laid h (.cells #[.int .i64 x.number, .slice A1 x.rs.length cp1, .slice A2 x.os.length cp2] 25))
  have HR := hide (h.laid (.cells #[.int .i64 x.number, .slice A1 x.rs.length cp1, .slice A2 x.os.length cp2] 25))
  have HHLA := hide hla
  have HHLB := hide hlb
  clear h ho hla hlb
  go_enter Tryz.func19, Tryz.ntmps19
  obtain ⟨-, hx⟩ := HB.out
  have b0 := hx 0 _ rfl
  clear hx
  have HG : Hid (∀ y ∈ ([x.number] : List Int), inI y) := hide (by intro y hy; simp at hy; subst hy; assumption)
  have HLN := hide (raw_len HG.out)
  have hI := Rx.new HR.out (ints [x.number]) 3
  rw [World.size_alloc] at hI
  have HI := hide hI
  clear hI
  have HR0 := hide (HR.out.laid (.cells (ints [x.number]).toArray 3))
  replace HT := hide (HT.out.trans (Rt.laid HR.out (.cells (ints [x.number]).toArray 3)))
  replace HB := hide (HB.out.keep (Rt.laid HR.out (.cells (ints [x.number]).toArray 3)))
  have HCL := hide (rnumber_any F o e _ [x.number] _ 1 HG.out HI.out HR0.out (by simp) (by simp only [List.length_cons, List.length_nil]; have := HO.out; first | omega | (simp only [List.length_cons, List.length_nil] at *; omega)))
  go_wp2_with fail
  refine HCL.out.mono ?_
  rintro en w1 ⟨rfl, hr, ht⟩
  have HD1 := hide (Wd.raw HLN.out o e)
  replace HR := hide hr
  replace HB := hide (HB.out.keep ht)
  replace HT := hide (HT.out.trans ht)
  clear hr ht HCL HI HR0 HG HLN b0
  obtain ⟨-, hx⟩ := HB.out
  have b1 := hx 1 _ rfl
  clear hx
  have HIN : Hid (inI (x.rs.length : Int)) := hide (by have := HHLA.out.len; unfold maxLen at this; unfold inI; omega)
  have HLEN : Hid (x.rs.length ≤ 9223372036854775807) := hide (by have := HHLA.out.len; unfold maxLen at this; exact this)
  have hlen := HLEN.out
  have HCL := hide (rlength_any F (o ++ ([x.number] : List Int).flatMap num) e w1 x.rs.length hlen HR.out (by have := HD1.out.2.2; have := HO.out; first | omega | (simp only [List.length_cons, List.length_nil] at *; omega)))
  go_wp2_with fail
  refine HCL.out.mono ?_
  rintro en w2 ⟨rfl, hr, ht⟩
  have HP : Hid (RL F eRdr wtRd x.rs (o ++ ([x.number] : List Int).flatMap num) e w1 0 w2) := hide (RL.start rfl HIN.out hr ht)
  have HB0 := HB
  have HT0 := HT
  clear hr ht HCL HR b1 HB HT
  go_wp2_with fail
  go_loopw [4] (fun i wr => ∃ j : Nat, j ≤ x.rs.length ∧ i = .int .i64 j ∧ Hid (RL F eRdr wtRd x.rs (o ++ ([x.number] : List Int).flatMap num) e w1 j wr)) (fun i _ => x.rs.length - (intOf i).toNat)
  case atStart => exact ⟨0, Nat.zero_le _, rfl, HP⟩
  case round =>
    clear HP
    obtain ⟨j, hj, rfl, HP⟩ := hrel
    obtain ⟨p2, f2, hr, ht, hdd⟩ := HP.out
    have HR := hide hr
    have HTL := hide ht
    have HB := hide (HB0.out.keep ht)
    have HT := hide (HT0.out.trans ht)
    have HDD := hide hdd
    have c1 := hr.c1
    have b1 := HB.out.2 1 _ rfl
    clear hr ht hdd HP
    by_cases hlt : j < x.rs.length
    · by_cases he : f2 = 0
      · subst he
        obtain ⟨hl, hd⟩ : ¬ 4096 < x.rs.length ∧ Wd (andE (eN x.rs.length) (eMany eRdr (x.rs.take j))) (10 + wtS wtRd (x.rs.take j)) (o ++ ([x.number] : List Int).flatMap num) e p2 0 := by
          rcases HDD.out with ⟨h, -⟩ | ⟨-, h⟩
          · exact absurd rfl h
          · exact h
        have HD := hide hd
        obtain ⟨g, off, xs, e2, hg, hxl, hc, hR⟩ := (HHLA.out.keep rd_Rd HT.out.kpl).at_ hlt
        cases e2
        have HNX := hide (fun (w' : World) (o'' : Bs) (e'' : Int) h1 h2 h3 => RL.next (F := F) (w := w1) (w' := w') (o'' := o'') (e'' := e'') hlt hl HD.out h1 h2 h3)
        have HLN0 := hide (wtS_get (wt := wtRd) hlt (N := 1000000000 - (o ++ ([x.number] : List Int).flatMap num).length) (n := p2.length - (o ++ ([x.number] : List Int).flatMap num).length) (by have := HD.out.2.2; omega) (by have := HD1.out.2.2; have := HO.out; first | omega | (simp only [List.length_cons, List.length_nil] at *; omega)))
        obtain ⟨y, hy⟩ : ∃ y, x.rs[j] = y := ⟨_, rfl⟩
        rw [hy] at hR HNX HLN0
        clear hy hl hd
        obtain ⟨va, vb, rfl, hla9, hlb9, g1, g2, g3, g4⟩ := hR
        obtain ⟨A8, c8, rfl⟩ := hla9.form
        obtain ⟨A9, c9, rfl⟩ := hlb9.form
        have k0 := hc 0 _ rfl
        have k1 := hc 1 _ rfl
        have k2 := hc 2 _ rfl
        have k3 := hc 3 _ rfl
        have k4 := hc 4 _ rfl
        have k5 := hc 5 _ rfl
        simp only [Nat.add_zero] at k0 k1 k2 k3 k4 k5
        have hgl := World.block_lt_of_cell? wr _ k0
        simp only at hgl
        have hu0 : (0 : Int) ≤ (j : Int) := by omega
        have hu1 : (j : Int) < (x.rs.length : Int) := by omega
        have hbz : w.heap.size < wr.heap.size := World.block_lt_of_cell? wr _ b1
        have HLN : Hid (p2.length + wtRd y ≤ 1000000000) := hide (by have := HLN0.out; have := HD1.out.2.2; have := HO.out; first | omega | (simp only [List.length_cons, List.length_nil] at *; omega))
        clear hc hxl HLN0
        have HG : Hid (∀ z ∈ ([y.src, y.off] : List Int), inI z) := hide (by intro z hz; simp at hz; rcases hz with rfl | rfl <;> assumption)
        have HRL := hide (raw_len HG.out)
        have hgF : g ≠ F := by have : g < F := hg; omega
        have HR1 := hide HR.out.drewR
        have HI := hide (Rx.new HR1.out (ints [y.src, y.off]) 3)
        have HR2 := hide (HR1.out.laid (.cells (ints [y.src, y.off]).toArray 3))
        have HTX := hide (HTL.out.trans (Rt.laid HR1.out (.cells (ints [y.src, y.off]).toArray 3)).undrew)
        have HCL := hide (rnumber_any F p2 0 _ [y.src, y.off] wr.heap.size 2 HG.out HI.out HR2.out (by simp) (by have := HLN.out; unfold wtRd at this; simp only [List.length_cons, List.length_nil]; omega))
        have HSA := hide hla9
        have HSB := hide hlb9
        clear hla9 hlb9
        go_wp2_with fail
        go_region_held3 (fun w' => w'.cell? ⟨w.heap.size, 1, none⟩ = some (.slice (some ⟨g, off, none⟩) x.rs.length cp1) ∧ w'.cell? ⟨g, off + j * 6, none⟩ = some (.int .i64 y.src) ∧ w'.cell? ⟨g, off + j * 6 + 1, none⟩ = some (.int .i64 y.off) ∧ w'.cell? ⟨g, off + j * 6 + 2, none⟩ = some (.int .i64 y.next) ∧ w'.cell? ⟨g, off + j * 6 + 3, none⟩ = some (.slice A8 y.beyond.length c8) ∧ w'.cell? ⟨g, off + j * 6 + 4, none⟩ = some (.slice A9 y.points.length c9) ∧ w'.cell? ⟨g, off + j * 6 + 5, none⟩ = some (.int .i64 y.mark))
          (first | (go_keep; done))
          (first | (go_at_call 41; refine HCL.out.mono ?_; rintro en w8 ⟨rfl, hr, ht⟩; have htx := (Rt.laid HR1.out (.cells (ints [y.src, y.off]).toArray 3)).undrew.trans ht; have mb := htx.kp.cell (p := ⟨w.heap.size, 1, none⟩) HB.out.1 b1; have m0 := htx.kp.cell (p := ⟨g, _, none⟩) hgF k0; have m1 := htx.kp.cell (p := ⟨g, _, none⟩) hgF k1; have m2 := htx.kp.cell (p := ⟨g, _, none⟩) hgF k2; have m3 := htx.kp.cell (p := ⟨g, _, none⟩) hgF k3; have m4 := htx.kp.cell (p := ⟨g, _, none⟩) hgF k4; have m5 := htx.kp.cell (p := ⟨g, _, none⟩) hgF k5))
        have HR8 := hide hr
        have HT8 := hide (HTX.out.trans ht)
        have HTY := hide htx
        have HCM := hide (rtr_any F _ 0 w8 y.trk _ ⟨_, _, rfl, HSA.out.keep rd_In HTY.out.kpl, HSB.out.keep rd_Pn HTY.out.kpl, g3, g4⟩ HR8.out (by have h1 := HLN.out; have h2 := HRL.out; have h3 : wtTr y.trk = 10 + ((10 + wtS wtI y.beyond) + ((10 + wtS wtPn y.points) + 10)) := rfl; unfold wtRd at h1; rw [h3, List.length_append]; simp only [List.length_cons, List.length_nil] at h2; omega))
        clear hr ht htx HCL HI HR1 HR2
        go_wp2_with fail
        refine HCM.out.mono ?_
        rintro en w9 ⟨rfl, o9, e9, hd9, hr, ht⟩
        have HN2 := hide (HNX.out w9 o9 e9 (by rw [eRd_two]; exact ((Wd.raw HRL.out p2 0).and hd9).more (by have h3 : wtTr y.trk = 10 + ((10 + wtS wtI y.beyond) + ((10 + wtS wtPn y.points) + 10)) := rfl; rw [h3]; unfold wtRd; simp only [List.length_cons, List.length_nil]; omega)) hr (HT8.out.trans ht))
        clear hr ht hd9 HCM k0 k1 k2 k3 k4 k5 c1 b1 mb m0 m1 m2 m3 m4 m5
        go_wp2
        go_roundw
        case rel => exact ⟨j + 1, by omega, by go_num, HN2⟩
        case measure => simp [intOf]; omega
      · have te : (f2 == 0) = false := beq_eq_false_iff_ne.2 he
        have HD2 := hide (rl_stop2 he HDD.out)
        clear HDD HTL HB0 HT0
        obtain ⟨w2, rfl⟩ : ∃ z : World, z = wr := ⟨_, rfl⟩
        obtain ⟨-, hx⟩ := HB.out
        have b2 := hx 2 _ rfl
        clear hx
        have HIN : Hid (inI (x.os.length : Int)) := hide (by have := HHLB.out.len; unfold maxLen at this; unfold inI; omega)
        have HLEN : Hid (x.os.length ≤ 9223372036854775807) := hide (by have := HHLB.out.len; unfold maxLen at this; exact this)
        have hlen := HLEN.out
        have HCL := hide (rlength_any F p2 f2 w2 x.os.length hlen HR.out (by have := HD1.out.2.2; have := HD2.out.2.2; have := HO.out; first | omega | (simp only [List.length_cons, List.length_nil] at *; omega)))
        go_wp2_with fail
        refine HCL.out.mono ?_
        rintro en w3 ⟨rfl, hr, ht⟩
        have HP : Hid (RL F eOpr wtOp x.os p2 f2 w2 0 w3) := hide (RL.start rfl HIN.out hr ht)
        have HB0 := HB
        have HT0 := HT
        clear hr ht HCL HR b2 HB HT
        go_wp2_with fail
        go_loopw [5] (fun i wr => ∃ j : Nat, j ≤ x.os.length ∧ i = .int .i64 j ∧ Hid (RL F eOpr wtOp x.os p2 f2 w2 j wr)) (fun i _ => x.os.length - (intOf i).toNat)
        case atStart => exact ⟨0, Nat.zero_le _, rfl, HP⟩
        case round =>
          clear HP
          obtain ⟨j, hj, rfl, HP⟩ := hrel
          obtain ⟨p3, f3, hr, ht, hdd⟩ := HP.out
          have HR := hide hr
          have HTL := hide ht
          have HB := hide (HB0.out.keep ht)
          have HT := hide (HT0.out.trans ht)
          have HDD := hide hdd
          have c1 := hr.c1
          have b2 := HB.out.2 2 _ rfl
          clear hr ht hdd HP
          by_cases hlt : j < x.os.length
          · by_cases he : f3 = 0
            · subst he
              obtain ⟨hl, hd⟩ : ¬ 4096 < x.os.length ∧ Wd (andE (eN x.os.length) (eMany eOpr (x.os.take j))) (10 + wtS wtOp (x.os.take j)) p2 f2 p3 0 := by
                rcases HDD.out with ⟨h, -⟩ | ⟨-, h⟩
                · exact absurd rfl h
                · exact h
              have HD := hide hd
              obtain ⟨g, off, xs, e2, hg, hxl, hc, hR⟩ := (HHLB.out.keep rd_OpW HT.out.kpl).at_ hlt
              cases e2
              have HNX := hide (fun (w' : World) (o'' : Bs) (e'' : Int) h1 h2 h3 => RL.next (F := F) (w := w2) (w' := w') (o'' := o'') (e'' := e'') hlt hl HD.out h1 h2 h3)
              have HLN0 := hide (wtS_get (wt := wtOp) hlt (N := 1000000000 - p2.length) (n := p3.length - p2.length) (by have := HD.out.2.2; omega) (by have := HD1.out.2.2; have := HD2.out.2.2; have := HO.out; first | omega | (simp only [List.length_cons, List.length_nil] at *; omega)))
              obtain ⟨y, hy⟩ : ∃ y, x.os[j] = y := ⟨_, rfl⟩
              rw [hy] at hR HNX HLN0
              clear hy hl hd
              obtain ⟨va, vb, rfl, hla9, hlb9⟩ := hR
              obtain ⟨A8, c8, rfl⟩ := hla9.form
              obtain ⟨A9, c9, rfl⟩ := hlb9.form
              have k0 := hc 0 _ rfl
              have k1 := hc 1 _ rfl
              simp only [Nat.add_zero] at k0 k1
              have hgl := World.block_lt_of_cell? wr _ k0
              simp only at hgl
              have hu0 : (0 : Int) ≤ (j : Int) := by omega
              have hu1 : (j : Int) < (x.os.length : Int) := by omega
              have hbz : w.heap.size < wr.heap.size := World.block_lt_of_cell? wr _ b2
              have HLN : Hid (p3.length + wtOp y ≤ 1000000000) := hide (by have := HLN0.out; have := HD1.out.2.2; have := HD2.out.2.2; have := HO.out; first | omega | (simp only [List.length_cons, List.length_nil] at *; omega))
              clear hc hxl HLN0
              have HSA := hide hla9
              have HSB := hide hlb9
              clear hla9 hlb9
              have HR1 := hide (HR.out.laid (.cells #[.slice A8 y.marks.length c8, .slice A9 y.engs.length c9] 47))
              have HBo := hide (Rx.new HR.out [.slice A8 y.marks.length c8, .slice A9 y.engs.length c9] 47)
              have HTY := hide (Rt.laid HR.out (.cells #[.slice A8 y.marks.length c8, .slice A9 y.engs.length c9] 47))
              have HLX := hide (show (10 + wtS wtI y.marks) + (10 + wtS wtKy y.engs) = wtOp y from rfl)
              have HCL := hide (rints_any F p3 0 _ _ y.marks HR1.out (HSA.out.keep rd_In HTY.out.kpl) (by have h1 := HLN.out; have h2 := HLX.out; omega))
              go_wp2_with fail
              refine HCL.out.mono ?_
              rintro en w7 ⟨rfl, o7, e7, hd7, hr, ht⟩
              have HD7 := hide hd7
              have HR7 := hide hr
              replace HTY := hide (HTY.out.trans ht)
              replace HBo := hide (HBo.out.keep ht)
              obtain ⟨bo, hbo⟩ : ∃ b, wr.heap.size = b := ⟨_, rfl⟩
              rw [hbo] at HBo ⊢
              clear hd7 hr ht HCL HR1 k0 k1 c1 b2 hbo
              have b1 := HBo.out.2 1 _ rfl
              have HIN2 : Hid (inI (y.engs.length : Int)) := hide (by have := HSB.out.len; unfold maxLen at this; unfold inI; omega)
              have hlen2 : y.engs.length ≤ 9223372036854775807 := by have := HSB.out.len; unfold maxLen at this; exact this
              have HLQ : Hid (o7.length + (10 + wtS wtKy y.engs) ≤ 1000000000) := hide (by have h1 := HD7.out.2.2; have h2 := HLN.out; have h3 := HLX.out; omega)
              have HCL := hide (rlength_any F o7 e7 w7 y.engs.length hlen2 HR7.out (by have := HLQ.out; omega))
              go_wp2_with fail
              refine HCL.out.mono ?_
              rintro en w6 ⟨rfl, hr, ht⟩
              have HPI : Hid (RL F eKyd wtKy y.engs o7 e7 w7 0 w6) := hide (RL.start rfl HIN2.out hr ht)
              clear hr ht HCL b1 HR HB HT
              go_wp2_with fail
              go_loopw [7] (fun i wr => ∃ q : Nat, q ≤ y.engs.length ∧ i = .int .i64 q ∧ Hid (RL F eKyd wtKy y.engs o7 e7 w7 q wr)) (fun i _ => y.engs.length - (intOf i).toNat)
              case atStart => exact ⟨0, Nat.zero_le _, rfl, HPI⟩
              case round =>
                clear HPI
                obtain ⟨q, hq, rfl, HP⟩ := hrel
                obtain ⟨p8, f8, hr, ht, hdd⟩ := HP.out
                have HR := hide hr
                have HTI := hide ht
                have HDI := hide hdd
                have HB := hide (HBo.out.keep ht)
                have c1 := hr.c1
                have b1 := HB.out.2 1 _ rfl
                clear hr ht hdd HP
                by_cases hlt2 : q < y.engs.length
                · by_cases he2 : f8 = 0
                  · subst he2
                    obtain ⟨hl, hd⟩ : ¬ 4096 < y.engs.length ∧ Wd (andE (eN y.engs.length) (eMany eKyd (y.engs.take q))) (10 + wtS wtKy (y.engs.take q)) o7 e7 p8 0 := by
                      rcases HDI.out with ⟨h, -⟩ | ⟨-, h⟩
                      · exact absurd rfl h
                      · exact h
                    have HD := hide hd
                    obtain ⟨g2, off2, xs2, e2, hg2, hxl2, hc2, hR2⟩ := (HSB.out.keep rd_KyW (HTY.out.trans HTI.out).kpl).at_ hlt2
                    cases e2
                    have HNX2 := hide (fun (w' : World) (o'' : Bs) (e'' : Int) h1 h2 h3 => RL.next (F := F) (w := w7) (w' := w') (o'' := o'') (e'' := e'') hlt2 hl HD.out h1 h2 h3)
                    have HLN2 := hide (wtS_get (wt := wtKy) hlt2 (N := 1000000000 - o7.length) (n := p8.length - o7.length) (by have := HD.out.2.2; omega) (by have := HLQ.out; omega))
                    obtain ⟨z, hz⟩ : ∃ z, y.engs[q] = z := ⟨_, rfl⟩
                    rw [hz] at hR2 HNX2 HLN2
                    clear hz hl hd
                    obtain ⟨vu, vv, vt, rfl, hl1, hl2, hl3, gq, gk, gs, gm⟩ := hR2
                    obtain ⟨Au, cu, rfl⟩ := hl1.form
                    obtain ⟨Av, cv, rfl⟩ := hl2.form
                    obtain ⟨At, ct, rfl⟩ := hl3.form
                    have k0 := hc2 0 _ rfl
                    have k1 := hc2 1 _ rfl
                    have k2 := hc2 2 _ rfl
                    have k3 := hc2 3 _ rfl
                    have k4 := hc2 4 _ rfl
                    have k5 := hc2 5 _ rfl
                    have k6 := hc2 6 _ rfl
                    have k7 := hc2 7 _ rfl
                    simp only [Nat.add_zero] at k0 k1 k2 k3 k4 k5 k6 k7
                    have hgl2 := World.block_lt_of_cell? wr _ k0
                    simp only at hgl2
                    have hv0 : (0 : Int) ≤ (q : Int) := by omega
                    have hv1 : (q : Int) < (y.engs.length : Int) := by omega
                    have hbz2 : bo < wr.heap.size := World.block_lt_of_cell? wr _ b1
                    have hgF2 : g2 ≠ F := by have : g2 < F := hg2; omega
                    have HLM : Hid (p8.length + wtKy z ≤ 1000000000) := hide (by have := HLN2.out; have := HLQ.out; omega)
                    have HS1 := hide hl1
                    have HS2 := hide hl2
                    have HS3 := hide hl3
                    have HGK := hide (And.intro gk gs)
                    have HGM := hide gm
                    clear hc2 hxl2 HLN2 hl1 hl2 hl3 gk gs gm
                    have HG : Hid (∀ t ∈ ([z.query] : List Int), inI t) := hide (by intro t ht; simp at ht; subst ht; exact gq)
                    have HRL := hide (raw_len HG.out)
                    have HI := hide (Rx.new HR.out (ints [z.query]) 3)
                    have HR2 := hide (HR.out.laid (.cells (ints [z.query]).toArray 3))
                    have HTX := hide (Rt.laid HR.out (.cells (ints [z.query]).toArray 3))
                    have HCL := hide (rnumber_any F p8 0 _ [z.query] wr.heap.size 1 HG.out HI.out HR2.out (by simp) (by have := HLM.out; unfold wtKy at this; simp only [List.length_cons, List.length_nil]; omega))
                    go_wp2_with fail
                    refine HCL.out.mono ?_
                    rintro en wa ⟨rfl, hr, ht⟩
                    replace HTX := hide (HTX.out.trans ht)
                    have HRa := hide hr
                    have mb := HTX.out.kp.cell (p := ⟨bo, 1, none⟩) HB.out.1 b1
                    have m1 := HTX.out.kp.cell (p := ⟨g2, _, none⟩) hgF2 k1
                    have m2 := HTX.out.kp.cell (p := ⟨g2, _, none⟩) hgF2 k2
                    have m3 := HTX.out.kp.cell (p := ⟨g2, _, none⟩) hgF2 k3
                    have m4 := HTX.out.kp.cell (p := ⟨g2, _, none⟩) hgF2 k4
                    have m5 := HTX.out.kp.cell (p := ⟨g2, _, none⟩) hgF2 k5
                    have m6 := HTX.out.kp.cell (p := ⟨g2, _, none⟩) hgF2 k6
                    have m7 := HTX.out.kp.cell (p := ⟨g2, _, none⟩) hgF2 k7
                    have HLa : Hid ((p8 ++ ([z.query] : List Int).flatMap num).length + (wtV z.key + wtEn z.eng) ≤ 1000000000) := hide (by have h1 := HLM.out; have h2 := HRL.out; unfold wtKy at h1; unfold wtV; rw [List.length_append]; simp only [List.length_cons, List.length_nil] at h2; omega)
                    have HCM := hide (rvalue_any F _ 0 wa z.key HGK.out.1 HGK.out.2 HRa.out (by have := HLa.out; omega))
                    clear hr ht HCL HI HR2 k0 k1 k2 k3 k4 k5 k6 k7 c1 b1 HR
                    go_wp2_with fail
                    refine HCM.out.mono ?_
                    rintro en wb ⟨rfl, ob, eb, hdb, hr, ht⟩
                    have HDb := hide hdb
                    have HRb := hide hr
                    have HTb := hide ht
                    replace mb := ht.kp.cell (p := ⟨bo, 1, none⟩) HB.out.1 mb
                    replace m4 := ht.kp.cell (p := ⟨g2, _, none⟩) hgF2 m4
                    replace m5 := ht.kp.cell (p := ⟨g2, _, none⟩) hgF2 m5
                    replace m6 := ht.kp.cell (p := ⟨g2, _, none⟩) hgF2 m6
                    replace m7 := ht.kp.cell (p := ⟨g2, _, none⟩) hgF2 m7
                    have HCN := hide (ren_any F ob eb wb z.eng _ ⟨_, _, _, rfl, HS1.out.keep rd_Ev (HTX.out.trans HTb.out).kpl, HS2.out.keep rd_Cf (HTX.out.trans HTb.out).kpl, HS3.out.keep rd_Ev (HTX.out.trans HTb.out).kpl, HGM.out⟩ HRb.out (by have h1 := HLa.out; have h2 := HDb.out.2.2; omega))
                    clear hdb hr ht HCM m1 m2 m3
                    go_wp2_with fail
                    refine HCN.out.mono ?_
                    rintro en w9 ⟨rfl, o9, e9, hd9, hr, ht⟩
                    have HN3 := hide (HNX2.out w9 o9 e9 (by rw [eKy_one]; exact ((Wd.raw HRL.out p8 0).and (HDb.out.and hd9)).more (by unfold wtKy wtV; simp only [List.length_cons, List.length_nil]; omega)) hr (HTI.out.trans (HTX.out.trans (HTb.out.trans ht))))
                    clear hr ht hd9 HCN mb m4 m5 m6 m7
                    go_wp2
                    go_roundw
                    case rel => exact ⟨q + 1, by omega, by go_num, HN3⟩
                    case measure => simp [intOf]; omega
                  · have te : (f8 == 0) = false := beq_eq_false_iff_ne.2 he2
                    have HN2 := hide (HNX.out wr p8 f8 ((HD7.out.and (rl_stop2 he2 HDI.out)).more (by have := HLX.out; omega)) HR.out (HTL.out.trans (HTY.out.trans HTI.out)))
                    go_wp2
                    go_roundw
                    case rel => exact ⟨j + 1, by omega, by go_num, HN2⟩
                    case measure => simp [intOf]; omega
                · obtain rfl : q = y.engs.length := by omega
                  have HN2 := hide (HNX.out wr p8 f8 ((HD7.out.and (rl_done (Nat.le_refl _) HDI.out)).more (by have := HLX.out; omega)) HR.out (HTL.out.trans (HTY.out.trans HTI.out)))
                  go_wp2
                  go_roundw
                  case rel => exact ⟨j + 1, by omega, by go_num, HN2⟩
                  case measure => simp [intOf]; omega
            · have te : (f3 == 0) = false := beq_eq_false_iff_ne.2 he
              have HD3 := hide (rl_stop2 he HDD.out)
              clear HDD HTL HB0 HT0
              obtain ⟨w3, rfl⟩ : ∃ z : World, z = wr := ⟨_, rfl⟩
              go_wp2
              go_end0
              refine ⟨rfl, _, _, ?_, HR.out, HT.out⟩
              rw [eSn_one]
              exact Wd.more (HD1.out.and (HD2.out.and HD3.out)) (by unfold wtSn; (try simp only [List.length_cons, List.length_nil]); omega)
          · obtain rfl : j = x.os.length := by omega
            have HD3 := hide (rl_done (Nat.le_refl _) HDD.out)
            clear HDD HTL HB0 HT0
            obtain ⟨w3, rfl⟩ : ∃ z : World, z = wr := ⟨_, rfl⟩
            go_wp2
            go_end0
            refine ⟨rfl, _, _, ?_, HR.out, HT.out⟩
            rw [eSn_one]
            exact Wd.more (HD1.out.and (HD2.out.and HD3.out)) (by unfold wtSn; (try simp only [List.length_cons, List.length_nil]); omega)
    · obtain rfl : j = x.rs.length := by omega
      have HD2 := hide (rl_done (Nat.le_refl _) HDD.out)
      clear HDD HTL HB0 HT0
      obtain ⟨w2, rfl⟩ : ∃ z : World, z = wr := ⟨_, rfl⟩
      obtain ⟨-, hx⟩ := HB.out
      have b2 := hx 2 _ rfl
      clear hx
      have HIN : Hid (inI (x.os.length : Int)) := hide (by have := HHLB.out.len; unfold maxLen at this; unfold inI; omega)
      have HLEN : Hid (x.os.length ≤ 9223372036854775807) := hide (by have := HHLB.out.len; unfold maxLen at this; exact this)
      have hlen := HLEN.out
      have HCL := hide (rlength_any F p2 f2 w2 x.os.length hlen HR.out (by have := HD1.out.2.2; have := HD2.out.2.2; have := HO.out; first | omega | (simp only [List.length_cons, List.length_nil] at *; omega)))
      go_wp2_with fail
      refine HCL.out.mono ?_
      rintro en w3 ⟨rfl, hr, ht⟩
      have HP : Hid (RL F eOpr wtOp x.os p2 f2 w2 0 w3) := hide (RL.start rfl HIN.out hr ht)
      have HB0 := HB
      have HT0 := HT
      clear hr ht HCL HR b2 HB HT
      go_wp2_with fail
      go_loopw [5] (fun i wr => ∃ j : Nat, j ≤ x.os.length ∧ i = .int .i64 j ∧ Hid (RL F eOpr wtOp x.os p2 f2 w2 j wr)) (fun i _ => x.os.length - (intOf i).toNat)
      case atStart => exact ⟨0, Nat.zero_le _, rfl, HP⟩
      case round =>
        clear HP
        obtain ⟨j, hj, rfl, HP⟩ := hrel
        obtain ⟨p3, f3, hr, ht, hdd⟩ := HP.out
        have HR := hide hr
        have HTL := hide ht
        have HB := hide (HB0.out.keep ht)
        have HT := hide (HT0.out.trans ht)
        have HDD := hide hdd
        have c1 := hr.c1
        have b2 := HB.out.2 2 _ rfl
        clear hr ht hdd HP
        by_cases hlt : j < x.os.length
        · by_cases he : f3 = 0
          · subst he
            obtain ⟨hl, hd⟩ : ¬ 4096 < x.os.length ∧ Wd (andE (eN x.os.length) (eMany eOpr (x.os.take j))) (10 + wtS wtOp (x.os.take j)) p2 f2 p3 0 := by
              rcases HDD.out with ⟨h, -⟩ | ⟨-, h⟩
              · exact absurd rfl h
              · exact h
            have HD := hide hd
            obtain ⟨g, off, xs, e2, hg, hxl, hc, hR⟩ := (HHLB.out.keep rd_OpW HT.out.kpl).at_ hlt
            cases e2
            have HNX := hide (fun (w' : World) (o'' : Bs) (e'' : Int) h1 h2 h3 => RL.next (F := F) (w := w2) (w' := w') (o'' := o'') (e'' := e'') hlt hl HD.out h1 h2 h3)
            have HLN0 := hide (wtS_get (wt := wtOp) hlt (N := 1000000000 - p2.length) (n := p3.length - p2.length) (by have := HD.out.2.2; omega) (by have := HD1.out.2.2; have := HD2.out.2.2; have := HO.out; first | omega | (simp only [List.length_cons, List.length_nil] at *; omega)))
            obtain ⟨y, hy⟩ : ∃ y, x.os[j] = y := ⟨_, rfl⟩
            rw [hy] at hR HNX HLN0
            clear hy hl hd
            obtain ⟨va, vb, rfl, hla9, hlb9⟩ := hR
            obtain ⟨A8, c8, rfl⟩ := hla9.form
            obtain ⟨A9, c9, rfl⟩ := hlb9.form
            have k0 := hc 0 _ rfl
            have k1 := hc 1 _ rfl
            simp only [Nat.add_zero] at k0 k1
            have hgl := World.block_lt_of_cell? wr _ k0
            simp only at hgl
            have hu0 : (0 : Int) ≤ (j : Int) := by omega
            have hu1 : (j : Int) < (x.os.length : Int) := by omega
            have hbz : w.heap.size < wr.heap.size := World.block_lt_of_cell? wr _ b2
            have HLN : Hid (p3.length + wtOp y ≤ 1000000000) := hide (by have := HLN0.out; have := HD1.out.2.2; have := HD2.out.2.2; have := HO.out; first | omega | (simp only [List.length_cons, List.length_nil] at *; omega))
            clear hc hxl HLN0
            have HSA := hide hla9
            have HSB := hide hlb9
            clear hla9 hlb9
            have HR1 := hide (HR.out.laid (.cells #[.slice A8 y.marks.length c8, .slice A9 y.engs.length c9] 47))
            have HBo := hide (Rx.new HR.out [.slice A8 y.marks.length c8, .slice A9 y.engs.length c9] 47)
            have HTY := hide (Rt.laid HR.out (.cells #[.slice A8 y.marks.length c8, .slice A9 y.engs.length c9] 47))
            have HLX := hide (show (10 + wtS wtI y.marks) + (10 + wtS wtKy y.engs) = wtOp y from rfl)
            have HCL := hide (rints_any F p3 0 _ _ y.marks HR1.out (HSA.out.keep rd_In HTY.out.kpl) (by have h1 := HLN.out; have h2 := HLX.out; omega))
            go_wp2_with fail
            refine HCL.out.mono ?_
            rintro en w7 ⟨rfl, o7, e7, hd7, hr, ht⟩
            have HD7 := hide hd7
            have HR7 := hide hr
            replace HTY := hide (HTY.out.trans ht)
            replace HBo := hide (HBo.out.keep ht)
            obtain ⟨bo, hbo⟩ : ∃ b, wr.heap.size = b := ⟨_, rfl⟩
            rw [hbo] at HBo ⊢
            clear hd7 hr ht HCL HR1 k0 k1 c1 b2 hbo
            have b1 := HBo.out.2 1 _ rfl
            have HIN2 : Hid (inI (y.engs.length : Int)) := hide (by have := HSB.out.len; unfold maxLen at this; unfold inI; omega)
            have hlen2 : y.engs.length ≤ 9223372036854775807 := by have := HSB.out.len; unfold maxLen at this; exact this
            have HLQ : Hid (o7.length + (10 + wtS wtKy y.engs) ≤ 1000000000) := hide (by have h1 := HD7.out.2.2; have h2 := HLN.out; have h3 := HLX.out; omega)
            have HCL := hide (rlength_any F o7 e7 w7 y.engs.length hlen2 HR7.out (by have := HLQ.out; omega))
            go_wp2_with fail
            refine HCL.out.mono ?_
            rintro en w6 ⟨rfl, hr, ht⟩
            have HPI : Hid (RL F eKyd wtKy y.engs o7 e7 w7 0 w6) := hide (RL.start rfl HIN2.out hr ht)
            clear hr ht HCL b1 HR HB HT
            go_wp2_with fail
            go_loopw [7] (fun i wr => ∃ q : Nat, q ≤ y.engs.length ∧ i = .int .i64 q ∧ Hid (RL F eKyd wtKy y.engs o7 e7 w7 q wr)) (fun i _ => y.engs.length - (intOf i).toNat)
            case atStart => exact ⟨0, Nat.zero_le _, rfl, HPI⟩
            case round =>
              clear HPI
              obtain ⟨q, hq, rfl, HP⟩ := hrel
              obtain ⟨p8, f8, hr, ht, hdd⟩ := HP.out
              have HR := hide hr
              have HTI := hide ht
              have HDI := hide hdd
              have HB := hide (HBo.out.keep ht)
              have c1 := hr.c1
              have b1 := HB.out.2 1 _ rfl
              clear hr ht hdd HP
              by_cases hlt2 : q < y.engs.length
              · by_cases he2 : f8 = 0
                · subst he2
                  obtain ⟨hl, hd⟩ : ¬ 4096 < y.engs.length ∧ Wd (andE (eN y.engs.length) (eMany eKyd (y.engs.take q))) (10 + wtS wtKy (y.engs.take q)) o7 e7 p8 0 := by
                    rcases HDI.out with ⟨h, -⟩ | ⟨-, h⟩
                    · exact absurd rfl h
                    · exact h
                  have HD := hide hd
                  obtain ⟨g2, off2, xs2, e2, hg2, hxl2, hc2, hR2⟩ := (HSB.out.keep rd_KyW (HTY.out.trans HTI.out).kpl).at_ hlt2
                  cases e2
                  have HNX2 := hide (fun (w' : World) (o'' : Bs) (e'' : Int) h1 h2 h3 => RL.next (F := F) (w := w7) (w' := w') (o'' := o'') (e'' := e'') hlt2 hl HD.out h1 h2 h3)
                  have HLN2 := hide (wtS_get (wt := wtKy) hlt2 (N := 1000000000 - o7.length) (n := p8.length - o7.length) (by have := HD.out.2.2; omega) (by have := HLQ.out; omega))
                  obtain ⟨z, hz⟩ : ∃ z, y.engs[q] = z := ⟨_, rfl⟩
                  rw [hz] at hR2 HNX2 HLN2
                  clear hz hl hd
                  obtain ⟨vu, vv, vt, rfl, hl1, hl2, hl3, gq, gk, gs, gm⟩ := hR2
                  obtain ⟨Au, cu, rfl⟩ := hl1.form
                  obtain ⟨Av, cv, rfl⟩ := hl2.form
                  obtain ⟨At, ct, rfl⟩ := hl3.form
                  have k0 := hc2 0 _ rfl
                  have k1 := hc2 1 _ rfl
                  have k2 := hc2 2 _ rfl
                  have k3 := hc2 3 _ rfl
                  have k4 := hc2 4 _ rfl
                  have k5 := hc2 5 _ rfl
                  have k6 := hc2 6 _ rfl
                  have k7 := hc2 7 _ rfl
                  simp only [Nat.add_zero] at k0 k1 k2 k3 k4 k5 k6 k7
                  have hgl2 := World.block_lt_of_cell? wr _ k0
                  simp only at hgl2
                  have hv0 : (0 : Int) ≤ (q : Int) := by omega
                  have hv1 : (q : Int) < (y.engs.length : Int) := by omega
                  have hbz2 : bo < wr.heap.size := World.block_lt_of_cell? wr _ b1
                  have hgF2 : g2 ≠ F := by have : g2 < F := hg2; omega
                  have HLM : Hid (p8.length + wtKy z ≤ 1000000000) := hide (by have := HLN2.out; have := HLQ.out; omega)
                  have HS1 := hide hl1
                  have HS2 := hide hl2
                  have HS3 := hide hl3
                  have HGK := hide (And.intro gk gs)
                  have HGM := hide gm
                  clear hc2 hxl2 HLN2 hl1 hl2 hl3 gk gs gm
                  have HG : Hid (∀ t ∈ ([z.query] : List Int), inI t) := hide (by intro t ht; simp at ht; subst ht; exact gq)
                  have HRL := hide (raw_len HG.out)
                  have HI := hide (Rx.new HR.out (ints [z.query]) 3)
                  have HR2 := hide (HR.out.laid (.cells (ints [z.query]).toArray 3))
                  have HTX := hide (Rt.laid HR.out (.cells (ints [z.query]).toArray 3))
                  have HCL := hide (rnumber_any F p8 0 _ [z.query] wr.heap.size 1 HG.out HI.out HR2.out (by simp) (by have := HLM.out; unfold wtKy at this; simp only [List.length_cons, List.length_nil]; omega))
                  go_wp2_with fail
                  refine HCL.out.mono ?_
                  rintro en wa ⟨rfl, hr, ht⟩
                  replace HTX := hide (HTX.out.trans ht)
                  have HRa := hide hr
                  have mb := HTX.out.kp.cell (p := ⟨bo, 1, none⟩) HB.out.1 b1
                  have m1 := HTX.out.kp.cell (p := ⟨g2, _, none⟩) hgF2 k1
                  have m2 := HTX.out.kp.cell (p := ⟨g2, _, none⟩) hgF2 k2
                  have m3 := HTX.out.kp.cell (p := ⟨g2, _, none⟩) hgF2 k3
                  have m4 := HTX.out.kp.cell (p := ⟨g2, _, none⟩) hgF2 k4
                  have m5 := HTX.out.kp.cell (p := ⟨g2, _, none⟩) hgF2 k5
                  have m6 := HTX.out.kp.cell (p := ⟨g2, _, none⟩) hgF2 k6
                  have m7 := HTX.out.kp.cell (p := ⟨g2, _, none⟩) hgF2 k7
                  have HLa : Hid ((p8 ++ ([z.query] : List Int).flatMap num).length + (wtV z.key + wtEn z.eng) ≤ 1000000000) := hide (by have h1 := HLM.out; have h2 := HRL.out; unfold wtKy at h1; unfold wtV; rw [List.length_append]; simp only [List.length_cons, List.length_nil] at h2; omega)
                  have HCM := hide (rvalue_any F _ 0 wa z.key HGK.out.1 HGK.out.2 HRa.out (by have := HLa.out; omega))
                  clear hr ht HCL HI HR2 k0 k1 k2 k3 k4 k5 k6 k7 c1 b1 HR
                  go_wp2_with fail
                  refine HCM.out.mono ?_
                  rintro en wb ⟨rfl, ob, eb, hdb, hr, ht⟩
                  have HDb := hide hdb
                  have HRb := hide hr
                  have HTb := hide ht
                  replace mb := ht.kp.cell (p := ⟨bo, 1, none⟩) HB.out.1 mb
                  replace m4 := ht.kp.cell (p := ⟨g2, _, none⟩) hgF2 m4
                  replace m5 := ht.kp.cell (p := ⟨g2, _, none⟩) hgF2 m5
                  replace m6 := ht.kp.cell (p := ⟨g2, _, none⟩) hgF2 m6
                  replace m7 := ht.kp.cell (p := ⟨g2, _, none⟩) hgF2 m7
                  have HCN := hide (ren_any F ob eb wb z.eng _ ⟨_, _, _, rfl, HS1.out.keep rd_Ev (HTX.out.trans HTb.out).kpl, HS2.out.keep rd_Cf (HTX.out.trans HTb.out).kpl, HS3.out.keep rd_Ev (HTX.out.trans HTb.out).kpl, HGM.out⟩ HRb.out (by have h1 := HLa.out; have h2 := HDb.out.2.2; omega))
                  clear hdb hr ht HCM m1 m2 m3
                  go_wp2_with fail
                  refine HCN.out.mono ?_
                  rintro en w9 ⟨rfl, o9, e9, hd9, hr, ht⟩
                  have HN3 := hide (HNX2.out w9 o9 e9 (by rw [eKy_one]; exact ((Wd.raw HRL.out p8 0).and (HDb.out.and hd9)).more (by unfold wtKy wtV; simp only [List.length_cons, List.length_nil]; omega)) hr (HTI.out.trans (HTX.out.trans (HTb.out.trans ht))))
                  clear hr ht hd9 HCN mb m4 m5 m6 m7
                  go_wp2
                  go_roundw
                  case rel => exact ⟨q + 1, by omega, by go_num, HN3⟩
                  case measure => simp [intOf]; omega
                · have te : (f8 == 0) = false := beq_eq_false_iff_ne.2 he2
                  have HN2 := hide (HNX.out wr p8 f8 ((HD7.out.and (rl_stop2 he2 HDI.out)).more (by have := HLX.out; omega)) HR.out (HTL.out.trans (HTY.out.trans HTI.out)))
                  go_wp2
                  go_roundw
                  case rel => exact ⟨j + 1, by omega, by go_num, HN2⟩
                  case measure => simp [intOf]; omega
              · obtain rfl : q = y.engs.length := by omega
                have HN2 := hide (HNX.out wr p8 f8 ((HD7.out.and (rl_done (Nat.le_refl _) HDI.out)).more (by have := HLX.out; omega)) HR.out (HTL.out.trans (HTY.out.trans HTI.out)))
                go_wp2
                go_roundw
                case rel => exact ⟨j + 1, by omega, by go_num, HN2⟩
                case measure => simp [intOf]; omega
          · have te : (f3 == 0) = false := beq_eq_false_iff_ne.2 he
            have HD3 := hide (rl_stop2 he HDD.out)
            clear HDD HTL HB0 HT0
            obtain ⟨w3, rfl⟩ : ∃ z : World, z = wr := ⟨_, rfl⟩
            go_wp2
            go_end0
            refine ⟨rfl, _, _, ?_, HR.out, HT.out⟩
            rw [eSn_one]
            exact Wd.more (HD1.out.and (HD2.out.and HD3.out)) (by unfold wtSn; (try simp only [List.length_cons, List.length_nil]); omega)
        · obtain rfl : j = x.os.length := by omega
          have HD3 := hide (rl_done (Nat.le_refl _) HDD.out)
          clear HDD HTL HB0 HT0
          obtain ⟨w3, rfl⟩ : ∃ z : World, z = wr := ⟨_, rfl⟩
          go_wp2
          go_end0
          refine ⟨rfl, _, _, ?_, HR.out, HT.out⟩
          rw [eSn_one]
          exact Wd.more (HD1.out.and (HD2.out.and HD3.out)) (by unfold wtSn; (try simp only [List.length_cons, List.length_nil]); omega)
end
end Go.Proofs.YtofdcgojgcnopaaGreat

namespace Go.Proofs.YtofdcgojgcnopaaGreat
open Go.RowKit Go.Lib
set_option linter.unusedVariables false
set_option linter.unusedSimpArgs false
section
variable (w : World)
set_option maxRecDepth 100000 in
set_option maxHeartbeats 4000000 in
theorem rencSn_any (x : Snp) (xs : List Value) (hx : RSnW w (· < w.heap.size) xs x) (hl : wtSn x ≤ 800000000) :
    Calls Tryz.prog 7 #[.agg xs.toArray] w (Ret (.tuple #[.string (strE (sealE (eSnp x))), .int .i64 (numE (sealE (eSnp x)))]) w) := by
  have hfr := Rw.fresh (w.alloc (.cells xs.toArray 25))
  rw [World.size_alloc] at hfr
  have hx2 : RSnW ((w.alloc (.cells xs.toArray 25)).alloc (.cells #[.string ⟨#[]⟩, .int .i64 0] 67)) (· < w.heap.size + 1) xs x := rd_SnW.more (fun b hb => by omega) (rd_SnW.keep ((Kp.alloc _).trans (Kp.alloc _)) hx)
  have HC := hide (rsn_any (w.heap.size + 1) [] 0 _ x xs hx2 hfr (by rw [List.length_nil]; omega))
  have HSL := hide (fun w2 o e hd h => rseal_any w2 (w.heap.size + 1) (eSnp x) (wtSn x) o e (by omega) hd h)
  have HB := hide ((below_laid (w := w) (.cells xs.toArray 25)).alloc (by simp) (.cells #[.string ⟨#[]⟩, .int .i64 0] 67))
  have hcl := fun c u hu => keep1 (below_laid (.cells #[.string ⟨#[]⟩, .int .i64 0] 67)) (cells_lit w xs 25 c u hu)
  obtain ⟨u, v, rfl, hla, hlb, g1⟩ := hx
  obtain ⟨A1, c1, rfl⟩ := hla.form
  obtain ⟨A2, c2, rfl⟩ := hlb.form
  clear hla hlb
  have b0 := hcl 0 _ rfl
  have b1 := hcl 1 _ rfl
  have b2 := hcl 2 _ rfl
  clear hcl hx2 hfr hl
  go_enter Tryz.func7, Tryz.ntmps7
  go_wp2_with fail
  refine HC.out.mono ?_
  rintro en w2 ⟨rfl, o, e, hd, hr, ht⟩
  have HS := hide (HSL.out w2 o e hd hr)
  replace HB := hide (HB.out.trans (ht.low.mono (Nat.le_succ _)))
  clear hd hr ht b0 b1 b2
  go_wp2_with fail
  refine HS.out.mono ?_
  rintro en w3 ⟨rfl, hb⟩
  replace HB := hide (bthen HB.out hb)
  clear hb
  go_wp2
  go_ret2
  exact Ret.mk rfl HB.out
end
end Go.Proofs.YtofdcgojgcnopaaGreat
