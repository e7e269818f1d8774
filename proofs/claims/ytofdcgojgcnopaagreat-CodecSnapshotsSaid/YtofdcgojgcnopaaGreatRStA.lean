/- The reference's lists in fields: what has been written behind j rounds. The reference's config. The reference's engine. -/
import Derived.Test.YtofdcgojgcnopaaGreatRVE
import Derived.Test.YtofdcgojgcnopaaGreatWBase
import Derived.Deep.RegionHeld3
namespace Go.Proofs.YtofdcgojgcnopaaGreat
open Go.RowKit Go.Lib
set_option linter.unusedVariables false
set_option linter.unusedSimpArgs false
def RL {α : Type} (F : Nat) (f : α → Ex Bs) (wt : α → Nat) (l : List α) (o : Bs) (e : Int) (w : World) (j : Nat) (wr : World) : Prop :=
  ∃ o' e', Rw wr F o' e' ∧ Rt F w wr ∧ ((e' ≠ 0 ∧ Wd (eL f l) (10 + wtS wt l) o e o' e') ∨ (e' = 0 ∧ ¬ 4096 < l.length ∧ Wd (andE (eN l.length) (eMany f (l.take j))) (10 + wtS wt (l.take j)) o e o' 0))
section
variable {α : Type} {F : Nat} {f : α → Ex Bs} {wt : α → Nat} {l : List α} {o o' o'' : Bs} {e e' e'' : Int} {w w' wr : World} {j : Nat}
theorem RL.start {m : Nat} (hm : l.length = m) (hn : inI l.length) (h : Rw wr F (o ++ num m) (if e = 0 ∧ 4096 < m then 5 else e)) (ht : Rt F w wr) : RL F f wt l o e w 0 wr := by
  subst hm
  by_cases h1 : (if e = 0 ∧ 4096 < l.length then 5 else e) = 0
  · have hem : e = 0 ∧ ¬ 4096 < l.length := by
      by_cases he : e = 0
      · refine ⟨he, fun hl => ?_⟩
        rw [if_pos ⟨he, hl⟩] at h1
        cases h1
      · rw [if_neg (fun h => he h.1)] at h1; exact absurd h1 he
    rw [if_neg (fun h => hem.2 h.2)] at h
    obtain ⟨rfl, hl⟩ := hem
    exact ⟨_, _, h, ht, .inr ⟨rfl, hl, by rw [List.take_zero]; exact ((Wd.num hn o 0).and Wd.skip).more (by rw [wtS_nil]; omega)⟩⟩
  · exact ⟨_, _, h, ht, .inl ⟨h1, rl_stop hn h1⟩⟩
theorem RL.next (hj : j < l.length) (hl : ¬ 4096 < l.length) (hd : Wd (andE (eN l.length) (eMany f (l.take j))) (10 + wtS wt (l.take j)) o e o' 0) (h : Wd (f l[j]) (wt l[j]) o' 0 o'' e'') (hr : Rw w' F o'' e'') (ht : Rt F w w') : RL F f wt l o e w (j + 1) w' := by
  have hn : Wd (andE (eN l.length) (eMany f (l.take (j + 1)))) (10 + wtS wt (l.take (j + 1))) o e o'' e'' := by
    rw [eMany_take hj, ← andE_assoc, wtS_take hj, ← Nat.add_assoc]; exact hd.and h
  refine ⟨_, _, hr, ht, ?_⟩
  by_cases he : e'' = 0
  · subst he; exact .inr ⟨rfl, hl, hn⟩
  · exact .inl ⟨he, PInv.stop hl he hn⟩
theorem rl_done (hj : l.length ≤ j) (h : (e' ≠ 0 ∧ Wd (eL f l) (10 + wtS wt l) o e o' e') ∨ (e' = 0 ∧ ¬ 4096 < l.length ∧ Wd (andE (eN l.length) (eMany f (l.take j))) (10 + wtS wt (l.take j)) o e o' 0)) : Wd (eL f l) (10 + wtS wt l) o e o' e' := by
  rcases h with ⟨-, h⟩ | ⟨rfl, hl, h⟩
  · exact h
  · exact PInv.done hl hj h
theorem rl_stop2 (he : e' ≠ 0) (h : (e' ≠ 0 ∧ Wd (eL f l) (10 + wtS wt l) o e o' e') ∨ (e' = 0 ∧ ¬ 4096 < l.length ∧ Wd (andE (eN l.length) (eMany f (l.take j))) (10 + wtS wt (l.take j)) o e o' 0)) : Wd (eL f l) (10 + wtS wt l) o e o' e' := by
  rcases h with ⟨-, h⟩ | ⟨h0, -⟩
  · exact h
  · exact absurd h0 he
end
theorem Rw.drewR {w : World} {F : Nat} {s : Bs} {e : Int} (h : Rw w F s e) : Rw w.drew F s e := ⟨h.c0, h.c1, h.f0, h.f1⟩
theorem num_one (n : Int) : [n].flatMap num = num n := by simp
theorem eCf_one (x : Cfg) : eCfg x = andE (.ok ([x.st].flatMap num)) (andE (eL eBnd x.bs) (eL eSrt x.ss)) := by rw [num_one]; rfl
theorem eEn_one (x : Eng) : eEng x = andE (.ok ([x.mark].flatMap num)) (andE (eL eEv x.wait) (andE (eL eCfg x.runs) (eL eEv x.held))) := by rw [num_one]; rfl
end Go.Proofs.YtofdcgojgcnopaaGreat

namespace Go.Proofs.YtofdcgojgcnopaaGreat
open Go.RowKit Go.Lib
set_option linter.unusedVariables false
set_option linter.unusedSimpArgs false
section
variable (F : Nat) (o : Bs) (e : Int) (w : World)
set_option maxRecDepth 100000 in
set_option maxHeartbeats 16000000 in
theorem rcf_any (x : Cfg) (xs : List Value) (hx : RCf w (· < F) xs x) (h : Rw w F o e) (ho : o.length + wtCf x ≤ 1000000000) :
    Calls Tryz.prog 76 #[.pointer (some ⟨F, 0, none⟩), .agg xs.toArray] w (Rws F (eCfg x) (wtCf x) o e w) := by
  obtain ⟨u, v, rfl, hla, hlb, g1⟩ := hx
  obtain ⟨A1, cp1, rfl⟩ := hla.form
  obtain ⟨A2, cp2, rfl⟩ := hlb.form
  unfold wtCf at ho
  have HO := hide ho
  have HB := hide (Rx.new h [.int .i64 x.st, .slice A1 x.bs.length cp1, .slice A2 x.ss.length cp2] 83)
  have HT := hide (Rt.laid h (.cells #[.int .i64 x.st, .slice A1 x.bs.length cp1, .slice A2 x.ss.length cp2] 83))
  have HR := hide (h.laid (.cells #[.int .i64 x.st, .slice A1 x.bs.length cp1, .slice A2 x.ss.length cp2] 83))
  have HHLA := hide hla
  have HHLB := hide hlb
  clear h ho hla hlb
  go_enter Tryz.func76, Tryz.ntmps76
  obtain ⟨-, hx⟩ := HB.out
  have b0 := hx 0 _ rfl
  clear hx
  have HG : Hid (∀ y ∈ ([x.st] : List Int), inI y) := hide (by intro y hy; simp at hy; subst hy; assumption)
  have HLN := hide (raw_len HG.out)
  have hI := Rx.new HR.out (ints [x.st]) 3
  rw [World.size_alloc] at hI
  have HI := hide hI
  clear hI
  have HR0 := hide (HR.out.laid (.cells (ints [x.st]).toArray 3))
  replace HT := hide (HT.out.trans (Rt.laid HR.out (.cells (ints [x.st]).toArray 3)))
  replace HB := hide (HB.out.keep (Rt.laid HR.out (.cells (ints [x.st]).toArray 3)))
  have HCL := hide (rnumber_any F o e _ [x.st] _ 1 HG.out HI.out HR0.out (by simp) (by simp only [List.length_cons, List.length_nil]; have := HO.out; first | omega | (simp only [List.length_cons, List.length_nil] at *; omega)))
  go_wp2_with fail
  refine HCL.out.mono ?_
  rintro en w1 ⟨rfl, hr, ht⟩
  have HD1 := hide (Wd.raw HLN.out o e)
  replace HR := hide hr
  replace HB := hide (HB.out.keep ht)
  replace HT := hide (HT.out.trans ht)
  clear hr ht HCL HI HR0 HG HLN b0
  obtain ⟨-, hx⟩ := HB.out
  have b1 := hx 1 _ rfl
  clear hx
  have HIN : Hid (inI (x.bs.length : Int)) := hide (by have := HHLA.out.len; unfold maxLen at this; unfold inI; omega)
  have HLEN : Hid (x.bs.length ≤ 9223372036854775807) := hide (by have := HHLA.out.len; unfold maxLen at this; exact this)
  have hlen := HLEN.out
  have HCL := hide (rlength_any F (o ++ ([x.st] : List Int).flatMap num) e w1 x.bs.length hlen HR.out (by have := HD1.out.2.2; have := HO.out; first | omega | (simp only [List.length_cons, List.length_nil] at *; omega)))
  go_wp2_with fail
  refine HCL.out.mono ?_
  rintro en w2 ⟨rfl, hr, ht⟩
  have HP : Hid (RL F eBnd wtBn x.bs (o ++ ([x.st] : List Int).flatMap num) e w1 0 w2) := hide (RL.start rfl HIN.out hr ht)
  have HB0 := HB
  have HT0 := HT
  clear hr ht HCL HR b1 HB HT
  go_wp2_with fail
  go_loopw [4] (fun i wr => ∃ j : Nat, j ≤ x.bs.length ∧ i = .int .i64 j ∧ Hid (RL F eBnd wtBn x.bs (o ++ ([x.st] : List Int).flatMap num) e w1 j wr)) (fun i _ => x.bs.length - (intOf i).toNat)
  case atStart => exact ⟨0, Nat.zero_le _, rfl, HP⟩
  case round =>
    clear HP
    obtain ⟨j, hj, rfl, HP⟩ := hrel
    obtain ⟨p2, f2, hr, ht, hdd⟩ := HP.out
    have HR := hide hr
    have HTL := hide ht
    have HB := hide (HB0.out.keep ht)
    have HT := hide (HT0.out.trans ht)
    have HDD := hide hdd
    have c1 := hr.c1
    have b1 := HB.out.2 1 _ rfl
    clear hr ht hdd HP
    by_cases hlt : j < x.bs.length
    · by_cases he : f2 = 0
      · subst he
        obtain ⟨hl, hd⟩ : ¬ 4096 < x.bs.length ∧ Wd (andE (eN x.bs.length) (eMany eBnd (x.bs.take j))) (10 + wtS wtBn (x.bs.take j)) (o ++ ([x.st] : List Int).flatMap num) e p2 0 := by
          rcases HDD.out with ⟨h, -⟩ | ⟨-, h⟩
          · exact absurd rfl h
          · exact h
        have HD := hide hd
        obtain ⟨g, off, xs, e2, hg, hxl, hc, hR⟩ := (HHLA.out.keep rd_Bn HT.out.kpl).at_ hlt
        cases e2
        have HNX := hide (fun (w' : World) (o'' : Bs) (e'' : Int) h1 h2 h3 => RL.next (F := F) (w := w1) (w' := w') (o'' := o'') (e'' := e'') hlt hl HD.out h1 h2 h3)
        have HLN0 := hide (wtS_get (wt := wtBn) hlt (N := 1000000000 - (o ++ ([x.st] : List Int).flatMap num).length) (n := p2.length - (o ++ ([x.st] : List Int).flatMap num).length) (by have := HD.out.2.2; omega) (by have := HD1.out.2.2; have := HO.out; first | omega | (simp only [List.length_cons, List.length_nil] at *; omega)))
        obtain ⟨y, hy⟩ : ∃ y, x.bs[j] = y := ⟨_, rfl⟩
        rw [hy] at hR HNX HLN0
        clear hy hl hd
        obtain ⟨rfl, g1, g2, g3, g4⟩ := hR
        have k0 := hc 0 _ rfl
        have k1 := hc 1 _ rfl
        have k2 := hc 2 _ rfl
        have k3 := hc 3 _ rfl
        simp only [Nat.add_zero] at k0 k1 k2 k3
        have hgl := World.block_lt_of_cell? wr _ k0
        simp only at hgl
        have hu0 : (0 : Int) ≤ (j : Int) := by omega
        have hu1 : (j : Int) < (x.bs.length : Int) := by omega
        have hbz : w.heap.size < wr.heap.size := World.block_lt_of_cell? wr _ b1
        have HLN : Hid (p2.length + wtBn y ≤ 1000000000) := hide (by have := HLN0.out; have := HD1.out.2.2; have := HO.out; first | omega | (simp only [List.length_cons, List.length_nil] at *; omega))
        clear hc hxl HLN0
        have HG : Hid (∀ z ∈ ([y.v, y.t, y.s, y.q] : List Int), inI z) := hide (by intro z hz; simp at hz; rcases hz with rfl | rfl | rfl | rfl <;> assumption)
        have HRL := hide (raw_len HG.out)
        have HEN : Hid (eBnd y = .ok (([y.v, y.t, y.s, y.q] : List Int).flatMap num)) := hide (eBnd_raw y)
        have HR1 := hide (HR.out.laid (.cells #[.int .i64 y.v, .int .i64 y.t, .int .i64 y.s, .int .i64 y.q] 156))
        have hI := Rx.new HR1.out (ints [y.v, y.t, y.s, y.q]) 3
        rw [World.size_alloc] at hI
        have HI := hide hI
        have HR2 := hide (HR1.out.laid (.cells (ints [y.v, y.t, y.s, y.q]).toArray 3))
        have HTX := hide ((HTL.out.trans (Rt.laid HR.out (.cells #[.int .i64 y.v, .int .i64 y.t, .int .i64 y.s, .int .i64 y.q] 156))).trans (Rt.laid HR1.out (.cells (ints [y.v, y.t, y.s, y.q]).toArray 3)))
        have HCL := hide (rnumber_any F p2 0 _ [y.v, y.t, y.s, y.q] (wr.heap.size + 1) 4 HG.out HI.out HR2.out (by simp) (by have := HLN.out; unfold wtBn at this; simp only [List.length_cons, List.length_nil]; omega))
        clear hI
        go_wp2_with fail
        refine HCL.out.mono ?_
        rintro en w8 ⟨rfl, hr, ht⟩
        clear HCL HI k0 k1 k2 k3 c1 b1
        have HN2 := hide (HNX.out w8 _ _ (by rw [HEN.out]; exact Wd.raw (by have := HRL.out; unfold wtBn; simpa using this) _ 0) hr (HTX.out.trans ht))
        clear hr ht
        go_wp2
        go_roundw
        case rel => exact ⟨j + 1, by omega, by go_num, HN2⟩
        case measure => simp [intOf]; omega
      · have te : (f2 == 0) = false := beq_eq_false_iff_ne.2 he
        have HD2 := hide (rl_stop2 he HDD.out)
        clear HDD HTL HB0 HT0
        obtain ⟨w2, rfl⟩ : ∃ z : World, z = wr := ⟨_, rfl⟩
        obtain ⟨-, hx⟩ := HB.out
        have b2 := hx 2 _ rfl
        clear hx
        have HIN : Hid (inI (x.ss.length : Int)) := hide (by have := HHLB.out.len; unfold maxLen at this; unfold inI; omega)
        have HLEN : Hid (x.ss.length ≤ 9223372036854775807) := hide (by have := HHLB.out.len; unfold maxLen at this; exact this)
        have hlen := HLEN.out
        have HCL := hide (rlength_any F p2 f2 w2 x.ss.length hlen HR.out (by have := HD1.out.2.2; have := HD2.out.2.2; have := HO.out; first | omega | (simp only [List.length_cons, List.length_nil] at *; omega)))
        go_wp2_with fail
        refine HCL.out.mono ?_
        rintro en w3 ⟨rfl, hr, ht⟩
        have HP : Hid (RL F eSrt wtSr x.ss p2 f2 w2 0 w3) := hide (RL.start rfl HIN.out hr ht)
        have HB0 := HB
        have HT0 := HT
        clear hr ht HCL HR b2 HB HT
        go_wp2_with fail
        go_loopw [6] (fun i wr => ∃ j : Nat, j ≤ x.ss.length ∧ i = .int .i64 j ∧ Hid (RL F eSrt wtSr x.ss p2 f2 w2 j wr)) (fun i _ => x.ss.length - (intOf i).toNat)
        case atStart => exact ⟨0, Nat.zero_le _, rfl, HP⟩
        case round =>
          clear HP
          obtain ⟨j, hj, rfl, HP⟩ := hrel
          obtain ⟨p3, f3, hr, ht, hdd⟩ := HP.out
          have HR := hide hr
          have HTL := hide ht
          have HB := hide (HB0.out.keep ht)
          have HT := hide (HT0.out.trans ht)
          have HDD := hide hdd
          have c1 := hr.c1
          have b2 := HB.out.2 2 _ rfl
          clear hr ht hdd HP
          by_cases hlt : j < x.ss.length
          · by_cases he : f3 = 0
            · subst he
              obtain ⟨hl, hd⟩ : ¬ 4096 < x.ss.length ∧ Wd (andE (eN x.ss.length) (eMany eSrt (x.ss.take j))) (10 + wtS wtSr (x.ss.take j)) p2 f2 p3 0 := by
                rcases HDD.out with ⟨h, -⟩ | ⟨-, h⟩
                · exact absurd rfl h
                · exact h
              have HD := hide hd
              obtain ⟨g, off, xs, e2, hg, hxl, hc, hR⟩ := (HHLB.out.keep rd_Sr HT.out.kpl).at_ hlt
              cases e2
              have HNX := hide (fun (w' : World) (o'' : Bs) (e'' : Int) h1 h2 h3 => RL.next (F := F) (w := w2) (w' := w') (o'' := o'') (e'' := e'') hlt hl HD.out h1 h2 h3)
              have HLN0 := hide (wtS_get (wt := wtSr) hlt (N := 1000000000 - p2.length) (n := p3.length - p2.length) (by have := HD.out.2.2; omega) (by have := HD1.out.2.2; have := HD2.out.2.2; have := HO.out; first | omega | (simp only [List.length_cons, List.length_nil] at *; omega)))
              obtain ⟨y, hy⟩ : ∃ y, x.ss[j] = y := ⟨_, rfl⟩
              rw [hy] at hR HNX HLN0
              clear hy hl hd
              obtain ⟨rfl, g1, g2⟩ := hR
              have k0 := hc 0 _ rfl
              have k1 := hc 1 _ rfl
              simp only [Nat.add_zero] at k0 k1
              have hgl := World.block_lt_of_cell? wr _ k0
              simp only at hgl
              have hu0 : (0 : Int) ≤ (j : Int) := by omega
              have hu1 : (j : Int) < (x.ss.length : Int) := by omega
              have hbz : w.heap.size < wr.heap.size := World.block_lt_of_cell? wr _ b2
              have HLN : Hid (p3.length + wtSr y ≤ 1000000000) := hide (by have := HLN0.out; have := HD1.out.2.2; have := HD2.out.2.2; have := HO.out; first | omega | (simp only [List.length_cons, List.length_nil] at *; omega))
              clear hc hxl HLN0
              have HG : Hid (∀ z ∈ ([y.s, y.t] : List Int), inI z) := hide (by intro z hz; simp at hz; rcases hz with rfl | rfl <;> assumption)
              have HRL := hide (raw_len HG.out)
              have HEN : Hid (eSrt y = .ok (([y.s, y.t] : List Int).flatMap num)) := hide (eSrt_raw y)
              have hgF : g ≠ F := by have : g < F := hg; omega
              have HR1 := hide HR.out.drewR
              have HI := hide (Rx.new HR1.out (ints [y.s, y.t]) 3)
              have HR2 := hide (HR1.out.laid (.cells (ints [y.s, y.t]).toArray 3))
              have HTX := hide (HTL.out.trans (Rt.laid HR1.out (.cells (ints [y.s, y.t]).toArray 3)).undrew)
              have HCL := hide (rnumber_any F p3 0 _ [y.s, y.t] wr.heap.size 2 HG.out HI.out HR2.out (by simp) (by have := HLN.out; unfold wtSr at this; simp only [List.length_cons, List.length_nil]; omega))
              go_wp2_with fail
              go_region_held3 (fun w' => w'.cell? ⟨w.heap.size, 2, none⟩ = some (.slice (some ⟨g, off, none⟩) x.ss.length cp2) ∧ w'.cell? ⟨g, off + j * 2, none⟩ = some (.int .i64 y.s) ∧ w'.cell? ⟨g, off + j * 2 + 1, none⟩ = some (.int .i64 y.t))
                (first | (go_keep; done))
                (first | (go_at_call 41; refine HCL.out.mono ?_; rintro en w8 ⟨rfl, hr, ht⟩; have htx := (Rt.laid HR1.out (.cells (ints [y.s, y.t]).toArray 3)).undrew.trans ht; have mb := htx.kp.cell (p := ⟨w.heap.size, 2, none⟩) HB.out.1 b2; have m0 := htx.kp.cell (p := ⟨g, _, none⟩) hgF k0; have m1 := htx.kp.cell (p := ⟨g, _, none⟩) hgF k1))
              have HN2 := hide (HNX.out w8 _ _ (by rw [HEN.out]; exact Wd.raw (by have := HRL.out; unfold wtSr; simpa using this) _ 0) hr (HTX.out.trans ht))
              clear hr ht
              go_wp2
              go_roundw
              case rel => exact ⟨j + 1, by omega, by go_num, HN2⟩
              case measure => simp [intOf]; omega
            · have te : (f3 == 0) = false := beq_eq_false_iff_ne.2 he
              have HD3 := hide (rl_stop2 he HDD.out)
              clear HDD HTL HB0 HT0
              obtain ⟨w3, rfl⟩ : ∃ z : World, z = wr := ⟨_, rfl⟩
              go_wp2
              go_end0
              refine ⟨rfl, _, _, ?_, HR.out, HT.out⟩
              rw [eCf_one]
              exact Wd.more (HD1.out.and (HD2.out.and HD3.out)) (by unfold wtCf; (try simp only [List.length_cons, List.length_nil]); omega)
          · obtain rfl : j = x.ss.length := by omega
            have HD3 := hide (rl_done (Nat.le_refl _) HDD.out)
            clear HDD HTL HB0 HT0
            obtain ⟨w3, rfl⟩ : ∃ z : World, z = wr := ⟨_, rfl⟩
            go_wp2
            go_end0
            refine ⟨rfl, _, _, ?_, HR.out, HT.out⟩
            rw [eCf_one]
            exact Wd.more (HD1.out.and (HD2.out.and HD3.out)) (by unfold wtCf; (try simp only [List.length_cons, List.length_nil]); omega)
    · obtain rfl : j = x.bs.length := by omega
      have HD2 := hide (rl_done (Nat.le_refl _) HDD.out)
      clear HDD HTL HB0 HT0
      obtain ⟨w2, rfl⟩ : ∃ z : World, z = wr := ⟨_, rfl⟩
      obtain ⟨-, hx⟩ := HB.out
      have b2 := hx 2 _ rfl
      clear hx
      have HIN : Hid (inI (x.ss.length : Int)) := hide (by have := HHLB.out.len; unfold maxLen at this; unfold inI; omega)
      have HLEN : Hid (x.ss.length ≤ 9223372036854775807) := hide (by have := HHLB.out.len; unfold maxLen at this; exact this)
      have hlen := HLEN.out
      have HCL := hide (rlength_any F p2 f2 w2 x.ss.length hlen HR.out (by have := HD1.out.2.2; have := HD2.out.2.2; have := HO.out; first | omega | (simp only [List.length_cons, List.length_nil] at *; omega)))
      go_wp2_with fail
      refine HCL.out.mono ?_
      rintro en w3 ⟨rfl, hr, ht⟩
      have HP : Hid (RL F eSrt wtSr x.ss p2 f2 w2 0 w3) := hide (RL.start rfl HIN.out hr ht)
      have HB0 := HB
      have HT0 := HT
      clear hr ht HCL HR b2 HB HT
      go_wp2_with fail
      go_loopw [6] (fun i wr => ∃ j : Nat, j ≤ x.ss.length ∧ i = .int .i64 j ∧ Hid (RL F eSrt wtSr x.ss p2 f2 w2 j wr)) (fun i _ => x.ss.length - (intOf i).toNat)
      case atStart => exact ⟨0, Nat.zero_le _, rfl, HP⟩
      case round =>
        clear HP
        obtain ⟨j, hj, rfl, HP⟩ := hrel
        obtain ⟨p3, f3, hr, ht, hdd⟩ := HP.out
        have HR := hide hr
        have HTL := hide ht
        have HB := hide (HB0.out.keep ht)
        have HT := hide (HT0.out.trans ht)
        have HDD := hide hdd
        have c1 := hr.c1
        have b2 := HB.out.2 2 _ rfl
        clear hr ht hdd HP
        by_cases hlt : j < x.ss.length
        · by_cases he : f3 = 0
          · subst he
            obtain ⟨hl, hd⟩ : ¬ 4096 < x.ss.length ∧ Wd (andE (eN x.ss.length) (eMany eSrt (x.ss.take j))) (10 + wtS wtSr (x.ss.take j)) p2 f2 p3 0 := by
              rcases HDD.out with ⟨h, -⟩ | ⟨-, h⟩
              · exact absurd rfl h
              · exact h
            have HD := hide hd
            obtain ⟨g, off, xs, e2, hg, hxl, hc, hR⟩ := (HHLB.out.keep rd_Sr HT.out.kpl).at_ hlt
            cases e2
            have HNX := hide (fun (w' : World) (o'' : Bs) (e'' : Int) h1 h2 h3 => RL.next (F := F) (w := w2) (w' := w') (o'' := o'') (e'' := e'') hlt hl HD.out h1 h2 h3)
            have HLN0 := hide (wtS_get (wt := wtSr) hlt (N := 1000000000 - p2.length) (n := p3.length - p2.length) (by have := HD.out.2.2; omega) (by have := HD1.out.2.2; have := HD2.out.2.2; have := HO.out; first | omega | (simp only [List.length_cons, List.length_nil] at *; omega)))
            obtain ⟨y, hy⟩ : ∃ y, x.ss[j] = y := ⟨_, rfl⟩
            rw [hy] at hR HNX HLN0
            clear hy hl hd
            obtain ⟨rfl, g1, g2⟩ := hR
            have k0 := hc 0 _ rfl
            have k1 := hc 1 _ rfl
            simp only [Nat.add_zero] at k0 k1
            have hgl := World.block_lt_of_cell? wr _ k0
            simp only at hgl
            have hu0 : (0 : Int) ≤ (j : Int) := by omega
            have hu1 : (j : Int) < (x.ss.length : Int) := by omega
            have hbz : w.heap.size < wr.heap.size := World.block_lt_of_cell? wr _ b2
            have HLN : Hid (p3.length + wtSr y ≤ 1000000000) := hide (by have := HLN0.out; have := HD1.out.2.2; have := HD2.out.2.2; have := HO.out; first | omega | (simp only [List.length_cons, List.length_nil] at *; omega))
            clear hc hxl HLN0
            have HG : Hid (∀ z ∈ ([y.s, y.t] : List Int), inI z) := hide (by intro z hz; simp at hz; rcases hz with rfl | rfl <;> assumption)
            have HRL := hide (raw_len HG.out)
            have HEN : Hid (eSrt y = .ok (([y.s, y.t] : List Int).flatMap num)) := hide (eSrt_raw y)
            have hgF : g ≠ F := by have : g < F := hg; omega
            have HR1 := hide HR.out.drewR
            have HI := hide (Rx.new HR1.out (ints [y.s, y.t]) 3)
            have HR2 := hide (HR1.out.laid (.cells (ints [y.s, y.t]).toArray 3))
            have HTX := hide (HTL.out.trans (Rt.laid HR1.out (.cells (ints [y.s, y.t]).toArray 3)).undrew)
            have HCL := hide (rnumber_any F p3 0 _ [y.s, y.t] wr.heap.size 2 HG.out HI.out HR2.out (by simp) (by have := HLN.out; unfold wtSr at this; simp only [List.length_cons, List.length_nil]; omega))
            go_wp2_with fail
            go_region_held3 (fun w' => w'.cell? ⟨w.heap.size, 2, none⟩ = some (.slice (some ⟨g, off, none⟩) x.ss.length cp2) ∧ w'.cell? ⟨g, off + j * 2, none⟩ = some (.int .i64 y.s) ∧ w'.cell? ⟨g, off + j * 2 + 1, none⟩ = some (.int .i64 y.t))
              (first | (go_keep; done))
              (first | (go_at_call 41; refine HCL.out.mono ?_; rintro en w8 ⟨rfl, hr, ht⟩; have htx := (Rt.laid HR1.out (.cells (ints [y.s, y.t]).toArray 3)).undrew.trans ht; have mb := htx.kp.cell (p := ⟨w.heap.size, 2, none⟩) HB.out.1 b2; have m0 := htx.kp.cell (p := ⟨g, _, none⟩) hgF k0; have m1 := htx.kp.cell (p := ⟨g, _, none⟩) hgF k1))
            have HN2 := hide (HNX.out w8 _ _ (by rw [HEN.out]; exact Wd.raw (by have := HRL.out; unfold wtSr; simpa using this) _ 0) hr (HTX.out.trans ht))
            clear hr ht
            go_wp2
            go_roundw
            case rel => exact ⟨j + 1, by omega, by go_num, HN2⟩
            case measure => simp [intOf]; omega
          · have te : (f3 == 0) = false := beq_eq_false_iff_ne.2 he
            have HD3 := hide (rl_stop2 he HDD.out)
            clear HDD HTL HB0 HT0
            obtain ⟨w3, rfl⟩ : ∃ z : World, z = wr := ⟨_, rfl⟩
            go_wp2
            go_end0
            refine ⟨rfl, _, _, ?_, HR.out, HT.out⟩
            rw [eCf_one]
            exact Wd.more (HD1.out.and (HD2.out.and HD3.out)) (by unfold wtCf; (try simp only [List.length_cons, List.length_nil]); omega)
        · obtain rfl : j = x.ss.length := by omega
          have HD3 := hide (rl_done (Nat.le_refl _) HDD.out)
          clear HDD HTL HB0 HT0
          obtain ⟨w3, rfl⟩ : ∃ z : World, z = wr := ⟨_, rfl⟩
          go_wp2
          go_end0
          refine ⟨rfl, _, _, ?_, HR.out, HT.out⟩
          rw [eCf_one]
          exact Wd.more (HD1.out.and (HD2.out.and HD3.out)) (by unfold wtCf; (try simp only [List.length_cons, List.length_nil]); omega)
end
end Go.Proofs.YtofdcgojgcnopaaGreat

namespace Go.Proofs.YtofdcgojgcnopaaGreat
open Go.RowKit Go.Lib
set_option linter.unusedVariables false
set_option linter.unusedSimpArgs false
section
variable (F : Nat) (o : Bs) (e : Int) (w : World)
set_option maxRecDepth 100000 in
set_option maxHeartbeats 16000000 in
theorem ren_any (x : Eng) (xs : List Value) (hx : REnW w (· < F) xs x) (h : Rw w F o e) (ho : o.length + wtEn x ≤ 1000000000) :
    Calls Tryz.prog 46 #[.pointer (some ⟨F, 0, none⟩), .agg xs.toArray] w (Rws F (eEng x) (wtEn x) o e w) := by
  obtain ⟨u, v, t, rfl, hla, hlb, hlc, g1⟩ := hx
  obtain ⟨A1, cp1, rfl⟩ := hla.form
  obtain ⟨A2, cp2, rfl⟩ := hlb.form
  obtain ⟨A3, cp3, rfl⟩ := hlc.form
  unfold wtEn at ho
  have HO := hide ho
  have HB := hide (Rx.new h [.int .i64 x.mark, .slice A1 x.wait.length cp1, .slice A2 x.runs.length cp2, .slice A3 x.held.length cp3] 53)
  have HT := hide (Rt.laid h (.cells #[.int .i64 x.mark, .slice A1 x.wait.length cp1, .slice A2 x.runs.length cp2, .slice A3 x.held.length cp3] 53))
  have HR := hide (h.laid (.cells #[.int .i64 x.mark, .slice A1 x.wait.length cp1, .slice A2 x.runs.length cp2, .slice A3 x.held.length cp3] 53))
  have HHLA := hide hla
  have HHLB := hide hlb
  have HHLC := hide hlc
  clear h ho hla hlb hlc
  go_enter Tryz.func46, Tryz.ntmps46
  obtain ⟨-, hx⟩ := HB.out
  have b0 := hx 0 _ rfl
  clear hx
  have HG : Hid (∀ y ∈ ([x.mark] : List Int), inI y) := hide (by intro y hy; simp at hy; subst hy; assumption)
  have HLN := hide (raw_len HG.out)
  have hI := Rx.new HR.out (ints [x.mark]) 3
  rw [World.size_alloc] at hI
  have HI := hide hI
  clear hI
  have HR0 := hide (HR.out.laid (.cells (ints [x.mark]).toArray 3))
  replace HT := hide (HT.out.trans (Rt.laid HR.out (.cells (ints [x.mark]).toArray 3)))
  replace HB := hide (HB.out.keep (Rt.laid HR.out (.cells (ints [x.mark]).toArray 3)))
  have HCL := hide (rnumber_any F o e _ [x.mark] _ 1 HG.out HI.out HR0.out (by simp) (by simp only [List.length_cons, List.length_nil]; have := HO.out; first | omega | (simp only [List.length_cons, List.length_nil] at *; omega)))
  go_wp2_with fail
  refine HCL.out.mono ?_
  rintro en w1 ⟨rfl, hr, ht⟩
  have HD1 := hide (Wd.raw HLN.out o e)
  replace HR := hide hr
  replace HB := hide (HB.out.keep ht)
  replace HT := hide (HT.out.trans ht)
  clear hr ht HCL HI HR0 HG HLN b0
  obtain ⟨-, hx⟩ := HB.out
  have b1 := hx 1 _ rfl
  clear hx
  have HCL := hide (revents_any F (o ++ ([x.mark] : List Int).flatMap num) e _ _ _ HR.out (HHLA.out.keep rd_Ev HT.out.kpl) (by have := HD1.out.2.2; have := HO.out; first | omega | (simp only [List.length_cons, List.length_nil] at *; omega)))
  go_wp2_with fail
  refine HCL.out.mono ?_
  rintro en w2 ⟨rfl, o2, e2, hd, hr, ht⟩
  have HD2 := hide hd
  clear hd
  replace HR := hide hr
  replace HB := hide (HB.out.keep ht)
  replace HT := hide (HT.out.trans ht)
  clear hr ht HCL b1
  obtain ⟨-, hx⟩ := HB.out
  have b2 := hx 2 _ rfl
  clear hx
  have HIN : Hid (inI (x.runs.length : Int)) := hide (by have := HHLB.out.len; unfold maxLen at this; unfold inI; omega)
  have HLEN : Hid (x.runs.length ≤ 9223372036854775807) := hide (by have := HHLB.out.len; unfold maxLen at this; exact this)
  have hlen := HLEN.out
  have HCL := hide (rlength_any F o2 e2 w2 x.runs.length hlen HR.out (by have := HD1.out.2.2; have := HD2.out.2.2; have := HO.out; first | omega | (simp only [List.length_cons, List.length_nil] at *; omega)))
  go_wp2_with fail
  refine HCL.out.mono ?_
  rintro en w3 ⟨rfl, hr, ht⟩
  have HP : Hid (RL F eCfg wtCf x.runs o2 e2 w2 0 w3) := hide (RL.start rfl HIN.out hr ht)
  have HB0 := HB
  have HT0 := HT
  clear hr ht HCL HR b2 HB HT
  go_wp2_with fail
  go_loopw [4] (fun i wr => ∃ j : Nat, j ≤ x.runs.length ∧ i = .int .i64 j ∧ Hid (RL F eCfg wtCf x.runs o2 e2 w2 j wr)) (fun i _ => x.runs.length - (intOf i).toNat)
  case atStart => exact ⟨0, Nat.zero_le _, rfl, HP⟩
  case round =>
    clear HP
    obtain ⟨j, hj, rfl, HP⟩ := hrel
    obtain ⟨p3, f3, hr, ht, hdd⟩ := HP.out
    have HR := hide hr
    have HTL := hide ht
    have HB := hide (HB0.out.keep ht)
    have HT := hide (HT0.out.trans ht)
    have HDD := hide hdd
    have c1 := hr.c1
    have b2 := HB.out.2 2 _ rfl
    clear hr ht hdd HP
    by_cases hlt : j < x.runs.length
    · by_cases he : f3 = 0
      · subst he
        obtain ⟨hl, hd⟩ : ¬ 4096 < x.runs.length ∧ Wd (andE (eN x.runs.length) (eMany eCfg (x.runs.take j))) (10 + wtS wtCf (x.runs.take j)) o2 e2 p3 0 := by
          rcases HDD.out with ⟨h, -⟩ | ⟨-, h⟩
          · exact absurd rfl h
          · exact h
        have HD := hide hd
        obtain ⟨g, off, xs, e2, hg, hxl, hc, hR⟩ := (HHLB.out.keep rd_Cf HT.out.kpl).at_ hlt
        cases e2
        have HNX := hide (fun (w' : World) (o'' : Bs) (e'' : Int) h1 h2 h3 => RL.next (F := F) (w := w2) (w' := w') (o'' := o'') (e'' := e'') hlt hl HD.out h1 h2 h3)
        have HLN0 := hide (wtS_get (wt := wtCf) hlt (N := 1000000000 - o2.length) (n := p3.length - o2.length) (by have := HD.out.2.2; omega) (by have := HD1.out.2.2; have := HD2.out.2.2; have := HO.out; first | omega | (simp only [List.length_cons, List.length_nil] at *; omega)))
        obtain ⟨y, hy⟩ : ∃ y, x.runs[j] = y := ⟨_, rfl⟩
        rw [hy] at hR HNX HLN0
        clear hy hl hd
        obtain ⟨va, vb, rfl, hla9, hlb9, g1⟩ := hR
        obtain ⟨A8, c8, rfl⟩ := hla9.form
        obtain ⟨A9, c9, rfl⟩ := hlb9.form
        have k0 := hc 0 _ rfl
        have k1 := hc 1 _ rfl
        have k2 := hc 2 _ rfl
        simp only [Nat.add_zero] at k0 k1 k2
        have hgl := World.block_lt_of_cell? wr _ k0
        simp only at hgl
        have hu0 : (0 : Int) ≤ (j : Int) := by omega
        have hu1 : (j : Int) < (x.runs.length : Int) := by omega
        have hbz : w.heap.size < wr.heap.size := World.block_lt_of_cell? wr _ b2
        have HLN : Hid (p3.length + wtCf y ≤ 1000000000) := hide (by have := HLN0.out; have := HD1.out.2.2; have := HD2.out.2.2; have := HO.out; first | omega | (simp only [List.length_cons, List.length_nil] at *; omega))
        clear hc hxl HLN0
        have HCL := hide (rcf_any F p3 0 wr y _ ⟨_, _, rfl, hla9, hlb9, g1⟩ HR.out HLN.out)
        go_wp2_with fail
        refine HCL.out.mono ?_
        rintro en w8 ⟨rfl, o8, e8, hd8, hr, ht⟩
        have HN2 := hide (HNX.out w8 o8 e8 hd8 hr (HTL.out.trans ht))
        clear hd8 hr ht HCL k0 k1 k2 c1 b2
        go_wp2
        go_roundw
        case rel => exact ⟨j + 1, by omega, by go_num, HN2⟩
        case measure => simp [intOf]; omega
      · have te : (f3 == 0) = false := beq_eq_false_iff_ne.2 he
        have HD3 := hide (rl_stop2 he HDD.out)
        clear HDD HTL HB0 HT0
        obtain ⟨w3, rfl⟩ : ∃ z : World, z = wr := ⟨_, rfl⟩
        obtain ⟨-, hx⟩ := HB.out
        have b3 := hx 3 _ rfl
        clear hx
        have HCL := hide (revents_any F p3 f3 _ _ _ HR.out (HHLC.out.keep rd_Ev HT.out.kpl) (by have := HD1.out.2.2; have := HD2.out.2.2; have := HD3.out.2.2; have := HO.out; first | omega | (simp only [List.length_cons, List.length_nil] at *; omega)))
        go_wp2_with fail
        refine HCL.out.mono ?_
        rintro en w4 ⟨rfl, o4, e4, hd, hr, ht⟩
        have HD4 := hide hd
        clear hd
        replace HR := hide hr
        replace HB := hide (HB.out.keep ht)
        replace HT := hide (HT.out.trans ht)
        clear hr ht HCL b3
        go_wp2
        go_end0
        refine ⟨rfl, _, _, ?_, HR.out, HT.out⟩
        rw [eEn_one]
        exact Wd.more (HD1.out.and (HD2.out.and (HD3.out.and HD4.out))) (by unfold wtEn; (try simp only [List.length_cons, List.length_nil]); omega)
    · obtain rfl : j = x.runs.length := by omega
      have HD3 := hide (rl_done (Nat.le_refl _) HDD.out)
      clear HDD HTL HB0 HT0
      obtain ⟨w3, rfl⟩ : ∃ z : World, z = wr := ⟨_, rfl⟩
      obtain ⟨-, hx⟩ := HB.out
      have b3 := hx 3 _ rfl
      clear hx
      have HCL := hide (revents_any F p3 f3 _ _ _ HR.out (HHLC.out.keep rd_Ev HT.out.kpl) (by have := HD1.out.2.2; have := HD2.out.2.2; have := HD3.out.2.2; have := HO.out; first | omega | (simp only [List.length_cons, List.length_nil] at *; omega)))
      go_wp2_with fail
      refine HCL.out.mono ?_
      rintro en w4 ⟨rfl, o4, e4, hd, hr, ht⟩
      have HD4 := hide hd
      clear hd
      replace HR := hide hr
      replace HB := hide (HB.out.keep ht)
      replace HT := hide (HT.out.trans ht)
      clear hr ht HCL b3
      go_wp2
      go_end0
      refine ⟨rfl, _, _, ?_, HR.out, HT.out⟩
      rw [eEn_one]
      exact Wd.more (HD1.out.and (HD2.out.and (HD3.out.and HD4.out))) (by unfold wtEn; (try simp only [List.length_cons, List.length_nil]); omega)
end
end Go.Proofs.YtofdcgojgcnopaaGreat
