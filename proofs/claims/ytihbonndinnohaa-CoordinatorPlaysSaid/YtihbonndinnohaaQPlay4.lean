/- The law's function 'ready'. -/
import Derived.Test.YtihbonndinnohaaQPlay3
namespace Go.Proofs.Ytihbonndinnohaa
open Go.RowKit
set_option linter.unusedVariables false
set_option linter.unusedSimpArgs false
def RetOpN (w : World) (n : Int) (e : Ending) (w' : World) : Prop := ∃ g, e = .returned (.agg #[.slice (some ⟨g, 0, none⟩) 1 1, .slice none 0 0]) ∧ ROq w' (fun b => w.heap.size ≤ b ∧ b < w'.heap.size) [.slice (some ⟨g, 0, none⟩) 1 1, .slice none 0 0] (mk1 n) ∧ Below w.heap.size w w'
set_option maxHeartbeats 1000000 in
theorem opr_new (w : World) (n : Int) : Calls Try.prog 29 #[.int .i64 n] w (RetOpN w n) := by
  go_enter Try.func29, Try.ntmps29
  go_wp2
  refine bodyPost_ret (v := .agg #[.slice (some ⟨w.heap.size + 1, 0, none⟩) 1 1, .slice none 0 0]) (by rw [results_c rfl]; go_simp) rfl ?_
  refine ⟨w.heap.size + 1, rfl, ⟨_, _, rfl, ⟨⟨_, 1, rfl, Nat.le_refl _, by simp [mk1, maxLen]⟩, fun j hj => ?_⟩, Lst.nil, by simp [mk1], by simp [mk1]⟩, bA_alloc (below_laid _) _⟩
  have hj0 : j = 0 := by simp [mk1] at hj; omega
  subst hj0
  refine ⟨w.heap.size + 1, 0, 1, [.int .i64 n], rfl, by simp, rfl, fun c u hu => ?_, rfl⟩
  have := cells_lit (w.alloc (.cells #[.slice (some ⟨w.heap.size + 1, 0, none⟩) 1 1, .slice none 0 0] 42)) [.int .i64 n] 3 c u hu
  simpa using this
theorem mk1_opN {k du : Nat} : mk1 ((100 * (k : Int) + (du : Int)) + 1) = opN (100 * k + (du + 1)) := by
  unfold mk1 opN
  simp only [Oq.mk.injEq, List.cons.injEq, and_true]
  omega
theorem rds_lst (w : World) (t : TypeId) (m : Int) : Lq (w.alloc (.cells #[.int .i64 0, .int .i64 m, .int .i64 0, .slice none 0 0, .slice none 0 0, .int .i64 0] t)) 6 RRq (.slice (some ⟨w.heap.size, 0, none⟩) 1 1) [⟨0, m⟩] := by
  refine ⟨⟨_, 1, rfl, Nat.le_refl _, by simp [maxLen]⟩, fun j hj => ?_⟩
  have hj0 : j = 0 := by simp at hj; omega
  subst hj0
  refine ⟨w.heap.size, 0, 1, [.int .i64 0, .int .i64 m, .int .i64 0, .slice none 0 0, .slice none 0 0, .int .i64 0], rfl, by simp, rfl, fun c u hu => ?_, 0, 0, none, none, 0, 0, 0, 0, rfl⟩
  have := cells_lit w [.int .i64 0, .int .i64 m, .int .i64 0, .slice none 0 0, .slice none 0 0, .int .i64 0] t c u hu
  simpa using this
section
variable (w : World)
set_option maxRecDepth 100000 in
set_option maxHeartbeats 8000000 in
theorem ready_law (A : Option Addr) (al q e cap nx du : Nat) (D : List Nat) (h : CoV w (.agg #[.int .i64 (nx : Int), .slice A al q, .int .i64 (du : Int)]) (stQ nx du D)) (hd : Bl w e (nums D)) (hi : IP nx du D) :
    Calls Try.prog 31 #[.agg #[.int .i64 (nx : Int), .slice A al q, .int .i64 (du : Int)], .slice (some ⟨e, 0, none⟩) D.length cap, .int .i64 (du : Int)] w (Ret (.bool true) w) := by
  obtain ⟨w0, hw0⟩ : ∃ x, w.alloc (.cells #[.int .i64 (nx : Int), .slice A al q, .int .i64 (du : Int)] 24) = x := ⟨_, rfl⟩
  have HC0 := hide (h.laid (.cells #[.int .i64 (nx : Int), .slice A al q, .int .i64 (du : Int)] 24))
  have HX0 := hide (Bl.new w [.int .i64 (nx : Int), .slice A al q, .int .i64 (du : Int)] 24)
  have HD0 := hide (hd.laid (.cells #[.int .i64 (nx : Int), .slice A al q, .int .i64 (du : Int)] 24))
  have HB0 := hide (below_laid (w := w) (.cells #[.int .i64 (nx : Int), .slice A al q, .int .i64 (du : Int)] 24))
  rw [hw0] at HC0 HX0 HD0 HB0
  have HR := hide (p_rdy HC0.out hi)
  have hn1 := hi.n1
  have hn3 := hi.n3
  have hdu : du ≤ 100 := by have := hi.dn; have := hi.few; omega
  have HMN := hide (fun (w' : World) (hb : Below w0.heap.size w0 w') => min_any w' e cap D (HD0.out.keep hb) hn1 hn3 (fun k hk => by have := hi.hi k hk; have := hi.few; omega))
  obtain ⟨n, hn⟩ : ∃ n, D.length = n := ⟨_, rfl⟩
  have HN := hide hn
  rw [hn] at HMN hn1 hn3 ⊢
  have x0 := HX0.out.c 0 _ rfl
  have x1 := HX0.out.c 1 _ rfl
  have x2 := HX0.out.c 2 _ rfl
  obtain ⟨i1, hi1, hz10, hz11, hz12⟩ := info_parts iq_operator
  clear h hd hi hn
  go_enter Try.func31, Try.ntmps31
  go_wp2_with fail
  clear hw0
  refine HR.out.mono ?_
  rintro r w1 ⟨v1, u1, rfl, l1, l2, hb⟩
  obtain ⟨A1, c1, rfl⟩ := l1.form
  obtain ⟨A2, c2, rfl⟩ := l2.form
  have HL1 := hide l1
  have HL2 := hide l2
  have HB1 := hide hb
  clear l1 l2 hb HR HX0 HD0 HC0 x0 x1 x2
  cases hm : minD D du with
  | false =>
    rw [hm] at HL1 HL2
    simp only [hm, Bool.false_eq_true, if_false, List.length_nil] at HL1 HL2 ⊢
    have HS := hide (HMN.out (w1.alloc (.cells #[.int .i64 0, .slice A1 0 c1, .slice A2 0 c2] 54)) (bA_alloc HB1.out _))
    go_wp2_with fail
    refine HS.out.mono ?_
    rintro r w2 ⟨v, rfl, hv, hb⟩
    have t1 : decide ((du : Int) < (v : Int)) = false := (isMin_min hv).trans hm
    have t1' : decide (du < v) = false := by rw [← t1]; exact decide_eq_decide.2 (by omega)
    have HB2 := hide (bthen HB0.out (bthen (bA_alloc HB1.out _) hb))
    have HX := hide ((Bl.new w1 [.int .i64 0, .slice A1 0 c1, .slice A2 0 c2] 54).keep hb)
    have y0 := HX.out.c 0 _ rfl
    have y1 := HX.out.c 1 _ rfl
    have y2 := HX.out.c 2 _ rfl
    clear hv hb HS
    go_wp2
    go_ret
    exact Ret.bool rfl HB2.out
  | true =>
    rw [hm] at HL1 HL2
    simp only [hm, if_true, List.length_cons, List.length_nil, List.length_map, List.length_range, Nat.zero_add, HN.out] at HL1 HL2 ⊢
    have HS := hide (HMN.out (w1.alloc (.cells #[.int .i64 ((du + 1 : Nat) : Int), .slice A1 1 c1, .slice A2 n c2] 54)) (bA_alloc HB1.out _))
    go_wp2_with fail
    refine HS.out.mono ?_
    rintro r w2 ⟨v, rfl, hv, hb⟩
    have t1 : decide ((du : Int) < (v : Int)) = true := (isMin_min hv).trans hm
    have t1' : decide (du < v) = true := by rw [← t1]; exact decide_eq_decide.2 (by omega)
    have HB2 := hide (bthen (bA_alloc HB1.out _) hb)
    have HX := hide ((Bl.new w1 [.int .i64 ((du + 1 : Nat) : Int), .slice A1 1 c1, .slice A2 n c2] 54).keep hb)
    have HL1' := hide (HL1.out.grow rd_Rq (bthen (below_laid (.cells #[.int .i64 ((du + 1 : Nat) : Int), .slice A1 1 c1, .slice A2 n c2] 54)) hb))
    have HL2' := hide (HL2.out.grow rd_Oq (bthen (below_laid (.cells #[.int .i64 ((du + 1 : Nat) : Int), .slice A1 1 c1, .slice A2 n c2] 54)) hb))
    obtain ⟨bx, hbx⟩ : ∃ b, w1.heap.size = b := ⟨_, rfl⟩
    rw [hbx] at HX ⊢
    clear hv hb HS HMN HL1 HL2 hm hbx
    have y0 := HX.out.c 0 _ rfl
    have y1 := HX.out.c 1 _ rfl
    have y2 := HX.out.c 2 _ rfl
    go_wp2
    go_loopw [10, 47] (fun v i wr => ∃ k : Nat, k ≤ n ∧ i = .int .i64 k ∧ Hid (Gq wr (fun _ => True) w2.heap.size 42 2 ROq v ((List.range k).map fun q => opN (100 * q + (du + 1)))) ∧ Hid (Below w2.heap.size w2 wr)) (fun _ i _ => n - (intOf i).toNat)
    case atStart => exact ⟨0, Nat.zero_le _, rfl, hide Gq.nil, hide (Below.refl _ _)⟩
    case round =>
      obtain ⟨k, hk, rfl, HG, HBW⟩ := hrel
      clear y0 y1 y2
      by_cases hlt : k < n
      · have HOP := hide (opr_new wr ((100 * (k : Int) + (du : Int)) + 1))
        go_wp2_with fail
        refine HOP.out.mono ?_
        rintro r w3 ⟨g, rfl, hro, hbo⟩
        rw [mk1_opN] at hro
        have hw2 := HBW.out.size
        have hw3 := hbo.size
        have HG3 := hide ((HG.out.keep rd_Oq hbo).keep rd_Oq (below_laid (.cells #[.slice (some ⟨g, 0, none⟩) 1 1, .slice none 0 0] 42)))
        have hlow := HG.out.low
        have HRO := hide (show ROq (w3.alloc (.cells #[.slice (some ⟨g, 0, none⟩) 1 1, .slice none 0 0] 42)) (fun b => True ∧ b < (w3.alloc (.cells #[.slice (some ⟨g, 0, none⟩) 1 1, .slice none 0 0] 42)).heap.size ∧ u10.ownBlock ≠ some b) [.slice (some ⟨g, 0, none⟩) 1 1, .slice none 0 0] (opN (100 * k + (du + 1))) from
          rd_Oq.more (fun b hz => ⟨trivial, by rw [World.size_alloc]; omega, fun e => by have := (hlow b e).2; omega⟩) (rd_Oq.keep (Kp.of_below (below_laid _)) hro))
        have HCL := hide (cells_lit w3 [.slice (some ⟨g, 0, none⟩) 1 1, .slice none 0 0] 42)
        have HBO := hide (bthen HBW.out (bA_alloc hbo (.cells #[.slice (some ⟨g, 0, none⟩) 1 1, .slice none 0 0] 42)))
        clear hro hbo hlow HG
        go_wp2_with (go_loud (at_builtin; refine wpList_append_gq rd_Oq rfl _ _ 48 rfl (fun _ => True) w2.heap.size 42 i1 _ 2 48 Try.underlying48 hi1 hz10 hz11 hz12 (by rfl) (by decide) u10 _ rfl HG3.out w3.heap.size rfl [.slice (some ⟨g, 0, none⟩) 1 1, .slice none 0 0] rfl HCL.out (by simp [Value.oneCell']) (opN (100 * k + (du + 1))) HRO.out (fun _ _ => trivial) (by simp; omega) (by decide) ?c3 ?_; (case c3 => exact Nat.le_trans hw2 (Nat.le_trans hw3 (by simp))); intro v4 w4 hg4 hgr4 hb4))
        have HG4 : Hid (Gq w4 (fun _ => True) w2.heap.size 42 2 ROq v4 ((List.range (k + 1)).map fun q => opN (100 * q + (du + 1)))) := hide (by rw [List.range_succ, List.map_append]; exact hg4)
        have HB4 := hide (HBO.out.trans hb4)
        clear hg4 hgr4 hb4 HG3 HRO HCL HBO
        go_wp2
        go_roundw
        case rel => exact ⟨k + 1, by omega, by go_num, HG4, HB4⟩
        case measure => simp [intOf]; omega
      · obtain rfl : k = n := by omega
        have HWL := hide (HG.out.lst rd_Oq (by decide) (by simp [maxLen]; omega))
        obtain ⟨A5, c5, e5⟩ := HG.out.form
        simp only [List.length_map, List.length_range] at e5
        subst e5
        have y0 := (HX.out.keep HBW.out).c 0 _ rfl
        have y1 := (HX.out.keep HBW.out).c 1 _ rfl
        have y2 := (HX.out.keep HBW.out).c 2 _ rfl
        have hbx9 : bx < wr.heap.size := (HX.out.keep HBW.out).lt
        have HLA := hide (below_laid (w := wr) (.cells #[.int .i64 0, .int .i64 ((du : Int) + 1), .int .i64 0, .slice none 0 0, .slice none 0 0, .int .i64 0] 68))
        have HLR := hide (rds_lst wr 68 ((du : Int) + 1))
        have HSM := hide (smp_any (wr.alloc (.cells #[.int .i64 0, .int .i64 ((du : Int) + 1), .int .i64 0, .slice none 0 0, .slice none 0 0, .int .i64 0] 68)) [⟨0, (du : Int) + 1⟩] ((List.range k).map fun q => opN (100 * q + (du + 1))) _ _ _ _ (HL1'.out.grow rd_Rq (bthen HBW.out HLA.out)) HLR.out (HL2'.out.grow rd_Oq (bthen HBW.out HLA.out)) ((show Lq wr 2 ROq _ _ from HWL.out.more rd_Oq fun _ h => h.2).grow rd_Oq HLA.out))
        clear HG
        go_wp2_with fail
        refine HSM.out.mono ?_
        rintro r w5 ⟨rfl, hb5⟩
        have HB5 := hide (bthen HB0.out (bthen HB2.out (bthen HBW.out (bthen HLA.out hb5))))
        go_wp2
        go_ret
        exact Ret.bool rfl HB5.out
end
end Go.Proofs.Ytihbonndinnohaa
