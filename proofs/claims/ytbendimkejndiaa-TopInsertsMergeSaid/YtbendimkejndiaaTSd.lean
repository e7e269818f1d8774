/- stream.sorted: the events of a list in order, each once. -/
import Derived.Test.YtbendimkejndiaaTSdP
namespace Go.Proofs.Ytbendimkejndiaa
open Go.RowKit
set_option linter.unusedVariables false
set_option linter.unusedSimpArgs false
set_option maxRecDepth 100000 in
set_option maxHeartbeats 8000000 in
theorem sorted_any (v : Value) (l : List Evt) (w : World) (hv : Lst w (· < w.heap.size) 5 REv0 v l) (hl : l.length ≤ 1000) (hvl : ∀ x ∈ l, x.vs.length ≤ 1000) : Calls Try.prog 28 #[v] w (RetSd l w) := by
  obtain ⟨i0, hi, hz0, hz1, hz2⟩ := info_parts iq_event
  obtain ⟨A, cap, rfl⟩ := hv.form
  have HV := hide hv
  have HVL := hide hvl
  obtain ⟨m, hm⟩ : ∃ m, l.length = m := ⟨_, rfl⟩
  rw [hm] at HV hl ⊢
  have HM := hide hm
  clear hv hm hvl
  have HS := hide (MapF.made 65 w)
  have hmk := @run_makeMap Try.prog
  have hB0 := hide (below_laid (w := w) (.map #[] 0))
  go_enter Try.func28, Try.ntmps28
  go_wp2_with fail
  obtain ⟨w0, hw0⟩ : ∃ w0, w.alloc (.map #[] 0) = w0 := ⟨_, rfl⟩
  rw [hw0] at HS hB0 ⊢
  clear hw0 hmk
  go_loopw [5, 13] (fun u i wr => ∃ (j : Nat) (o : List Evt) (f : Value → Option Value), j ≤ m ∧ i = .int .i64 j ∧ Hid (MapF 65 wr w.heap.size j f) ∧ Hid (FirstF w f o) ∧ Hid (ddp o (l.drop j) = ddp [] l) ∧ Hid (o.length ≤ j ∧ o.Pairwise fun x y => ¬ Idq x y) ∧ Hid (Gq wr (w.heap.size < ·) (w.heap.size + 1) 32 5 REv0 u o) ∧ Hid (Below w.heap.size w wr)) (fun _ i _ => m - (intOf i).toNat)
  case atStart => exact ⟨0, [], _, Nat.zero_le _, rfl, hide HS.out, hide (firstF_nil w), hide rfl, hide ⟨Nat.le_refl _, List.Pairwise.nil⟩, hide Gq.nil, hide hB0.out⟩
  case round =>
    obtain ⟨j, o, f, hj, rfl, HMP, HF, HD, HO, HG, HB⟩ := hrel
    clear HS hB0
    by_cases hlt : j < m
    · have hjl : j < l.length := by rw [HM.out]; exact hlt
      obtain ⟨g, off, xs, e2, hg, hxl, hc, hR⟩ := HV.out.at_ hjl
      cases e2
      have HDR : Hid (l.drop j = l[j] :: l.drop (j + 1)) := hide (List.drop_eq_getElem_cons hjl)
      have HNX : Hid (l[j].vs.length ≤ 1000) := hide (HVL.out _ (List.getElem_mem hjl))
      obtain ⟨x, hx⟩ : ∃ x, l[j] = x := ⟨_, rfl⟩
      rw [hx] at hR HDR HNX
      have HRX := hide hR
      obtain ⟨y, rfl, hu, ha, hb, -, -⟩ := hR
      obtain ⟨A', c', rfl⟩ := hu.form
      have k0 := keep1 HB.out (hc 0 _ rfl)
      have k1 := keep1 HB.out (hc 1 _ rfl)
      have k2 := keep1 HB.out (hc 2 _ rfl)
      have k3 := keep1 HB.out (hc 3 _ rfl)
      have k4 := keep1 HB.out (hc 4 _ rfl)
      rw [Nat.add_zero] at k0
      have hu0 : (0 : Int) ≤ (j : Int) := by omega
      have hu1 : (j : Int) < (m : Int) := by omega
      have HKY := hide (id_of ha hb)
      have HAG := hide (show AggE w (.agg #[.int .i64 x.a, .int .i64 x.b, .int .i64 x.c, .int .i64 x.d, .slice A' x.vs.length c']) x from ⟨A', c', rfl, hu⟩)
      have HU := hide hu
      have HOF := hide (fun w => eof_any x.a x.b x.c x.d A' x.vs.length c' w)
      have HBX := hide (below_laid (w := wr) (.cells #[.int .i64 x.a, .int .i64 x.b, .int .i64 x.c, .int .i64 x.d, .slice A' x.vs.length c'] 32))
      have HX := hide (Bl.new wr [.int .i64 x.a, .int .i64 x.b, .int .i64 x.c, .int .i64 x.d, .slice A' x.vs.length c'] 32)
      obtain ⟨n', hn'⟩ : ∃ n, x.vs.length = n := ⟨_, rfl⟩
      have HN := hide hn'
      rw [hn'] at HOF HBX HX k4 HAG
      clear hc hxl hu hb ha hx hn'
      go_wp2_with fail
      refine (HOF.out _).mono ?_
      rintro en w2 ⟨rfl, hg2⟩
      have HM2 := hide ((HMP.out.keep HBX.out).keep hg2.below)
      have HX2 := hide (HX.out.keep hg2.below)
      have HB2 := hide (bthen HBX.out hg2.below)
      rcases HF.out x with ⟨hf1, hf2⟩ | ⟨v1, e, hf1, hf2, hf3, hf4⟩
      · have HU1 := hide (show (f (idv x)).getD (.agg #[.int .i64 0, .int .i64 0, .int .i64 0, .int .i64 0, .slice none 0 0]) = .agg #[.int .i64 0, .int .i64 0, .int .i64 0, .int .i64 0, .slice none 0 0] by rw [hf1]; rfl)
        have HU2 := hide (show (f (idv x)).isSome = false by rw [hf1]; rfl)
        have HD2 := hide (show ddp (o ++ [x]) (l.drop (j + 1)) = ddp [] l by rw [← ddp_new hf2, ← HDR.out]; exact HD.out)
        have HO2 := hide (show (o ++ [x]).length ≤ j + 1 ∧ (o ++ [x]).Pairwise fun x y => ¬ Idq x y from ⟨by have := HO.out.1; simp; omega, List.pairwise_append.2 ⟨HO.out.2, List.pairwise_singleton .., fun a ha b hb => by obtain rfl := List.mem_singleton.1 hb; exact hf2 a ha⟩⟩)
        have HF2 := hide (HF.out.snoc HAG.out)
        have hlw := HMP.out.lt
        have HNE := hide (show (some w.heap.size : Option Nat) ≠ some wr.heap.size from fun e => by injection e with e; omega)
        have HCP := hide (fun (w' : World) (h : Below w.heap.size w w') => copied_any x A' c' w' ((HU.out.keep rd_V0 (Kp.of_below h)).more rd_V0 (fun b hb => Nat.lt_of_lt_of_le hb h.size)) HNX.out)
        rw [HN.out] at HCP
        clear hf1 hf2
        have HBY := hide (below_laid (w := w2) (.cells #[.int .i64 0, .int .i64 0, .int .i64 0, .int .i64 0, .slice none 0 0] 32))
        have HB3 := hide (bthen HB2.out HBY.out)
        have HM3 := hide (HM2.out.keep HBY.out)
        have HX3 := hide (HX2.out.keep HBY.out)
        go_wp2_with (at_lookup; refine wpList_look_ok rfl (.tmp 18) (.tmp 20) 76 (by rfl) 32 id_key Try.underlying76 (.agg #[.int .i64 0, .int .i64 0, .int .i64 0, .int .i64 0, .slice none 0 0]) (by kernel_rfl) w.heap.size j f (idv x) (by rfl) (by rfl) HKY.out HM2.out _ _ HU1.out HU2.out ?_)
        obtain ⟨w3, hw3⟩ : ∃ w3, w2.alloc (.cells #[.int .i64 0, .int .i64 0, .int .i64 0, .int .i64 0, .slice none 0 0] 32) = w3 := ⟨_, rfl⟩
        rw [hw3] at HB3 HM3 HX3 ⊢
        clear hw3 HBY HM2 HX2 HB2
        have x0 := HX3.out.c 0 _ rfl
        have x1 := HX3.out.c 1 _ rfl
        have x2 := HX3.out.c 2 _ rfl
        have x3 := HX3.out.c 3 _ rfl
        have x4 := HX3.out.c 4 _ rfl
        refine wp_region_gr 4 [33, 34, 35, 36] [Fix (.map (some w.heap.size)), Fix (.agg #[.int .i64 x.a, .int .i64 x.b, .int .i64 x.c, .int .i64 x.d, .slice A' n' c']), Fix (.agg #[.int .i64 x.a, .int .i64 x.b]), Fix (.agg #[.int .i64 x.a, .int .i64 x.b, .int .i64 x.c, .int .i64 x.d, .slice A' n' c'])] (by kernel_rfl) (by kernel_rfl) (by kernel_rfl) (by kernel_rfl) (by kernel_rfl) ?_ ?_ ?_
        · intro p hp
          simp only [List.mem_cons, List.not_mem_nil, or_false] at hp
          rcases hp with rfl | rfl | rfl | rfl
          all_goals exact (fun _ _ _ _ h => h)
        · intro j9 o9 hj9 ho xx w5 hb hd
          have hjc : j9 = 0 ∨ j9 = 1 ∨ j9 = 2 ∨ j9 = 3 := by omega
          rcases hjc with rfl | rfl | rfl | rfl
          all_goals obtain rfl := Option.some.inj ho
          all_goals generalize hK : (fun (a' : Act) (w' : World) => _) = K
          all_goals simp only [puts]
          · go_simp
            rw [← hK]
            exact ⟨.map (some w.heap.size), (by simp only [puts]; go_simp), GR.refl _, rfl⟩
          · have x05 := keepG hb x0
            have x15 := keepG hb x1
            have x25 := keepG hb x2
            have x35 := keepG hb x3
            have x45 := keepG hb x4
            go_simp
            rw [← hK]
            exact ⟨.agg #[.int .i64 x.a, .int .i64 x.b, .int .i64 x.c, .int .i64 x.d, .slice A' n' c'], (by simp only [puts]; go_simp), GR.refl _, rfl⟩
          · have e34 : xx 34 = .agg #[.int .i64 x.a, .int .i64 x.b, .int .i64 x.c, .int .i64 x.d, .slice A' n' c'] := hd 1 (by kernel_rfl)
            go_simp
            go_at_call 34
            refine (HOF.out _).mono ?_
            rintro en9 w9 ⟨rfl, hg9⟩
            rw [← hK]
            exact ⟨.agg #[.int .i64 x.a, .int .i64 x.b], (by simp only [puts]; go_simp), hg9, rfl⟩
          · have x05 := keepG hb x0
            have x15 := keepG hb x1
            have x25 := keepG hb x2
            have x35 := keepG hb x3
            have x45 := keepG hb x4
            go_simp
            rw [← hK]
            exact ⟨.agg #[.int .i64 x.a, .int .i64 x.b, .int .i64 x.c, .int .i64 x.d, .slice A' n' c'], (by simp only [puts]; go_simp), GR.refl _, rfl⟩
        · intro xx w6 hb hP
          have e33 : xx 33 = .map (some w.heap.size) := hP 0 (by decide)
          have e35 : xx 35 = .agg #[.int .i64 x.a, .int .i64 x.b] := hP 2 (by decide)
          have e36 : xx 36 = .agg #[.int .i64 x.a, .int .i64 x.b, .int .i64 x.c, .int .i64 x.d, .slice A' n' c'] := hP 3 (by decide)
          have HM6 := hide (HM3.out.keep hb.below)
          have HX6 := hide (HX3.out.keep hb.below)
          have HB6 := hide (bthen HB3.out hb.below)
          have hbw6 := (bthen HB.out HB6.out).size
          clear hP hb x0 x1 x2 x3 x4 HM3 HX3 HB3
          simp only [puts, Act.put, List.setIfInBounds_toArray, List.set_cons_succ, List.set_cons_zero, List.drop]
          go_wp2_with (at_mapUpdate; refine wpList_store rfl (.tmp 33) (.tmp 35) (.tmp 36) 76 (by rfl) 32 id_key Try.underlying76 w.heap.size j f (idv x) (.agg #[.int .i64 x.a, .int .i64 x.b, .int .i64 x.c, .int .i64 x.d, .slice A' n' c']) (by first | exact e33 | rfl) (by first | exact e35 | rfl) (by first | exact e36 | rfl) HKY.out HM6.out (by unfold maxLen; omega) w.heap.size (Nat.le_refl _) hbw6 ?_; intro w7 hm7 hgr7 hb7; have hx7 := HX6.out.grown hgr7 HNE.out; have x0 := hx7.c 0 _ rfl; have x1 := hx7.c 1 _ rfl; have x2 := hx7.c 2 _ rfl; have x3 := hx7.c 3 _ rfl; have x4 := hx7.c 4 _ rfl)
          have HB7 := hide (show Below w.heap.size w w7 from (bthen HB.out HB6.out).trans hb7)
          have HG7 := hide ((HG.out.keep rd_Ev0 HB6.out).beside rd_Ev0 (Nat.lt_irrefl _) hgr7)
          have HM7 := hide hm7
          clear hx7 x0 x1 x2 x3 x4 hm7 hgr7 hb7 HM6 HX6 HB6 hbw6
          refine (HCP.out _ HB7.out).mono ?_
          rintro en w8 ⟨B, q, he8, hL8, hb8⟩
          rw [HN.out] at he8 hL8
          subst he8
          have hz7 := HM7.out.lt
          have hz8 := hb8.size
          have HB8 := hide (bthen HB7.out hb8)
          have HM8 := hide (HM7.out.keep hb8)
          have hba := below_laid (w := w8) (.cells #[.int .i64 x.a, .int .i64 x.b, .int .i64 x.c, .int .i64 x.d, .slice B n' q] 32)
          have HG9 := hide ((HG7.out.keep rd_Ev0 hb8).keep rd_Ev0 hba)
          have HM9 := hide (HM8.out.keep hba)
          have HB9 := hide (bthen HB8.out hba)
          have HCL := hide (cells_lit w8 [.int .i64 x.a, .int .i64 x.b, .int .i64 x.c, .int .i64 x.d, .slice B n' q] 32)
          have HLW := hide HG7.out.low
          have HIY := hide HG7.out.inY
          have HRE := hide (show REv0 (w8.alloc (.cells #[.int .i64 x.a, .int .i64 x.b, .int .i64 x.c, .int .i64 x.d, .slice B n' q] 32)) (fun b => w.heap.size < b ∧ b < (w8.alloc (.cells #[.int .i64 x.a, .int .i64 x.b, .int .i64 x.c, .int .i64 x.d, .slice B n' q] 32)).heap.size ∧ u5.ownBlock ≠ some b) [.int .i64 x.a, .int .i64 x.b, .int .i64 x.c, .int .i64 x.d, .slice B n' q] x by
            obtain ⟨_, -, -, hi4⟩ := HRX.out
            refine ⟨_, rfl, (hL8.more rd_V0 fun b hb => ?_).keep rd_V0 (Kp.alloc _), hi4⟩
            refine ⟨by omega, by simp; omega, fun e => ?_⟩
            have := (HLW.out b e).2
            omega)
          have hbs : w.heap.size + 1 ≤ (w8.alloc (.cells #[.int .i64 x.a, .int .i64 x.b, .int .i64 x.c, .int .i64 x.d, .slice B n' q] 32)).heap.size := by simp; omega
          have hol := HO.out.1
          clear hba hL8 hb8 HB7 HM7 HG7 HB8 HM8
          go_wp2_with (at_builtin; refine wpList_append_gq rd_Ev0 rfl _ _ 22 rfl (w.heap.size < ·) (w.heap.size + 1) 32 i0 _ 5 56 Try.underlying22 hi hz0 hz1 hz2 rfl (by decide) u5 o rfl HG9.out w8.heap.size rfl [.int .i64 x.a, .int .i64 x.b, .int .i64 x.c, .int .i64 x.d, .slice B n' q] rfl HCL.out (by simp [Value.oneCell']) x HRE.out ?cy ?cn (by decide) hbs ?_; (case cy => intro b hb; simp at hb; omega); (case cn => omega); intro v10 w10 hg10 hgr10 hb10)
          go_roundw
          case rel => exact ⟨j + 1, o ++ [x], updF f (idv x) (.agg #[.int .i64 x.a, .int .i64 x.b, .int .i64 x.c, .int .i64 x.d, .slice A' n' c']), by omega, by go_num, hide (HM9.out.grown hgr10 (fun e => absurd (HIY.out w.heap.size e.symm) (Nat.lt_irrefl _))), hide HF2.out, hide HD2.out, hide HO2.out, hide hg10, hide (HB9.out.trans (hb10.mono (Nat.le_succ _)))⟩
          case measure => simp [intOf]; omega
      · obtain ⟨A1, c1, rfl, he⟩ := hf4
        have HU1 := hide (show (f (idv x)).getD (.agg #[.int .i64 0, .int .i64 0, .int .i64 0, .int .i64 0, .slice none 0 0]) = .agg #[.int .i64 e.a, .int .i64 e.b, .int .i64 e.c, .int .i64 e.d, .slice A1 e.vs.length c1] by rw [hf1]; rfl)
        have HU2 := hide (show (f (idv x)).isSome = true by rw [hf1]; rfl)
        have HEQ := hide (fun (w' : World) (h : Below w.heap.size w w') => sequal_any w' e x A1 A' c1 c' ((he.keep rd_V0 (Kp.of_below h)).more rd_V0 (fun b hb => Nat.lt_of_lt_of_le hb h.size)) ((HU.out.keep rd_V0 (Kp.of_below h)).more rd_V0 (fun b hb => Nat.lt_of_lt_of_le hb h.size)))
        have HCL := hide (show e ≠ x → ¬ Compat l from fun hne => not_compat (by rw [← HD.out, HDR.out]; exact ddp_clash HO.out.2 hf2 hf3 hne))
        have HD2 := hide (show e = x → ddp o (l.drop (j + 1)) = ddp [] l from fun he => by subst he; rw [← ddp_old HO.out.2 hf2, ← HDR.out]; exact HD.out)
        obtain ⟨n1, hn1⟩ : ∃ n, e.vs.length = n := ⟨_, rfl⟩
        rw [hn1, HN.out] at HEQ
        rw [hn1] at HU1
        clear hf1 hf2 hf3 he hn1
        have HBY := hide (below_laid (w := w2) (.cells #[.int .i64 e.a, .int .i64 e.b, .int .i64 e.c, .int .i64 e.d, .slice A1 n1 c1] 32))
        have HB3 := hide (bthen HB2.out HBY.out)
        have HM3 := hide (HM2.out.keep HBY.out)
        have HX3 := hide (HX2.out.keep HBY.out)
        have x0 := HX3.out.c 0 _ rfl
        have x1 := HX3.out.c 1 _ rfl
        have x2 := HX3.out.c 2 _ rfl
        have x3 := HX3.out.c 3 _ rfl
        have x4 := HX3.out.c 4 _ rfl
        go_wp2_with (at_lookup; refine wpList_look_ok rfl (.tmp 18) (.tmp 20) 76 (by rfl) 32 id_key Try.underlying76 (.agg #[.int .i64 0, .int .i64 0, .int .i64 0, .int .i64 0, .slice none 0 0]) (by kernel_rfl) w.heap.size j f (idv x) (by rfl) (by rfl) HKY.out HM2.out _ _ HU1.out HU2.out ?_)
        refine (HEQ.out _ (bthen HB.out HB3.out)).mono ?_
        rintro en w4 ⟨bb, hbb, rfl, hb4⟩
        have HBB := hide hbb
        clear hbb
        cases bb
        · go_wp2
          go_ret2
          exact ⟨bthen (bthen HB.out HB3.out) hb4, .inr ⟨HCL.out (fun h => by have := HBB.out.2 h; cases this), rfl⟩⟩
        · go_wp2
          go_roundw
          case rel => exact ⟨j + 1, o, f, by omega, by go_num, hide ((HM3.out.keep hb4).more (Nat.le_succ _)), hide HF.out, hide (HD2.out (by first | exact HBB.out.1 rfl | exact HBB.out.1 trivial)), hide ⟨Nat.le_succ_of_le HO.out.1, HO.out.2⟩, hide ((HG.out.keep rd_Ev0 HB3.out).keep rd_Ev0 hb4), hide (bthen (bthen HB.out HB3.out) hb4)⟩
          case measure => simp [intOf]; omega
    · obtain rfl : j = m := by omega
      have HQ := hide (show ddp [] l = some o by rw [← HD.out, List.drop_of_length_le (by rw [HM.out]; exact Nat.le_refl _)]; rfl)
      have HSR := hide (esort_any HG.out (by have := HO.out.1; omega))
      have HLW := hide HG.out.low
      have hob := HO.out.1
      go_wp2_with fail
      refine HSR.out.mono ?_
      rintro en w1 ⟨rfl, o2, hp, hpw, hg2, hgr⟩
      have HBE := hide (HB.out.grown hgr HB.out.size (fun k hk => by have := (HLW.out k hk).1; omega))
      have HSO := hide (srtOf_perm HQ.out hp (hpw.imp fun {a b} h k => h (cmpE_lt.2 k)))
      have HLS := hide ((hg2.lst rd_Ev0 (by decide) (by have := hp.length_eq; unfold maxLen; omega)).more rd_Ev0 (Y := fun b => w.heap.size ≤ b ∧ b < w1.heap.size) fun b hb => ⟨Nat.le_of_lt hb.1, hb.2⟩)
      clear hp hpw hg2 hgr
      go_wp2
      go_ret2
      exact ⟨HBE.out, .inl ⟨ddp_iff.1 ⟨_, HQ.out⟩, _, o2, rfl, HSO.out, HLS.out⟩⟩
end Go.Proofs.Ytbendimkejndiaa
