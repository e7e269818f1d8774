/- stream.Split: the streams of the events with the same key. -/
import Derived.Test.YtbendimkejndiaaTSpQ
namespace Go.Proofs.Ytbendimkejndiaa
open Go.RowKit
set_option linter.unusedVariables false
set_option linter.unusedSimpArgs false
def P7s (W0 : World) (mb : Nat) (vg : Value) (col : Col) (y : V3) (key : List Int) (L : List Evt) (x : Evt) : World → Value → Prop := fun w v =>
  Gq w (fun b => recol col W0.heap.size (some y) b = some (some y)) (mb + 1) 32 5 REv0 v (fltE key y L ++ [x]) ∧ ∀ b, b < W0.heap.size → b ≠ mb → vg.ownBlock ≠ some b → w.heap[b]? = W0.heap[b]?
theorem P7s.keep {W0 : World} {mb : Nat} {vg : Value} {col : Col} {y : V3} {key : List Int} {L : List Evt} {x : Evt} {w w' : World} {v : Value} (h : P7s W0 mb vg col y key L x w v) (hs : W0.heap.size ≤ w.heap.size) (hs2 : w.heap.size ≤ w'.heap.size) (hk : ∀ b, b < W0.heap.size → b ≠ mb → w'.heap[b]? = w.heap[b]?)
    (hg : Gq w' (fun b => recol col W0.heap.size (some y) b = some (some y)) (mb + 1) 32 5 REv0 v (fltE key y L ++ [x])) : P7s W0 mb vg col y key L x w' v :=
  ⟨hg, fun b h1 h2 h3 => (hk b h1 h2).trans (h.2 b h1 h2 h3)⟩
theorem iq_v : (Try.prog.info? 38).map (fun i => (i.zero, i.size, i.bytes)) = some (some (.agg #[.int .i64 0, .int .i64 0, .string ⟨#[]⟩]), 3, 32) := by kernel_rfl
theorem iq_evs : (Try.prog.info? 22).map (fun i => (i.zero, i.size, i.bytes)) = some (some (.slice none 0 0), 1, 24) := by kernel_rfl
theorem zero_evs (w : World) : (zeroValue 22).run Try.prog w = .ok (.slice none 0 0) w := by kernel_rfl
/-- Lists of events, as elements. -/
def RLE (w : World) (Z : Nat → Prop) (xs : List Value) (L : List Evt) : Prop := ∃ v, xs = [v] ∧ Lst w Z 5 REv0 v L
theorem rd_LE : Rd RLE := lst_rd rd_Ev0 5
theorem gq_lst {α : Type} {R : World → (Nat → Prop) → List Value → α → Prop} {w : World} {Y : Nat → Prop} {base : Nat} {te : TypeId} {sz : Nat} {v : Value} {l : List α} {B : Nat} (hR : Rd R) (hsz : 0 < sz) (h : Gq w Y base te sz R v l) (hm : l.length ≤ maxLen) (hY : ∀ b, Y b → B ≤ b) : Lst w (fun b => B ≤ b ∧ b < w.heap.size) sz R v l :=
  (h.lst hR hsz hm).more hR fun b hb => ⟨hY b hb.1, hb.2⟩
/-- What 'Split' returns. -/
def RetSp (key : List Int) (l : List Evt) (w : World) (e : Ending) (w' : World) : Prop :=
  Below w.heap.size w w' ∧ ∃ (k : Int) (vk vp : Value), e = .returned (.tuple #[vk, vp, .int .i64 k]) ∧ (k = 0 ↔ Strm l ∧ ∀ x ∈ l, keyOkE key x) ∧
    (k = 0 → ∃ ks ps, (SplOf (fun x y => 0 ≤ cmpV y x) key l ks ps ∧ ks.Nodup) ∧ Lst w' (fun b => w.heap.size ≤ b ∧ b < w'.heap.size) 3 RV0 vk ks ∧ Lst w' (fun b => w.heap.size ≤ b ∧ b < w'.heap.size) 1 RLE vp ps)
theorem RetSp.fail {key : List Int} {l : List Evt} {w w' : World} {k : Int} (hk : k ≠ 0) (hn : ¬ (Strm l ∧ ∀ x ∈ l, keyOkE key x)) (hb : Below w.heap.size w w') : RetSp key l w (.returned (.tuple #[.slice none 0 0, .slice none 0 0, .int .i64 k])) w' :=
  ⟨hb, k, _, _, rfl, ⟨fun h => absurd h hk, fun h => absurd h hn⟩, fun h => absurd h hk⟩
set_option maxRecDepth 100000 in
set_option maxHeartbeats 16000000 in
theorem split_any (v kv : Value) (l : List Evt) (key : List Int) (w : World) (hv : Lst w (· < w.heap.size) 5 REv0 v l) (hk : Lst w (· < w.heap.size) 1 RIn kv key) (hl : l.length ≤ 1000) (hvl : ∀ x ∈ l, x.vs.length ≤ 1000) :
    Calls Try.prog 9 #[v, kv] w (RetSp key l w) := by
  obtain ⟨i0, hi, hz0, hz1, hz2⟩ := info_parts iq_event
  obtain ⟨i1, hi1, hz10, hz11, hz12⟩ := info_parts iq_v
  obtain ⟨i2, hi2, hz20, hz21, hz22⟩ := info_parts iq_evs
  have HC1 := hide (scheck_any v l w hv)
  have HP1 : Hid (l.length ≤ 4096 ∧ Strm l ↔ Strm l) := hide ⟨fun h => h.2, fun h => ⟨by omega, h⟩⟩
  rw [propext HP1.out] at HC1
  obtain ⟨A, cap, rfl⟩ := hv.form
  obtain ⟨KA, kc, rfl⟩ := hk.form
  have HV := hide hv
  have HVL := hide hvl
  have HKL := hide hk
  obtain ⟨m, hm⟩ : ∃ m, l.length = m := ⟨_, rfl⟩
  obtain ⟨kn, hkn⟩ : ∃ m, key.length = m := ⟨_, rfl⟩
  rw [hm] at HV HC1 hl ⊢
  rw [hkn] at HKL ⊢
  have HM := hide hm
  clear hv hm hvl hk hkn HP1
  have hmk := @run_makeMap Try.prog
  go_enter Try.func9, Try.ntmps9
  go_wp2_with fail
  refine HC1.out.mono ?_
  rintro en w1 ⟨k1, rfl, hk1, hb1⟩
  by_cases e1 : k1 = 0
  case neg =>
    have t1 : (k1 != 0) = true := bne_iff_ne.2 e1
    have HN := hide (show ¬ Strm l from fun h => e1 (hk1.2 h))
    have HE := hide e1
    clear hk1 e1
    go_wp2
    go_ret3
    exact RetSp.fail HE.out (fun h => HN.out h.1) hb1
  subst e1
  have HST := hide (hk1.1 rfl)
  have HB1 := hide hb1
  have hw1 := hb1.size
  clear hk1 hb1 HC1
  have HS := hide (MapF.made 38 w1)
  have hB0 := hide (bthen HB1.out (below_laid (w := w1) (.map #[] 0)))
  go_wp2_with fail
  obtain ⟨w0, hw0⟩ : ∃ w0, w1.alloc (.map #[] 0) = w0 := ⟨_, rfl⟩
  rw [hw0] at HS hB0 ⊢
  clear hw0 hmk
  go_loopw [9, 26] (fun u i wr => ∃ (j : Nat) (f : Value → Option Value) (col : Col) (ks : List V3), j ≤ m ∧ i = .int .i64 j ∧ Hid (MapF 38 wr w1.heap.size j f) ∧ Hid (Grp wr (w1.heap.size + 1) w1.heap.size key (l.take j) u f col ks) ∧ Hid (KsOf key (l.take j) ks ∧ ks.length ≤ j ∧ ks.Nodup) ∧ Hid (∀ x ∈ l.take j, keyOkE key x) ∧ Hid (Below w.heap.size w wr)) (fun _ i _ => m - (intOf i).toNat)
  case atStart => exact ⟨0, _, _, [], Nat.zero_le _, rfl, hide HS.out, hide (Grp.start _ _ _ _), hide ⟨ksOf_nil key, Nat.le_refl _, List.nodup_nil⟩, hide (by intro x hx; simp at hx), hide hB0.out⟩
  case round =>
    obtain ⟨j, f, col, ks, hj, rfl, HMP, HG, HK, HOK, HB⟩ := hrel
    clear HS hB0
    by_cases hlt : j < m
    · have hjl : j < l.length := by rw [HM.out]; exact hlt
      obtain ⟨g, off, xs, e2, hg, hxl, hc, hR⟩ := HV.out.at_ hjl
      cases e2
      have HTS : Hid (l.take (j + 1) = l.take j ++ [l[j]]) := hide (take_snoc hjl)
      have HNX : Hid (l[j].vs.length ≤ 1000) := hide (HVL.out _ (List.getElem_mem hjl))
      have HIN : Hid (l[j] ∈ l) := hide (List.getElem_mem hjl)
      obtain ⟨x, hx⟩ : ∃ x, l[j] = x := ⟨_, rfl⟩
      rw [hx] at hR HTS HNX HIN
      obtain ⟨y0, rfl, hu, hrx⟩ := hR
      have HRX := hide hrx
      obtain ⟨A', c', rfl⟩ := hu.form
      have HU := hide hu
      have k0 := keep1 HB.out (hc 0 _ rfl)
      have k1 := keep1 HB.out (hc 1 _ rfl)
      have k2 := keep1 HB.out (hc 2 _ rfl)
      have k3 := keep1 HB.out (hc 3 _ rfl)
      have k4 := keep1 HB.out (hc 4 _ rfl)
      rw [Nat.add_zero] at k0
      have hu0 : (0 : Int) ≤ (j : Int) := by omega
      have hu1 : (j : Int) < (m : Int) := by omega
      have HKD := hide (fun (w' : World) (h : Below w.heap.size w w') => keyed_any x A' c' (.slice KA kn kc) key w' (HU.out.keep rd_V0 (Kp.of_below h)) HRX.out.2.2.1 (HKL.out.keep rd_In (Kp.of_below h)))
      have HCP := hide (fun (w' : World) (h : Below w.heap.size w w') => copied_any x A' c' w' ((HU.out.keep rd_V0 (Kp.of_below h)).more rd_V0 (fun b hb => Nat.lt_of_lt_of_le hb h.size)) HNX.out)
      have HBX := hide (below_laid (w := wr) (.cells #[.int .i64 x.a, .int .i64 x.b, .int .i64 x.c, .int .i64 x.d, .slice A' x.vs.length c'] 32))
      have HX := hide (Bl.new wr [.int .i64 x.a, .int .i64 x.b, .int .i64 x.c, .int .i64 x.d, .slice A' x.vs.length c'] 32)
      obtain ⟨n', hn'⟩ : ∃ n, x.vs.length = n := ⟨_, rfl⟩
      have HN := hide hn'
      rw [hn'] at HKD HCP HBX HX k4
      have hmw := HMP.out.lt
      clear hc hxl hu hrx hx hn'
      go_wp2_with fail
      refine (HKD.out _ (bthen HB.out HBX.out)).mono ?_
      rintro en w2 ⟨y, ok, k, rfl, hgy, hb2, hk, hkv⟩
      have HB2 := hide (bthen HBX.out hb2)
      have HX2 := hide (HX.out.keep hb2)
      have hzw2 := hb2.size
      rw [World.size_alloc] at hzw2
      have HBY := hide (below_laid (w := w2) (.cells #[.int .i64 y.q, .int .i64 y.n, .string y.s] 38))
      have HB3 := hide (bthen HB2.out HBY.out)
      have HX3 := hide (HX2.out.keep HBY.out)
      have HV3 := hide (Bl.new w2 [.int .i64 y.q, .int .i64 y.n, .string y.s] 38)
      by_cases e2 : k = 0
      case neg =>
        have t2 : (k != 0) = true := bne_iff_ne.2 e2
        have HF := hide (show ¬ (Strm l ∧ ∀ x ∈ l, keyOkE key x) from fun h => e2 (hk.2 (h.2 x HIN.out)))
        have HE := hide e2
        clear hk hkv hgy e2
        go_wp2
        go_ret3
        exact RetSp.fail HE.out HF.out (bthen HB.out HB3.out)
      subst e2
      have HOK2 := hide (show ∀ z ∈ l.take (j + 1), keyOkE key z by
        rw [HTS.out]; intro z hz
        rcases List.mem_append.1 hz with h | h
        · exact HOK.out z h
        · obtain rfl := List.mem_singleton.1 h; exact hk.1 rfl)
      have HGY := hide hgy
      have HKE := hide (hkv rfl)
      clear hk hkv hgy hb2 HB2 HX2 HX HBX
      cases ok
      case false =>
        have HKN := hide (show keyVE key x = none from HKE.out)
        go_wp2_with fail
        go_roundw
        case rel => exact ⟨j + 1, f, col, ks, by omega, by go_num, hide ((HMP.out.keep HB3.out).more (Nat.le_succ _)), hide (by rw [HTS.out]; exact (HG.out.keep HB3.out).skip HKN.out), hide ⟨by rw [HTS.out]; exact HK.out.1.skip HKN.out, Nat.le_succ_of_le HK.out.2.1, HK.out.2.2⟩, hide HOK2.out, hide (bthen HB.out HB3.out)⟩
        case measure => simp [intOf]; omega
      have HKX := hide (show keyVE key x = some y from HKE.out)
      have HKY := hide (v_of HGY.out.1.1 HGY.out.1.2 HGY.out.2)
      have HM3 := hide (HMP.out.keep HB3.out)
      have HG3 := hide (HG.out.keep HB3.out)
      have HBW3 := hide (bthen HB.out HB3.out)
      have y0 := HV3.out.c 0 _ rfl
      have y1 := HV3.out.c 1 _ rfl
      have y2 := HV3.out.c 2 _ rfl
      have hz3 : (w2.alloc (.cells #[.int .i64 y.q, .int .i64 y.n, .string y.s] 38)).heap.size = w2.heap.size + 1 := World.size_alloc _ _
      have HLW := hide (show ∀ b, ((f (vkv y)).getD (.slice none 0 0)).ownBlock = some b → b < wr.heap.size from fun b e => ((HG.out.at_ y).low b e).2)
      have HGL : Hid ((fltE key y (l.take j)).length ≤ 1000) := hide (Nat.le_trans (List.length_filter_le _ _) (by rw [List.length_take]; omega))
      rcases HG.out.grp y with ⟨hf1, hf2⟩ | ⟨vq, hf1, hf2, hf3⟩
      · have HU1 := hide (show (f (vkv y)).getD (.slice none 0 0) = .slice none 0 0 by rw [hf1]; rfl)
        have HK4 := hide (show KsOf key (l.take (j + 1)) (ks ++ [y]) ∧ (ks ++ [y]).length ≤ j + 1 ∧ (ks ++ [y]).Nodup from ⟨by rw [HTS.out]; exact HK.out.1.new HKX.out, by have := HK.out.2.1; simp; omega, List.nodup_append.2 ⟨HK.out.2.2, List.nodup_cons.2 ⟨List.not_mem_nil, List.nodup_nil⟩, fun a ha b hb e => by rw [List.mem_singleton.1 hb] at e; subst e; exact (HK.out.1 a).1 ha hf2⟩⟩)
        clear hf1 hf2
        have hba := below_laid (w := (w2.alloc (.cells #[.int .i64 y.q, .int .i64 y.n, .string y.s] 38))) (.cells #[.int .i64 y.q, .int .i64 y.n, .string y.s] 38)
        have HGA := hide (HG3.out.keep hba)
        have hza : ((w2.alloc (.cells #[.int .i64 y.q, .int .i64 y.n, .string y.s] 38)).alloc (.cells #[.int .i64 y.q, .int .i64 y.n, .string y.s] 38)).heap.size = (w2.alloc (.cells #[.int .i64 y.q, .int .i64 y.n, .string y.s] 38)).heap.size + 1 := World.size_alloc _ _
        have HKA := hide (HGA.out.keys.less rd_V0 (Y' := fun b => recol col ((w2.alloc (.cells #[.int .i64 y.q, .int .i64 y.n, .string y.s] 38)).alloc (.cells #[.int .i64 y.q, .int .i64 y.n, .string y.s] 38)).heap.size none b = some none) fun b hb hlt => (recol_low hlt).trans hb)
        have HCV := hide (cells_lit (w2.alloc (.cells #[.int .i64 y.q, .int .i64 y.n, .string y.s] 38)) [.int .i64 y.q, .int .i64 y.n, .string y.s] 38)
        rw [hz3] at HCV
        have HMA := hide (HM3.out.keep hba)
        have HXA := hide (HX3.out.keep hba)
        have HVA := hide (HV3.out.keep hba)
        have HBA := hide (bthen HBW3.out hba)
        have HLK := hide HG.out.keys.low
        have HMK : Hid (u9.ownBlock ≠ some w1.heap.size) := hide fun e => by have := HG.out.keys.inY _ e; rw [HG.out.map] at this; cases this
        have hkl := HK.out.2.1
        go_wp2_with (first | (at_lookup; refine wpList_look rfl (.tmp 42) (.tmp 43) 52 (by rfl) 22 v_key Try.underlying52 (.slice none 0 0) (zero_evs _) w1.heap.size j f (vkv y) (by rfl) (by rfl) HKY.out HM3.out ?_; rw [HU1.out]) | (at_builtin; refine wpList_append_gq rd_V0 rfl _ _ 30 rfl (fun b => recol col ((w2.alloc (.cells #[.int .i64 y.q, .int .i64 y.n, .string y.s] 38)).alloc (.cells #[.int .i64 y.q, .int .i64 y.n, .string y.s] 38)).heap.size none b = some none) (w1.heap.size + 1) 38 i1 _ 3 32 Try.underlying30 hi1 hz10 hz11 hz12 rfl (by decide) u9 ks rfl HKA.out (w2.heap.size + 1) rfl [.int .i64 y.q, .int .i64 y.n, .string y.s] rfl HCV.out (by simp [Value.oneCell']) y ⟨rfl, HGY.out⟩ ?cy ?cn (by decide) ?cb ?_; (case cy => exact fun b hb => recol_new hb); (case cn => omega); (case cb => omega); intro u4 w4 hg4 hgr4 hb4))
        have HGP := hide (HGA.out.newkey (by omega) (by omega) hg4 hgr4)
        have HM4 := hide (HMA.out.grown hgr4 (fun e => HMK.out e.symm))
        have HX4 := hide (HXA.out.grown hgr4 (fun e => by have := HLK.out _ e; omega))
        have HV4 := hide (HVA.out.grown hgr4 (fun e => by have := HLK.out _ e; omega))
        have HB4 := hide (HBA.out.trans (hb4.mono (by omega)))
        clear hg4 hgr4 hb4 hba y0 y1 y2 HGA HKA HCV HMA HXA HVA HBA HG3 HM3 HX3 HV3 HBW3 HLK HMK hza hz3
        obtain ⟨col4, hcol4⟩ : ∃ c, recol col ((w2.alloc (.cells #[.int .i64 y.q, .int .i64 y.n, .string y.s] 38)).alloc (.cells #[.int .i64 y.q, .int .i64 y.n, .string y.s] 38)).heap.size none = c := ⟨_, rfl⟩
        rw [hcol4] at HGP
        obtain ⟨ks4, hks4⟩ : ∃ c, ks ++ [y] = c := ⟨_, rfl⟩
        rw [hks4] at HGP HK4
        clear hcol4 hks4
        go_wp2_with fail
        have HGV := hide (HGP.out.at_ y)
        obtain ⟨vg, hvg⟩ : ∃ vg, (f (vkv y)).getD (.slice none 0 0) = vg := ⟨_, rfl⟩
        have HVG := hide hvg
        rw [hvg] at HGV
        clear hvg
        have HOW := hide HGV.out.low
        have HIY := hide HGV.out.inY
        have HMN : Hid (vg.ownBlock ≠ some w1.heap.size) := hide fun e => by have := HIY.out _ e; rw [HGP.out.map] at this; cases this
        have HG0 := hide (HGV.out.less rd_Ev0 (Y' := (fun b => recol col4 w4.heap.size (some y) b = some (some y))) fun b hb hlt => (recol_low hlt).trans hb)
        have hm4 := HM4.out.lt
        have HXN : Hid (wr.heap.size ≠ w1.heap.size ∧ vg.ownBlock ≠ some wr.heap.size ∧ w2.heap.size ≠ w1.heap.size ∧ vg.ownBlock ≠ some w2.heap.size) := hide ⟨by omega, fun e => by have := HLW.out _ (by rw [HVG.out]; exact e); omega, by omega, fun e => by have := HLW.out _ (by rw [HVG.out]; exact e); omega⟩
        have HBC := hide (And.intro HX4.out.lt HV4.out.lt)
        refine wp_region_grow2 w1.heap.size (Nat.le_of_lt hm4) 9 [51, 52, 54, 55, 56, 57, 53, 58, 59] [Fix (.map (some w1.heap.size)), Fix (vkv y), Fix (.agg #[.int .i64 x.a, .int .i64 x.b, .int .i64 x.c, .int .i64 x.d, .slice A' n' c']), CpE w4.heap.size x, LitE w4.heap.size x, EntP 52 38 w1.heap.size j f (vkv y) vg, Fix vg, P7s w4 w1.heap.size vg col4 y key (l.take j) x, StP 52 38 w1.heap.size j f (vkv y)] (by kernel_rfl) (by kernel_rfl) (by kernel_rfl) (by kernel_rfl) (by kernel_rfl) (Iv15 w4 w1.heap.size vg.ownBlock (fun w => Gq w (fun b => recol col4 w4.heap.size (some y) b = some (some y)) (w1.heap.size + 1) 32 5 REv0 vg (fltE key y (l.take j)))) spI15 us15 (by kernel_rfl) ?_ (Tr15 w1.heap.size vg.ownBlock) sp15 ?_ ?_ ?_ ?_ ?_
        · intro d9
          match d9 with
          | 0 => exact fun _ _ _ _ => rfl
          | 1 => rfl
          | 2 => exact HG0.out.keep rd_Ev0 (Below.refl _ _).drew
          | _ + 3 => trivial
        · intro j9 w5 w6 _ ht hsz
          rcases ht with ⟨-, -, ht⟩ | ⟨-, ht⟩ | ⟨-, ht⟩
          · exact ht.mono (by omega)
          · exact (Below.refl w1.heap.size w5).grown ht (by omega) fun k hk => by injection hk with hk; omega
          · exact (Below.refl w1.heap.size w5).grown ht (by omega) fun k hk => by have := (HOW.out k hk).1; omega
        · intro j9 k9 hj9 hk9 hne hsp9 hwt9 w5 w6 v5 hsz ht hP5
          have hkc : k9 = 0 ∨ k9 = 1 ∨ k9 = 2 ∨ k9 = 3 ∨ k9 = 4 ∨ k9 = 5 ∨ k9 = 6 ∨ k9 = 7 ∨ k9 = 8 := by omega
          rcases ht with ⟨-, -, ht⟩ | ⟨rfl, ht⟩ | ⟨rfl, ht⟩
          · rcases hkc with rfl | rfl | rfl | rfl | rfl | rfl | rfl | rfl | rfl
            · exact hP5
            · exact hP5
            · exact hP5
            · exact CpE.keep hP5 (UpK.of_below _ ht)
            · exact LitE.keep hP5 (UpK.of_below _ ht)
            · exact EntP.keep hP5 ht.size fun hb => ht.block _ hb
            · exact hP5
            · exact P7s.keep hP5 hsz ht.size (fun b hb _ => ht.block b (Nat.lt_of_lt_of_le hb hsz)) (Gq.keep rd_Ev0 hP5.1 ht)
            · exact StP.keep hP5 ht.size fun hb => ht.block _ hb
          · have hu := UpK.of_grown (B0 := w4.heap.size) ht (fun b hb => by injection hb with hb; omega)
            rcases hkc with rfl | rfl | rfl | rfl | rfl | rfl | rfl | rfl | rfl
            · exact hP5
            · exact hP5
            · exact hP5
            · exact CpE.keep hP5 hu
            · exact LitE.keep hP5 hu
            · exact absurd rfl hne
            · exact hP5
            · exact absurd (show false = true from hwt9.symm.trans (by kernel_rfl)) Bool.false_ne_true
            · exact absurd (show false = true from hwt9.symm.trans (by kernel_rfl)) Bool.false_ne_true
          · have hmb : ∀ hb : w1.heap.size < w5.heap.size, w6.heap[w1.heap.size]? = w5.heap[w1.heap.size]? := fun hb => ht.block _ hb fun e => HMN.out e.symm
            rcases hkc with rfl | rfl | rfl | rfl | rfl | rfl | rfl | rfl | rfl
            · exact hP5
            · exact hP5
            · exact hP5
            · exact absurd (by decide) hsp9
            · exact absurd (by decide) hsp9
            · exact EntP.keep hP5 ht.size hmb
            · exact hP5
            · exact absurd rfl hne
            · exact StP.keep hP5 ht.size hmb
        · intro j9 d9 hj9 hd9 w5 w6 hsz ht hI5
          rcases ht with ⟨-, -, ht⟩ | ⟨rfl, ht⟩ | ⟨rfl, ht⟩
          · match d9 with
            | 0 => exact fun b h1 h2 h3 => (ht.block b (by omega)).trans (hI5 b h1 h2 h3)
            | 1 => exact (ht.block _ (by omega)).trans hI5
            | 2 => exact Gq.keep rd_Ev0 hI5 ht
            | _ + 3 => trivial
          · match d9 with
            | 0 => exact fun b h1 h2 h3 => (ht.block b (by omega) (by simp [h2])).trans (hI5 b h1 h2 h3)
            | 1 => exact absurd (by decide) hd9
            | 2 => exact Gq.beside rd_Ev0 hI5 (by show ¬ _ = _; rw [recol_low hm4, HGP.out.map]; simp) ht
            | _ + 3 => trivial
          · match d9 with
            | 0 => exact fun b h1 h2 h3 => (ht.block b (by omega) (fun e => h3 e.symm)).trans (hI5 b h1 h2 h3)
            | 1 => exact (ht.block _ (by omega) (fun e => HMN.out e.symm)).trans hI5
            | 2 => exact absurd (by decide) hd9
            | _ + 3 => trivial
        · intro j9 o9 hj9 ho xx w5 hb hI hd
          have hjc : j9 = 0 ∨ j9 = 1 ∨ j9 = 2 ∨ j9 = 3 ∨ j9 = 4 ∨ j9 = 5 ∨ j9 = 6 ∨ j9 = 7 ∨ j9 = 8 := by omega
          have hw5 := hb.size
          rcases hjc with rfl | rfl | rfl | rfl | rfl | rfl | rfl | rfl | rfl
          all_goals obtain rfl := Option.some.inj ho
          all_goals generalize hK : (fun (a' : Act) (w' : World) => _) = K
          all_goals simp only [puts]
          · go_simp
            rw [← hK]
            exact ⟨.map (some w1.heap.size), (by simp only [puts]; go_simp), .inl ⟨by decide, by decide, Below.refl _ _⟩, rfl⟩
          · have hO := hI 0 (by decide) w2.heap.size HBC.out.2 HXN.out.2.2.1 HXN.out.2.2.2
            have c0 := (World.cell?_of_block (w := w4) (w' := w5) (a := ⟨w2.heap.size, 0, none⟩) hO).trans (HV4.out.c 0 _ rfl)
            have c1 := (World.cell?_of_block (w := w4) (w' := w5) (a := ⟨w2.heap.size, 1, none⟩) hO).trans (HV4.out.c 1 _ rfl)
            have c2 := (World.cell?_of_block (w := w4) (w' := w5) (a := ⟨w2.heap.size, 2, none⟩) hO).trans (HV4.out.c 2 _ rfl)
            clear hO
            go_simp
            rw [← hK]
            exact ⟨.agg #[.int .i64 y.q, .int .i64 y.n, .string y.s], (by simp only [puts]; go_simp), .inl ⟨by decide, by decide, Below.refl _ _⟩, rfl⟩
          · have hO := hI 0 (by decide) wr.heap.size HBC.out.1 HXN.out.1 HXN.out.2.1
            have c0 := (World.cell?_of_block (w := w4) (w' := w5) (a := ⟨wr.heap.size, 0, none⟩) hO).trans (HX4.out.c 0 _ rfl)
            have c1 := (World.cell?_of_block (w := w4) (w' := w5) (a := ⟨wr.heap.size, 1, none⟩) hO).trans (HX4.out.c 1 _ rfl)
            have c2 := (World.cell?_of_block (w := w4) (w' := w5) (a := ⟨wr.heap.size, 2, none⟩) hO).trans (HX4.out.c 2 _ rfl)
            have c3 := (World.cell?_of_block (w := w4) (w' := w5) (a := ⟨wr.heap.size, 3, none⟩) hO).trans (HX4.out.c 3 _ rfl)
            have c4 := (World.cell?_of_block (w := w4) (w' := w5) (a := ⟨wr.heap.size, 4, none⟩) hO).trans (HX4.out.c 4 _ rfl)
            clear hO
            go_simp
            rw [← hK]
            exact ⟨.agg #[.int .i64 x.a, .int .i64 x.b, .int .i64 x.c, .int .i64 x.d, .slice A' n' c'], (by simp only [puts]; go_simp), .inl ⟨by decide, by decide, Below.refl _ _⟩, rfl⟩
          · have e : xx 54 = .agg #[.int .i64 x.a, .int .i64 x.b, .int .i64 x.c, .int .i64 x.d, .slice A' n' c'] := hd 2 (by kernel_rfl) (by kernel_rfl)
            have HW5 := hide (HB4.out.trans (hb.mono hw1))
            clear hI hd
            go_simp
            go_at_call 24
            refine (HCP.out _ HW5.out).mono ?_
            rintro en9 w9 ⟨B, q, rfl, hL9, hb9⟩
            rw [← hK]
            exact ⟨.agg #[.int .i64 x.a, .int .i64 x.b, .int .i64 x.c, .int .i64 x.d, .slice B x.vs.length q], (by simp only [puts]; go_simp), .inl ⟨by decide, by decide, hb9⟩, B, q, rfl, hL9.more rd_V0 fun b hb' => ⟨Nat.le_trans hw5 hb'.1, hb'.2⟩⟩
          · obtain ⟨B, q, e, hL9⟩ : CpE w4.heap.size x w5 (xx 55) := hd 3 (by kernel_rfl) (by kernel_rfl)
            have HL9 := hide hL9
            clear hI hd hL9
            go_simp
            rw [← hK]
            refine ⟨.slice (some ⟨w5.heap.size, 0, none⟩) 1 1, (by simp only [puts]; go_simp), .inl ⟨by decide, by decide, below_laid _⟩, w5.heap.size, B, q, rfl, hw5, fun c u hu => cells_lit w5 [.int .i64 x.a, .int .i64 x.b, .int .i64 x.c, .int .i64 x.d, .slice B x.vs.length q] 32 c u hu, ?_⟩
            exact (HL9.out.keep rd_V0 (Kp.alloc _)).more rd_V0 fun b hb' => ⟨hb'.1, by simp; omega⟩
          · have e51 : xx 51 = .map (some w1.heap.size) := hd 0 (by kernel_rfl) (by kernel_rfl)
            have e52 : xx 52 = vkv y := hd 1 (by kernel_rfl) (by kernel_rfl)
            have hmf : MapF 38 w5 w1.heap.size j f := HM4.out.of_block (show w5.heap[w1.heap.size]? = w4.heap[w1.heap.size]? from hI 1 (by decide))
            clear hI hd
            have hjm : j < maxLen := by unfold maxLen; omega
            have h1 := hmf.entry v_law Try.underlying52 zero_evs hjm (key := vkv y) HKY.out
            with_reducible obtain ⟨st, w9, hrun, hgr9, hent⟩ := h1
            rw [HVG.out] at hrun
            with_reducible refine wp_entry 52 (.tmp 51) (.tmp 52) ?en1n w1.heap.size (vkv y) _ ?en2n ?en3n hrun ?en4n
            case en1n => rfl
            case en2n => simp [Act.eval, Act.put, e51]
            case en3n => simp [Act.eval, Act.put, e52]
            rw [← hK]
            exact ⟨.tuple #[vg, goInt st], (by simp only [puts]), .inr (.inl ⟨rfl, hgr9⟩), st, rfl, hent⟩
          · have h1 : ∃ st : Nat, xx 57 = .tuple #[vg, goInt st] ∧ Ent 52 38 w1.heap.size j f (vkv y) w5 st := hd 5 (by kernel_rfl) (by kernel_rfl)
            with_reducible obtain ⟨st, e, -⟩ := h1
            clear hI hd
            go_simp
            rw [← hK]
            exact ⟨vg, (by simp only [puts]; go_simp), .inl ⟨by decide, by decide, Below.refl _ _⟩, rfl⟩
          · have h1 : ∃ (g : Nat) (B : Option Addr) (q : Nat), xx 56 = .slice (some ⟨g, 0, none⟩) 1 1 ∧ w4.heap.size ≤ g ∧ (∀ j u, ([.int .i64 x.a, .int .i64 x.b, .int .i64 x.c, .int .i64 x.d, .slice B x.vs.length q] : List Value)[j]? = some u → w5.cell? ⟨g, j, none⟩ = some u) ∧ Lst w5 (fun b => w4.heap.size ≤ b ∧ b < w5.heap.size) 3 RV0 (.slice B x.vs.length q) x.vs := hd 4 (by kernel_rfl) (by kernel_rfl)
            with_reducible obtain ⟨g9, B, q, e56, hg9, hc9, hL9⟩ := h1
            have e53 : xx 53 = vg := hd 6 (by kernel_rfl) (by kernel_rfl)
            have hgq : Gq w5 (fun b => recol col4 w4.heap.size (some y) b = some (some y)) (w1.heap.size + 1) 32 5 REv0 vg (fltE key y (l.take j)) := hI 2 (by decide)
            have hO := hI 0 (by decide)
            clear hI hd
            with_reducible refine wp_append_gq rd_Ev0 rfl (.tmp 53) (.tmp 56) 22 ?apa1n (fun b => recol col4 w4.heap.size (some y) b = some (some y)) (w1.heap.size + 1) 32 i0 _ 5 56 Try.underlying22 hi hz0 hz1 hz2 ?apa2n ?apa3n vg _ ?apa4n hgq g9 ?apa5n [.int .i64 x.a, .int .i64 x.b, .int .i64 x.c, .int .i64 x.d, .slice B x.vs.length q] ?apa6n hc9 ?apa7n x ?apa8n ?apa9n ?apb1n ?apb2n ?apb3n ?apb4n
            case apa1n => rfl
            case apa2n => rfl
            case apa3n => decide
            case apa4n => simp [Act.eval, Act.put, e53]
            case apa5n => simp [Act.eval, Act.put, e56]
            case apa6n => rfl
            case apa7n => simp [Value.oneCell']
            case apa8n => exact ⟨_, rfl, hL9.more rd_V0 fun b hb' => ⟨recol_new hb'.1, hb'.2, fun e => by have := (HOW.out b e).2; omega⟩, HRX.out⟩
            case apa9n => exact fun b hb' => recol_new (by omega)
            case apb1n => have := HGL.out; omega
            case apb2n => decide
            case apb3n => omega
            case apb4n =>
              intro v9 w9 hg9' hgr9 hbl9
              rw [← hK]
              exact ⟨v9, (by simp only [puts]), .inr (.inr ⟨rfl, hgr9⟩), hg9', fun b h1 h2 h3 => (hgr9.block b (by omega) (fun e => h3 e.symm)).trans (hO b h1 h2 h3)⟩
          · have h1 : ∃ st : Nat, xx 57 = .tuple #[vg, goInt st] ∧ Ent 52 38 w1.heap.size j f (vkv y) w5 st := hd 5 (by kernel_rfl) (by kernel_rfl)
            with_reducible obtain ⟨st, e, hent⟩ := h1
            clear hI hd
            go_simp
            rw [← hK]
            exact ⟨goInt st, (by simp only [puts]; go_simp), .inl ⟨by decide, by decide, Below.refl _ _⟩, st, rfl, hent⟩
        · intro xx w6 hb hP
          have e51 : xx 51 = .map (some w1.heap.size) := hP 0 (by decide) (by decide)
          obtain ⟨hg6, hO6⟩ : P7s w4 w1.heap.size vg col4 y key (l.take j) x w6 (xx 58) := hP 7 (by decide) (by decide)
          obtain ⟨st, e59, hent⟩ : StP 52 38 w1.heap.size j f (vkv y) w6 (xx 59) := hP 8 (by decide) (by decide)
          obtain ⟨w7, hrun, hm7, hgr7⟩ := hent.2 w6 (xx 58) rfl
          have hw6 := hb.size
          have HG7 := hide (hg6.beside rd_Ev0 (by show ¬ _ = _; rw [recol_low hm4, HGP.out.map]; simp) hgr7)
          have HM7 := hide hm7
          have HO7 := hide (show ∀ b, b < w4.heap.size → b ≠ w1.heap.size → vg.ownBlock ≠ some b → w7.heap[b]? = w4.heap[b]? from fun b h1 h2 h3 => (hgr7.block b (by omega) (by simp [h2])).trans (hO6 b h1 h2 h3))
          have HB7 := hide ((HB4.out.trans (hb.mono hw1)).grown hgr7 (by omega) fun k hk => by injection hk with hk; omega)
          have HS7 := hide (Nat.le_trans hw6 hgr7.size)
          clear hP hb hg6 hO6 hent hm7 hgr7
          simp only [puts, Act.put, List.setIfInBounds_toArray, List.set_cons_succ, List.set_cons_zero, List.drop]
          refine wpList_entryStore rfl 52 (.tmp 51) (.tmp 59) (.tmp 58) rfl w1.heap.size (goInt st) (xx 58) ?es1n ?es2n ?es3n hrun ?es4n
          case es1n => first | exact e51 | rfl
          case es2n => first | exact e59 | rfl
          case es3n => rfl
          go_wp2
          go_roundw
          case rel => exact ⟨j + 1, updF f (vkv y) (xx 58), recol col4 w4.heap.size (some y), ks4, by omega, by go_num, hide HM7.out, hide (by rw [HTS.out]; exact HGP.out.add hm4 hm4 HKX.out HG7.out HS7.out (by rw [HVG.out]; exact HO7.out)), hide HK4.out, hide HOK2.out, hide HB7.out⟩
          case measure => simp [intOf]; omega
      · obtain ⟨A9, c9, rfl⟩ := hf3.form
        have HU1 := hide (show (f (vkv y)).getD (.slice none 0 0) = .slice A9 (fltE key y (l.take j)).length c9 by rw [hf1]; rfl)
        have HK4 := hide (show KsOf key (l.take (j + 1)) ks ∧ ks.length ≤ j + 1 ∧ ks.Nodup from ⟨by rw [HTS.out]; exact HK.out.1.old HKX.out hf2, Nat.le_succ_of_le HK.out.2.1, HK.out.2.2⟩)
        have hpos : 0 < (fltE key y (l.take j)).length := List.length_pos_iff.2 hf2
        obtain ⟨n9, hn9⟩ : ∃ n, (fltE key y (l.take j)).length = n := ⟨_, rfl⟩
        rw [hn9] at HU1 hpos
        clear hn9 hf1 hf2 hf3
        have t9 : ((n9 : Int) == 0) = false := beq_eq_false_iff_ne.2 (by omega)
        have t9' : (n9 == 0) = false := beq_eq_false_iff_ne.2 (by omega)
        go_wp2_with (at_lookup; refine wpList_look rfl (.tmp 42) (.tmp 43) 52 (by rfl) 22 v_key Try.underlying52 (.slice none 0 0) (zero_evs _) w1.heap.size j f (vkv y) (by rfl) (by rfl) HKY.out HM3.out ?_; rw [HU1.out])
        obtain ⟨w4, hw4⟩ : ∃ w4, w2.alloc (.cells #[.int .i64 y.q, .int .i64 y.n, .string y.s] 38) = w4 := ⟨_, rfl⟩
        rw [hw4] at HM3 HX3 HV3 HBW3 hz3 y0 y1 y2 HG3 ⊢
        clear hw4
        have HGP := HG3
        have HM4 := HM3
        have HX4 := HX3
        have HV4 := HV3
        have HB4 := HBW3
        clear HG3 HM3 HX3 HV3 HBW3 y0 y1 y2
        obtain ⟨col4, hcol4⟩ : ∃ c, col = c := ⟨_, rfl⟩
        rw [hcol4] at HGP
        obtain ⟨ks4, hks4⟩ : ∃ c, ks = c := ⟨_, rfl⟩
        rw [hks4] at HGP HK4
        clear hcol4 hks4
        have HGV := hide (HGP.out.at_ y)
        obtain ⟨vg, hvg⟩ : ∃ vg, (f (vkv y)).getD (.slice none 0 0) = vg := ⟨_, rfl⟩
        have HVG := hide hvg
        rw [hvg] at HGV
        clear hvg
        have HOW := hide HGV.out.low
        have HIY := hide HGV.out.inY
        have HMN : Hid (vg.ownBlock ≠ some w1.heap.size) := hide fun e => by have := HIY.out _ e; rw [HGP.out.map] at this; cases this
        have HG0 := hide (HGV.out.less rd_Ev0 (Y' := (fun b => recol col4 w4.heap.size (some y) b = some (some y))) fun b hb hlt => (recol_low hlt).trans hb)
        have hm4 := HM4.out.lt
        have HXN : Hid (wr.heap.size ≠ w1.heap.size ∧ vg.ownBlock ≠ some wr.heap.size ∧ w2.heap.size ≠ w1.heap.size ∧ vg.ownBlock ≠ some w2.heap.size) := hide ⟨by omega, fun e => by have := HLW.out _ (by rw [HVG.out]; exact e); omega, by omega, fun e => by have := HLW.out _ (by rw [HVG.out]; exact e); omega⟩
        have HBC := hide (And.intro HX4.out.lt HV4.out.lt)
        refine wp_region_grow2 w1.heap.size (Nat.le_of_lt hm4) 9 [51, 52, 54, 55, 56, 57, 53, 58, 59] [Fix (.map (some w1.heap.size)), Fix (vkv y), Fix (.agg #[.int .i64 x.a, .int .i64 x.b, .int .i64 x.c, .int .i64 x.d, .slice A' n' c']), CpE w4.heap.size x, LitE w4.heap.size x, EntP 52 38 w1.heap.size j f (vkv y) vg, Fix vg, P7s w4 w1.heap.size vg col4 y key (l.take j) x, StP 52 38 w1.heap.size j f (vkv y)] (by kernel_rfl) (by kernel_rfl) (by kernel_rfl) (by kernel_rfl) (by kernel_rfl) (Iv15 w4 w1.heap.size vg.ownBlock (fun w => Gq w (fun b => recol col4 w4.heap.size (some y) b = some (some y)) (w1.heap.size + 1) 32 5 REv0 vg (fltE key y (l.take j)))) spI15 us15 (by kernel_rfl) ?_ (Tr15 w1.heap.size vg.ownBlock) sp15 ?_ ?_ ?_ ?_ ?_
        · intro d9
          match d9 with
          | 0 => exact fun _ _ _ _ => rfl
          | 1 => rfl
          | 2 => exact HG0.out.keep rd_Ev0 (Below.refl _ _).drew
          | _ + 3 => trivial
        · intro j9 w5 w6 _ ht hsz
          rcases ht with ⟨-, -, ht⟩ | ⟨-, ht⟩ | ⟨-, ht⟩
          · exact ht.mono (by omega)
          · exact (Below.refl w1.heap.size w5).grown ht (by omega) fun k hk => by injection hk with hk; omega
          · exact (Below.refl w1.heap.size w5).grown ht (by omega) fun k hk => by have := (HOW.out k hk).1; omega
        · intro j9 k9 hj9 hk9 hne hsp9 hwt9 w5 w6 v5 hsz ht hP5
          have hkc : k9 = 0 ∨ k9 = 1 ∨ k9 = 2 ∨ k9 = 3 ∨ k9 = 4 ∨ k9 = 5 ∨ k9 = 6 ∨ k9 = 7 ∨ k9 = 8 := by omega
          rcases ht with ⟨-, -, ht⟩ | ⟨rfl, ht⟩ | ⟨rfl, ht⟩
          · rcases hkc with rfl | rfl | rfl | rfl | rfl | rfl | rfl | rfl | rfl
            · exact hP5
            · exact hP5
            · exact hP5
            · exact CpE.keep hP5 (UpK.of_below _ ht)
            · exact LitE.keep hP5 (UpK.of_below _ ht)
            · exact EntP.keep hP5 ht.size fun hb => ht.block _ hb
            · exact hP5
            · exact P7s.keep hP5 hsz ht.size (fun b hb _ => ht.block b (Nat.lt_of_lt_of_le hb hsz)) (Gq.keep rd_Ev0 hP5.1 ht)
            · exact StP.keep hP5 ht.size fun hb => ht.block _ hb
          · have hu := UpK.of_grown (B0 := w4.heap.size) ht (fun b hb => by injection hb with hb; omega)
            rcases hkc with rfl | rfl | rfl | rfl | rfl | rfl | rfl | rfl | rfl
            · exact hP5
            · exact hP5
            · exact hP5
            · exact CpE.keep hP5 hu
            · exact LitE.keep hP5 hu
            · exact absurd rfl hne
            · exact hP5
            · exact absurd (show false = true from hwt9.symm.trans (by kernel_rfl)) Bool.false_ne_true
            · exact absurd (show false = true from hwt9.symm.trans (by kernel_rfl)) Bool.false_ne_true
          · have hmb : ∀ hb : w1.heap.size < w5.heap.size, w6.heap[w1.heap.size]? = w5.heap[w1.heap.size]? := fun hb => ht.block _ hb fun e => HMN.out e.symm
            rcases hkc with rfl | rfl | rfl | rfl | rfl | rfl | rfl | rfl | rfl
            · exact hP5
            · exact hP5
            · exact hP5
            · exact absurd (by decide) hsp9
            · exact absurd (by decide) hsp9
            · exact EntP.keep hP5 ht.size hmb
            · exact hP5
            · exact absurd rfl hne
            · exact StP.keep hP5 ht.size hmb
        · intro j9 d9 hj9 hd9 w5 w6 hsz ht hI5
          rcases ht with ⟨-, -, ht⟩ | ⟨rfl, ht⟩ | ⟨rfl, ht⟩
          · match d9 with
            | 0 => exact fun b h1 h2 h3 => (ht.block b (by omega)).trans (hI5 b h1 h2 h3)
            | 1 => exact (ht.block _ (by omega)).trans hI5
            | 2 => exact Gq.keep rd_Ev0 hI5 ht
            | _ + 3 => trivial
          · match d9 with
            | 0 => exact fun b h1 h2 h3 => (ht.block b (by omega) (by simp [h2])).trans (hI5 b h1 h2 h3)
            | 1 => exact absurd (by decide) hd9
            | 2 => exact Gq.beside rd_Ev0 hI5 (by show ¬ _ = _; rw [recol_low hm4, HGP.out.map]; simp) ht
            | _ + 3 => trivial
          · match d9 with
            | 0 => exact fun b h1 h2 h3 => (ht.block b (by omega) (fun e => h3 e.symm)).trans (hI5 b h1 h2 h3)
            | 1 => exact (ht.block _ (by omega) (fun e => HMN.out e.symm)).trans hI5
            | 2 => exact absurd (by decide) hd9
            | _ + 3 => trivial
        · intro j9 o9 hj9 ho xx w5 hb hI hd
          have hjc : j9 = 0 ∨ j9 = 1 ∨ j9 = 2 ∨ j9 = 3 ∨ j9 = 4 ∨ j9 = 5 ∨ j9 = 6 ∨ j9 = 7 ∨ j9 = 8 := by omega
          have hw5 := hb.size
          rcases hjc with rfl | rfl | rfl | rfl | rfl | rfl | rfl | rfl | rfl
          all_goals obtain rfl := Option.some.inj ho
          all_goals generalize hK : (fun (a' : Act) (w' : World) => _) = K
          all_goals simp only [puts]
          · go_simp
            rw [← hK]
            exact ⟨.map (some w1.heap.size), (by simp only [puts]; go_simp), .inl ⟨by decide, by decide, Below.refl _ _⟩, rfl⟩
          · have hO := hI 0 (by decide) w2.heap.size HBC.out.2 HXN.out.2.2.1 HXN.out.2.2.2
            have c0 := (World.cell?_of_block (w := w4) (w' := w5) (a := ⟨w2.heap.size, 0, none⟩) hO).trans (HV4.out.c 0 _ rfl)
            have c1 := (World.cell?_of_block (w := w4) (w' := w5) (a := ⟨w2.heap.size, 1, none⟩) hO).trans (HV4.out.c 1 _ rfl)
            have c2 := (World.cell?_of_block (w := w4) (w' := w5) (a := ⟨w2.heap.size, 2, none⟩) hO).trans (HV4.out.c 2 _ rfl)
            clear hO
            go_simp
            rw [← hK]
            exact ⟨.agg #[.int .i64 y.q, .int .i64 y.n, .string y.s], (by simp only [puts]; go_simp), .inl ⟨by decide, by decide, Below.refl _ _⟩, rfl⟩
          · have hO := hI 0 (by decide) wr.heap.size HBC.out.1 HXN.out.1 HXN.out.2.1
            have c0 := (World.cell?_of_block (w := w4) (w' := w5) (a := ⟨wr.heap.size, 0, none⟩) hO).trans (HX4.out.c 0 _ rfl)
            have c1 := (World.cell?_of_block (w := w4) (w' := w5) (a := ⟨wr.heap.size, 1, none⟩) hO).trans (HX4.out.c 1 _ rfl)
            have c2 := (World.cell?_of_block (w := w4) (w' := w5) (a := ⟨wr.heap.size, 2, none⟩) hO).trans (HX4.out.c 2 _ rfl)
            have c3 := (World.cell?_of_block (w := w4) (w' := w5) (a := ⟨wr.heap.size, 3, none⟩) hO).trans (HX4.out.c 3 _ rfl)
            have c4 := (World.cell?_of_block (w := w4) (w' := w5) (a := ⟨wr.heap.size, 4, none⟩) hO).trans (HX4.out.c 4 _ rfl)
            clear hO
            go_simp
            rw [← hK]
            exact ⟨.agg #[.int .i64 x.a, .int .i64 x.b, .int .i64 x.c, .int .i64 x.d, .slice A' n' c'], (by simp only [puts]; go_simp), .inl ⟨by decide, by decide, Below.refl _ _⟩, rfl⟩
          · have e : xx 54 = .agg #[.int .i64 x.a, .int .i64 x.b, .int .i64 x.c, .int .i64 x.d, .slice A' n' c'] := hd 2 (by kernel_rfl) (by kernel_rfl)
            have HW5 := hide (HB4.out.trans (hb.mono hw1))
            clear hI hd
            go_simp
            go_at_call 24
            refine (HCP.out _ HW5.out).mono ?_
            rintro en9 w9 ⟨B, q, rfl, hL9, hb9⟩
            rw [← hK]
            exact ⟨.agg #[.int .i64 x.a, .int .i64 x.b, .int .i64 x.c, .int .i64 x.d, .slice B x.vs.length q], (by simp only [puts]; go_simp), .inl ⟨by decide, by decide, hb9⟩, B, q, rfl, hL9.more rd_V0 fun b hb' => ⟨Nat.le_trans hw5 hb'.1, hb'.2⟩⟩
          · obtain ⟨B, q, e, hL9⟩ : CpE w4.heap.size x w5 (xx 55) := hd 3 (by kernel_rfl) (by kernel_rfl)
            have HL9 := hide hL9
            clear hI hd hL9
            go_simp
            rw [← hK]
            refine ⟨.slice (some ⟨w5.heap.size, 0, none⟩) 1 1, (by simp only [puts]; go_simp), .inl ⟨by decide, by decide, below_laid _⟩, w5.heap.size, B, q, rfl, hw5, fun c u hu => cells_lit w5 [.int .i64 x.a, .int .i64 x.b, .int .i64 x.c, .int .i64 x.d, .slice B x.vs.length q] 32 c u hu, ?_⟩
            exact (HL9.out.keep rd_V0 (Kp.alloc _)).more rd_V0 fun b hb' => ⟨hb'.1, by simp; omega⟩
          · have e51 : xx 51 = .map (some w1.heap.size) := hd 0 (by kernel_rfl) (by kernel_rfl)
            have e52 : xx 52 = vkv y := hd 1 (by kernel_rfl) (by kernel_rfl)
            have hmf : MapF 38 w5 w1.heap.size j f := HM4.out.of_block (show w5.heap[w1.heap.size]? = w4.heap[w1.heap.size]? from hI 1 (by decide))
            clear hI hd
            have hjm : j < maxLen := by unfold maxLen; omega
            have h1 := hmf.entry v_law Try.underlying52 zero_evs hjm (key := vkv y) HKY.out
            with_reducible obtain ⟨st, w9, hrun, hgr9, hent⟩ := h1
            rw [HVG.out] at hrun
            with_reducible refine wp_entry 52 (.tmp 51) (.tmp 52) ?en1o w1.heap.size (vkv y) _ ?en2o ?en3o hrun ?en4o
            case en1o => rfl
            case en2o => simp [Act.eval, Act.put, e51]
            case en3o => simp [Act.eval, Act.put, e52]
            rw [← hK]
            exact ⟨.tuple #[vg, goInt st], (by simp only [puts]), .inr (.inl ⟨rfl, hgr9⟩), st, rfl, hent⟩
          · have h1 : ∃ st : Nat, xx 57 = .tuple #[vg, goInt st] ∧ Ent 52 38 w1.heap.size j f (vkv y) w5 st := hd 5 (by kernel_rfl) (by kernel_rfl)
            with_reducible obtain ⟨st, e, -⟩ := h1
            clear hI hd
            go_simp
            rw [← hK]
            exact ⟨vg, (by simp only [puts]; go_simp), .inl ⟨by decide, by decide, Below.refl _ _⟩, rfl⟩
          · have h1 : ∃ (g : Nat) (B : Option Addr) (q : Nat), xx 56 = .slice (some ⟨g, 0, none⟩) 1 1 ∧ w4.heap.size ≤ g ∧ (∀ j u, ([.int .i64 x.a, .int .i64 x.b, .int .i64 x.c, .int .i64 x.d, .slice B x.vs.length q] : List Value)[j]? = some u → w5.cell? ⟨g, j, none⟩ = some u) ∧ Lst w5 (fun b => w4.heap.size ≤ b ∧ b < w5.heap.size) 3 RV0 (.slice B x.vs.length q) x.vs := hd 4 (by kernel_rfl) (by kernel_rfl)
            with_reducible obtain ⟨g9, B, q, e56, hg9, hc9, hL9⟩ := h1
            have e53 : xx 53 = vg := hd 6 (by kernel_rfl) (by kernel_rfl)
            have hgq : Gq w5 (fun b => recol col4 w4.heap.size (some y) b = some (some y)) (w1.heap.size + 1) 32 5 REv0 vg (fltE key y (l.take j)) := hI 2 (by decide)
            have hO := hI 0 (by decide)
            clear hI hd
            with_reducible refine wp_append_gq rd_Ev0 rfl (.tmp 53) (.tmp 56) 22 ?apa1o (fun b => recol col4 w4.heap.size (some y) b = some (some y)) (w1.heap.size + 1) 32 i0 _ 5 56 Try.underlying22 hi hz0 hz1 hz2 ?apa2o ?apa3o vg _ ?apa4o hgq g9 ?apa5o [.int .i64 x.a, .int .i64 x.b, .int .i64 x.c, .int .i64 x.d, .slice B x.vs.length q] ?apa6o hc9 ?apa7o x ?apa8o ?apa9o ?apb1o ?apb2o ?apb3o ?apb4o
            case apa1o => rfl
            case apa2o => rfl
            case apa3o => decide
            case apa4o => simp [Act.eval, Act.put, e53]
            case apa5o => simp [Act.eval, Act.put, e56]
            case apa6o => rfl
            case apa7o => simp [Value.oneCell']
            case apa8o => exact ⟨_, rfl, hL9.more rd_V0 fun b hb' => ⟨recol_new hb'.1, hb'.2, fun e => by have := (HOW.out b e).2; omega⟩, HRX.out⟩
            case apa9o => exact fun b hb' => recol_new (by omega)
            case apb1o => have := HGL.out; omega
            case apb2o => decide
            case apb3o => omega
            case apb4o =>
              intro v9 w9 hg9' hgr9 hbl9
              rw [← hK]
              exact ⟨v9, (by simp only [puts]), .inr (.inr ⟨rfl, hgr9⟩), hg9', fun b h1 h2 h3 => (hgr9.block b (by omega) (fun e => h3 e.symm)).trans (hO b h1 h2 h3)⟩
          · have h1 : ∃ st : Nat, xx 57 = .tuple #[vg, goInt st] ∧ Ent 52 38 w1.heap.size j f (vkv y) w5 st := hd 5 (by kernel_rfl) (by kernel_rfl)
            with_reducible obtain ⟨st, e, hent⟩ := h1
            clear hI hd
            go_simp
            rw [← hK]
            exact ⟨goInt st, (by simp only [puts]; go_simp), .inl ⟨by decide, by decide, Below.refl _ _⟩, st, rfl, hent⟩
        · intro xx w6 hb hP
          have e51 : xx 51 = .map (some w1.heap.size) := hP 0 (by decide) (by decide)
          obtain ⟨hg6, hO6⟩ : P7s w4 w1.heap.size vg col4 y key (l.take j) x w6 (xx 58) := hP 7 (by decide) (by decide)
          obtain ⟨st, e59, hent⟩ : StP 52 38 w1.heap.size j f (vkv y) w6 (xx 59) := hP 8 (by decide) (by decide)
          obtain ⟨w7, hrun, hm7, hgr7⟩ := hent.2 w6 (xx 58) rfl
          have hw6 := hb.size
          have HG7 := hide (hg6.beside rd_Ev0 (by show ¬ _ = _; rw [recol_low hm4, HGP.out.map]; simp) hgr7)
          have HM7 := hide hm7
          have HO7 := hide (show ∀ b, b < w4.heap.size → b ≠ w1.heap.size → vg.ownBlock ≠ some b → w7.heap[b]? = w4.heap[b]? from fun b h1 h2 h3 => (hgr7.block b (by omega) (by simp [h2])).trans (hO6 b h1 h2 h3))
          have HB7 := hide ((HB4.out.trans (hb.mono hw1)).grown hgr7 (by omega) fun k hk => by injection hk with hk; omega)
          have HS7 := hide (Nat.le_trans hw6 hgr7.size)
          clear hP hb hg6 hO6 hent hm7 hgr7
          simp only [puts, Act.put, List.setIfInBounds_toArray, List.set_cons_succ, List.set_cons_zero, List.drop]
          refine wpList_entryStore rfl 52 (.tmp 51) (.tmp 59) (.tmp 58) rfl w1.heap.size (goInt st) (xx 58) ?es1o ?es2o ?es3o hrun ?es4o
          case es1o => first | exact e51 | rfl
          case es2o => first | exact e59 | rfl
          case es3o => rfl
          go_wp2
          go_roundw
          case rel => exact ⟨j + 1, updF f (vkv y) (xx 58), recol col4 w4.heap.size (some y), ks4, by omega, by go_num, hide HM7.out, hide (by rw [HTS.out]; exact HGP.out.add hm4 hm4 HKX.out HG7.out HS7.out (by rw [HVG.out]; exact HO7.out)), hide HK4.out, hide HOK2.out, hide HB7.out⟩
          case measure => simp [intOf]; omega
    · obtain rfl : j = m := by omega
      have HTL : Hid (l.take j = l) := hide (List.take_of_length_le (by rw [HM.out]; exact Nat.le_refl _))
      rw [HTL.out] at HG HK HOK
      have hkl := HK.out.2.1
      have HSR := hide (vsort_any HG.out.keys (by omega))
      have HLK := hide HG.out.keys.low
      have HIK := hide HG.out.keys.inY
      go_wp2_with fail
      refine HSR.out.mono ?_
      rintro en w5 ⟨rfl, ks2, hp, hpw, hgk, hgr⟩
      have hmlt := HMP.out.lt
      have hwr := HB.out.size
      have hw5 := hgr.size
      have HB5 := hide (HB.out.grown hgr HB.out.size fun k hk => by have := (HLK.out k hk).1; omega)
      have HM5 := hide (HMP.out.grown hgr fun e => by have := HIK.out _ e.symm; rw [HG.out.map] at this; cases this)
      have hkn2 := hp.length_eq
      have HKL5 := hide (show Lst w5 (fun b => w.heap.size ≤ b ∧ b < w5.heap.size) 3 RV0 u9 ks2 from gq_lst rd_V0 (by decide) hgk (by unfold maxLen; omega) (fun b hb => by have := HG.out.low b (by rw [hb]; simp); omega))
      have HGR := hide (show ∀ k : V3, Lst w5 (fun b => w.heap.size ≤ b ∧ b < w5.heap.size) 5 REv0 ((f (vkv k)).getD (.slice none 0 0)) (fltE key k l) from fun k => gq_lst rd_Ev0 (by decide) ((HG.out.at_ k).away rd_Ev0 hgr fun b hb h => by have := HIK.out b hb; rw [this] at h; cases h) (by have := List.length_filter_le (fun x => open Classical in decide (keyVE key x = some k)) l; unfold fltE; unfold maxLen; have := HM.out; omega) (fun b hb => by have := HG.out.low b (by rw [hb]; simp); omega))
      have HSPL := hide (show SplOf (fun x y => 0 ≤ cmpV y x) key l ks2 (ks2.map fun k => fltE key k l) ∧ ks2.Nodup from ⟨⟨hpw.imp fun {a b} h => by omega, fun k => (hp.mem_iff).trans (HK.out.1.mem k), rfl⟩, hp.symm.nodup HK.out.2.2⟩)
      obtain ⟨KA2, kc2, hu9⟩ := HKL5.out.form
      rw [hu9] at HKL5 ⊢
      obtain ⟨n, hn⟩ : ∃ n, ks2.length = n := ⟨_, rfl⟩
      have HNK := hide hn
      have hn1 : n ≤ 1000 := by omega
      rw [hn] at HKL5 ⊢
      clear hp hpw hgk hgr hkl hkn2 HSR HLK HIK HG HMP HB hu9 hn
      go_wp2_with fail
      go_loopw [15, 65] (fun u i wr => ∃ j : Nat, j ≤ n ∧ i = .int .i64 j ∧ Hid (Gq wr (fun b => w.heap.size ≤ b) w5.heap.size 22 1 RLE u ((ks2.take j).map fun k => fltE key k l)) ∧ Hid (Below w5.heap.size w5 wr)) (fun _ i _ => n - (intOf i).toNat)
      case atStart => exact ⟨0, Nat.zero_le _, rfl, hide Gq.nil, hide (Below.refl _ _)⟩
      case round =>
        obtain ⟨q, hq, rfl, HGO, HBO⟩ := hrel
        by_cases hlq : q < n
        · have hql : q < ks2.length := by rw [HNK.out]; exact hlq
          obtain ⟨g3, off3, zs, e3, hg3, hzl, hc3, ⟨rfl, hgv, hsv⟩⟩ := HKL5.out.at_ hql
          cases e3
          have HTK : Hid ((ks2.take (q + 1)).map (fun k => fltE key k l) = (ks2.take q).map (fun k => fltE key k l) ++ [fltE key ks2[q] l]) := hide (by rw [List.take_succ_eq_append_getElem hql, List.map_append]; rfl)
          obtain ⟨y, hy⟩ : ∃ y, ks2[q] = y := ⟨_, rfl⟩
          rw [hy] at hgv hsv HTK
          have k0 := keep1 HBO.out (hc3 0 _ rfl)
          have k1 := keep1 HBO.out (hc3 1 _ rfl)
          have k2 := keep1 HBO.out (hc3 2 _ rfl)
          rw [hy] at k0 k1 k2
          rw [Nat.add_zero] at k0
          have HKY := hide (v_of hgv.1 hgv.2 hsv)
          have hu0 : (0 : Int) ≤ (q : Int) := by omega
          have hu1 : (q : Int) < (n : Int) := by omega
          obtain ⟨A9, c9, hvf⟩ := (HGR.out y).form
          have HGY := hide (HGR.out y)
          rw [hvf] at HGY
          have HU1 := hide hvf
          obtain ⟨n9, hn9⟩ : ∃ n, (fltE key y l).length = n := ⟨_, rfl⟩
          rw [hn9] at HU1 HGY
          have hwo := HBO.out.size
          have hba := below_laid (w := wr) (.cells #[.int .i64 y.q, .int .i64 y.n, .string y.s] 38)
          have hz1' : (wr.alloc (.cells #[.int .i64 y.q, .int .i64 y.n, .string y.s] 38)).heap.size = wr.heap.size + 1 := World.size_alloc _ _
          have hbb := bthen hba (below_laid (w := wr.alloc (.cells #[.int .i64 y.q, .int .i64 y.n, .string y.s] 38)) (.cells #[.slice A9 n9 c9] 22))
          have hz2' : ((wr.alloc (.cells #[.int .i64 y.q, .int .i64 y.n, .string y.s] 38)).alloc (.cells #[.slice A9 n9 c9] 22)).heap.size = wr.heap.size + 1 + 1 := by rw [World.size_alloc, hz1']
          have HMB := hide (((HM5.out.keep (HBO.out)).keep hba))
          have HG2 := hide (HGO.out.keep rd_LE hbb)
          have HCL := hide (cells_lit (wr.alloc (.cells #[.int .i64 y.q, .int .i64 y.n, .string y.s] 38)) [.slice A9 n9 c9] 22)
          have HLO := hide HGO.out.low
          have HRE := hide (show RLE ((wr.alloc (.cells #[.int .i64 y.q, .int .i64 y.n, .string y.s] 38)).alloc (.cells #[.slice A9 n9 c9] 22)) (fun b => w.heap.size ≤ b ∧ b < ((wr.alloc (.cells #[.int .i64 y.q, .int .i64 y.n, .string y.s] 38)).alloc (.cells #[.slice A9 n9 c9] 22)).heap.size ∧ u15.ownBlock ≠ some b) [.slice A9 n9 c9] (fltE key y l) from
            ⟨_, rfl, (HGY.out.keep rd_Ev0 (Kp.of_below (bthen HBO.out hbb))).more rd_Ev0 fun b hb => ⟨hb.1, by omega, fun e => by have := (HLO.out b e).1; omega⟩⟩)
          have HBB := hide (HBO.out.trans (hbb.mono hwo))
          have hlk : ((ks2.take q).map fun k => fltE key k l).length < 1099511627776 := by rw [List.length_map, List.length_take]; omega
          clear hba hbb hc3 hzl hvf hn9 hy hgv hsv
          go_wp2_with (first
            | (at_lookup; refine wpList_look rfl (.tmp 70) (.tmp 71) 52 (by rfl) 22 v_key Try.underlying52 (.slice none 0 0) (zero_evs _) w1.heap.size _ f (vkv y) (by rfl) (by rfl) HKY.out HMB.out ?_; rw [HU1.out])
            | (at_builtin; refine wpList_append_gq rd_LE rfl _ _ 34 rfl (fun b => w.heap.size ≤ b) w5.heap.size 22 i2 _ 1 24 Try.underlying34 hi2 hz20 hz21 hz22 rfl (by decide) u15 _ rfl HG2.out (wr.heap.size + 1) rfl [.slice A9 n9 c9] rfl ?cc (by simp [Value.oneCell']) (fltE key y l) HRE.out ?cy hlk (by decide) ?cb ?_; (case cc => first | exact HCL.out | (rw [hz1'] at HCL; exact HCL.out)); (case cy => intro b hb; omega); (case cb => omega); intro v7 w7 hg7 hgr7 hb7))
          go_roundw
          case rel => exact ⟨q + 1, by omega, by go_num, hide (by rw [HTK.out]; exact hg7), hide (HBB.out.trans hb7)⟩
          case measure => simp [intOf]; omega
        · obtain rfl : q = n := by omega
          have HT2 : Hid (ks2.take q = ks2) := hide (List.take_of_length_le (by rw [HNK.out]; exact Nat.le_refl _))
          rw [HT2.out] at HGO
          have hwo := HBO.out.size
          have HLP := hide (show Lst wr (fun b => w.heap.size ≤ b ∧ b < wr.heap.size) 1 RLE u15 (ks2.map fun k => fltE key k l) from (HGO.out.lst rd_LE (by decide) (by rw [List.length_map, HNK.out]; unfold maxLen; omega)))
          have HLK := hide ((HKL5.out.keep rd_V0 (Kp.of_below HBO.out)).more rd_V0 (Y := fun b => w.heap.size ≤ b ∧ b < wr.heap.size) fun b hb => ⟨hb.1, by omega⟩)
          go_wp2
          go_ret3
          exact ⟨bthen HB5.out HBO.out, 0, _, _, rfl, ⟨fun _ => ⟨HST.out, HOK.out⟩, fun _ => rfl⟩, fun _ => ⟨ks2, _, HSPL.out, HLK.out, HLP.out⟩⟩
end Go.Proofs.Ytbendimkejndiaa
