/- The law's own function: what the walk shows. -/
import Derived.Test.YtbendimkejndiaaTCas
namespace Go.Proofs.Ytbendimkejndiaa
open Go.RowKit
set_option linter.unusedVariables false
set_option linter.unusedSimpArgs false
abbrev EvL (w : World) (v : Value) (l : List Evt) : Prop := Lst w (· < w.heap.size) 5 REv0 v l
abbrev VlL (w : World) (v : Value) (l : List V3) : Prop := Lst w (· < w.heap.size) 3 RV0 v l
abbrev LsL (w : World) (v : Value) (l : List (List Evt)) : Prop := Lst w (· < w.heap.size) 1 RLE v l
theorem Lst.in_ {α : Type} {R : World → (Nat → Prop) → List Value → α → Prop} (hR : Rd R) {w : World} {B sz : Nat} {v : Value} {l : List α} (h : Lst w (fun b => B ≤ b ∧ b < w.heap.size) sz R v l) : Lst w (· < w.heap.size) sz R v l := h.more hR fun b hb => hb.2
theorem mrg_start {a : List Evt} (h : Strm a) (b : List Evt) : Mrg a (b.drop b.length) a := by
  rw [List.drop_length]
  exact ⟨h.2.1, fun x => by simp, by simp⟩
/-- The events that are merged so far. -/
theorem mrg_sub {a b I : List Evt} {r : Nat} (h : Mrg a (b.drop r) I) : ∀ x ∈ I, x ∈ a ++ b := fun x hx => by
  rcases List.mem_append.1 ((h.2.1 x).1 hx) with h | h
  · exact List.mem_append_left _ h
  · exact List.mem_append_right _ (List.mem_of_mem_drop h)
theorem mrg_ok {a b I : List Evt} {r : Nat} (h : Mrg a (b.drop r) I) (hp : ∀ x ∈ a ++ b, Plcd x) (hc : Compat (a ++ b)) : Strm I := strm_of h.1 (fun x hx => hp x (mrg_sub h x hx)) (hc.sub (mrg_sub h))
theorem mrg_step {a b I o : List Evt} {j : Nat} (hj : j < b.length) (h : Mrg a (b.drop (j + 1)) I) (k : SrtOf (I ++ [b[j]]) o) : Mrg a (b.drop j) o := by
  rw [List.drop_eq_getElem_cons hj]; exact mrg_cons h k
theorem few_vs {l : List Evt} (h : fewE l = true) : l.length ≤ 12 ∧ ∀ x ∈ l, x.vs.length ≤ 1000 := ⟨(few_ev h).2.1, fun x hx => Nat.le_trans ((few_ev h).2.2 x hx) (by omega)⟩
/-- The part of a list that has the key k, if the key is there at all. -/
theorem part_at {key : List Int} {l : List Evt} {ks : List V3} {ps : List (List Evt)} (h : SplOf (fun x y => 0 ≤ cmpV y x) key l ks ps) {j : Nat} {k : V3} (hj : ks[j]? = some k) : ps[j]? = some (fltE key k l) := by
  rw [h.2.2, List.getElem?_map, hj]; rfl
/-- No more keys than events. -/
theorem ks_len {key : List Int} {l : List Evt} {ks : List V3} {ps : List (List Evt)} (h : SplOf (fun x y => 0 ≤ cmpV y x) key l ks ps) (hn : ks.Nodup) : ks.length ≤ l.length := by
  have h1 : ∀ k ∈ ks, some k ∈ l.map (keyVE key) := fun k hk => by
    obtain ⟨x, hx, e⟩ := (h.2.1 k).1 hk
    exact List.mem_map.2 ⟨x, hx, e⟩
  have h2 : (ks.map some).Nodup := hn.map _ (fun a b hab e => hab (Option.some.inj e))
  have h3 : ∀ (m o : List (Option V3)), m.Nodup → (∀ x ∈ m, x ∈ o) → m.length ≤ o.length := by
    intro m
    induction m with
    | nil => intro o _ _; exact Nat.zero_le _
    | cons x m ih =>
      intro o hm ho
      obtain ⟨p, q, rfl⟩ := List.append_of_mem (ho x (List.mem_cons_self ..))
      obtain ⟨n1, n2⟩ := List.nodup_cons.1 hm
      have := ih (p ++ q) n2 fun y hy => by
        have h5 := ho y (List.mem_cons_of_mem _ hy)
        simp only [List.mem_append, List.mem_cons] at h5 ⊢
        rcases h5 with h5 | h5 | h5
        · exact .inl h5
        · subst h5; exact absurd hy n1
        · exact .inr h5
      simp at this ⊢
      omega
  have := h3 (ks.map some) (l.map (keyVE key)) h2 fun x hx => by
    obtain ⟨k, hk, rfl⟩ := List.mem_map.1 hx
    exact h1 k hk
  simpa using this
theorem fltE_len (key : List Int) (k : V3) (l : List Evt) : (fltE key k l).length ≤ l.length := by unfold fltE; exact List.length_filter_le _ _
set_option maxRecDepth 100000 in
set_option maxHeartbeats 16000000 in
theorem law_any (va vb kv : Value) (a b : List Evt) (key : List Int) (w : World) (ha : EvL w va a) (hb : EvL w vb b) (hk : Lst w (· < w.heap.size) 1 RIn kv key) :
    Calls Try.prog 3 #[va, vb, kv] w fun e w' => e = .returned (.bool true) ∧ Below w.heap.size w w' := by
  obtain ⟨i1, hi1, hz10, hz11, hz12⟩ := info_parts iq_v
  have HCS := hide (case_any w)
  obtain ⟨A, ac, rfl⟩ := ha.form
  obtain ⟨B, bc, rfl⟩ := hb.form
  obtain ⟨K, kc, rfl⟩ := hk.form
  have HFA := hide (fun (w' : World) => few_any w' (.slice A a.length ac) a (Z := (· < w.heap.size)))
  have HA := hide ha
  have HB := hide hb
  have HK := hide hk
  obtain ⟨na, hna⟩ : ∃ n, a.length = n := ⟨_, rfl⟩
  obtain ⟨nb, hnb⟩ : ∃ n, b.length = n := ⟨_, rfl⟩
  obtain ⟨nk, hnk⟩ : ∃ n, key.length = n := ⟨_, rfl⟩
  have HNA := hide hna
  have HNB := hide hnb
  rw [hna] at HA ⊢
  rw [hnb] at HB ⊢
  rw [hnk] at HK ⊢
  have hkl := hk.len
  rw [hnk] at hkl
  unfold maxLen at hkl
  clear ha hb hk hna hnb hnk HFA
  go_enter Try.func3, Try.ntmps3
  go_wp2_with fail
  refine HCS.out.mono ?_
  rintro en w1 ⟨rfl, hb1⟩
  have HW1 := hide hb1
  have HF1 := hide (few_any w1 _ a (HA.out.up rd_Ev0 hb1))
  have HF2 := hide (few_any w1 _ b (HB.out.up rd_Ev0 hb1))
  clear hb1 HCS
  cases hfa : fewE a
  · rw [hfa] at HF1
    clear hfa
    go_wp2_with fail
    refine HF1.out.mono ?_
    rintro en w2 ⟨rfl, rfl⟩
    go_wp2
    go_ret
    exact ⟨rfl, HW1.out⟩
  rw [hfa] at HF1
  cases hfb : fewE b
  · rw [hfb] at HF2
    clear hfa hfb
    go_wp2_with fail
    refine HF1.out.mono ?_
    rintro en w2 ⟨rfl, rfl⟩
    go_wp2_with fail
    refine HF2.out.mono ?_
    rintro en w2 ⟨rfl, rfl⟩
    go_wp2
    go_ret
    exact ⟨rfl, HW1.out⟩
  rw [hfb] at HF2
  have HSA := hide (few_vs hfa)
  have HSB := hide (few_vs hfb)
  clear hfa hfb
  by_cases h40 : 40 < nk
  · have t1 : decide ((40 : Int) < (nk : Int)) = true := decide_eq_true (by omega)
    have h40' : (40 : Int) < (nk : Int) := by omega
    go_wp2_with fail
    refine HF1.out.mono ?_
    rintro en w2 ⟨rfl, rfl⟩
    go_wp2_with fail
    refine HF2.out.mono ?_
    rintro en w2 ⟨rfl, rfl⟩
    go_wp2
    go_ret
    exact ⟨rfl, HW1.out⟩
  have t1 : decide ((40 : Int) < (nk : Int)) = false := decide_eq_false (by omega)
  have h40' : (nk : Int) ≤ 40 := by omega
  have hla : a.length + b.length ≤ 24 := by have := HSA.out.1; have := HSB.out.1; omega
  have HMG := hide (merge_any _ _ a b w1 (HA.out.up rd_Ev0 HW1.out) (HB.out.up rd_Ev0 HW1.out) (by omega) HSA.out.2 HSB.out.2)
  go_wp2_with fail
  refine HF1.out.mono ?_
  rintro en w2 ⟨rfl, rfl⟩
  go_wp2_with fail
  refine HF2.out.mono ?_
  rintro en w2 ⟨rfl, rfl⟩
  go_wp2_with fail
  refine HMG.out.mono ?_
  rintro en w2 ⟨k2, vB, rfl, hb2, hk2, ho2⟩
  by_cases e2 : k2 = 0
  case neg =>
    have t2 : (k2 != 0) = true := bne_iff_ne.2 e2
    clear hk2 ho2
    go_wp2
    go_ret
    exact ⟨rfl, bthen HW1.out hb2⟩
  subst e2
  obtain ⟨S, hsS, hlS⟩ := ho2 rfl
  have HSS := hide hsS
  have HLS := hide (Lst.in_ rd_Ev0 hlS)
  have HST := hide (hk2.1 rfl)
  have HW2 := hide (bthen HW1.out hb2)
  have HPL := hide (show ∀ x ∈ a ++ b, Plcd x from fun x hx => (List.mem_append.1 hx).elim (HST.out.1.1.1 x) (HST.out.1.2.1 x))
  have HVS := hide (show ∀ x ∈ a ++ b, x.vs.length ≤ 1000 from fun x hx => (List.mem_append.1 hx).elim (HSA.out.2 x) (HSB.out.2 x))
  have HA2 := hide (HA.out.up rd_Ev0 HW2.out)
  have HB2 := hide (HB.out.up rd_Ev0 HW2.out)
  clear hk2 ho2 hb2 hsS hlS HMG HF1 HF2
  have hnbz : nb ≤ 24 := by have := HNB.out; omega
  have tw : IntKind.i64.wrap ((nb : Int) - 1) = (nb : Int) - 1 := by rw [IntKind.wrap_i64]; omega
  go_wp2_with fail
  go_loopw [9, 10] (fun u i wr => ∃ (r : Nat) (y : Int) (I : List Evt), i = .int .i64 y ∧ y = (r : Int) - 1 ∧ r ≤ nb ∧ Hid (Mrg a (b.drop r) I) ∧ Hid (EvL wr u I) ∧ Hid (Below w2.heap.size w2 wr)) (fun _ i _ => (intOf i + 1).toNat)
  case atStart => exact ⟨nb, (nb : Int) - 1, a, by first | rfl | rw [tw], rfl, Nat.le_refl _, hide (by rw [← HNB.out]; exact mrg_start HST.out.1.1 b), hide (by rw [← HNA.out] at HA2; rw [← HNA.out]; exact HA2.out), hide (Below.refl _ _)⟩
  case round =>
    obtain ⟨r, y, I, rfl, hy, hr, HMI, HI, HW3⟩ := hrel
    have HWW := hide (bthen HW2.out HW3.out)
    have hIl : I.length ≤ 24 := by have h1 := HMI.out.2.2; rw [List.length_append, List.length_drop] at h1; omega
    rcases r with _ | j
    · have hyn : y < 0 := by omega
      have HIS : Hid (I = S) := hide (HMI.out.uniq HSS.out fun x => by simp)
      have HSM := hide (same_any wr u9 vB I S HI.out (HLS.out.up rd_Ev0 HW3.out))
      have HSP := hide (fun (W' : World) (h : Below w2.heap.size w2 W') => split_any vB (.slice K nk kc) S key W' (HLS.out.up rd_Ev0 h) (HK.out.up rd_In (bthen HW2.out h)) (by have := HSS.out.2.2; rw [List.length_append] at this; omega) (fun x hx => HVS.out x ((HSS.out.2.1 x).1 hx)))
      go_wp2_with fail
      refine HSM.out.mono ?_
      rintro en w4 ⟨bb, hbb, rfl, hb4⟩
      obtain rfl : bb = true := hbb.2 HIS.out
      have HW4 := hide (bthen HW3.out hb4)
      clear hbb hb4 HSM HIS HI HMI HWW hIl
      go_wp2_with fail
      refine (HSP.out w4 HW4.out).mono ?_
      rintro en w5 ⟨hb5, k5, vx, vp, rfl, hk5, ho5⟩
      by_cases e5 : k5 = 0
      case neg =>
        have t5 : (k5 != 0) = true := bne_iff_ne.2 e5
        clear hk5 ho5
        go_wp2
        go_ret
        exact ⟨rfl, bthen (bthen HW2.out HW4.out) hb5⟩
      subst e5
      obtain ⟨ks, ps, ⟨hsp, hnd⟩, hlk, hlp⟩ := ho5 rfl
      have HKO := hide (hk5.1 rfl).2
      have HSPL := hide hsp
      have HLK := hide (Lst.in_ rd_V0 hlk)
      have HLP := hide (Lst.in_ rd_LE hlp)
      have HW5 := hide (bthen HW4.out hb5)
      have HKA := hide (show ∀ x ∈ a, keyOkE key x from fun x hx => HKO.out x ((HSS.out.2.1 x).2 (List.mem_append_left _ hx)))
      have HKB := hide (show ∀ x ∈ b, keyOkE key x from fun x hx => HKO.out x ((HSS.out.2.1 x).2 (List.mem_append_right _ hx)))
      have HSPA := hide (fun (W' : World) (h : Below w2.heap.size w2 W') => split_any (.slice A na ac) (.slice K nk kc) a key W' (HA2.out.up rd_Ev0 h) (HK.out.up rd_In (bthen HW2.out h)) (by omega) HSA.out.2)
      have HSPB := hide (fun (W' : World) (h : Below w2.heap.size w2 W') => split_any (.slice B nb bc) (.slice K nk kc) b key W' (HB2.out.up rd_Ev0 h) (HK.out.up rd_In (bthen HW2.out h)) (by omega) HSB.out.2)
      obtain ⟨KA, kac, rfl⟩ := hlk.form
      obtain ⟨PA, pac, rfl⟩ := hlp.form
      have hlen5 : ps.length = ks.length := by rw [hsp.2.2, List.length_map]
      rw [hlen5] at HLP ⊢
      clear hk5 ho5 hsp hnd hlk hlp hb5 HSP HLS
      go_wp2_with fail
      refine (HSPA.out w5 HW5.out).mono ?_
      rintro en w6 ⟨hb6, k6, vx6, vp6, rfl, hk6, ho6⟩
      obtain rfl : k6 = 0 := hk6.2 ⟨HST.out.1.1, HKA.out⟩
      obtain ⟨xs, p, ⟨hsp6, hnd6⟩, hlk6, hlp6⟩ := ho6 rfl
      have HSPX := hide hsp6
      have HNDX := hide hnd6
      have HLX := hide (Lst.in_ rd_V0 hlk6)
      have HLXP := hide (Lst.in_ rd_LE hlp6)
      have HW6 := hide (bthen HW5.out hb6)
      obtain ⟨XA, xac, rfl⟩ := hlk6.form
      obtain ⟨XP, xpc, rfl⟩ := hlp6.form
      have hlen6 : p.length = xs.length := by rw [hsp6.2.2, List.length_map]
      rw [hlen6] at HLXP ⊢
      have HB6 := hide hb6
      clear hk6 ho6 hsp6 hnd6 hlk6 hlp6 hb6 HSPA
      go_wp2_with fail
      refine (HSPB.out w6 HW6.out).mono ?_
      rintro en w7 ⟨hb7, k7, vx7, vp7, rfl, hk7, ho7⟩
      obtain rfl : k7 = 0 := hk7.2 ⟨HST.out.1.2, HKB.out⟩
      obtain ⟨ys, q, ⟨hsp7, hnd7⟩, hlk7, hlp7⟩ := ho7 rfl
      have HSPY := hide hsp7
      have HNDY := hide hnd7
      have HLY := hide (Lst.in_ rd_V0 hlk7)
      have HLYP := hide (Lst.in_ rd_LE hlp7)
      have HW7 := hide (bthen HW6.out hb7)
      obtain ⟨YA, yac, rfl⟩ := hlk7.form
      obtain ⟨YP, ypc, rfl⟩ := hlp7.form
      have hlen7 : q.length = ys.length := by rw [hsp7.2.2, List.length_map]
      rw [hlen7] at HLYP ⊢
      replace HLX := hide (HLX.out.up rd_V0 hb7)
      replace HLXP := hide (HLXP.out.up rd_LE hb7)
      replace HLK := hide (HLK.out.up rd_V0 (bthen HB6.out hb7))
      replace HLP := hide (HLP.out.up rd_LE (bthen HB6.out hb7))
      clear hk7 ho7 hsp7 hnd7 hlk7 hlp7 hb7 HSPB HB6 HW3 HW4 HW5 HW6
      have HFIN := hide (bthen HW2.out HW7.out)
      obtain ⟨nx, hnx⟩ : ∃ n, xs.length = n := ⟨_, rfl⟩
      obtain ⟨ny, hny⟩ : ∃ n, ys.length = n := ⟨_, rfl⟩
      obtain ⟨n, hn⟩ : ∃ n, ks.length = n := ⟨_, rfl⟩
      have HNX := hide hnx
      have HNY := hide hny
      have HNN := hide hn
      rw [hnx] at HLX HLXP hlen6 ⊢
      rw [hny] at HLY HLYP hlen7 ⊢
      rw [hn] at HLK HLP hlen5 ⊢
      clear hnx hny hn
      go_wp2_with fail
      have hnz := HLK.out.len
      rw [HNN.out] at hnz
      have hxz := HLX.out.len
      rw [HNX.out] at hxz
      have hyz := HLY.out.len
      rw [HNY.out] at hyz
      unfold maxLen at hnz hxz hyz
      go_loopw [131] (fun i wr => ∃ j : Nat, j ≤ n ∧ i = .int .i64 j ∧ Hid (Below w7.heap.size w7 wr)) (fun i _ => n - (intOf i).toNat)
      case atStart => exact ⟨0, Nat.zero_le _, rfl, hide (Below.refl _ _)⟩
      case round =>
        obtain ⟨j, hj, rfl, HBR⟩ := hrel
        by_cases hlt : j < n
        · have hjk : j < ks.length := by rw [HNN.out]; exact hlt
          have hjp : j < ps.length := by rw [hlen5]; exact hlt
          obtain ⟨g0, off0, cs0, e0, -, -, hc0, ⟨rfl, hgk⟩⟩ := HLK.out.at_ hjk
          subst e0
          obtain ⟨g5, off5, cs5, e5, -, -, hc5, ⟨u0, rfl, hu0⟩⟩ := HLP.out.at_ hjp
          subst e5
          have HPJ : Hid (ps[j] = fltE key ks[j] S) := hide (by
            have h1 := part_at HSPL.out (List.getElem?_eq_getElem hjk)
            rw [List.getElem?_eq_getElem hjp] at h1
            exact Option.some.inj h1)
          obtain ⟨k, hk⟩ : ∃ k, ks[j] = k := ⟨_, rfl⟩
          rw [HPJ.out] at hu0
          rw [hk] at hu0
          have HU0 := hide (Lst.up rd_Ev0 hu0 (Below.refl _ _))
          have c0 := keep1 HBR.out (hc0 0 _ rfl)
          have c1 := keep1 HBR.out (hc0 1 _ rfl)
          have c2 := keep1 HBR.out (hc0 2 _ rfl)
          rw [hk] at c0 c1 c2
          rw [Nat.add_zero] at c0
          have u0c := hc5 0 _ rfl
          rw [Nat.mul_one, Nat.add_zero] at u0c
          have HBK := hide (below_laid (w := wr) (.cells #[.int .i64 k.q, .int .i64 k.n, .string k.s] 38))
          have hbk := Bl.new wr [.int .i64 k.q, .int .i64 k.n, .string k.s] 38
          have k0' := hbk.c 0 _ rfl
          have k1' := hbk.c 1 _ rfl
          have k2' := hbk.c 2 _ rfl
          have HIX := hide (idx_any _ xs k _ (HLX.out.up rd_V0 (bthen HBR.out HBK.out)))
          have hx0 : (0 : Int) ≤ (j : Int) := by omega
          have hx1 : (j : Int) < (n : Int) := by omega
          clear hc0 hc5 hu0 hk HPJ hjk hjp hgk hbk
          go_wp2_with fail
          refine HIX.out.mono ?_
          rintro en w8 ⟨m1, rfl, hb8, ⟨rfl, hm1⟩ | ⟨j1, rfl, hj1⟩⟩
          · have HIY := hide (idx_any _ ys k w8 (HLY.out.up rd_V0 (bthen HBR.out (bthen HBK.out hb8))))
            have HB8 := hide (bthen (bthen HBR.out HBK.out) hb8)
            have k0 := keep1 hb8 k0'
            have k1 := keep1 hb8 k1'
            have k2 := keep1 hb8 k2'
            have HLL := hide (show EvL w8 (.slice none 0 0) (fltE key k a) by rw [fltE_nil HSPX.out hm1]; exact Lst.nil)
            clear hm1
            go_wp2_with fail
            refine HIY.out.mono ?_
            rintro en w9 ⟨m2, rfl, hb9, ⟨rfl, hm2⟩ | ⟨j2, rfl, hj2⟩⟩
            · have HB9 := hide (bthen HB8.out hb9)
              have HL1 := hide (HLL.out.up rd_Ev0 hb9)
              have HR1 := hide (show EvL w9 (.slice none 0 0) (fltE key k b) by rw [fltE_nil HSPY.out hm2]; exact Lst.nil)
              clear hm2 hb9
              have HMM := hide (merge_any (.slice none 0 0) (.slice none 0 0) (fltE key k a) (fltE key k b) w9 HL1.out HR1.out (by have h1 := fltE_len key k a; have h2 := fltE_len key k b; omega) (fun x hx => HSA.out.2 x (mem_fltE.1 hx).1) (fun x hx => HSB.out.2 x (mem_fltE.1 hx).1))
              go_wp2_with fail
              refine HMM.out.mono ?_
              rintro en wA ⟨kA, vA, rfl, hbA, hkA, hoA⟩
              obtain rfl : kA = 0 := hkA.2 ⟨⟨HST.out.1.1.filter _, HST.out.1.2.filter _⟩, HST.out.2.sub fun z hz => by
                rcases List.mem_append.1 hz with h | h
                · exact List.mem_append_left _ (mem_fltE.1 h).1
                · exact List.mem_append_right _ (mem_fltE.1 h).1⟩
              obtain ⟨oA, hsA, hlA⟩ := hoA rfl
              have HEA := hide (fltE_mrg HSS.out hsA)
              have HBA := hide (bthen HB9.out hbA)
              have HSMM := hide (same_any wA vA u0 oA (fltE key k S) (Lst.in_ rd_Ev0 hlA) (HU0.out.up rd_Ev0 HBA.out))
              have u1 := keep1 HBA.out u0c
              clear hkA hoA hsA hlA HMM
              go_wp2_with fail
              refine HSMM.out.mono ?_
              rintro en wB ⟨bb, hbb, rfl, hbB⟩
              obtain rfl : bb = true := hbb.2 HEA.out
              have HBB := hide (bthen HBA.out hbB)
              clear hbb hbB HSMM HEA u1
              go_wp2
              go_roundw
              case rel => exact ⟨j + 1, by omega, by go_num, HBB⟩
              case measure => simp [intOf]; omega
            · have hj2l : j2 < q.length := by rw [hlen7, ← HNY.out]; exact (List.getElem?_eq_some_iff.1 hj2).1
              obtain ⟨g9, off9, cs9, e9, -, -, hc9, ⟨rv, rfl, hrv⟩⟩ := (HLYP.out).at_ hj2l
              subst e9
              have HB9 := hide (bthen HB8.out hb9)
              have hq9 : q[j2] = fltE key k b := by
                have h1 := part_at HSPY.out hj2
                rw [List.getElem?_eq_getElem hj2l] at h1
                exact Option.some.inj h1
              rw [hq9] at hrv
              have HL1 := hide (HLL.out.up rd_Ev0 hb9)
              have HR1 := hide (Lst.up rd_Ev0 hrv HB9.out)
              have r0 := keep1 HB9.out (hc9 0 _ rfl)
              rw [Nat.mul_one, Nat.add_zero] at r0
              have hv0 : (0 : Int) ≤ (j2 : Int) := by omega
              have hv1 : (j2 : Int) < (ny : Int) := by rw [hlen7] at hj2l; omega
              clear hc9 hrv hq9 hj2l hb9 hj2
              have HMM := hide (merge_any (.slice none 0 0) (rv) (fltE key k a) (fltE key k b) w9 HL1.out HR1.out (by have h1 := fltE_len key k a; have h2 := fltE_len key k b; omega) (fun x hx => HSA.out.2 x (mem_fltE.1 hx).1) (fun x hx => HSB.out.2 x (mem_fltE.1 hx).1))
              go_wp2_with fail
              refine HMM.out.mono ?_
              rintro en wA ⟨kA, vA, rfl, hbA, hkA, hoA⟩
              obtain rfl : kA = 0 := hkA.2 ⟨⟨HST.out.1.1.filter _, HST.out.1.2.filter _⟩, HST.out.2.sub fun z hz => by
                rcases List.mem_append.1 hz with h | h
                · exact List.mem_append_left _ (mem_fltE.1 h).1
                · exact List.mem_append_right _ (mem_fltE.1 h).1⟩
              obtain ⟨oA, hsA, hlA⟩ := hoA rfl
              have HEA := hide (fltE_mrg HSS.out hsA)
              have HBA := hide (bthen HB9.out hbA)
              have HSMM := hide (same_any wA vA u0 oA (fltE key k S) (Lst.in_ rd_Ev0 hlA) (HU0.out.up rd_Ev0 HBA.out))
              have u1 := keep1 HBA.out u0c
              clear hkA hoA hsA hlA HMM
              go_wp2_with fail
              refine HSMM.out.mono ?_
              rintro en wB ⟨bb, hbb, rfl, hbB⟩
              obtain rfl : bb = true := hbb.2 HEA.out
              have HBB := hide (bthen HBA.out hbB)
              clear hbb hbB HSMM HEA u1
              go_wp2
              go_roundw
              case rel => exact ⟨j + 1, by omega, by go_num, HBB⟩
              case measure => simp [intOf]; omega
          · have HIY := hide (idx_any _ ys k w8 (HLY.out.up rd_V0 (bthen HBR.out (bthen HBK.out hb8))))
            have HB8 := hide (bthen (bthen HBR.out HBK.out) hb8)
            have k0 := keep1 hb8 k0'
            have k1 := keep1 hb8 k1'
            have k2 := keep1 hb8 k2'
            have hj1l : j1 < p.length := by rw [hlen6, ← HNX.out]; exact (List.getElem?_eq_some_iff.1 hj1).1
            obtain ⟨g8, off8, cs8, e8, -, -, hc8, ⟨lv, rfl, hlv⟩⟩ := (HLXP.out).at_ hj1l
            subst e8
            have hp8 : p[j1] = fltE key k a := by
              have h1 := part_at HSPX.out hj1
              rw [List.getElem?_eq_getElem hj1l] at h1
              exact Option.some.inj h1
            rw [hp8] at hlv
            have HLL := hide (Lst.up rd_Ev0 hlv HB8.out)
            have l0 := keep1 HB8.out (hc8 0 _ rfl)
            rw [Nat.mul_one, Nat.add_zero] at l0
            have hw0 : (0 : Int) ≤ (j1 : Int) := by omega
            have hw1 : (j1 : Int) < (nx : Int) := by rw [hlen6] at hj1l; omega
            clear hc8 hlv hp8 hj1l hj1
            go_wp2_with fail
            refine HIY.out.mono ?_
            rintro en w9 ⟨m2, rfl, hb9, ⟨rfl, hm2⟩ | ⟨j2, rfl, hj2⟩⟩
            · have HB9 := hide (bthen HB8.out hb9)
              have HL1 := hide (HLL.out.up rd_Ev0 hb9)
              have HR1 := hide (show EvL w9 (.slice none 0 0) (fltE key k b) by rw [fltE_nil HSPY.out hm2]; exact Lst.nil)
              clear hm2 hb9
              have HMM := hide (merge_any (lv) (.slice none 0 0) (fltE key k a) (fltE key k b) w9 HL1.out HR1.out (by have h1 := fltE_len key k a; have h2 := fltE_len key k b; omega) (fun x hx => HSA.out.2 x (mem_fltE.1 hx).1) (fun x hx => HSB.out.2 x (mem_fltE.1 hx).1))
              go_wp2_with fail
              refine HMM.out.mono ?_
              rintro en wA ⟨kA, vA, rfl, hbA, hkA, hoA⟩
              obtain rfl : kA = 0 := hkA.2 ⟨⟨HST.out.1.1.filter _, HST.out.1.2.filter _⟩, HST.out.2.sub fun z hz => by
                rcases List.mem_append.1 hz with h | h
                · exact List.mem_append_left _ (mem_fltE.1 h).1
                · exact List.mem_append_right _ (mem_fltE.1 h).1⟩
              obtain ⟨oA, hsA, hlA⟩ := hoA rfl
              have HEA := hide (fltE_mrg HSS.out hsA)
              have HBA := hide (bthen HB9.out hbA)
              have HSMM := hide (same_any wA vA u0 oA (fltE key k S) (Lst.in_ rd_Ev0 hlA) (HU0.out.up rd_Ev0 HBA.out))
              have u1 := keep1 HBA.out u0c
              clear hkA hoA hsA hlA HMM
              go_wp2_with fail
              refine HSMM.out.mono ?_
              rintro en wB ⟨bb, hbb, rfl, hbB⟩
              obtain rfl : bb = true := hbb.2 HEA.out
              have HBB := hide (bthen HBA.out hbB)
              clear hbb hbB HSMM HEA u1
              go_wp2
              go_roundw
              case rel => exact ⟨j + 1, by omega, by go_num, HBB⟩
              case measure => simp [intOf]; omega
            · have hj2l : j2 < q.length := by rw [hlen7, ← HNY.out]; exact (List.getElem?_eq_some_iff.1 hj2).1
              obtain ⟨g9, off9, cs9, e9, -, -, hc9, ⟨rv, rfl, hrv⟩⟩ := (HLYP.out).at_ hj2l
              subst e9
              have HB9 := hide (bthen HB8.out hb9)
              have hq9 : q[j2] = fltE key k b := by
                have h1 := part_at HSPY.out hj2
                rw [List.getElem?_eq_getElem hj2l] at h1
                exact Option.some.inj h1
              rw [hq9] at hrv
              have HL1 := hide (HLL.out.up rd_Ev0 hb9)
              have HR1 := hide (Lst.up rd_Ev0 hrv HB9.out)
              have r0 := keep1 HB9.out (hc9 0 _ rfl)
              rw [Nat.mul_one, Nat.add_zero] at r0
              have hv0 : (0 : Int) ≤ (j2 : Int) := by omega
              have hv1 : (j2 : Int) < (ny : Int) := by rw [hlen7] at hj2l; omega
              clear hc9 hrv hq9 hj2l hb9 hj2
              have HMM := hide (merge_any (lv) (rv) (fltE key k a) (fltE key k b) w9 HL1.out HR1.out (by have h1 := fltE_len key k a; have h2 := fltE_len key k b; omega) (fun x hx => HSA.out.2 x (mem_fltE.1 hx).1) (fun x hx => HSB.out.2 x (mem_fltE.1 hx).1))
              go_wp2_with fail
              refine HMM.out.mono ?_
              rintro en wA ⟨kA, vA, rfl, hbA, hkA, hoA⟩
              obtain rfl : kA = 0 := hkA.2 ⟨⟨HST.out.1.1.filter _, HST.out.1.2.filter _⟩, HST.out.2.sub fun z hz => by
                rcases List.mem_append.1 hz with h | h
                · exact List.mem_append_left _ (mem_fltE.1 h).1
                · exact List.mem_append_right _ (mem_fltE.1 h).1⟩
              obtain ⟨oA, hsA, hlA⟩ := hoA rfl
              have HEA := hide (fltE_mrg HSS.out hsA)
              have HBA := hide (bthen HB9.out hbA)
              have HSMM := hide (same_any wA vA u0 oA (fltE key k S) (Lst.in_ rd_Ev0 hlA) (HU0.out.up rd_Ev0 HBA.out))
              have u1 := keep1 HBA.out u0c
              clear hkA hoA hsA hlA HMM
              go_wp2_with fail
              refine HSMM.out.mono ?_
              rintro en wB ⟨bb, hbb, rfl, hbB⟩
              obtain rfl : bb = true := hbb.2 HEA.out
              have HBB := hide (bthen HBA.out hbB)
              clear hbb hbB HSMM HEA u1
              go_wp2
              go_roundw
              case rel => exact ⟨j + 1, by omega, by go_num, HBB⟩
              case measure => simp [intOf]; omega
        · obtain rfl : j = n := by omega
          obtain ⟨cx, hcx, hcxl, hcxe⟩ := lst_raw one_V0 (HLX.out.up rd_V0 HBR.out)
          obtain ⟨cy, hcy, hcyl, hcye⟩ := lst_raw one_V0 (HLY.out.up rd_V0 HBR.out)
          have hxs := ks_len HSPX.out HNDX.out
          have hys := ks_len HSPY.out HNDY.out
          have HCN := hide (vclone_any XA xac cx wr _ (by rw [hcxl, HNX.out]; exact hcx) (by rw [hcxl]; omega))
          rw [hcxl, HNX.out] at HCN
          have HCX := hide (And.intro hcxl hcxe)
          have HCY := hide (And.intro hcyl hcye)
          have HRY := hide hcy
          clear hcx hcxl hcxe hcy hcyl hcye
          go_wp2_with fail
          refine HCN.out.mono ?_
          rintro en wC ⟨vC, rfl, hownC, hbC⟩
          rw [HCX.out.1, HNX.out] at hownC
          have HBC := hide (bthen HBR.out hbC)
          have HYC := hide (HRY.out.keep rd_Wq (Kp.of_below hbC))
          have HOC := hide hownC
          have hzC := hbC.size
          clear hownC hbC HCN
          go_wp2_with (at_builtin; refine wpList_append_lst rfl _ _ 30 rfl wr.heap.size 38 i1 _ 3 32 Try.underlying30 hi1 hz10 hz11 hz12 rfl (by decide) vC nx cx.flatten rfl HOC.out YA ny yac cy rfl HYC.out (by rw [← HNY.out]; omega) (by rw [← HNX.out]; omega) (by decide) hzC ?_; intro v8 w8 hown8 hg8; obtain ⟨A8, c8, hv8⟩ := own_form hown8; subst hv8)
          have HB8 := hide (HBC.out.grown hg8 (by have := HBR.out.size; omega) (fun k hk => by have := (HOC.out.lt k hk).1; have := HBR.out.size; omega))
          have hcat : (xs ++ ys).length = nx + ny := by rw [List.length_append, HNX.out, HNY.out]
          have HLL := hide (show VlL w8 (.slice A8 (nx + ny) c8) (xs ++ ys) from by
            rw [← List.flatten_append, ← hcat] at hown8
            rw [← hcat]
            refine Lst.in_ rd_V0 (B := 0) ((lst_top (Lst.of_own (Z := fun _ => True) (by decide) hown8 (fun _ _ => trivial) (by rw [List.length_append, List.length_append, HCX.out.1, HCY.out.1]) (by rw [hcat]; unfold maxLen; have := HNX.out; have := HNY.out; omega) fun i hi => ?_)).more rd_V0 fun b hb => ⟨Nat.zero_le _, hb.2⟩)
            by_cases hix : i < xs.length
            · obtain ⟨zs, e1, e2, e3⟩ := HCX.out.2 i hix
              exact ⟨zs, by rw [List.getElem?_append_left (by rw [HCX.out.1]; exact hix)]; exact e1, e2, by rw [List.getElem_append_left hix]; exact e3⟩
            · have hiy : i - xs.length < ys.length := by rw [List.length_append] at hi; omega
              obtain ⟨zs, e1, e2, e3⟩ := HCY.out.2 (i - xs.length) hiy
              exact ⟨zs, by rw [List.getElem?_append_right (by rw [HCX.out.1]; omega), HCX.out.1]; exact e1, e2, by rw [List.getElem_append_right (by omega)]; exact e3⟩)
          have HMEM := hide (show ∀ k ∈ xs ++ ys, k ∈ ks from fun k hk => by
            refine (HSPL.out.2.1 k).2 ?_
            rcases List.mem_append.1 hk with h | h
            · obtain ⟨x, hx, e⟩ := (HSPX.out.2.1 k).1 h
              exact ⟨x, (HSS.out.2.1 x).2 (List.mem_append_left _ hx), e⟩
            · obtain ⟨x, hx, e⟩ := (HSPY.out.2.1 k).1 h
              exact ⟨x, (HSS.out.2.1 x).2 (List.mem_append_right _ hx), e⟩)
          have HNZ := hide hcat
          have hnzb : nx + ny ≤ 24 := by have := HNX.out; have := HNY.out; omega
          clear hcat hown8 hg8 HOC HYC HRY HCX HCY
          go_wp2_with fail
          go_loopw [177] (fun i wr => ∃ q : Nat, q ≤ nx + ny ∧ i = .int .i64 q ∧ Hid (Below w8.heap.size w8 wr)) (fun i _ => nx + ny - (intOf i).toNat)
          case atStart => exact ⟨0, Nat.zero_le _, rfl, hide (Below.refl _ _)⟩
          case round =>
            obtain ⟨q, hq, rfl, HB9⟩ := hrel
            have HBZ := hide (bthen HB8.out HB9.out)
            by_cases hlq : q < nx + ny
            · have hql : q < (xs ++ ys).length := by rw [HNZ.out]; exact hlq
              obtain ⟨g0, off0, cs0, e0, -, -, hc0, ⟨rfl, -⟩⟩ := HLL.out.at_ hql
              subst e0
              have HM9 := hide (HMEM.out _ (List.getElem_mem hql))
              obtain ⟨k, hk⟩ : ∃ k, (xs ++ ys)[q] = k := ⟨_, rfl⟩
              rw [hk] at HM9
              have c0 := keep1 HB9.out (hc0 0 _ rfl)
              have c1 := keep1 HB9.out (hc0 1 _ rfl)
              have c2 := keep1 HB9.out (hc0 2 _ rfl)
              rw [hk] at c0 c1 c2
              rw [Nat.add_zero] at c0
              have HBK := hide (below_laid (w := wr) (.cells #[.int .i64 k.q, .int .i64 k.n, .string k.s] 38))
              have HCT := hide (cont_any _ ks k _ (HLK.out.up rd_V0 (bthen HBZ.out HBK.out)))
              have hx0 : (0 : Int) ≤ (q : Int) := by omega
              have hx1 : (q : Int) < (nx : Int) + (ny : Int) := by omega
              clear hc0 hk hql
              go_wp2_with fail
              refine HCT.out.mono ?_
              rintro en wD ⟨bb, hbb, rfl, hbD⟩
              obtain rfl : bb = true := hbb.2 HM9.out
              clear hbb
              go_wp2
              go_roundw
              case rel => exact ⟨q + 1, by omega, by go_num, hide (bthen (bthen HB9.out HBK.out) hbD)⟩
              case measure => simp [intOf]; omega
            · have hqe : q = nx + ny := by omega
              have hqi : (nx : Int) + (ny : Int) ≤ (q : Int) := by omega
              have HIS := hide (issrt_any _ ks wr (HLK.out.up rd_V0 HBZ.out) HSPL.out.1)
              go_wp2_with fail
              refine HIS.out.mono ?_
              rintro en wE ⟨rfl, hbE⟩
              go_wp2
              go_ret
              exact ⟨rfl, bthen (bthen HFIN.out HBZ.out) hbE⟩
    · have hjl : j < b.length := by rw [HNB.out]; omega
      obtain rfl : y = (j : Int) := by omega
      clear hy
      obtain ⟨g, off, xs, e2, hg, hxl, hc, hR⟩ := HB.out.at_ hjl
      cases e2
      have HDR : Hid (∀ o, SrtOf (I ++ [b[j]]) o → Mrg a (b.drop j) o) := hide (fun o h => mrg_step hjl HMI.out h)
      have HXM : Hid (b[j] ∈ a ++ b) := hide (List.mem_append_right _ (List.getElem_mem hjl))
      obtain ⟨x, hx⟩ : ∃ x, b[j] = x := ⟨_, rfl⟩
      rw [hx] at hR HDR HXM
      obtain ⟨y0, rfl, hu, hrx⟩ := hR
      obtain ⟨A', c', rfl⟩ := hu.form
      have hRx : REv0 w (· < w.heap.size) [.int .i64 x.a, .int .i64 x.b, .int .i64 x.c, .int .i64 x.d, .slice A' x.vs.length c'] x := ⟨_, rfl, hu, hrx⟩
      have HIN := hide (insert_any u9 I x A' c' wr HI.out (ev_up hRx HWW.out) (by omega) (fun z hz => HVS.out z (mrg_sub HMI.out z hz)) (HVS.out x HXM.out))
      obtain ⟨n', hn'⟩ : ∃ n, x.vs.length = n := ⟨_, rfl⟩
      rw [hn'] at hc HIN
      have k0 := keep1 HWW.out (hc 0 _ rfl)
      have k1 := keep1 HWW.out (hc 1 _ rfl)
      have k2 := keep1 HWW.out (hc 2 _ rfl)
      have k3 := keep1 HWW.out (hc 3 _ rfl)
      have k4 := keep1 HWW.out (hc 4 _ rfl)
      rw [Nat.add_zero] at k0
      have hu0 : (0 : Int) ≤ (j : Int) := by omega
      have hu1 : (j : Int) < (nb : Int) := by omega
      clear hc hxl hu hrx hRx hx hn'
      go_wp2_with fail
      refine HIN.out.mono ?_
      rintro en w3 ⟨k3, v3, rfl, hb3, hk3, ho3⟩
      obtain rfl : k3 = 0 := hk3.2 ⟨⟨mrg_ok HMI.out HPL.out HST.out.2, HPL.out x HXM.out⟩, HST.out.2.sub fun z hz => by
        rcases List.mem_append.1 hz with h | h
        · exact mrg_sub HMI.out z h
        · obtain rfl := List.mem_singleton.1 h; exact HXM.out⟩
      obtain ⟨o, hso, hlo⟩ := ho3 rfl
      have HSO := hide (HDR.out o hso)
      have HLO := hide (Lst.in_ rd_Ev0 hlo)
      have HB3 := hide (bthen HW3.out hb3)
      clear hk3 ho3 hso hlo hb3
      go_wp2
      go_roundw
      case rel => exact ⟨j, (j : Int) - 1, o, by go_num, rfl, by omega, HSO, HLO, HB3⟩
      case measure => simp [intOf]
end Go.Proofs.Ytbendimkejndiaa
