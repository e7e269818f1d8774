/- tidegatetop.caseOrders: the fixed example. -/
import Derived.Test.YtbendimkejndiaaTInv
namespace Go.Proofs.Ytbendimkejndiaa
open Go.RowKit
set_option linter.unusedVariables false
set_option linter.unusedSimpArgs false
def v1C : V3 := ⟨0, 1, ⟨#[]⟩⟩
def v2C : V3 := ⟨0, 2, ⟨#[]⟩⟩
def evA : Evt := ⟨0, 0, 0, 5, [v1C]⟩
def evB : Evt := ⟨0, 1, 0, 3, [v2C]⟩
theorem srt_case {o : List Evt} (h : SrtOf [evA, evB] o) : o = [evB, evA] := by
  refine h.uniq (m := [evA, evB]) (p := [evB, evA]) ⟨?_, fun x => by simp [or_comm], by simp⟩ fun x => Iff.rfl
  refine List.pairwise_cons.2 ⟨fun y hy => ?_, List.pairwise_singleton ..⟩
  obtain rfl := List.mem_singleton.1 hy
  exact .inl (by decide)
theorem plcd_case : ∀ x ∈ [evA, evB], Plcd x := by
  intro x hx
  simp only [List.mem_cons, List.not_mem_nil, or_false] at hx
  rcases hx with rfl | rfl
  · show 0 ≤ (5 : Int) ∧ (5 : Int) ≤ 1099511627776 ∧ 0 ≤ (0 : Int) ∧ (0 : Int) < 8 ∧ 0 ≤ (0 : Int) ∧ (0 : Int) ≤ 1099511627776; omega
  · show 0 ≤ (3 : Int) ∧ (3 : Int) ≤ 1099511627776 ∧ 0 ≤ (0 : Int) ∧ (0 : Int) < 8 ∧ 0 ≤ (1 : Int) ∧ (1 : Int) ≤ 1099511627776; omega
theorem compat_case : Compat [evA, evB] := by
  intro x hx y hy hi
  simp only [List.mem_cons, List.not_mem_nil, or_false] at hx hy
  rcases hx with rfl | rfl <;> rcases hy with rfl | rfl
  · rfl
  · exact absurd hi.2 (by decide)
  · exact absurd hi.2 (by decide)
  · rfl
theorem strm_case : Strm [evB, evA] := strm_of (by
  refine List.pairwise_cons.2 ⟨fun y hy => ?_, List.pairwise_singleton ..⟩
  obtain rfl := List.mem_singleton.1 hy
  exact .inl (by decide)) (fun x hx => plcd_case x (by simp only [List.mem_cons, List.not_mem_nil, or_false] at hx ⊢; exact hx.symm)) (compat_case.sub fun x hx => by simp only [List.mem_cons, List.not_mem_nil, or_false] at hx ⊢; exact hx.symm)
theorem inv_case : invJ [evA, evB] 2 = 1 := by
  have h : cmpE evA evB = 1 := by rfl
  show 0 + inv1 [] evA + inv1 [evA] evB = 1
  simp [inv1, h]
theorem key_case : (∀ x ∈ [evB, evA], keyOkE [0] x) ∧ ∀ k, (∃ x ∈ [evB, evA], keyVE [0] x = some k) ↔ k = v1C ∨ k = v2C := by
  refine ⟨fun x hx => ?_, fun k => ?_⟩
  · simp only [List.mem_cons, List.not_mem_nil, or_false] at hx
    rcases hx with rfl | rfl
    · exact .inr ⟨by decide, by decide, by decide, by decide⟩
    · exact .inr ⟨by decide, by decide, by decide, by decide⟩
  · have hA : keyVE [0] evA = some v1C := rfl
    have hB : keyVE [0] evB = some v2C := rfl
    constructor
    · rintro ⟨x, hx, hk⟩
      simp only [List.mem_cons, List.not_mem_nil, or_false] at hx
      rcases hx with rfl | rfl
      · rw [hB] at hk; injection hk with hk; exact .inr hk.symm
      · rw [hA] at hk; injection hk with hk; exact .inl hk.symm
    · rintro (rfl | rfl)
      · exact ⟨evA, by simp, hA⟩
      · exact ⟨evB, by simp, hB⟩
theorem cmp_case : cmpV v1C v2C = -1 := by rfl
theorem split_case {ks : List V3} {ps : List (List Evt)} (h : SplOf (fun x y => 0 ≤ cmpV y x) [0] [evB, evA] ks ps) (hn : ks.Nodup) : ks = [v1C, v2C] ∧ ps.length = 2 := by
  have hm : ∀ k, k ∈ ks ↔ k = v1C ∨ k = v2C := fun k => (h.2.1 k).trans (key_case.2 k)
  have hne : v1C ≠ v2C := fun e => absurd (congrArg V3.n e) (by decide)
  have hp : ks.Pairwise fun x y => x = v1C ∧ y = v2C := by
    have h2 := h.1.and hn
    refine List.Pairwise.imp_of_mem (fun {x y} hx hy hxy => ?_) h2
    rcases (hm x).1 hx with rfl | rfl <;> rcases (hm y).1 hy with rfl | rfl
    · exact absurd rfl hxy.2
    · exact ⟨rfl, rfl⟩
    · exact absurd hxy.1 (by rw [cmp_case]; decide)
    · exact absurd rfl hxy.2
  have hk : ks = [v1C, v2C] := by
    have m1 := (hm v1C).2 (.inl rfl)
    have m2 := (hm v2C).2 (.inr rfl)
    match ks, hp, m1, m2 with
    | [], _, m1, _ => cases m1
    | [x], _, m1, m2 => exact absurd ((List.mem_singleton.1 m1).trans (List.mem_singleton.1 m2).symm) hne
    | [x, y], hp, _, _ =>
      have := (List.pairwise_cons.1 hp).1 y (by simp)
      rw [this.1, this.2]
    | x :: y :: z :: l, hp, _, _ =>
      have a := (List.pairwise_cons.1 hp).1 y (by simp)
      have b := (List.pairwise_cons.1 (List.pairwise_cons.1 hp).2).1 z (by simp)
      exact absurd (b.1.symm.trans a.2) hne
  exact ⟨hk, by rw [h.2.2, hk]; rfl⟩
theorem lst_v1 {W : World} {g : Nat} {y : V3} (hb : Bl W g [.int .i64 y.q, .int .i64 y.n, .string y.s]) (hg : gV y) (hs : y.s.size ≤ maxLen) : Lst W (· < W.heap.size) 3 RV0 (.slice (some ⟨g, 0, none⟩) 1 1) [y] := by
  refine ⟨⟨_, 1, rfl, Nat.le_refl _, by show 1 ≤ maxLen; unfold maxLen; omega⟩, fun j hj => ?_⟩
  have hj0 : j = 0 := by simpa using hj
  subst hj0
  exact ⟨g, 0, 1, _, rfl, hb.lt, rfl, fun c u hu => by simpa using hb.c c u hu, rfl, hg, hs⟩
theorem lst_i1 {W : World} {g : Nat} {n : Int} (hb : Bl W g [.int .i64 n]) (hg : inI n) : Lst W (· < W.heap.size) 1 RIn (.slice (some ⟨g, 0, none⟩) 1 1) [n] := by
  refine ⟨⟨_, 1, rfl, Nat.le_refl _, by show 1 ≤ maxLen; unfold maxLen; omega⟩, fun j hj => ?_⟩
  have hj0 : j = 0 := by simpa using hj
  subst hj0
  exact ⟨g, 0, 1, _, rfl, hb.lt, rfl, fun c u hu => by simpa using hb.c c u hu, rfl, hg⟩
theorem lst_e2 {W : World} {g : Nat} {x y : Evt} {cx cy : Value} (hb : Bl W g [.int .i64 x.a, .int .i64 x.b, .int .i64 x.c, .int .i64 x.d, cx, .int .i64 y.a, .int .i64 y.b, .int .i64 y.c, .int .i64 y.d, cy]) (hx : REv0 W (· < W.heap.size) [.int .i64 x.a, .int .i64 x.b, .int .i64 x.c, .int .i64 x.d, cx] x) (hy : REv0 W (· < W.heap.size) [.int .i64 y.a, .int .i64 y.b, .int .i64 y.c, .int .i64 y.d, cy] y) : Lst W (· < W.heap.size) 5 REv0 (.slice (some ⟨g, 0, none⟩) 2 2) [x, y] := by
  refine ⟨⟨_, 2, rfl, Nat.le_refl _, by show 2 ≤ maxLen; unfold maxLen; omega⟩, fun j hj => ?_⟩
  have hj2 : j = 0 ∨ j = 1 := by simp at hj; omega
  rcases hj2 with rfl | rfl
  · refine ⟨g, 0, 2, _, rfl, hb.lt, rfl, fun c u hu => ?_, hx⟩
    have hc : c < 5 := (List.getElem?_eq_some_iff.1 hu).1
    have := hb.c c u (by rw [show ([.int .i64 x.a, .int .i64 x.b, .int .i64 x.c, .int .i64 x.d, cx, .int .i64 y.a, .int .i64 y.b, .int .i64 y.c, .int .i64 y.d, cy] : List Value) = [.int .i64 x.a, .int .i64 x.b, .int .i64 x.c, .int .i64 x.d, cx] ++ [.int .i64 y.a, .int .i64 y.b, .int .i64 y.c, .int .i64 y.d, cy] from rfl, List.getElem?_append_left hc]; exact hu)
    simpa using this
  · refine ⟨g, 0, 2, _, rfl, hb.lt, rfl, fun c u hu => ?_, hy⟩
    have hc : c < 5 := (List.getElem?_eq_some_iff.1 hu).1
    have := hb.c (5 + c) u (by rw [show ([.int .i64 x.a, .int .i64 x.b, .int .i64 x.c, .int .i64 x.d, cx, .int .i64 y.a, .int .i64 y.b, .int .i64 y.c, .int .i64 y.d, cy] : List Value) = [.int .i64 x.a, .int .i64 x.b, .int .i64 x.c, .int .i64 x.d, cx] ++ [.int .i64 y.a, .int .i64 y.b, .int .i64 y.c, .int .i64 y.d, cy] from rfl, List.getElem?_append_right (by simp), show 5 + c - [.int .i64 x.a, .int .i64 x.b, .int .i64 x.c, .int .i64 x.d, cx].length = c by simp]; exact hu)
    simpa using this
theorem ev_up {W W' : World} {cs : List Value} {x : Evt} (h : REv0 W (· < W.heap.size) cs x) (hb : Below W.heap.size W W') : REv0 W' (· < W'.heap.size) cs x :=
  rd_Ev0.more (fun b (hlt : b < W.heap.size) => Nat.lt_of_lt_of_le hlt hb.size) (rd_Ev0.keep (Kp.of_below hb) h)
theorem inI_small {n : Int} (h : 0 ≤ n ∧ n ≤ 1000) : inI n := by unfold inI; omega
set_option maxRecDepth 100000 in
set_option maxHeartbeats 8000000 in
theorem case_any (w : World) : Calls Try.prog 4 #[] w fun e w' => e = .returned (.bool true) ∧ Below w.heap.size w w' := by
  obtain ⟨W4, hW4⟩ : ∃ W4, (((w.alloc (.cells #[.int .i64 0, .int .i64 1, .string ⟨#[]⟩] 38)).alloc (.cells #[.int .i64 0, .int .i64 2, .string ⟨#[]⟩] 38)).alloc (.cells #[.int .i64 0, .int .i64 0, .int .i64 0, .int .i64 5, .slice (some ⟨w.heap.size, 0, none⟩) 1 1] 32)).alloc (.cells #[.int .i64 0, .int .i64 1, .int .i64 0, .int .i64 3, .slice (some ⟨w.heap.size + 1, 0, none⟩) 1 1] 32) = W4 := ⟨_, rfl⟩
  have h1 := Bl.new w [.int .i64 0, .int .i64 1, .string ⟨#[]⟩] 38
  have h2 := Bl.new (w.alloc (.cells #[.int .i64 0, .int .i64 1, .string ⟨#[]⟩] 38)) [.int .i64 0, .int .i64 2, .string ⟨#[]⟩] 38
  have h3 := Bl.new ((w.alloc (.cells #[.int .i64 0, .int .i64 1, .string ⟨#[]⟩] 38)).alloc (.cells #[.int .i64 0, .int .i64 2, .string ⟨#[]⟩] 38)) [.int .i64 0, .int .i64 0, .int .i64 0, .int .i64 5, .slice (some ⟨w.heap.size, 0, none⟩) 1 1] 32
  have h4 := Bl.new (((w.alloc (.cells #[.int .i64 0, .int .i64 1, .string ⟨#[]⟩] 38)).alloc (.cells #[.int .i64 0, .int .i64 2, .string ⟨#[]⟩] 38)).alloc (.cells #[.int .i64 0, .int .i64 0, .int .i64 0, .int .i64 5, .slice (some ⟨w.heap.size, 0, none⟩) 1 1] 32)) [.int .i64 0, .int .i64 1, .int .i64 0, .int .i64 3, .slice (some ⟨w.heap.size + 1, 0, none⟩) 1 1] 32
  have b1 := ((h1.laid (.cells #[.int .i64 0, .int .i64 2, .string ⟨#[]⟩] 38)).laid (.cells #[.int .i64 0, .int .i64 0, .int .i64 0, .int .i64 5, .slice (some ⟨w.heap.size, 0, none⟩) 1 1] 32)).laid (.cells #[.int .i64 0, .int .i64 1, .int .i64 0, .int .i64 3, .slice (some ⟨w.heap.size + 1, 0, none⟩) 1 1] 32)
  have b2 := (h2.laid (.cells #[.int .i64 0, .int .i64 0, .int .i64 0, .int .i64 5, .slice (some ⟨w.heap.size, 0, none⟩) 1 1] 32)).laid (.cells #[.int .i64 0, .int .i64 1, .int .i64 0, .int .i64 3, .slice (some ⟨w.heap.size + 1, 0, none⟩) 1 1] 32)
  have b3 := h3.laid (.cells #[.int .i64 0, .int .i64 1, .int .i64 0, .int .i64 3, .slice (some ⟨w.heap.size + 1, 0, none⟩) 1 1] 32)
  rw [hW4] at b1 b2 b3 h4
  simp only [World.size_alloc] at b2 b3 h4
  have hB4 : Below w.heap.size w W4 := by
    rw [← hW4]
    exact bthen (bthen (bthen (below_laid _) (below_laid _)) (below_laid _)) (below_laid _)
  have hs4 : W4.heap.size = w.heap.size + 4 := by rw [← hW4]; simp
  have HW := hide hB4
  have HA := hide (show REv0 W4 (· < W4.heap.size) [.int .i64 0, .int .i64 0, .int .i64 0, .int .i64 5, .slice (some ⟨w.heap.size, 0, none⟩) 1 1] evA from ⟨_, rfl, lst_v1 (y := v1C) b1 ⟨inI_small (by decide), inI_small (by decide)⟩ (Nat.zero_le _), inI_small (by decide), inI_small (by decide), inI_small (by decide), inI_small (by decide)⟩)
  have HB := hide (show REv0 W4 (· < W4.heap.size) [.int .i64 0, .int .i64 1, .int .i64 0, .int .i64 3, .slice (some ⟨w.heap.size + 1, 0, none⟩) 1 1] evB from ⟨_, rfl, lst_v1 (y := v2C) b2 ⟨inI_small (by decide), inI_small (by decide)⟩ (Nat.zero_le _), inI_small (by decide), inI_small (by decide), inI_small (by decide), inI_small (by decide)⟩)
  have H3 := hide b3
  have H4 := hide h4
  have hLA := fun (W' : World) (h : Below W4.heap.size W4 W') => lst_e2 (x := evA) (y := evB) (Bl.new W' [.int .i64 0, .int .i64 0, .int .i64 0, .int .i64 5, .slice (some ⟨w.heap.size, 0, none⟩) 1 1, .int .i64 0, .int .i64 1, .int .i64 0, .int .i64 3, .slice (some ⟨w.heap.size + 1, 0, none⟩) 1 1] 32) (ev_up HA.out (bthen h (below_laid _))) (ev_up HB.out (bthen h (below_laid _)))
  have hLB := fun (W' : World) (h : Below W4.heap.size W4 W') => lst_e2 (x := evB) (y := evA) (Bl.new W' [.int .i64 0, .int .i64 1, .int .i64 0, .int .i64 3, .slice (some ⟨w.heap.size + 1, 0, none⟩) 1 1, .int .i64 0, .int .i64 0, .int .i64 0, .int .i64 5, .slice (some ⟨w.heap.size, 0, none⟩) 1 1] 32) (ev_up HB.out (bthen h (below_laid _))) (ev_up HA.out (bthen h (below_laid _)))
  have HLA := hide hLA
  have HLB := hide hLB
  have HSR := hide (fun (W' : World) (h : Below W4.heap.size W4 W') => sort_any _ [evA, evB] _ (hLA W' h) (by decide) (by decide))
  have HIV := hide (fun (W' : World) (h : Below W4.heap.size W4 W') => (inv_any _ [evA, evB] _ (hLA W' h) (by decide) plcd_case).mono (R' := fun e w' => e = .returned (.tuple #[.int .i64 1, .int .i64 0]) ∧ Below (W'.alloc (.cells #[.int .i64 0, .int .i64 0, .int .i64 0, .int .i64 5, .slice (some ⟨w.heap.size, 0, none⟩) 1 1, .int .i64 0, .int .i64 1, .int .i64 0, .int .i64 3, .slice (some ⟨w.heap.size + 1, 0, none⟩) 1 1] 32)).heap.size (W'.alloc (.cells #[.int .i64 0, .int .i64 0, .int .i64 0, .int .i64 5, .slice (some ⟨w.heap.size, 0, none⟩) 1 1, .int .i64 0, .int .i64 1, .int .i64 0, .int .i64 3, .slice (some ⟨w.heap.size + 1, 0, none⟩) 1 1] 32)) w') fun e w' ⟨he, hb⟩ => ⟨he.trans (by rw [show [evA, evB].length = 2 from rfl, inv_case]; rfl), hb⟩)
  clear h1 h2 h3 h4 b1 b2 b3 hB4 hLA hLB
  have a0 := H3.out.c 0 _ rfl
  have a1 := H3.out.c 1 _ rfl
  have a2 := H3.out.c 2 _ rfl
  have a3 := H3.out.c 3 _ rfl
  have a4 := H3.out.c 4 _ rfl
  have c0 := H4.out.c 0 _ rfl
  have c1 := H4.out.c 1 _ rfl
  have c2 := H4.out.c 2 _ rfl
  have c3 := H4.out.c 3 _ rfl
  have c4 := H4.out.c 4 _ rfl
  go_enter Try.func4, Try.ntmps4
  go_wp2_with fail
  have HS0 := HSR.out W4 (Below.refl _ _)
  rw [hs4] at HS0
  refine HS0.mono ?_
  rintro en w1 ⟨k1, l1, rfl, hb1, hk1, ho1⟩
  obtain rfl : k1 = 0 := hk1.2 ⟨plcd_case, compat_case⟩
  obtain ⟨o, hso, hlo⟩ := ho1 rfl
  have ho := srt_case hso
  subst ho
  have HL1 := hide hlo
  have HB1 := hide (bthen (below_laid (w := W4) _) hb1)
  clear hk1 ho1 hso hlo hb1 HS0 HSR
  clear a0 a1 a2 a3 a4 c0 c1 c2 c3 c4
  have a0 := (H3.out.keep HB1.out).c 0 _ rfl
  have a1 := (H3.out.keep HB1.out).c 1 _ rfl
  have a2 := (H3.out.keep HB1.out).c 2 _ rfl
  have a3 := (H3.out.keep HB1.out).c 3 _ rfl
  have a4 := (H3.out.keep HB1.out).c 4 _ rfl
  have c0 := (H4.out.keep HB1.out).c 0 _ rfl
  have c1 := (H4.out.keep HB1.out).c 1 _ rfl
  have c2 := (H4.out.keep HB1.out).c 2 _ rfl
  have c3 := (H4.out.keep HB1.out).c 3 _ rfl
  have c4 := (H4.out.keep HB1.out).c 4 _ rfl
  go_wp2_with fail
  refine (HIV.out w1 HB1.out).mono ?_
  rintro en w2 ⟨rfl, hb2⟩
  have HB2 := hide (bthen (below_laid (w := w1) _) hb2)
  have HL2 := hide ((HL1.out.more rd_Ev0 (fun b hb => hb.2)).up rd_Ev0 HB2.out)
  clear a0 a1 a2 a3 a4 c0 c1 c2 c3 c4
  have HSPT := hide (split_any l1 _ [evB, evA] [0] _ (HL2.out.up rd_Ev0 (below_laid (.cells #[.int .i64 0] 3))) (lst_i1 (Bl.new w2 [.int .i64 0] 3) (inI_small (by decide))) (by decide) (by decide))
  go_wp2_with fail
  refine HSPT.out.mono ?_
  rintro en w3 ⟨hb3, k3, vk, vp, rfl, hk3, ho3⟩
  obtain rfl : k3 = 0 := hk3.2 ⟨strm_case, key_case.1⟩
  obtain ⟨ks, ps, ⟨hsp, hnd⟩, hlk, hlp⟩ := ho3 rfl
  obtain ⟨rfl, hps⟩ := split_case hsp hnd
  have HB3 := hide (bthen (bthen HB1.out HB2.out) (bthen (below_laid _) hb3))
  have HL3 := hide (HL2.out.up rd_Ev0 (bthen (below_laid _) hb3))
  obtain ⟨PA, pc, rfl⟩ := hlp.form
  rw [hps]
  obtain ⟨KA, kc, rfl⟩ := hlk.form
  obtain ⟨g1, off1, xs1, e1, -, -, hc1, ⟨rfl, -⟩⟩ := hlk.at_ (j := 0) (by simp)
  subst e1
  obtain ⟨-, xs2, -, hc2, ⟨rfl, -⟩⟩ := hlk.at1 (j := 1) (by simp)
  have a0 := (H3.out.keep HB3.out).c 0 _ rfl
  have a1 := (H3.out.keep HB3.out).c 1 _ rfl
  have a2 := (H3.out.keep HB3.out).c 2 _ rfl
  have a3 := (H3.out.keep HB3.out).c 3 _ rfl
  have a4 := (H3.out.keep HB3.out).c 4 _ rfl
  have c0 := (H4.out.keep HB3.out).c 0 _ rfl
  have c1 := (H4.out.keep HB3.out).c 1 _ rfl
  have c2 := (H4.out.keep HB3.out).c 2 _ rfl
  have c3 := (H4.out.keep HB3.out).c 3 _ rfl
  have c4 := (H4.out.keep HB3.out).c 4 _ rfl
  have k0 : w3.cell? ⟨g1, off1, none⟩ = some (.int .i64 0) := by simpa [v1C, v2C] using hc1 0 _ rfl
  have k1 : w3.cell? ⟨g1, off1 + 1, none⟩ = some (.int .i64 1) := by simpa [v1C, v2C] using hc1 1 _ rfl
  have k2 : w3.cell? ⟨g1, off1 + 2, none⟩ = some (.string ⟨#[]⟩) := by simpa [v1C, v2C] using hc1 2 _ rfl
  have q0 : w3.cell? ⟨g1, off1 + 3, none⟩ = some (.int .i64 0) := by simpa [v1C, v2C] using hc2 0 _ rfl
  have q1 : w3.cell? ⟨g1, off1 + 3 + 1, none⟩ = some (.int .i64 2) := by simpa [v1C, v2C] using hc2 1 _ rfl
  have q2 : w3.cell? ⟨g1, off1 + 3 + 2, none⟩ = some (.string ⟨#[]⟩) := by simpa [v1C, v2C] using hc2 2 _ rfl
  have HSM := hide (fun (W' : World) (h : Below w3.heap.size w3 W') => (same_any (W'.alloc (.cells #[.int .i64 0, .int .i64 1, .int .i64 0, .int .i64 3, .slice (some ⟨w.heap.size + 1, 0, none⟩) 1 1, .int .i64 0, .int .i64 0, .int .i64 0, .int .i64 5, .slice (some ⟨w.heap.size, 0, none⟩) 1 1] 32)) l1 _ [evB, evA] [evB, evA] (HL3.out.up rd_Ev0 (bthen h (below_laid _))) (HLB.out W' (bthen HB3.out h))).mono (R' := fun e w' => e = .returned (.bool true) ∧ Below (W'.alloc (.cells #[.int .i64 0, .int .i64 1, .int .i64 0, .int .i64 3, .slice (some ⟨w.heap.size + 1, 0, none⟩) 1 1, .int .i64 0, .int .i64 0, .int .i64 0, .int .i64 5, .slice (some ⟨w.heap.size, 0, none⟩) 1 1] 32)).heap.size (W'.alloc (.cells #[.int .i64 0, .int .i64 1, .int .i64 0, .int .i64 3, .slice (some ⟨w.heap.size + 1, 0, none⟩) 1 1, .int .i64 0, .int .i64 0, .int .i64 0, .int .i64 5, .slice (some ⟨w.heap.size, 0, none⟩) 1 1] 32)) w') fun e w' ⟨b, hb, he, hbl⟩ => ⟨by rw [he, hb.2 rfl], hbl⟩)
  have HCM := hide (fun (W' : World) => (vcmp_any 0 1 0 2 ⟨#[]⟩ ⟨#[]⟩ W').mono (R' := fun e w' => e = .returned (.int .i64 (-1)) ∧ Below W'.heap.size W' w') fun e w' ⟨he, hg⟩ => ⟨he, hg.below⟩)
  have HBW := hide (HW.out.trans (HB3.out.mono (by omega)))
  clear hk3 ho3 hsp hnd hps hlp hlk hc1 hc2 hb3 hb2
  go_wp2_with fail
  go_region_held3 (fun w' => w'.cell? ⟨w.heap.size + 1 + 1, 0, none⟩ = some (.int .i64 0) ∧ w'.cell? ⟨w.heap.size + 1 + 1, 1, none⟩ = some (.int .i64 0) ∧ w'.cell? ⟨w.heap.size + 1 + 1, 2, none⟩ = some (.int .i64 0) ∧ w'.cell? ⟨w.heap.size + 1 + 1, 3, none⟩ = some (.int .i64 5) ∧ w'.cell? ⟨w.heap.size + 1 + 1, 4, none⟩ = some (.slice (some ⟨w.heap.size, 0, none⟩) 1 1) ∧ w'.cell? ⟨w.heap.size + 1 + 1 + 1, 0, none⟩ = some (.int .i64 0) ∧ w'.cell? ⟨w.heap.size + 1 + 1 + 1, 1, none⟩ = some (.int .i64 1) ∧ w'.cell? ⟨w.heap.size + 1 + 1 + 1, 2, none⟩ = some (.int .i64 0) ∧ w'.cell? ⟨w.heap.size + 1 + 1 + 1, 3, none⟩ = some (.int .i64 3) ∧ w'.cell? ⟨w.heap.size + 1 + 1 + 1, 4, none⟩ = some (.slice (some ⟨w.heap.size + 1, 0, none⟩) 1 1) ∧ w'.cell? ⟨g1, off1, none⟩ = some (.int .i64 0) ∧ w'.cell? ⟨g1, off1 + 1, none⟩ = some (.int .i64 1) ∧ w'.cell? ⟨g1, off1 + 2, none⟩ = some (.string ⟨#[]⟩) ∧ w'.cell? ⟨g1, off1 + 3, none⟩ = some (.int .i64 0) ∧ w'.cell? ⟨g1, off1 + 3 + 1, none⟩ = some (.int .i64 2) ∧ w'.cell? ⟨g1, off1 + 3 + 2, none⟩ = some (.string ⟨#[]⟩))
    (first
      | with_reducible exact ⟨keep1 hb9 a0, keep1 hb9 a1, keep1 hb9 a2, keep1 hb9 a3, keep1 hb9 a4, keep1 hb9 c0, keep1 hb9 c1, keep1 hb9 c2, keep1 hb9 c3, keep1 hb9 c4, keep1 hb9 k0, keep1 hb9 k1, keep1 hb9 k2, keep1 hb9 q0, keep1 hb9 q1, keep1 hb9 q2⟩
      | with_reducible exact ⟨keep1 hb8 a0, keep1 hb8 a1, keep1 hb8 a2, keep1 hb8 a3, keep1 hb8 a4, keep1 hb8 c0, keep1 hb8 c1, keep1 hb8 c2, keep1 hb8 c3, keep1 hb8 c4, keep1 hb8 k0, keep1 hb8 k1, keep1 hb8 k2, keep1 hb8 q0, keep1 hb8 q1, keep1 hb8 q2⟩
      | (go_keep; done))
    (first
      | (go_at_call 8; refine (HSM.out w3.drew ((Below.refl _ _).drew)).mono ?_; rintro en w8 ⟨rfl, hs8⟩; have hb8 : Below w3.heap.size w3 w8 := below_undrew (bthen (below_laid _) hs8))
      | (go_at_call 17; refine (HCM.out _).mono ?_; rintro en w9 ⟨rfl, hc9⟩; have hb9 : Below w3.heap.size w3 w9 := bthen hb8 hc9))
  all_goals
    go_wp2
    go_ret
    exact ⟨rfl, bthen HBW.out hb9⟩
end Go.Proofs.Ytbendimkejndiaa
