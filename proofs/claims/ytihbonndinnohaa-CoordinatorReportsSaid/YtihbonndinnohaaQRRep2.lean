/- Report of the reference: where it succeeds. -/
import Derived.Test.YtihbonndinnohaaQRRep
import Derived.Test.YtihbonndinnohaaQRowC
namespace Go.Proofs.Ytihbonndinnohaa
open Go.RowKit
set_option linter.unusedVariables false
set_option linter.unusedSimpArgs false
def RowE {α : Type} (L B : Nat) (te : TypeId) (sz : Nat) (R : World → (Nat → Prop) → List Value → α → Prop) (n : Nat) (l : List α) : World → Value → Prop := fun w v => (∃ C cap, v = .slice C n cap) ∧ GqB w L B te sz R v l
def trF (B p1 p2 j : Nat) (w w' : World) : Prop := if j = p1 then TrA B 42 w w' else if j = p2 then TrA B 4 w w' else Below w.heap.size w w'
theorem trF_0 {B p1 p2 j : Nat} {w w' : World} (h1 : j ≠ p1) (h2 : j ≠ p2) (h : Below w.heap.size w w') : trF B p1 p2 j w w' := by unfold trF; rw [if_neg h1, if_neg h2]; exact h
theorem trF_1 {B p1 p2 : Nat} {w w' : World} (h : TrA B 42 w w') : trF B p1 p2 p1 w w' := by unfold trF; rw [if_pos rfl]; exact h
theorem trF_2 {B p1 p2 : Nat} {w w' : World} (h1 : p2 ≠ p1) (h : TrA B 4 w w') : trF B p1 p2 p2 w w' := by unfold trF; rw [if_neg h1, if_pos rfl]; exact h
theorem trF_cases {B p1 p2 j : Nat} {w w' : World} (h : trF B p1 p2 j w w') : (j = p1 ∧ TrA B 42 w w') ∨ (j = p2 ∧ TrA B 4 w w') ∨ (j ≠ p1 ∧ j ≠ p2 ∧ Below w.heap.size w w') := by
  unfold trF at h
  by_cases h1 : j = p1
  · rw [if_pos h1] at h; exact .inl ⟨h1, h⟩
  · rw [if_neg h1] at h
    by_cases h2 : j = p2
    · rw [if_pos h2] at h; exact .inr (.inl ⟨h2, h⟩)
    · rw [if_neg h2] at h; exact .inr (.inr ⟨h1, h2, h⟩)
theorem trF_below {B p1 p2 j : Nat} {w w' : World} (h : trF B p1 p2 j w w') (hB : B ≤ w.heap.size) : Below B w w' := by
  rcases trF_cases h with ⟨-, row, -, h, -⟩ | ⟨-, row, -, h, -⟩ | ⟨-, -, h⟩
  · exact h
  · exact h
  · exact h.mono hB
def IvR (H L : Nat) (V1 : Value) (l1 : List Oq) (V2 : Value) (l2 : List Bool) : Nat → World → Prop
  | 0 => fun w => GqB w H (L + 1 + 1) 42 2 ROq V1 l1
  | 1 => fun w => GqB w H (L + 1 + 1) 4 1 RBq V2 l2
  | _ => fun _ => True
def sp19 : Nat → List Nat
  | 4 => [1, 3]
  | 8 => [6, 7]
  | _ => []
def si19 : Nat → List Nat
  | 4 => [0]
  | 8 => [1]
  | _ => []
def us19 : Nat → List Nat
  | 1 => [0]
  | 6 => [1]
  | _ => []
def sp20 : Nat → List Nat
  | 8 => [1, 7]
  | 17 => [10, 16]
  | _ => []
def si20 : Nat → List Nat
  | 8 => [0]
  | 17 => [1]
  | _ => []
def us20 : Nat → List Nat
  | 1 => [0]
  | 10 => [1]
  | _ => []
theorem row_below {α : Type} {R : World → (Nat → Prop) → List Value → α → Prop} {L B : Nat} {te : TypeId} {sz n : Nat} {l : List α} {w w' : World} {v : Value} (hR : Rd R) (h : RowE L B te sz R n l w v) (hb : Below w.heap.size w w') : RowE L B te sz R n l w' v := ⟨h.1, h.2.below hR hb⟩
theorem row_grown {α : Type} {R : World → (Nat → Prop) → List Value → α → Prop} {L B : Nat} {te T : TypeId} {sz n : Nat} {l : List α} {w w' : World} {v : Value} (hR : Rd R) (h : RowE L B te sz R n l w v) (ht : TrA B T w w') (hne : T ≠ te) (hLB : L ≤ B) : RowE L B te sz R n l w' v := ⟨h.1, h.2.grown hR ht hne hLB⟩
theorem iv_st {H L : Nat} (hHL : H ≤ L) {V1 V2 : Value} {l1 : List Oq} {l2 : List Bool} {p1 p2 : Nat} {si : Nat → List Nat} (h1 : 0 ∈ si p1) (h2 : 1 ∈ si p2) {j d : Nat} (hd : d ∉ si j) {w w' : World} (ht : trF (L + 1 + 1) p1 p2 j w w') (h : IvR H L V1 l1 V2 l2 d w) : IvR H L V1 l1 V2 l2 d w' := by
  match d, hd, h with
  | 0, hd, h =>
    have h : GqB w H (L + 1 + 1) 42 2 ROq V1 l1 := h
    show GqB w' H (L + 1 + 1) 42 2 ROq V1 l1
    rcases trF_cases ht with ⟨e, h9⟩ | ⟨e, h9⟩ | ⟨-, -, h9⟩
    · rw [e] at hd; exact absurd h1 hd
    · exact h.grown rd_Oq h9 (by decide) (by omega)
    · exact h.below rd_Oq h9
  | 1, hd, h =>
    have h : GqB w H (L + 1 + 1) 4 1 RBq V2 l2 := h
    show GqB w' H (L + 1 + 1) 4 1 RBq V2 l2
    rcases trF_cases ht with ⟨e, h9⟩ | ⟨e, h9⟩ | ⟨-, -, h9⟩
    · exact h.grown rd_Bq h9 (by decide) (by omega)
    · rw [e] at hd; exact absurd h2 hd
    · exact h.below rd_Bq h9
  | _ + 2, _, _ => trivial
theorem bl_low {w w' : World} {B b : Nat} {xs : List Value} (h : Bl w b xs) (hb : Below B w w') (hB : b < B) : Bl w' b xs :=
  ⟨fun j u hu => (hb.cell (p := ⟨b, j, none⟩) hB).trans (h.c j u hu), fun j => (World.frozen?_of_block (w := w) (a := ⟨b, j, none⟩) (hb.block b hB)).trans (h.f j), Nat.lt_of_lt_of_le h.lt hb.size⟩
section
variable (w : World) (c : Cq)
set_option maxRecDepth 100000 in
set_option maxHeartbeats 16000000 in
theorem rrep_good (v : Value) (num : Int) (k : Nat) (o : Oq) (xs : List Value) (h : CoV w v c) (ho : ROq w (· < w.heap.size) xs o) (hc : chkQ c = 0) (i : Nat) (hfi : findQ num c.atts = i) (hi : i < c.atts.length) (hk : k < (attQ c i).hv.length) (hh : (attQ c i).hv.getD k false = false) (hb4 : 0 < i → (attQ c (i - 1)).hv.getD k true = true) : Calls Try.prog 19 #[v, .int .i64 num, .int .i64 (k : Int), .agg xs.toArray] w (RetC1 w (repC c num (k : Int) o) (repE c num (k : Int))) := by
  have hE0 := repE_found (wk := (k : Int)) hc hfi hi
  rw [if_neg (by omega), Int.toNat_natCast] at hE0
  have hE : repE c num (k : Int) = 0 := by rw [hE0, if_neg (by rw [hh]; decide), if_neg (fun hx => by rw [hb4 hx.1] at hx; cases hx.2)]
  have HC : Hid (repC c num (k : Int) o = ⟨c.next, c.atts.set i (repA (attQ c i) k o), c.dur⟩) := hide (by unfold repC; rw [if_pos hE, hfi, Int.toNat_natCast])
  rw [hE]
  have HOL : Hid ((attQ c i).ops.length = (attQ c i).hv.length) := hide (err0 ((chk0 hc).2.2.2.2.2 i hi)).2.2.2.2.2.2.2.2
  have hif : (if findQ num c.atts = c.atts.length then (-1 : Int) else (findQ num c.atts : Int)) = (i : Int) := by rw [if_neg (by omega), hfi]
  have HIF := hide hif
  have HI := hide hi
  obtain ⟨n3, hn3⟩ : ∃ n, (attQ c i).hv.length = n := ⟨_, rfl⟩
  have HR3 := hide hn3
  have hn8 : n3 ≤ 8 := by have := (err0 ((chk0 hc).2.2.2.2.2 i hi)).2.2.2.2.2.2.1; omega
  have HH := hide hh
  have HB4 := hide hb4
  have HK1 : Hid (0 < i → k < (attQ c (i - 1)).hv.length) := hide (fun h0 => by have e1 := err0 ((chk0 hc).2.2.2.2.2 i hi); have e2 := err0 ((chk0 hc).2.2.2.2.2 (i - 1) (by omega)); omega)
  have t1 : decide ((k : Int) < 0) = false := decide_eq_false (by omega)
  have t2 : decide ((n3 : Int) ≤ (k : Int)) = false := decide_eq_false (by omega)
  have t3 : (0 : Int) ≤ (k : Int) := by omega
  have t4 : (k : Int) < (n3 : Int) := by omega
  clear hh hb4 hk
  clear hE hE0 hfi hi hn3 hif
  obtain ⟨u, rfl, hl, hq1, hq2⟩ := id h
  obtain ⟨A, cap, rfl⟩ := hl.form
  obtain ⟨vm, ve, rfl, ho1, ho2, ho3, ho4⟩ := ho
  obtain ⟨M, cm, rfl⟩ := ho1.form
  obtain ⟨D, cd, rfl⟩ := ho2.form
  have HB := hide (show Below w.heap.size w (((w.alloc (.cells #[.int .i64 c.next, .slice A c.atts.length cap, .int .i64 c.dur] 24)).alloc (.cells #[.slice M o.marks.length cm, .slice D o.engs.length cd] 42)).alloc (.cells #[.int .i64 0, .slice none 0 0, .int .i64 0] 24)) from bA_alloc (bA_alloc (below_laid _) _) _)
  have HX := hide (((Bl.new w [.int .i64 c.next, .slice A c.atts.length cap, .int .i64 c.dur] 24).laid (.cells #[.slice M o.marks.length cm, .slice D o.engs.length cd] 42)).laid (.cells #[.int .i64 0, .slice none 0 0, .int .i64 0] 24))
  have HO := hide (show Bl (((w.alloc (.cells #[.int .i64 c.next, .slice A c.atts.length cap, .int .i64 c.dur] 24)).alloc (.cells #[.slice M o.marks.length cm, .slice D o.engs.length cd] 42)).alloc (.cells #[.int .i64 0, .slice none 0 0, .int .i64 0] 24)) (w.heap.size + 1) [.slice M o.marks.length cm, .slice D o.engs.length cd] by have := (Bl.new (w.alloc (.cells #[.int .i64 c.next, .slice A c.atts.length cap, .int .i64 c.dur] 24)) [.slice M o.marks.length cm, .slice D o.engs.length cd] 42).laid (.cells #[.int .i64 0, .slice none 0 0, .int .i64 0] 24); simpa using this)
  have HY := hide (show Bl (((w.alloc (.cells #[.int .i64 c.next, .slice A c.atts.length cap, .int .i64 c.dur] 24)).alloc (.cells #[.slice M o.marks.length cm, .slice D o.engs.length cd] 42)).alloc (.cells #[.int .i64 0, .slice none 0 0, .int .i64 0] 24)) (w.heap.size + 1 + 1) [.int .i64 0, .slice none 0 0, .int .i64 0] by have := Bl.new ((w.alloc (.cells #[.int .i64 c.next, .slice A c.atts.length cap, .int .i64 c.dur] 24)).alloc (.cells #[.slice M o.marks.length cm, .slice D o.engs.length cd] 42)) [.int .i64 0, .slice none 0 0, .int .i64 0] 24; simpa using this)
  have HK := hide (rchk_any (((w.alloc (.cells #[.int .i64 c.next, .slice A c.atts.length cap, .int .i64 c.dur] 24)).alloc (.cells #[.slice M o.marks.length cm, .slice D o.engs.length cd] 42)).alloc (.cells #[.int .i64 0, .slice none 0 0, .int .i64 0] 24)) c _ (((h.laid _).laid _).laid _))
  obtain ⟨cells, hraw, hlen, hel⟩ := lst_raw one_Aq hl
  have hcn' : c.atts.length ≤ 256 := (chk0 hc).2.2.2.2.1
  have HAT := hide (fun (w' : World) (hb : Below w.heap.size w w') => show Calls Try.prog 35 #[.slice A c.atts.length cap] w' (RetCp w' 51 4 cells) by
    have := ratts_any w' A cap cells (by rw [hlen]; exact Lq.grow rd_Wq hraw hb) (by omega)
    rwa [hlen] at this)
  have HEL := hide (And.intro hlen hel)
  obtain ⟨i1, hi1, hz10, hz11, hz12⟩ := info_parts iq_operator
  obtain ⟨i2, hi2, hz20, hz21, hz22⟩ := info_parts iq_bool
  clear hraw hlen hel hcn'
  have hcn : c.atts.length ≤ 256 := (chk0 hc).2.2.2.2.1
  have HFI := hide (fun (w' : World) (hb : Below w.heap.size w w') => rfind_any w' c _ num (h.grow hb) hcn)
  have HCH := hide hc
  have HQ := hide (And.intro hq1 hq2)
  have HOO := hide (And.intro ho1 (And.intro ho2 (And.intro ho3 ho4)))
  have HLL := hide hl
  rw [hc] at HK
  clear hc h hl hq1 hq2 ho1 ho2 ho3 ho4
  go_enter Try.func19, Try.ntmps19
  go_wp2_with fail
  refine HK.out.mono ?_
  rintro e w1 ⟨rfl, hb⟩
  replace HX := hide (HX.out.keep hb)
  replace HO := hide (HO.out.keep hb)
  replace HY := hide (HY.out.keep hb)
  replace HB := hide (bthen HB.out hb)
  clear hb
  have HF1 := hide (HFI.out w1 HB.out)
  obtain ⟨x, -, zx⟩ := HX.out
  obtain ⟨y, v, zy⟩ := HY.out
  have x0 := x 0 _ rfl
  have x1 := x 1 _ rfl
  have x2 := x 2 _ rfl
  have y0 := y 0 _ rfl
  have y1 := y 1 _ rfl
  have y2 := y 2 _ rfl
  have v0 := v 0
  have v1 := v 1
  have v2 := v 2
  clear x y v zx
  clear HK HFI
  go_wp2_with fail
  refine HF1.out.mono ?_
  rintro e w2 ⟨rfl, hb⟩
  clear x0 x1 x2 y0 y1 y2 v0 v1 v2 zy
  replace HX := hide (HX.out.keep hb)
  replace HO := hide (HO.out.keep hb)
  replace HY := hide (HY.out.keep hb)
  replace HB := hide (bthen HB.out hb)
  clear hb
  clear HF1
  obtain ⟨x, -, zx⟩ := HX.out
  obtain ⟨y, v, zy⟩ := HY.out
  have x0 := x 0 _ rfl
  have x1 := x 1 _ rfl
  have x2 := x 2 _ rfl
  have y0 := y 0 _ rfl
  have y1 := y 1 _ rfl
  have y2 := y 2 _ rfl
  have v0 := v 0
  have v1 := v 1
  have v2 := v 2
  clear x y v zx
  rw [HIF.out]
  obtain ⟨g, off, xs9, eA, -⟩ := Lst.at_ HLL.out HI.out
  subst eA
  obtain ⟨-, A1, A2, A3, c1, c2, c3, ha⟩ := att_at HLL.out HI.out
  have HA0 := hide ha
  replace ha := ha.grow HB.out
  have k0 := ha.k0
  have k1 := ha.k1
  have k2 := ha.k2
  have k3 := ha.k3
  rw [HR3.out] at k3
  have HAA := hide ha
  obtain ⟨m, hm⟩ : ∃ m, c.atts.length = m := ⟨_, rfl⟩
  have HM := hide hm
  rw [hm] at HX x1 ⊢
  have hu0 : (0 : Int) ≤ (i : Int) := by omega
  have hu1 : (i : Int) < (m : Int) := by have := HI.out; omega
  have hu2 : (i : Int) ≤ 256 := by have := HI.out; omega
  have tn : decide ((i : Int) < 0) = false := decide_eq_false (by omega)
  clear ha hm
  obtain ⟨gb, ob, ys9, e3, -, -, hc3, hr3⟩ := Lst.at_ HAA.out.l3 (show k < (attQ c i).hv.length by rw [HR3.out]; omega)
  subst e3
  obtain ⟨z, hz⟩ : ∃ z, ys9 = [.bool z] ∧ (attQ c i).hv.getD k false = z := ⟨_, hr3, by rw [List.getD_eq_getElem?_getD, List.getElem?_eq_getElem]; rfl⟩
  obtain ⟨rfl, hz2⟩ := hz
  have kb := hc3 0 _ rfl
  rw [Nat.mul_one, Nat.add_zero] at kb
  rw [HH.out] at hz2
  subst hz2
  have hgb := World.block_lt_of_cell? w2 _ kb
  have hgg := World.block_lt_of_cell? w2 _ k0
  simp only at hgb hgg
  clear hc3 hr3
  rw [HOL.out, HR3.out] at k2
  rcases Nat.eq_zero_or_pos i with h0 | h0
  · have t6 : decide ((0 : Int) < (i : Int)) = false := decide_eq_false (by omega)
    have t6' : decide (0 < i) = false := decide_eq_false (by omega)
    have zx2 : w.heap.size < w2.heap.size := by omega
    clear h0
    rw [HM.out] at HAT
    go_upto_region 15 with (fail)
    obtain ⟨w4, hw4⟩ : ∃ x, ((w2.alloc (.cells #[.int .i64 (attQ c i).num, .slice A1 (attQ c i).rds.length c1, .slice A2 n3 c2, .slice (some ⟨gb, ob, none⟩) n3 c3] 51)).alloc (.cells #[.int .i64 (attQ c i).num, .slice A1 (attQ c i).rds.length c1, .slice none 0 0, .slice none 0 0] 51)) = x := ⟨_, rfl⟩
    have HAX := hide (show Bl w4 w2.heap.size [.int .i64 (attQ c i).num, .slice A1 (attQ c i).rds.length c1, .slice A2 n3 c2, .slice (some ⟨gb, ob, none⟩) n3 c3] by rw [← hw4]; exact (Bl.new _ _ _).laid _)
    have HZ := hide (show Bl w4 (w2.heap.size + 1) [.int .i64 (attQ c i).num, .slice A1 (attQ c i).rds.length c1, .slice none 0 0, .slice none 0 0] by rw [← hw4]; have := Bl.new (w2.alloc (.cells #[.int .i64 (attQ c i).num, .slice A1 (attQ c i).rds.length c1, .slice A2 n3 c2, .slice (some ⟨gb, ob, none⟩) n3 c3] 51)) [.int .i64 (attQ c i).num, .slice A1 (attQ c i).rds.length c1, .slice none 0 0, .slice none 0 0] 51; simpa using this)
    have H24 := hide (show Below w2.heap.size w2 w4 by rw [← hw4]; exact bA_alloc (below_laid _) _)
    have hL4 : w2.heap.size + 1 < w4.heap.size := by rw [← hw4]; simp
    rw [hw4]
    clear hw4 x0 x1 x2 y0 y1 y2 v0 v1 v2 k0 k1 k2 k3 kb hgb hgg
    try clear j3 kp hgp
    have hzy : w.heap.size + 1 + 1 < w2.heap.size := zy
    clear zy
    replace HX := hide (HX.out.keep H24.out)
    replace HO := hide (HO.out.keep H24.out)
    replace HY := hide (HY.out.keep H24.out)
    have HON := hide (show ROq w4 (· < w.heap.size) [.slice M o.marks.length cm, .slice D o.engs.length cd] o from
      (rd_Oq.keep (Kp.of_below (bthen HB.out H24.out)) (show ROq w (· < w.heap.size) [.slice M o.marks.length cm, .slice D o.engs.length cd] o from ⟨_, _, rfl, HOO.out.1, HOO.out.2.1, HOO.out.2.2.1, HOO.out.2.2.2⟩)))
    have HL2 : Hid (Lst w4 (· < w.heap.size) 2 ROq (.slice A2 n3 c2) (attQ c i).ops) := hide (by have := (HA0.out.l2).keep rd_Oq (Kp.of_below (bthen HB.out H24.out)); rwa [HOL.out, HR3.out] at this)
    have HL3 : Hid (Lst w4 (· < w.heap.size) 1 RBq (.slice (some ⟨gb, ob, none⟩) n3 c3) (attQ c i).hv) := hide (by have := (HA0.out.l3).keep rd_Bq (Kp.of_below (bthen HB.out H24.out)); rwa [HR3.out] at this)
    have HL1 : Hid (Lst w4 (· < w.heap.size) 6 RRq (.slice A1 (attQ c i).rds.length c1) (attQ c i).rds) := hide ((HA0.out.l1).keep rd_Rq (Kp.of_below (bthen HB.out H24.out)))
    have HNU : Hid (inQ (attQ c i).num) := hide HAA.out.num
    replace HB := hide (bthen HB.out H24.out)
    clear HAA HA0 H24
    obtain ⟨L, hL⟩ : ∃ L, w2.heap.size = L := ⟨_, rfl⟩
    rw [hL] at HAX HZ hL4 hzy ⊢
    clear hL zx2
    obtain ⟨a, ha9⟩ : ∃ a, attQ c i = a := ⟨_, rfl⟩
    rw [ha9] at HAX HZ HL2 HL3 HL1 HNU HR3 HOL HC HH ⊢
    obtain ⟨nr, hnr⟩ : ∃ n, a.rds.length = n := ⟨_, rfl⟩
    rw [hnr] at HAX HZ HL1 ⊢
    clear ha9 hnr
    go_wp2_with fail
    go_loopw [14] (fun i wr => ∃ q : Nat, q ≤ n3 ∧ i = .int .i64 q ∧ ∃ V1 V2, Hid (Bl wr (L + 1) [.int .i64 a.num, .slice A1 nr c1, V1, V2]) ∧ Hid (GqB wr w.heap.size (L + 1 + 1) 42 2 ROq V1 ((a.ops.set k o).take q)) ∧ Hid (GqB wr w.heap.size (L + 1 + 1) 4 1 RBq V2 ((a.hv.set k true).take q)) ∧ Hid (Below (L + 1) w4 wr)) (fun i _ => n3 - (intOf i).toNat)
    case atStart => exact ⟨0, Nat.zero_le _, rfl, .slice none 0 0, .slice none 0 0, HZ, hide GqB.nil, hide GqB.nil, hide (Below.refl _ _)⟩
    case round =>
      obtain ⟨q, hq, rfl, V1, V2, HZB, HG1, HG2, HBW⟩ := hrel
      have hws : L + 1 < wr.heap.size := by have := HBW.out.size; omega
      have HAY := hide (show Bl wr L [.int .i64 a.num, .slice A1 nr c1, .slice A2 n3 c2, .slice (some ⟨gb, ob, none⟩) n3 c3] from ⟨fun j u hu => (HBW.out.cell (p := ⟨L, j, none⟩) (by show L < L + 1; omega)).trans (HAX.out.c j u hu), fun j => (World.frozen?_of_block (w := w4) (a := ⟨L, j, none⟩) (HBW.out.block L (by omega) )).trans (HAX.out.f j), by omega⟩)
      have g3 := HAY.out.c 3 _ rfl
      by_cases hlt : q < n3
      · have hqo : q < a.ops.length := by rw [HOL.out, HR3.out]; exact hlt
        have hqh : q < a.hv.length := by rw [HR3.out]; exact hlt
        obtain ⟨B1, b1, eV1⟩ := HG1.out.form
        obtain ⟨B2, b2, eV2⟩ := HG2.out.form
        have HN1 : Hid (((a.ops.set k o).take q).length = q) := hide (by rw [List.length_take, List.length_set, HOL.out, HR3.out]; omega)
        have HN2 : Hid (((a.hv.set k true).take q).length = q) := hide (by rw [List.length_take, List.length_set, HR3.out]; omega)
        rw [HN1.out] at eV1
        rw [HN2.out] at eV2
        subst eV1 eV2
        replace HN1 := hide (fun (y : Oq) => show ((a.ops.set k o).take q ++ [y]).length = q + 1 by rw [List.length_append, HN1.out]; rfl)
        replace HN2 := hide (fun (y : Bool) => show ((a.hv.set k true).take q ++ [y]).length = q + 1 by rw [List.length_append, HN2.out]; rfl)
        by_cases hqk : q = k
        · have HT1 : Hid ((a.ops.set k o).take (q + 1) = (a.ops.set k o).take q ++ [o]) := hide (by rw [List.take_succ_eq_append_getElem (by rw [List.length_set]; exact hqo), List.getElem_set, if_pos hqk.symm])
          have HT2 : Hid ((a.hv.set k true).take (q + 1) = (a.hv.set k true).take q ++ [true]) := hide (by rw [List.take_succ_eq_append_getElem (by rw [List.length_set]; exact hqh), List.getElem_set, if_pos hqk.symm])
          have tk : ((q : Int) == (k : Int)) = true := by rw [beq_iff_eq]; omega
          have tk' : (q == k) = true := by rw [beq_iff_eq]; omega
          clear hqk
          go_upto_region 19 with (fail)
          refine wp_region_grow2 (L + 1 + 1) (by omega) 10 [80, 81, 82, 83, 84, 85, 86, 87, 88, 89] [Fix (.pointer (some ⟨L + 1, 2, none⟩)), RowE w.heap.size (L + 1 + 1) 42 2 ROq q ((a.ops.set k o).take q), Fix (.agg #[.slice M o.marks.length cm, .slice D o.engs.length cd]), LitT 42 [.slice M o.marks.length cm, .slice D o.engs.length cd], RowE w.heap.size (L + 1 + 1) 42 2 ROq (q + 1) (((a.ops.set k o).take q) ++ [o]), Fix (.pointer (some ⟨L + 1, 3, none⟩)), RowE w.heap.size (L + 1 + 1) 4 1 RBq q ((a.hv.set k true).take q), LitT 4 [.bool true], RowE w.heap.size (L + 1 + 1) 4 1 RBq (q + 1) (((a.hv.set k true).take q) ++ [true]), Fix (.pointer (some ⟨L + 1, 2, none⟩))] (by kernel_rfl) (by kernel_rfl) (by kernel_rfl) (by kernel_rfl) (by kernel_rfl) (IvR w.heap.size L (.slice B1 q b1) ((a.ops.set k o).take q) (.slice B2 q b2) ((a.hv.set k true).take q)) si19 us19 (by kernel_rfl) ?_ (trF (L + 1 + 1) 4 8) sp19 (fun j wa wb _ ht hsz => trF_below ht (by omega)) ?_ (fun j d _ hd wa wb _ ht hi => iv_st (by omega) (by decide) (by decide) hd ht hi) ?_ ?_
          · intro d
            match d with
            | 0 => exact HG1.out.below rd_Oq ((Below.refl _ _).drew)
            | 1 => exact HG2.out.below rd_Bq ((Below.refl _ _).drew)
            | _ + 2 => trivial
          · intro j k9 hj hk9 hne hsp _ w5 w6 v5 hsz ht hP5
            have hkc : k9 = 0 ∨ k9 = 1 ∨ k9 = 2 ∨ k9 = 3 ∨ k9 = 4 ∨ k9 = 5 ∨ k9 = 6 ∨ k9 = 7 ∨ k9 = 8 ∨ k9 = 9 := by omega
            rcases trF_cases ht with ⟨rfl, ht⟩ | ⟨rfl, ht⟩ | ⟨-, -, ht⟩
            · rcases hkc with rfl | rfl | rfl | rfl | rfl | rfl | rfl | rfl | rfl | rfl
              all_goals first | exact absurd rfl hne | exact absurd (by decide) hsp | exact hP5 | exact row_grown rd_Bq hP5 ht (by decide) (by omega) | exact lit_grown hP5 ht (by decide)
            · rcases hkc with rfl | rfl | rfl | rfl | rfl | rfl | rfl | rfl | rfl | rfl
              all_goals first | exact absurd rfl hne | exact absurd (by decide) hsp | exact hP5 | exact row_grown rd_Oq hP5 ht (by decide) (by omega) | exact lit_grown hP5 ht (by decide)
            · rcases hkc with rfl | rfl | rfl | rfl | rfl | rfl | rfl | rfl | rfl | rfl
              all_goals first | exact hP5 | exact row_below rd_Oq hP5 ht | exact row_below rd_Bq hP5 ht | exact lit_below hP5 ht
          · intro j o9 hj ho x w5 hb hI hd
            have hjc : j = 0 ∨ j = 1 ∨ j = 2 ∨ j = 3 ∨ j = 4 ∨ j = 5 ∨ j = 6 ∨ j = 7 ∨ j = 8 ∨ j = 9 := by omega
            have c45 : Below (L + 1) w4 w5 := HBW.out.trans (hb.mono (by omega))
            have hw5 : wr.heap.size ≤ w5.heap.size := hb.size
            rcases hjc with rfl | rfl | rfl | rfl | rfl | rfl | rfl | rfl | rfl | rfl
            all_goals obtain rfl := Option.some.inj ho
            all_goals generalize hK : (fun (a' : Act) (w' : World) => _) = K
            all_goals simp only [puts]
            · go_simp
              rw [← hK]
              exact ⟨.pointer (some ⟨L + 1, 2, none⟩), (by simp only [puts]; go_simp), trF_0 (by decide) (by decide) (Below.refl _ _), rfl⟩
            · have e : x 80 = .pointer (some ⟨L + 1, 2, none⟩) := hd 0 (by kernel_rfl) (by kernel_rfl)
              have hG := hide (hI 0 (by decide))
              have zc := (bl_low HZB.out hb (by omega)).c 2 _ rfl
              go_simp
              rw [← hK]
              exact ⟨(.slice B1 q b1), (by simp only [puts]; go_simp), trF_0 (by decide) (by decide) (Below.refl _ _), ⟨_, _, rfl⟩, hG.out⟩
            · have o0 := c45.cell (p := ⟨w.heap.size + 1, 0, none⟩) (by show w.heap.size + 1 < L + 1; omega) |>.trans (HO.out.c 0 _ rfl)
              have o1 := c45.cell (p := ⟨w.heap.size + 1, 1, none⟩) (by show w.heap.size + 1 < L + 1; omega) |>.trans (HO.out.c 1 _ rfl)
              go_simp
              rw [← hK]
              exact ⟨.agg #[.slice M o.marks.length cm, .slice D o.engs.length cd], (by simp only [puts]; go_simp), trF_0 (by decide) (by decide) (Below.refl _ _), rfl⟩
            · have e : x 82 = .agg #[.slice M o.marks.length cm, .slice D o.engs.length cd] := hd 2 (by kernel_rfl) (by kernel_rfl)
              go_simp
              rw [← hK]
              exact ⟨.slice (some ⟨w5.heap.size, 0, none⟩) 1 1, (by simp only [puts]; go_simp), trF_0 (by decide) (by decide) (below_laid _), lit_new w5 [.slice M o.marks.length cm, .slice D o.engs.length cd] 42⟩
            · obtain ⟨⟨D1, d1, e1⟩, hG⟩ : RowE w.heap.size (L + 1 + 1) 42 2 ROq q ((a.ops.set k o).take q) w5 (x 81) := hd 1 (by kernel_rfl) (by kernel_rfl)
              have hLt : LitT 42 [.slice M o.marks.length cm, .slice D o.engs.length cd] w5 (x 83) := hd 3 (by kernel_rfl) (by kernel_rfl)
              obtain ⟨u9, e3⟩ : ∃ u, x 83 = u := ⟨_, rfl⟩
              rw [e3] at hLt
              rw [e1] at hG
              refine wp_append_gqb rd_Oq (.tmp 81) (.tmp 83) 48 (by rfl) w.heap.size (L + 1 + 1) 42 i1 _ 2 48 Try.underlying48 hi1 hz10 hz11 hz12 (by rfl) (by decide) (.slice D1 q d1) _ (by go_simp) hG u9 (by go_simp) [.slice M o.marks.length cm, .slice D o.engs.length cd] hLt (by rfl) (fun y hy => by simp at hy; rcases hy with rfl | rfl <;> rfl) o (rd_Oq.keep (Kp.lowBelow c45 (fun b (hz : b < w.heap.size) => by omega)) HON.out) (by omega) (by simp; omega) (by decide) (by omega) ?_
              intro v9 w9 hg9 ht9
              obtain ⟨B9, q9, hv9⟩ := hg9.form
              rw [← hK]
              exact ⟨v9, (by simp only [puts]), trF_1 ht9, ⟨B9, q9, by rw [hv9, HN1.out]⟩, hg9⟩
            · go_simp
              rw [← hK]
              exact ⟨.pointer (some ⟨L + 1, 3, none⟩), (by simp only [puts]; go_simp), trF_0 (by decide) (by decide) (Below.refl _ _), rfl⟩
            · have e : x 85 = .pointer (some ⟨L + 1, 3, none⟩) := hd 5 (by kernel_rfl) (by kernel_rfl)
              have hG := hide (hI 1 (by decide))
              have zc := (bl_low HZB.out hb (by omega)).c 3 _ rfl
              go_simp
              rw [← hK]
              exact ⟨(.slice B2 q b2), (by simp only [puts]; go_simp), trF_0 (by decide) (by decide) (Below.refl _ _), ⟨_, _, rfl⟩, hG.out⟩
            · go_simp
              rw [← hK]
              exact ⟨.slice (some ⟨w5.heap.size, 0, none⟩) 1 1, (by simp only [puts]; go_simp), trF_0 (by decide) (by decide) (below_laid _), lit_new w5 [.bool true] 4⟩
            · obtain ⟨⟨D1, d1, e1⟩, hG⟩ : RowE w.heap.size (L + 1 + 1) 4 1 RBq q ((a.hv.set k true).take q) w5 (x 86) := hd 6 (by kernel_rfl) (by kernel_rfl)
              have hLt : LitT 4 [.bool true] w5 (x 87) := hd 7 (by kernel_rfl) (by kernel_rfl)
              obtain ⟨u9, e3⟩ : ∃ u, x 87 = u := ⟨_, rfl⟩
              rw [e3] at hLt
              rw [e1] at hG
              refine wp_append_gqb rd_Bq (.tmp 86) (.tmp 87) 49 (by rfl) w.heap.size (L + 1 + 1) 4 i2 _ 1 1 Try.underlying49 hi2 hz20 hz21 hz22 (by rfl) (by decide) (.slice D1 q d1) _ (by go_simp) hG u9 (by go_simp) [.bool true] hLt (by rfl) (fun y hy => by simp at hy; subst hy; rfl) true rfl (by omega) (by simp; omega) (by decide) (by omega) ?_
              intro v9 w9 hg9 ht9
              obtain ⟨B9, q9, hv9⟩ := hg9.form
              rw [← hK]
              exact ⟨v9, (by simp only [puts]), trF_2 (by decide) ht9, ⟨B9, q9, by rw [hv9, HN2.out]⟩, hg9⟩
            · go_simp
              rw [← hK]
              exact ⟨.pointer (some ⟨L + 1, 2, none⟩), (by simp only [puts]; go_simp), trF_0 (by decide) (by decide) (Below.refl _ _), rfl⟩
          · intro x w9 hb hP
            obtain ⟨⟨D1, d1, e9⟩, hR1⟩ : RowE w.heap.size (L + 1 + 1) 42 2 ROq (q + 1) ((a.ops.set k o).take q ++ [o]) w9 (x 84) := hP 4 (by decide) (by decide)
            obtain ⟨⟨D2, d2, e8⟩, hR2⟩ : RowE w.heap.size (L + 1 + 1) 4 1 RBq (q + 1) ((a.hv.set k true).take q ++ [true]) w9 (x 88) := hP 8 (by decide) (by decide)
            have eP : x 89 = .pointer (some ⟨L + 1, 2, none⟩) := hP 9 (by decide) (by decide)
            rw [e9] at hR1
            rw [e8] at hR2
            have hBl : Bl w9 (L + 1) [.int .i64 a.num, .slice A1 nr c1, (.slice B1 q b1), (.slice B2 q b2)] := bl_low HZB.out hb (by omega)
            have f2 := hBl.f 2
            have f3 := hBl.f 3
            have z2 := hBl.c 2 _ rfl
            have z3 := hBl.c 3 _ rfl
            have HZ9 := hide ((hBl.put (k := 2) (by simp) (.slice D1 (q + 1) d1)).put (k := 3) (by simp) (.slice D2 (q + 1) d2))
            have HR1 := hide ((hR1.set rd_Oq (b := L + 1) (by omega) (by omega) 2 (.slice D1 (q + 1) d1)).set rd_Oq (b := L + 1) (by omega) (by omega) 3 (.slice D2 (q + 1) d2))
            have HR2 := hide ((hR2.set rd_Bq (b := L + 1) (by omega) (by omega) 2 (.slice D1 (q + 1) d1)).set rd_Bq (b := L + 1) (by omega) (by omega) 3 (.slice D2 (q + 1) d2))
            have HB9 := hide (((HBW.out.trans (hb.mono (by omega))).setCell (p := ⟨L + 1, 2, none⟩) (Nat.le_refl _) (.slice D1 (q + 1) d1)).setCell (p := ⟨L + 1, 3, none⟩) (Nat.le_refl _) (.slice D2 (q + 1) d2))
            clear hP hR1 hR2 hBl hb
            simp only [puts, Act.put, List.setIfInBounds_toArray, List.set_cons_succ, List.set_cons_zero, List.drop]
            go_wp2
            go_roundw
            case rel => exact ⟨q + 1, by omega, by go_num, _, _, HZ9, by rw [HT1.out]; exact HR1, by rw [HT2.out]; exact HR2, HB9⟩
            case measure => simp [intOf]; omega
        · have HT1 : Hid ((a.ops.set k o).take (q + 1) = (a.ops.set k o).take q ++ [a.ops[q]]) := hide (by rw [List.take_succ_eq_append_getElem (by rw [List.length_set]; exact hqo), List.getElem_set, if_neg (fun e => hqk e.symm)])
          have HT2 : Hid ((a.hv.set k true).take (q + 1) = (a.hv.set k true).take q ++ [a.hv[q]]) := hide (by rw [List.take_succ_eq_append_getElem (by rw [List.length_set]; exact hqh), List.getElem_set, if_neg (fun e => hqk e.symm)])
          have tk : ((q : Int) == (k : Int)) = false := by rw [beq_eq_false_iff_ne]; omega
          have tk' : (q == k) = false := by rw [beq_eq_false_iff_ne]; omega
          obtain ⟨g2, off2, ys, e2, hz2, hl2, hc2, hr2⟩ := Lst.at_ HL2.out hqo
          subst e2
          obtain ⟨-, zs, hl3, hc3, hr3⟩ := Lst.at1 HL3.out hqh
          have hgb2 : gb < w.heap.size := (Lst.at1 HL3.out hqh).1
          obtain ⟨y, hy⟩ : ∃ y, a.ops[q] = y := ⟨_, rfl⟩
          obtain ⟨b, hb⟩ : ∃ b, a.hv[q] = b := ⟨_, rfl⟩
          rw [hy] at hr2 HT1
          rw [hb] at hr3 HT2
          clear hy hb
          have hr3' : zs = [.bool b] := hr3
          subst hr3'
          obtain ⟨yv, yu, e5⟩ : ∃ yv yu, ys = [yv, yu] := by match ys, hl2 with | [a, b], _ => exact ⟨a, b, rfl⟩
          subst e5
          have HRY := hide hr2
          have HON1 : Hid (∀ y ∈ [yv, yu], y.oneCell' = true) := hide (one_Oq hr2)
          have hz2' : g2 < w.heap.size := hz2
          have hc20 := hc2 0 _ rfl
          have hc21 := hc2 1 _ rfl
          have hc30 := hc3 0 _ rfl
          rw [Nat.add_zero] at hc20
          rw [Nat.add_zero, Nat.mul_one] at hc30
          have HY0 := hide hc20
          have HY1 := hide hc21
          have HBC := hide hc30
          clear hc2 hc3 hr2 hr3 hl2 hl3 hc20 hc21 hc30 hz2
          have ju0 : (0 : Int) ≤ (q : Int) := by omega
          have ju1 : (q : Int) < (n3 : Int) := by omega
          clear hqk
          go_upto_region 20 with (fail)
          refine wp_region_grow2 (L + 1 + 1) (by omega) 19 [91, 92, 93, 94, 95, 96, 97, 98, 99, 100, 101, 102, 103, 104, 105, 106, 107, 108, 109] [Fix (.pointer (some ⟨L + 1, 2, none⟩)), RowE w.heap.size (L + 1 + 1) 42 2 ROq q ((a.ops.set k o).take q), Fix (.pointer (some ⟨L, 2, none⟩)), Fix (.slice (some ⟨g2, off2, none⟩) n3 c2), Fix (.int .i64 q), Fix (.pointer (some ⟨g2, off2 + q * 2, none⟩)), Fix (.agg #[yv, yu]), LitT 42 [yv, yu], RowE w.heap.size (L + 1 + 1) 42 2 ROq (q + 1) (((a.ops.set k o).take q) ++ [y]), Fix (.pointer (some ⟨L + 1, 3, none⟩)), RowE w.heap.size (L + 1 + 1) 4 1 RBq q ((a.hv.set k true).take q), Fix (.pointer (some ⟨L, 3, none⟩)), Fix (.slice (some ⟨gb, ob, none⟩) n3 c3), Fix (.int .i64 q), Fix (.pointer (some ⟨gb, ob + q, none⟩)), Fix (.bool b), LitT 4 [.bool b], RowE w.heap.size (L + 1 + 1) 4 1 RBq (q + 1) (((a.hv.set k true).take q) ++ [b]), Fix (.pointer (some ⟨L + 1, 2, none⟩))] (by kernel_rfl) (by kernel_rfl) (by kernel_rfl) (by kernel_rfl) (by kernel_rfl) (IvR w.heap.size L (.slice B1 q b1) ((a.ops.set k o).take q) (.slice B2 q b2) ((a.hv.set k true).take q)) si20 us20 (by kernel_rfl) ?_ (trF (L + 1 + 1) 8 17) sp20 (fun j wa wb _ ht hsz => trF_below ht (by omega)) ?_ (fun j d _ hd wa wb _ ht hi => iv_st (by omega) (by decide) (by decide) hd ht hi) ?_ ?_
          · intro d
            match d with
            | 0 => exact HG1.out.below rd_Oq ((Below.refl _ _).drew)
            | 1 => exact HG2.out.below rd_Bq ((Below.refl _ _).drew)
            | _ + 2 => trivial
          · intro j k9 hj hk9 hne hsp _ w5 w6 v5 hsz ht hP5
            have hkc : k9 = 0 ∨ k9 = 1 ∨ k9 = 2 ∨ k9 = 3 ∨ k9 = 4 ∨ k9 = 5 ∨ k9 = 6 ∨ k9 = 7 ∨ k9 = 8 ∨ k9 = 9 ∨ k9 = 10 ∨ k9 = 11 ∨ k9 = 12 ∨ k9 = 13 ∨ k9 = 14 ∨ k9 = 15 ∨ k9 = 16 ∨ k9 = 17 ∨ k9 = 18 := by omega
            rcases trF_cases ht with ⟨rfl, ht⟩ | ⟨rfl, ht⟩ | ⟨-, -, ht⟩
            · rcases hkc with rfl | rfl | rfl | rfl | rfl | rfl | rfl | rfl | rfl | rfl | rfl | rfl | rfl | rfl | rfl | rfl | rfl | rfl | rfl
              all_goals first | exact absurd rfl hne | exact absurd (by decide) hsp | exact hP5 | exact row_grown rd_Bq hP5 ht (by decide) (by omega) | exact lit_grown hP5 ht (by decide)
            · rcases hkc with rfl | rfl | rfl | rfl | rfl | rfl | rfl | rfl | rfl | rfl | rfl | rfl | rfl | rfl | rfl | rfl | rfl | rfl | rfl
              all_goals first | exact absurd rfl hne | exact absurd (by decide) hsp | exact hP5 | exact row_grown rd_Oq hP5 ht (by decide) (by omega) | exact lit_grown hP5 ht (by decide)
            · rcases hkc with rfl | rfl | rfl | rfl | rfl | rfl | rfl | rfl | rfl | rfl | rfl | rfl | rfl | rfl | rfl | rfl | rfl | rfl | rfl
              all_goals first | exact hP5 | exact row_below rd_Oq hP5 ht | exact row_below rd_Bq hP5 ht | exact lit_below hP5 ht
          · intro j o9 hj ho x w5 hb hI hd
            have hjc : j = 0 ∨ j = 1 ∨ j = 2 ∨ j = 3 ∨ j = 4 ∨ j = 5 ∨ j = 6 ∨ j = 7 ∨ j = 8 ∨ j = 9 ∨ j = 10 ∨ j = 11 ∨ j = 12 ∨ j = 13 ∨ j = 14 ∨ j = 15 ∨ j = 16 ∨ j = 17 ∨ j = 18 := by omega
            have c45 : Below (L + 1) w4 w5 := HBW.out.trans (hb.mono (by omega))
            have hw5 : wr.heap.size ≤ w5.heap.size := hb.size
            rcases hjc with rfl | rfl | rfl | rfl | rfl | rfl | rfl | rfl | rfl | rfl | rfl | rfl | rfl | rfl | rfl | rfl | rfl | rfl | rfl
            all_goals obtain rfl := Option.some.inj ho
            all_goals generalize hK : (fun (a' : Act) (w' : World) => _) = K
            all_goals simp only [puts]
            · go_simp
              rw [← hK]
              exact ⟨.pointer (some ⟨L + 1, 2, none⟩), (by simp only [puts]; go_simp), trF_0 (by decide) (by decide) (Below.refl _ _), rfl⟩
            · have e : x 91 = .pointer (some ⟨L + 1, 2, none⟩) := hd 0 (by kernel_rfl) (by kernel_rfl)
              have hG := hide (hI 0 (by decide))
              have zc := (bl_low HZB.out hb (by omega)).c 2 _ rfl
              go_simp
              rw [← hK]
              exact ⟨(.slice B1 q b1), (by simp only [puts]; go_simp), trF_0 (by decide) (by decide) (Below.refl _ _), ⟨_, _, rfl⟩, hG.out⟩
            · go_simp
              rw [← hK]
              exact ⟨.pointer (some ⟨L, 2, none⟩), (by simp only [puts]; go_simp), trF_0 (by decide) (by decide) (Below.refl _ _), rfl⟩
            · have e : x 93 = .pointer (some ⟨L, 2, none⟩) := hd 2 (by kernel_rfl) (by kernel_rfl)
              have ac := (bl_low HAY.out hb (by omega)).c 2 _ rfl
              go_simp
              rw [← hK]
              exact ⟨.slice (some ⟨g2, off2, none⟩) n3 c2, (by simp only [puts]; go_simp), trF_0 (by decide) (by decide) (Below.refl _ _), rfl⟩
            · go_simp
              rw [← hK]
              exact ⟨.int .i64 q, (by simp only [puts]; go_simp), trF_0 (by decide) (by decide) (Below.refl _ _), rfl⟩
            · have e : x 94 = .slice (some ⟨g2, off2, none⟩) n3 c2 := hd 3 (by kernel_rfl) (by kernel_rfl)
              have e' : x 95 = .int .i64 q := hd 4 (by kernel_rfl) (by kernel_rfl)
              go_simp
              rw [← hK]
              exact ⟨.pointer (some ⟨g2, off2 + q * 2, none⟩), (by simp only [puts]; go_simp), trF_0 (by decide) (by decide) (Below.refl _ _), rfl⟩
            · have e : x 96 = .pointer (some ⟨g2, off2 + q * 2, none⟩) := hd 5 (by kernel_rfl) (by kernel_rfl)
              have o0 := c45.cell (p := ⟨g2, off2 + q * 2, none⟩) (by show g2 < L + 1; omega) |>.trans HY0.out
              have o1 := c45.cell (p := ⟨g2, off2 + q * 2 + 1, none⟩) (by show g2 < L + 1; omega) |>.trans HY1.out
              go_simp
              rw [← hK]
              exact ⟨.agg #[yv, yu], (by simp only [puts]; go_simp), trF_0 (by decide) (by decide) (Below.refl _ _), rfl⟩
            · have e : x 97 = .agg #[yv, yu] := hd 6 (by kernel_rfl) (by kernel_rfl)
              go_simp
              rw [← hK]
              exact ⟨.slice (some ⟨w5.heap.size, 0, none⟩) 1 1, (by simp only [puts]; go_simp), trF_0 (by decide) (by decide) (below_laid _), lit_new w5 [yv, yu] 42⟩
            · obtain ⟨⟨D1, d1, e1⟩, hG⟩ : RowE w.heap.size (L + 1 + 1) 42 2 ROq q ((a.ops.set k o).take q) w5 (x 92) := hd 1 (by kernel_rfl) (by kernel_rfl)
              have hLt : LitT 42 [yv, yu] w5 (x 98) := hd 7 (by kernel_rfl) (by kernel_rfl)
              obtain ⟨u9, e3⟩ : ∃ u, x 98 = u := ⟨_, rfl⟩
              rw [e3] at hLt
              rw [e1] at hG
              refine wp_append_gqb rd_Oq (.tmp 92) (.tmp 98) 48 (by rfl) w.heap.size (L + 1 + 1) 42 i1 _ 2 48 Try.underlying48 hi1 hz10 hz11 hz12 (by rfl) (by decide) (.slice D1 q d1) _ (by go_simp) hG u9 (by go_simp) [yv, yu] hLt (by rfl) HON1.out y (rd_Oq.keep (Kp.lowBelow c45 (fun b (hz : b < w.heap.size) => by omega)) HRY.out) (by omega) (by simp; omega) (by decide) (by omega) ?_
              intro v9 w9 hg9 ht9
              obtain ⟨B9, q9, hv9⟩ := hg9.form
              rw [← hK]
              exact ⟨v9, (by simp only [puts]), trF_1 ht9, ⟨B9, q9, by rw [hv9, HN1.out]⟩, hg9⟩
            · go_simp
              rw [← hK]
              exact ⟨.pointer (some ⟨L + 1, 3, none⟩), (by simp only [puts]; go_simp), trF_0 (by decide) (by decide) (Below.refl _ _), rfl⟩
            · have e : x 100 = .pointer (some ⟨L + 1, 3, none⟩) := hd 9 (by kernel_rfl) (by kernel_rfl)
              have hG := hide (hI 1 (by decide))
              have zc := (bl_low HZB.out hb (by omega)).c 3 _ rfl
              go_simp
              rw [← hK]
              exact ⟨(.slice B2 q b2), (by simp only [puts]; go_simp), trF_0 (by decide) (by decide) (Below.refl _ _), ⟨_, _, rfl⟩, hG.out⟩
            · go_simp
              rw [← hK]
              exact ⟨.pointer (some ⟨L, 3, none⟩), (by simp only [puts]; go_simp), trF_0 (by decide) (by decide) (Below.refl _ _), rfl⟩
            · have e : x 102 = .pointer (some ⟨L, 3, none⟩) := hd 11 (by kernel_rfl) (by kernel_rfl)
              have ac := (bl_low HAY.out hb (by omega)).c 3 _ rfl
              go_simp
              rw [← hK]
              exact ⟨.slice (some ⟨gb, ob, none⟩) n3 c3, (by simp only [puts]; go_simp), trF_0 (by decide) (by decide) (Below.refl _ _), rfl⟩
            · go_simp
              rw [← hK]
              exact ⟨.int .i64 q, (by simp only [puts]; go_simp), trF_0 (by decide) (by decide) (Below.refl _ _), rfl⟩
            · have e : x 103 = .slice (some ⟨gb, ob, none⟩) n3 c3 := hd 12 (by kernel_rfl) (by kernel_rfl)
              have e' : x 104 = .int .i64 q := hd 13 (by kernel_rfl) (by kernel_rfl)
              go_simp
              rw [← hK]
              exact ⟨.pointer (some ⟨gb, ob + q, none⟩), (by simp only [puts]; go_simp), trF_0 (by decide) (by decide) (Below.refl _ _), rfl⟩
            · have e : x 105 = .pointer (some ⟨gb, ob + q, none⟩) := hd 14 (by kernel_rfl) (by kernel_rfl)
              have o0 := c45.cell (p := ⟨gb, ob + q, none⟩) (by show gb < L + 1; omega) |>.trans HBC.out
              go_simp
              rw [← hK]
              exact ⟨.bool b, (by simp only [puts]; go_simp), trF_0 (by decide) (by decide) (Below.refl _ _), rfl⟩
            · have e : x 106 = .bool b := hd 15 (by kernel_rfl) (by kernel_rfl)
              go_simp
              rw [← hK]
              exact ⟨.slice (some ⟨w5.heap.size, 0, none⟩) 1 1, (by simp only [puts]; go_simp), trF_0 (by decide) (by decide) (below_laid _), lit_new w5 [.bool b] 4⟩
            · obtain ⟨⟨D1, d1, e1⟩, hG⟩ : RowE w.heap.size (L + 1 + 1) 4 1 RBq q ((a.hv.set k true).take q) w5 (x 101) := hd 10 (by kernel_rfl) (by kernel_rfl)
              have hLt : LitT 4 [.bool b] w5 (x 107) := hd 16 (by kernel_rfl) (by kernel_rfl)
              obtain ⟨u9, e3⟩ : ∃ u, x 107 = u := ⟨_, rfl⟩
              rw [e3] at hLt
              rw [e1] at hG
              refine wp_append_gqb rd_Bq (.tmp 101) (.tmp 107) 49 (by rfl) w.heap.size (L + 1 + 1) 4 i2 _ 1 1 Try.underlying49 hi2 hz20 hz21 hz22 (by rfl) (by decide) (.slice D1 q d1) _ (by go_simp) hG u9 (by go_simp) [.bool b] hLt (by rfl) (fun y hy => by simp at hy; subst hy; rfl) b rfl (by omega) (by simp; omega) (by decide) (by omega) ?_
              intro v9 w9 hg9 ht9
              obtain ⟨B9, q9, hv9⟩ := hg9.form
              rw [← hK]
              exact ⟨v9, (by simp only [puts]), trF_2 (by decide) ht9, ⟨B9, q9, by rw [hv9, HN2.out]⟩, hg9⟩
            · go_simp
              rw [← hK]
              exact ⟨.pointer (some ⟨L + 1, 2, none⟩), (by simp only [puts]; go_simp), trF_0 (by decide) (by decide) (Below.refl _ _), rfl⟩
          · intro x w9 hb hP
            obtain ⟨⟨D1, d1, e9⟩, hR1⟩ : RowE w.heap.size (L + 1 + 1) 42 2 ROq (q + 1) ((a.ops.set k o).take q ++ [y]) w9 (x 99) := hP 8 (by decide) (by decide)
            obtain ⟨⟨D2, d2, e8⟩, hR2⟩ : RowE w.heap.size (L + 1 + 1) 4 1 RBq (q + 1) ((a.hv.set k true).take q ++ [b]) w9 (x 108) := hP 17 (by decide) (by decide)
            have eP : x 109 = .pointer (some ⟨L + 1, 2, none⟩) := hP 18 (by decide) (by decide)
            rw [e9] at hR1
            rw [e8] at hR2
            have hBl : Bl w9 (L + 1) [.int .i64 a.num, .slice A1 nr c1, (.slice B1 q b1), (.slice B2 q b2)] := bl_low HZB.out hb (by omega)
            have f2 := hBl.f 2
            have f3 := hBl.f 3
            have z2 := hBl.c 2 _ rfl
            have z3 := hBl.c 3 _ rfl
            have HZ9 := hide ((hBl.put (k := 2) (by simp) (.slice D1 (q + 1) d1)).put (k := 3) (by simp) (.slice D2 (q + 1) d2))
            have HR1 := hide ((hR1.set rd_Oq (b := L + 1) (by omega) (by omega) 2 (.slice D1 (q + 1) d1)).set rd_Oq (b := L + 1) (by omega) (by omega) 3 (.slice D2 (q + 1) d2))
            have HR2 := hide ((hR2.set rd_Bq (b := L + 1) (by omega) (by omega) 2 (.slice D1 (q + 1) d1)).set rd_Bq (b := L + 1) (by omega) (by omega) 3 (.slice D2 (q + 1) d2))
            have HB9 := hide (((HBW.out.trans (hb.mono (by omega))).setCell (p := ⟨L + 1, 2, none⟩) (Nat.le_refl _) (.slice D1 (q + 1) d1)).setCell (p := ⟨L + 1, 3, none⟩) (Nat.le_refl _) (.slice D2 (q + 1) d2))
            clear hP hR1 hR2 hBl hb
            simp only [puts, Act.put, List.setIfInBounds_toArray, List.set_cons_succ, List.set_cons_zero, List.drop]
            go_wp2
            go_roundw
            case rel => exact ⟨q + 1, by omega, by go_num, _, _, HZ9, by rw [HT1.out]; exact HR1, by rw [HT2.out]; exact HR2, HB9⟩
            case measure => simp [intOf]; omega
      · obtain rfl : q = n3 := by omega
        have HBR := hide (HB.out.trans (HBW.out.mono (by omega)))
        have HXR := hide (bl_low HX.out HBW.out (by omega))
        have HYR := hide (bl_low HY.out HBW.out (by omega))
        have hsz := HBR.out.size
        have tm0 : 0 < m := by omega
        have HMW : Hid (c.atts.length ≤ maxLen) := hide (by unfold maxLen; omega)
        go_wp2_with fail
        clear g3
        refine wp_region_grow 9 [111, 112, 113, 114, 115, 116, 117, 118, 15] [Fix (.pointer (some ⟨w.heap.size, 0, none⟩)), Fix (.int .i64 c.next), Fix (.pointer (some ⟨w.heap.size, 1, none⟩)), Fix (.slice (some ⟨g, off, none⟩) m cap), RowE w.heap.size wr.heap.size 51 4 RAq m c.atts, Fix (.pointer (some ⟨w.heap.size, 2, none⟩)), Fix (.int .i64 c.dur), RowGB w.heap.size wr.heap.size c.next c.dur m c.atts, PtrN wr.heap.size [.int .i64 0, .slice none 0 0, .int .i64 0]] (by kernel_rfl) (by kernel_rfl) (by kernel_rfl) (by kernel_rfl) (by kernel_rfl) ?_ ?_ ?_
        · intro p hp
          simp only [List.mem_cons, List.not_mem_nil, or_false] at hp
          rcases hp with rfl | rfl | rfl | rfl | rfl | rfl | rfl | rfl | rfl
          all_goals first | exact stb_fix _ | exact (fun _ _ _ hb h => row_below rd_Aq h hb) | exact stb_rowgb | exact stb_ptr
        · intro j9 o9 hj ho x w5 hb hd
          have hjc : j9 = 0 ∨ j9 = 1 ∨ j9 = 2 ∨ j9 = 3 ∨ j9 = 4 ∨ j9 = 5 ∨ j9 = 6 ∨ j9 = 7 ∨ j9 = 8 := by omega
          have hw5 := hb.size
          have hx5 := HXR.out.keep hb
          have x0 := hx5.c 0 _ rfl
          have x1 := hx5.c 1 _ rfl
          have x2 := hx5.c 2 _ rfl
          clear hx5
          rcases hjc with rfl | rfl | rfl | rfl | rfl | rfl | rfl | rfl | rfl
          all_goals obtain rfl := Option.some.inj ho
          all_goals generalize hK : (fun (a' : Act) (w' : World) => _) = K
          all_goals simp only [puts]
          · go_simp
            rw [← hK]
            exact ⟨.pointer (some ⟨w.heap.size, 0, none⟩), (by simp only [puts]; go_simp), Below.refl _ _, rfl⟩
          · have e : x 111 = .pointer (some ⟨w.heap.size, 0, none⟩) := hd 0 (by kernel_rfl)
            go_simp
            rw [← hK]
            exact ⟨.int .i64 c.next, (by simp only [puts]; go_simp), Below.refl _ _, rfl⟩
          · go_simp
            rw [← hK]
            exact ⟨.pointer (some ⟨w.heap.size, 1, none⟩), (by simp only [puts]; go_simp), Below.refl _ _, rfl⟩
          · have e : x 113 = .pointer (some ⟨w.heap.size, 1, none⟩) := hd 2 (by kernel_rfl)
            go_simp
            rw [← hK]
            exact ⟨.slice (some ⟨g, off, none⟩) m cap, (by simp only [puts]; go_simp), Below.refl _ _, rfl⟩
          · have e : x 114 = .slice (some ⟨g, off, none⟩) m cap := hd 3 (by kernel_rfl)
            go_simp
            go_at_call 35
            refine (HAT.out _ (HBR.out.trans (hb.mono hsz))).mono ?_
            rintro en w9 ⟨V9, rfl, ho9, hbc⟩
            have hG : GqB w9 w.heap.size wr.heap.size 51 4 RAq V9 c.atts := GqB.of_copy rd_Aq (w0 := w) (own_more ho9 hw5) HEL.out.1 HEL.out.2 (HBR.out.trans ((hb.mono hsz).trans (hbc.mono (by omega))))
            obtain ⟨B9, q9, hV⟩ := hG.form
            rw [HM.out] at hV
            rw [← hK]
            exact ⟨V9, (by simp only [puts]; go_simp), hbc, ⟨B9, q9, hV⟩, hG⟩
          · go_simp
            rw [← hK]
            exact ⟨.pointer (some ⟨w.heap.size, 2, none⟩), (by simp only [puts]; go_simp), Below.refl _ _, rfl⟩
          · have e : x 116 = .pointer (some ⟨w.heap.size, 2, none⟩) := hd 5 (by kernel_rfl)
            go_simp
            rw [← hK]
            exact ⟨.int .i64 c.dur, (by simp only [puts]; go_simp), Below.refl _ _, rfl⟩
          · have e29 : x 112 = .int .i64 c.next := hd 1 (by kernel_rfl)
            obtain ⟨⟨B9, q9, e31⟩, hG⟩ : RowE w.heap.size wr.heap.size 51 4 RAq m c.atts w5 (x 115) := hd 4 (by kernel_rfl)
            have e33 : x 117 = .int .i64 c.dur := hd 6 (by kernel_rfl)
            rw [e31] at hG
            have HG9 := hide hG
            clear hG
            go_simp
            rw [← hK]
            exact ⟨.agg #[.int .i64 c.next, .slice B9 m q9, .int .i64 c.dur], (by simp only [puts]; go_simp), Below.refl _ _, B9, q9, rfl, HG9.out⟩
          · go_simp
            rw [← hK]
            exact ⟨.pointer (some ⟨w5.heap.size, 0, none⟩), (by simp only [puts]; go_simp), below_laid _, w5.heap.size, rfl, hw5, Bl.new w5 [.int .i64 0, .slice none 0 0, .int .i64 0] _⟩
        · intro x w6 hb hP
          obtain ⟨B9, q9, eA, hG⟩ : RowGB w.heap.size wr.heap.size c.next c.dur m c.atts w6 (x 118) := hP 7 (by decide)
          obtain ⟨gx, eX, hgx, hBX⟩ : PtrN wr.heap.size [.int .i64 0, .slice none 0 0, .int .i64 0] w6 (x 15) := hP 8 (by decide)
          simp only [puts, Act.put, List.setIfInBounds_toArray, List.set_cons_succ, List.set_cons_zero, List.drop]
          obtain ⟨B7, n7, d7, eV1⟩ : ∃ A n c, V1 = .slice A n c := by obtain ⟨A, c, e⟩ := HG1.out.form; exact ⟨_, _, _, e⟩
          obtain ⟨B8, n8, d8, eV2⟩ : ∃ A n c, V2 = .slice A n c := by obtain ⟨A, c, e⟩ := HG2.out.form; exact ⟨_, _, _, e⟩
          subst eV1 eV2
          obtain ⟨xs0, hown, hel⟩ := id hG
          have hmm : 0 < c.atts.length := by rw [HM.out]; exact tm0
          have hown' := hown
          rw [HM.out] at hown'
          obtain ⟨gr, qr, eR, hgr, hgr2⟩ := own_some hown' tm0
          injection eR with e1 e2 e3
          subst e1 e3
          have gne : gr ≠ gx := by
            obtain ⟨ys, hyl, hyc, v1, v2, v3, rfl, h1, h2, h3, h4⟩ := hel 0 hmm
            obtain ⟨Au, cu, rfl⟩ := h2.form
            have q2 := own_cell hown' (hyc 2 _ rfl)
            rw [Nat.zero_mul, Nat.zero_add] at q2
            rintro rfl
            have h9 := hBX.c 2 _ rfl
            rw [q2] at h9
            cases h9
          have hG9 : Gq w6 (fun b => b < w.heap.size ∨ (L + 1 < b ∧ b ≠ gx)) wr.heap.size 51 4 RAq (.slice (some ⟨gr, 0, none⟩) m q9) c.atts := GqB.gq rd_Aq hG hsz hb.size (fun b h => .inl h) (fun b h => by
            have e9 : gr = b := by injection h
            subst e9
            exact .inr ⟨by omega, gne⟩)
          have ngx : ¬ (gx < w.heap.size ∨ (L + 1 < gx ∧ gx ≠ gx)) := by omega
          have hne : (Value.slice (some ⟨gr, 0, none⟩) m q9).ownBlock ≠ some gx := fun e => gne (by injection e)
          have hw6 := hb.size
          have T1 : List.take q (a.ops.set k o) = a.ops.set k o := List.take_of_length_le (by rw [List.length_set, HOL.out, HR3.out]; exact Nat.le_refl _)
          have T2 : List.take q (a.hv.set k true) = a.hv.set k true := List.take_of_length_le (by rw [List.length_set, HR3.out]; exact Nat.le_refl _)
          have E1 : Lst w6 (fun b => b < w.heap.size ∨ (L + 1 < b ∧ b < wr.heap.size)) 2 ROq (.slice B7 n7 d7) (a.ops.set k o) := by
            have h1 := HG1.out
            rw [T1] at h1
            obtain ⟨xs1, o1, -⟩ := id h1
            have := (GqB.gq rd_Oq (Y := fun b => b < w.heap.size ∨ (L + 1 < b ∧ b < wr.heap.size)) h1 (by omega) (by omega) (fun b h => .inl h) (fun b e => .inr (by have := o1.lt b e; omega))).lst rd_Oq (by decide) (by rw [List.length_set, HOL.out, HR3.out]; unfold maxLen; omega)
            exact (this.keep rd_Oq (Kp.of_below hb)).more rd_Oq fun b h => h.1
          have E2 : Lst w6 (fun b => b < w.heap.size ∨ (L + 1 < b ∧ b < wr.heap.size)) 1 RBq (.slice B8 n8 d8) (a.hv.set k true) := by
            have h1 := HG2.out
            rw [T2] at h1
            obtain ⟨xs1, o1, -⟩ := id h1
            have := (GqB.gq rd_Bq (Y := fun b => b < w.heap.size ∨ (L + 1 < b ∧ b < wr.heap.size)) h1 (by omega) (by omega) (fun b h => .inl h) (fun b e => .inr (by have := o1.lt b e; omega))).lst rd_Bq (by decide) (by rw [List.length_set, HR3.out]; unfold maxLen; omega)
            exact (this.keep rd_Bq (Kp.of_below hb)).more rd_Bq fun b h => h.1
          have E0 : Lst w6 (fun b => b < w.heap.size ∨ (L + 1 < b ∧ b < wr.heap.size)) 6 RRq (.slice A1 nr c1) a.rds :=
            (HL1.out.keep rd_Rq ((Kp.lowBelow HBW.out (fun b (h : b < w.heap.size) => by omega)).trans (Kp.of_below hb))).more rd_Rq fun b h => .inl h
          have HBZ := bl_low HZB.out hb (by omega)
          have HBY := HYR.out.keep hb
          have hB6 : Below w.heap.size w w6 := bthen HBR.out hb
          obtain ⟨w7, hw7⟩ : ∃ z, (((w6.setCell ⟨gx, 0, none⟩ (.int .i64 c.next)).setCell ⟨gx, 1, none⟩ (.slice (some ⟨gr, 0, none⟩) m q9)).setCell ⟨gx, 2, none⟩ (.int .i64 c.dur)) = z := ⟨_, rfl⟩
          have HK7 : Hid (Kp (fun b => b ≠ gx) w6 w7) := hide (by subst hw7; exact ((Kp.set ⟨gx, 0, none⟩ _ fun b h => h).trans (Kp.set ⟨gx, 1, none⟩ _ fun b h => h)).trans (Kp.set ⟨gx, 2, none⟩ _ fun b h => h))
          have HG7 : Hid (Gq w7 (fun b => b < w.heap.size ∨ (L + 1 < b ∧ b ≠ gx)) wr.heap.size 51 4 RAq (.slice (some ⟨gr, 0, none⟩) m q9) c.atts) := hide (by subst hw7; exact ((hG9.set rd_Aq ngx 0 _).set rd_Aq ngx 1 _).set rd_Aq ngx 2 _)
          have HO7 : Hid (w7.ownsRow wr.heap.size 51 4 (.slice (some ⟨gr, 0, none⟩) m q9) m xs0) := hide (by subst hw7; exact own_set (p := ⟨gx, 2, none⟩) (own_set (p := ⟨gx, 1, none⟩) (own_set (p := ⟨gx, 0, none⟩) hown' hne _) hne _) hne _)
          have HX7 : Hid (Bl w7 gx [.int .i64 c.next, .slice (some ⟨gr, 0, none⟩) m q9, .int .i64 c.dur]) := hide (by subst hw7; exact ((hBX.put (k := 0) (by simp) _).put (k := 1) (by simp) _).put (k := 2) (by simp) _)
          have zne : gx ≠ L + 1 := by omega
          have yne : gx ≠ w.heap.size + 1 + 1 := by omega
          have HZ7 : Hid (Bl w7 (L + 1) [.int .i64 a.num, .slice A1 nr c1, .slice B7 n7 d7, .slice B8 n8 d8]) := hide (by subst hw7; exact ((HBZ.far (p := ⟨gx, 0, none⟩) zne _).far (p := ⟨gx, 1, none⟩) zne _).far (p := ⟨gx, 2, none⟩) zne _)
          have HY7 : Hid (Bl w7 (w.heap.size + 1 + 1) [.int .i64 0, .slice none 0 0, .int .i64 0]) := hide (by subst hw7; exact ((HBY.far (p := ⟨gx, 0, none⟩) yne _).far (p := ⟨gx, 1, none⟩) yne _).far (p := ⟨gx, 2, none⟩) yne _)
          have HB7 : Hid (Below w.heap.size w w7) := hide (by subst hw7; exact ((hB6.setCell (p := ⟨gx, 0, none⟩) (by show w.heap.size ≤ gx; omega) _).setCell (p := ⟨gx, 1, none⟩) (by show w.heap.size ≤ gx; omega) _).setCell (p := ⟨gx, 2, none⟩) (by show w.heap.size ≤ gx; omega) _)
          have HRA : Hid (RAq w7 (fun b => (b < w.heap.size ∨ (L + 1 < b ∧ b ≠ gx)) ∧ b < w7.heap.size ∧ b ≠ gr) [.int .i64 a.num, .slice A1 nr c1, .slice B7 n7 d7, .slice B8 n8 d8] (repA a k o)) := hide (by
            have kz : ∀ b, (b < w.heap.size ∨ (L + 1 < b ∧ b < wr.heap.size)) → b ≠ gx := fun b h => by omega
            have mz : ∀ b, (b < w.heap.size ∨ (L + 1 < b ∧ b < wr.heap.size)) → (b < w.heap.size ∨ (L + 1 < b ∧ b ≠ gx)) ∧ b < w7.heap.size ∧ b ≠ gr := fun b h => by have := HK7.out.1; omega
            exact ⟨_, _, _, rfl, (E0.keep rd_Rq (HK7.out.less kz)).more rd_Rq mz, (E1.keep rd_Oq (HK7.out.less kz)).more rd_Oq mz, (E2.keep rd_Bq (HK7.out.less kz)).more rd_Bq mz, HNU.out⟩)
          have q0 := hBX.c 0 _ rfl
          have q1 := hBX.c 1 _ rfl
          have q2 := hBX.c 2 _ rfl
          have p0 := hBX.f 0
          have p1 := hBX.f 1
          have p2 := hBX.f 2
          rw [eA, eX]
          clear E0 E1 E2 HBZ HBY hB6 hBX hG9 hG hown hown' hel HG1 HG2 hP T1 T2 eA eX hb HZB HYR HXR HBW HBR HEL HAT HL1 HL2 HL3
          go_upto_region 22 with (fail)
          clear q0 q1 q2 p0 p1 p2 hw7
          have x0 := HX7.out.c 1 _ rfl
          have z0 := HZ7.out.c 0 _ rfl
          have z1 := HZ7.out.c 1 _ rfl
          have z2 := HZ7.out.c 2 _ rfl
          have z3 := HZ7.out.c 3 _ rfl
          have hil : i * 4 + 4 ≤ m * 4 := by have h1 := HI.out; rw [HM.out] at h1; omega
          have hxl : xs0.length = m * 4 := HO7.out.1
          obtain ⟨b0, g0⟩ : ∃ u, w7.cell? ⟨gr, i * 4, none⟩ = some u := ⟨_, own_cell HO7.out (k := i * 4) (List.getElem?_eq_getElem (by omega))⟩
          obtain ⟨b1, g1⟩ : ∃ u, w7.cell? ⟨gr, i * 4 + 1, none⟩ = some u := ⟨_, own_cell HO7.out (k := i * 4 + 1) (List.getElem?_eq_getElem (by omega))⟩
          obtain ⟨b2, g2⟩ : ∃ u, w7.cell? ⟨gr, i * 4 + 2, none⟩ = some u := ⟨_, own_cell HO7.out (k := i * 4 + 2) (List.getElem?_eq_getElem (by omega))⟩
          obtain ⟨b3, g3⟩ : ∃ u, w7.cell? ⟨gr, i * 4 + 3, none⟩ = some u := ⟨_, own_cell HO7.out (k := i * 4 + 3) (List.getElem?_eq_getElem (by omega))⟩
          have p0 := own_free HO7.out (i * 4)
          have p1 := own_free HO7.out (i * 4 + 1)
          have p2 := own_free HO7.out (i * 4 + 2)
          have p3 := own_free HO7.out (i * 4 + 3)
          have hil2 := hide hil
          have hxl2 := hide hxl
          clear hil hxl
          obtain ⟨w8, hw8⟩ : ∃ z, ((((w7.setCell ⟨gr, i * 4, none⟩ (.int .i64 a.num)).setCell ⟨gr, i * 4 + 1, none⟩ (.slice A1 nr c1)).setCell ⟨gr, i * 4 + 2, none⟩ (.slice B7 n7 d7)).setCell ⟨gr, i * 4 + 3, none⟩ (.slice B8 n8 d8)) = z := ⟨_, rfl⟩
          have HG8 : Hid (Gq w8 (fun b => b < w.heap.size ∨ (L + 1 < b ∧ b ≠ gx)) wr.heap.size 51 4 RAq (.slice (some ⟨gr, 0, none⟩) m q9) (c.atts.set i (repA a k o))) := hide (by
            subst hw8
            have h1 := HG7.out
            rw [← HM.out] at h1 ⊢
            exact gq_put4 rd_Aq h1 HI.out _ _ _ _ _ HRA.out)
          have HX8 : Hid (Bl w8 gx [.int .i64 c.next, .slice (some ⟨gr, 0, none⟩) m q9, .int .i64 c.dur]) := hide (by subst hw8; exact (((HX7.out.far (p := ⟨gr, i * 4, none⟩) gne _).far (p := ⟨gr, i * 4 + 1, none⟩) gne _).far (p := ⟨gr, i * 4 + 2, none⟩) gne _).far (p := ⟨gr, i * 4 + 3, none⟩) gne _)
          have yn2 : gr ≠ w.heap.size + 1 + 1 := by omega
          have HY8 : Hid (Bl w8 (w.heap.size + 1 + 1) [.int .i64 0, .slice none 0 0, .int .i64 0]) := hide (by subst hw8; exact (((HY7.out.far (p := ⟨gr, i * 4, none⟩) yn2 _).far (p := ⟨gr, i * 4 + 1, none⟩) yn2 _).far (p := ⟨gr, i * 4 + 2, none⟩) yn2 _).far (p := ⟨gr, i * 4 + 3, none⟩) yn2 _)
          have HB8 : Hid (Below w.heap.size w w8) := hide (by subst hw8; exact (((HB7.out.setCell (p := ⟨gr, i * 4, none⟩) (by show w.heap.size ≤ gr; omega) _).setCell (p := ⟨gr, i * 4 + 1, none⟩) (by show w.heap.size ≤ gr; omega) _).setCell (p := ⟨gr, i * 4 + 2, none⟩) (by show w.heap.size ≤ gr; omega) _).setCell (p := ⟨gr, i * 4 + 3, none⟩) (by show w.heap.size ≤ gr; omega) _)
          clear HG7 HX7 HZ7 HY7 HB7 HO7 HRA HK7
          go_upto_region 23 with (fail)
          clear x0 z0 z1 z2 z3 g0 g1 g2 g3 p0 p1 p2 p3 hw8
          have x0 := HX8.out.c 0 _ rfl
          have x1 := HX8.out.c 1 _ rfl
          have x2 := HX8.out.c 2 _ rfl
          have y0 := HY8.out.c 0 _ rfl
          have y1 := HY8.out.c 1 _ rfl
          have y2 := HY8.out.c 2 _ rfl
          have v0 := HY8.out.f 0
          have v1 := HY8.out.f 1
          have v2 := HY8.out.f 2
          go_wp2
          have nrb : ¬ (w.heap.size + 1 + 1 < w.heap.size ∨ (L + 1 < w.heap.size + 1 + 1 ∧ w.heap.size + 1 + 1 ≠ gx)) := by omega
          have hfin := (((HG8.out.set rd_Aq nrb 0 (.int .i64 c.next)).set rd_Aq nrb 1 (.slice (some ⟨gr, 0, none⟩) m q9)).set rd_Aq nrb 2 (.int .i64 c.dur)).lst rd_Aq (by decide) (by rw [List.length_set]; exact HMW.out)
          refine bodyPost_ret (v := .tuple #[.agg #[.int .i64 c.next, .slice (some ⟨gr, 0, none⟩) m q9, .int .i64 c.dur], .int .i64 0]) (by rw [results_ct rfl]; go_simp) rfl ?_
          rw [HC.out]
          exact ⟨_, rfl, ⟨_, rfl, hfin.more rd_Aq fun b h => h.2, HQ.out.1, HQ.out.2⟩, ((HB8.out.setCell (p := ⟨w.heap.size + 1 + 1, 0, none⟩) (by show w.heap.size ≤ w.heap.size + 1 + 1; omega) _).setCell (p := ⟨w.heap.size + 1 + 1, 1, none⟩) (by show w.heap.size ≤ w.heap.size + 1 + 1; omega) _).setCell (p := ⟨w.heap.size + 1 + 1, 2, none⟩) (by show w.heap.size ≤ w.heap.size + 1 + 1; omega) _⟩
  · replace HB4 := hide (HB4.out h0)
    replace HK1 := hide (HK1.out h0)
    obtain ⟨j, rfl⟩ : ∃ j, i = j + 1 := ⟨i - 1, by omega⟩
    rw [Nat.add_sub_cancel] at HB4 HK1
    have hjl : j < c.atts.length := by have := HI.out; omega
    obtain ⟨-, P1, P2, P3, p1, p2, p3, hp⟩ := att_at HLL.out hjl
    replace hp := hp.grow HB.out
    have j3 := hp.k3
    obtain ⟨gp, op, zs9, e4, -, -, hc4, hr4⟩ := Lst.at_ hp.l3 HK1.out
    subst e4
    obtain ⟨z, hz⟩ : ∃ z, zs9 = [.bool z] ∧ (attQ c j).hv.getD k true = z := ⟨_, hr4, by rw [List.getD_eq_getElem?_getD, List.getElem?_eq_getElem]; rfl⟩
    obtain ⟨rfl, hz3⟩ := hz
    have kp := hc4 0 _ rfl
    rw [Nat.mul_one, Nat.add_zero] at kp
    rw [HB4.out] at hz3
    subst hz3
    have hgp := World.block_lt_of_cell? w2 _ kp
    simp only at hgp
    obtain ⟨nb, hnb⟩ : ∃ n, (attQ c j).hv.length = n := ⟨_, rfl⟩
    have t5 : (k : Int) < (nb : Int) := by have := HK1.out; omega
    rw [hnb] at j3
    have zx2 : w.heap.size < w2.heap.size := by omega
    have t6 : decide ((0 : Int) < (j : Int) + 1) = true := decide_eq_true (by omega)
    have t9 : (0 : Int) ≤ (j : Int) + 1 := by omega
    have ta : (j : Int) + 1 < (m : Int) := by omega
    have tb : decide ((j : Int) + 1 < 0) = false := decide_eq_false (by omega)
    have t7 : (0 : Int) ≤ (j : Int) := by omega
    have t8 : (j : Int) < (m : Int) := by omega
    clear hc4 hr4 hp hnb
    rw [HM.out] at HAT
    go_upto_region 15 with (fail)
    obtain ⟨w4, hw4⟩ : ∃ x, ((w2.alloc (.cells #[.int .i64 (attQ c (j + 1)).num, .slice A1 (attQ c (j + 1)).rds.length c1, .slice A2 n3 c2, .slice (some ⟨gb, ob, none⟩) n3 c3] 51)).alloc (.cells #[.int .i64 (attQ c (j + 1)).num, .slice A1 (attQ c (j + 1)).rds.length c1, .slice none 0 0, .slice none 0 0] 51)) = x := ⟨_, rfl⟩
    have HAX := hide (show Bl w4 w2.heap.size [.int .i64 (attQ c (j + 1)).num, .slice A1 (attQ c (j + 1)).rds.length c1, .slice A2 n3 c2, .slice (some ⟨gb, ob, none⟩) n3 c3] by rw [← hw4]; exact (Bl.new _ _ _).laid _)
    have HZ := hide (show Bl w4 (w2.heap.size + 1) [.int .i64 (attQ c (j + 1)).num, .slice A1 (attQ c (j + 1)).rds.length c1, .slice none 0 0, .slice none 0 0] by rw [← hw4]; have := Bl.new (w2.alloc (.cells #[.int .i64 (attQ c (j + 1)).num, .slice A1 (attQ c (j + 1)).rds.length c1, .slice A2 n3 c2, .slice (some ⟨gb, ob, none⟩) n3 c3] 51)) [.int .i64 (attQ c (j + 1)).num, .slice A1 (attQ c (j + 1)).rds.length c1, .slice none 0 0, .slice none 0 0] 51; simpa using this)
    have H24 := hide (show Below w2.heap.size w2 w4 by rw [← hw4]; exact bA_alloc (below_laid _) _)
    have hL4 : w2.heap.size + 1 < w4.heap.size := by rw [← hw4]; simp
    rw [hw4]
    clear hw4 x0 x1 x2 y0 y1 y2 v0 v1 v2 k0 k1 k2 k3 kb hgb hgg
    try clear j3 kp hgp
    have hzy : w.heap.size + 1 + 1 < w2.heap.size := zy
    clear zy
    replace HX := hide (HX.out.keep H24.out)
    replace HO := hide (HO.out.keep H24.out)
    replace HY := hide (HY.out.keep H24.out)
    have HON := hide (show ROq w4 (· < w.heap.size) [.slice M o.marks.length cm, .slice D o.engs.length cd] o from
      (rd_Oq.keep (Kp.of_below (bthen HB.out H24.out)) (show ROq w (· < w.heap.size) [.slice M o.marks.length cm, .slice D o.engs.length cd] o from ⟨_, _, rfl, HOO.out.1, HOO.out.2.1, HOO.out.2.2.1, HOO.out.2.2.2⟩)))
    have HL2 : Hid (Lst w4 (· < w.heap.size) 2 ROq (.slice A2 n3 c2) (attQ c (j + 1)).ops) := hide (by have := (HA0.out.l2).keep rd_Oq (Kp.of_below (bthen HB.out H24.out)); rwa [HOL.out, HR3.out] at this)
    have HL3 : Hid (Lst w4 (· < w.heap.size) 1 RBq (.slice (some ⟨gb, ob, none⟩) n3 c3) (attQ c (j + 1)).hv) := hide (by have := (HA0.out.l3).keep rd_Bq (Kp.of_below (bthen HB.out H24.out)); rwa [HR3.out] at this)
    have HL1 : Hid (Lst w4 (· < w.heap.size) 6 RRq (.slice A1 (attQ c (j + 1)).rds.length c1) (attQ c (j + 1)).rds) := hide ((HA0.out.l1).keep rd_Rq (Kp.of_below (bthen HB.out H24.out)))
    have HNU : Hid (inQ (attQ c (j + 1)).num) := hide HAA.out.num
    replace HB := hide (bthen HB.out H24.out)
    clear HAA HA0 H24
    obtain ⟨L, hL⟩ : ∃ L, w2.heap.size = L := ⟨_, rfl⟩
    rw [hL] at HAX HZ hL4 hzy ⊢
    clear hL zx2
    obtain ⟨a, ha9⟩ : ∃ a, attQ c (j + 1) = a := ⟨_, rfl⟩
    rw [ha9] at HAX HZ HL2 HL3 HL1 HNU HR3 HOL HC HH ⊢
    obtain ⟨nr, hnr⟩ : ∃ n, a.rds.length = n := ⟨_, rfl⟩
    rw [hnr] at HAX HZ HL1 ⊢
    clear ha9 hnr
    go_wp2_with fail
    go_loopw [14] (fun i wr => ∃ q : Nat, q ≤ n3 ∧ i = .int .i64 q ∧ ∃ V1 V2, Hid (Bl wr (L + 1) [.int .i64 a.num, .slice A1 nr c1, V1, V2]) ∧ Hid (GqB wr w.heap.size (L + 1 + 1) 42 2 ROq V1 ((a.ops.set k o).take q)) ∧ Hid (GqB wr w.heap.size (L + 1 + 1) 4 1 RBq V2 ((a.hv.set k true).take q)) ∧ Hid (Below (L + 1) w4 wr)) (fun i _ => n3 - (intOf i).toNat)
    case atStart => exact ⟨0, Nat.zero_le _, rfl, .slice none 0 0, .slice none 0 0, HZ, hide GqB.nil, hide GqB.nil, hide (Below.refl _ _)⟩
    case round =>
      obtain ⟨q, hq, rfl, V1, V2, HZB, HG1, HG2, HBW⟩ := hrel
      have hws : L + 1 < wr.heap.size := by have := HBW.out.size; omega
      have HAY := hide (show Bl wr L [.int .i64 a.num, .slice A1 nr c1, .slice A2 n3 c2, .slice (some ⟨gb, ob, none⟩) n3 c3] from ⟨fun j u hu => (HBW.out.cell (p := ⟨L, j, none⟩) (by show L < L + 1; omega)).trans (HAX.out.c j u hu), fun j => (World.frozen?_of_block (w := w4) (a := ⟨L, j, none⟩) (HBW.out.block L (by omega) )).trans (HAX.out.f j), by omega⟩)
      have g3 := HAY.out.c 3 _ rfl
      by_cases hlt : q < n3
      · have hqo : q < a.ops.length := by rw [HOL.out, HR3.out]; exact hlt
        have hqh : q < a.hv.length := by rw [HR3.out]; exact hlt
        obtain ⟨B1, b1, eV1⟩ := HG1.out.form
        obtain ⟨B2, b2, eV2⟩ := HG2.out.form
        have HN1 : Hid (((a.ops.set k o).take q).length = q) := hide (by rw [List.length_take, List.length_set, HOL.out, HR3.out]; omega)
        have HN2 : Hid (((a.hv.set k true).take q).length = q) := hide (by rw [List.length_take, List.length_set, HR3.out]; omega)
        rw [HN1.out] at eV1
        rw [HN2.out] at eV2
        subst eV1 eV2
        replace HN1 := hide (fun (y : Oq) => show ((a.ops.set k o).take q ++ [y]).length = q + 1 by rw [List.length_append, HN1.out]; rfl)
        replace HN2 := hide (fun (y : Bool) => show ((a.hv.set k true).take q ++ [y]).length = q + 1 by rw [List.length_append, HN2.out]; rfl)
        by_cases hqk : q = k
        · have HT1 : Hid ((a.ops.set k o).take (q + 1) = (a.ops.set k o).take q ++ [o]) := hide (by rw [List.take_succ_eq_append_getElem (by rw [List.length_set]; exact hqo), List.getElem_set, if_pos hqk.symm])
          have HT2 : Hid ((a.hv.set k true).take (q + 1) = (a.hv.set k true).take q ++ [true]) := hide (by rw [List.take_succ_eq_append_getElem (by rw [List.length_set]; exact hqh), List.getElem_set, if_pos hqk.symm])
          have tk : ((q : Int) == (k : Int)) = true := by rw [beq_iff_eq]; omega
          have tk' : (q == k) = true := by rw [beq_iff_eq]; omega
          clear hqk
          go_upto_region 19 with (fail)
          refine wp_region_grow2 (L + 1 + 1) (by omega) 10 [80, 81, 82, 83, 84, 85, 86, 87, 88, 89] [Fix (.pointer (some ⟨L + 1, 2, none⟩)), RowE w.heap.size (L + 1 + 1) 42 2 ROq q ((a.ops.set k o).take q), Fix (.agg #[.slice M o.marks.length cm, .slice D o.engs.length cd]), LitT 42 [.slice M o.marks.length cm, .slice D o.engs.length cd], RowE w.heap.size (L + 1 + 1) 42 2 ROq (q + 1) (((a.ops.set k o).take q) ++ [o]), Fix (.pointer (some ⟨L + 1, 3, none⟩)), RowE w.heap.size (L + 1 + 1) 4 1 RBq q ((a.hv.set k true).take q), LitT 4 [.bool true], RowE w.heap.size (L + 1 + 1) 4 1 RBq (q + 1) (((a.hv.set k true).take q) ++ [true]), Fix (.pointer (some ⟨L + 1, 2, none⟩))] (by kernel_rfl) (by kernel_rfl) (by kernel_rfl) (by kernel_rfl) (by kernel_rfl) (IvR w.heap.size L (.slice B1 q b1) ((a.ops.set k o).take q) (.slice B2 q b2) ((a.hv.set k true).take q)) si19 us19 (by kernel_rfl) ?_ (trF (L + 1 + 1) 4 8) sp19 (fun j wa wb _ ht hsz => trF_below ht (by omega)) ?_ (fun j d _ hd wa wb _ ht hi => iv_st (by omega) (by decide) (by decide) hd ht hi) ?_ ?_
          · intro d
            match d with
            | 0 => exact HG1.out.below rd_Oq ((Below.refl _ _).drew)
            | 1 => exact HG2.out.below rd_Bq ((Below.refl _ _).drew)
            | _ + 2 => trivial
          · intro j k9 hj hk9 hne hsp _ w5 w6 v5 hsz ht hP5
            have hkc : k9 = 0 ∨ k9 = 1 ∨ k9 = 2 ∨ k9 = 3 ∨ k9 = 4 ∨ k9 = 5 ∨ k9 = 6 ∨ k9 = 7 ∨ k9 = 8 ∨ k9 = 9 := by omega
            rcases trF_cases ht with ⟨rfl, ht⟩ | ⟨rfl, ht⟩ | ⟨-, -, ht⟩
            · rcases hkc with rfl | rfl | rfl | rfl | rfl | rfl | rfl | rfl | rfl | rfl
              all_goals first | exact absurd rfl hne | exact absurd (by decide) hsp | exact hP5 | exact row_grown rd_Bq hP5 ht (by decide) (by omega) | exact lit_grown hP5 ht (by decide)
            · rcases hkc with rfl | rfl | rfl | rfl | rfl | rfl | rfl | rfl | rfl | rfl
              all_goals first | exact absurd rfl hne | exact absurd (by decide) hsp | exact hP5 | exact row_grown rd_Oq hP5 ht (by decide) (by omega) | exact lit_grown hP5 ht (by decide)
            · rcases hkc with rfl | rfl | rfl | rfl | rfl | rfl | rfl | rfl | rfl | rfl
              all_goals first | exact hP5 | exact row_below rd_Oq hP5 ht | exact row_below rd_Bq hP5 ht | exact lit_below hP5 ht
          · intro j o9 hj ho x w5 hb hI hd
            have hjc : j = 0 ∨ j = 1 ∨ j = 2 ∨ j = 3 ∨ j = 4 ∨ j = 5 ∨ j = 6 ∨ j = 7 ∨ j = 8 ∨ j = 9 := by omega
            have c45 : Below (L + 1) w4 w5 := HBW.out.trans (hb.mono (by omega))
            have hw5 : wr.heap.size ≤ w5.heap.size := hb.size
            rcases hjc with rfl | rfl | rfl | rfl | rfl | rfl | rfl | rfl | rfl | rfl
            all_goals obtain rfl := Option.some.inj ho
            all_goals generalize hK : (fun (a' : Act) (w' : World) => _) = K
            all_goals simp only [puts]
            · go_simp
              rw [← hK]
              exact ⟨.pointer (some ⟨L + 1, 2, none⟩), (by simp only [puts]; go_simp), trF_0 (by decide) (by decide) (Below.refl _ _), rfl⟩
            · have e : x 80 = .pointer (some ⟨L + 1, 2, none⟩) := hd 0 (by kernel_rfl) (by kernel_rfl)
              have hG := hide (hI 0 (by decide))
              have zc := (bl_low HZB.out hb (by omega)).c 2 _ rfl
              go_simp
              rw [← hK]
              exact ⟨(.slice B1 q b1), (by simp only [puts]; go_simp), trF_0 (by decide) (by decide) (Below.refl _ _), ⟨_, _, rfl⟩, hG.out⟩
            · have o0 := c45.cell (p := ⟨w.heap.size + 1, 0, none⟩) (by show w.heap.size + 1 < L + 1; omega) |>.trans (HO.out.c 0 _ rfl)
              have o1 := c45.cell (p := ⟨w.heap.size + 1, 1, none⟩) (by show w.heap.size + 1 < L + 1; omega) |>.trans (HO.out.c 1 _ rfl)
              go_simp
              rw [← hK]
              exact ⟨.agg #[.slice M o.marks.length cm, .slice D o.engs.length cd], (by simp only [puts]; go_simp), trF_0 (by decide) (by decide) (Below.refl _ _), rfl⟩
            · have e : x 82 = .agg #[.slice M o.marks.length cm, .slice D o.engs.length cd] := hd 2 (by kernel_rfl) (by kernel_rfl)
              go_simp
              rw [← hK]
              exact ⟨.slice (some ⟨w5.heap.size, 0, none⟩) 1 1, (by simp only [puts]; go_simp), trF_0 (by decide) (by decide) (below_laid _), lit_new w5 [.slice M o.marks.length cm, .slice D o.engs.length cd] 42⟩
            · obtain ⟨⟨D1, d1, e1⟩, hG⟩ : RowE w.heap.size (L + 1 + 1) 42 2 ROq q ((a.ops.set k o).take q) w5 (x 81) := hd 1 (by kernel_rfl) (by kernel_rfl)
              have hLt : LitT 42 [.slice M o.marks.length cm, .slice D o.engs.length cd] w5 (x 83) := hd 3 (by kernel_rfl) (by kernel_rfl)
              obtain ⟨u9, e3⟩ : ∃ u, x 83 = u := ⟨_, rfl⟩
              rw [e3] at hLt
              rw [e1] at hG
              refine wp_append_gqb rd_Oq (.tmp 81) (.tmp 83) 48 (by rfl) w.heap.size (L + 1 + 1) 42 i1 _ 2 48 Try.underlying48 hi1 hz10 hz11 hz12 (by rfl) (by decide) (.slice D1 q d1) _ (by go_simp) hG u9 (by go_simp) [.slice M o.marks.length cm, .slice D o.engs.length cd] hLt (by rfl) (fun y hy => by simp at hy; rcases hy with rfl | rfl <;> rfl) o (rd_Oq.keep (Kp.lowBelow c45 (fun b (hz : b < w.heap.size) => by omega)) HON.out) (by omega) (by simp; omega) (by decide) (by omega) ?_
              intro v9 w9 hg9 ht9
              obtain ⟨B9, q9, hv9⟩ := hg9.form
              rw [← hK]
              exact ⟨v9, (by simp only [puts]), trF_1 ht9, ⟨B9, q9, by rw [hv9, HN1.out]⟩, hg9⟩
            · go_simp
              rw [← hK]
              exact ⟨.pointer (some ⟨L + 1, 3, none⟩), (by simp only [puts]; go_simp), trF_0 (by decide) (by decide) (Below.refl _ _), rfl⟩
            · have e : x 85 = .pointer (some ⟨L + 1, 3, none⟩) := hd 5 (by kernel_rfl) (by kernel_rfl)
              have hG := hide (hI 1 (by decide))
              have zc := (bl_low HZB.out hb (by omega)).c 3 _ rfl
              go_simp
              rw [← hK]
              exact ⟨(.slice B2 q b2), (by simp only [puts]; go_simp), trF_0 (by decide) (by decide) (Below.refl _ _), ⟨_, _, rfl⟩, hG.out⟩
            · go_simp
              rw [← hK]
              exact ⟨.slice (some ⟨w5.heap.size, 0, none⟩) 1 1, (by simp only [puts]; go_simp), trF_0 (by decide) (by decide) (below_laid _), lit_new w5 [.bool true] 4⟩
            · obtain ⟨⟨D1, d1, e1⟩, hG⟩ : RowE w.heap.size (L + 1 + 1) 4 1 RBq q ((a.hv.set k true).take q) w5 (x 86) := hd 6 (by kernel_rfl) (by kernel_rfl)
              have hLt : LitT 4 [.bool true] w5 (x 87) := hd 7 (by kernel_rfl) (by kernel_rfl)
              obtain ⟨u9, e3⟩ : ∃ u, x 87 = u := ⟨_, rfl⟩
              rw [e3] at hLt
              rw [e1] at hG
              refine wp_append_gqb rd_Bq (.tmp 86) (.tmp 87) 49 (by rfl) w.heap.size (L + 1 + 1) 4 i2 _ 1 1 Try.underlying49 hi2 hz20 hz21 hz22 (by rfl) (by decide) (.slice D1 q d1) _ (by go_simp) hG u9 (by go_simp) [.bool true] hLt (by rfl) (fun y hy => by simp at hy; subst hy; rfl) true rfl (by omega) (by simp; omega) (by decide) (by omega) ?_
              intro v9 w9 hg9 ht9
              obtain ⟨B9, q9, hv9⟩ := hg9.form
              rw [← hK]
              exact ⟨v9, (by simp only [puts]), trF_2 (by decide) ht9, ⟨B9, q9, by rw [hv9, HN2.out]⟩, hg9⟩
            · go_simp
              rw [← hK]
              exact ⟨.pointer (some ⟨L + 1, 2, none⟩), (by simp only [puts]; go_simp), trF_0 (by decide) (by decide) (Below.refl _ _), rfl⟩
          · intro x w9 hb hP
            obtain ⟨⟨D1, d1, e9⟩, hR1⟩ : RowE w.heap.size (L + 1 + 1) 42 2 ROq (q + 1) ((a.ops.set k o).take q ++ [o]) w9 (x 84) := hP 4 (by decide) (by decide)
            obtain ⟨⟨D2, d2, e8⟩, hR2⟩ : RowE w.heap.size (L + 1 + 1) 4 1 RBq (q + 1) ((a.hv.set k true).take q ++ [true]) w9 (x 88) := hP 8 (by decide) (by decide)
            have eP : x 89 = .pointer (some ⟨L + 1, 2, none⟩) := hP 9 (by decide) (by decide)
            rw [e9] at hR1
            rw [e8] at hR2
            have hBl : Bl w9 (L + 1) [.int .i64 a.num, .slice A1 nr c1, (.slice B1 q b1), (.slice B2 q b2)] := bl_low HZB.out hb (by omega)
            have f2 := hBl.f 2
            have f3 := hBl.f 3
            have z2 := hBl.c 2 _ rfl
            have z3 := hBl.c 3 _ rfl
            have HZ9 := hide ((hBl.put (k := 2) (by simp) (.slice D1 (q + 1) d1)).put (k := 3) (by simp) (.slice D2 (q + 1) d2))
            have HR1 := hide ((hR1.set rd_Oq (b := L + 1) (by omega) (by omega) 2 (.slice D1 (q + 1) d1)).set rd_Oq (b := L + 1) (by omega) (by omega) 3 (.slice D2 (q + 1) d2))
            have HR2 := hide ((hR2.set rd_Bq (b := L + 1) (by omega) (by omega) 2 (.slice D1 (q + 1) d1)).set rd_Bq (b := L + 1) (by omega) (by omega) 3 (.slice D2 (q + 1) d2))
            have HB9 := hide (((HBW.out.trans (hb.mono (by omega))).setCell (p := ⟨L + 1, 2, none⟩) (Nat.le_refl _) (.slice D1 (q + 1) d1)).setCell (p := ⟨L + 1, 3, none⟩) (Nat.le_refl _) (.slice D2 (q + 1) d2))
            clear hP hR1 hR2 hBl hb
            simp only [puts, Act.put, List.setIfInBounds_toArray, List.set_cons_succ, List.set_cons_zero, List.drop]
            go_wp2
            go_roundw
            case rel => exact ⟨q + 1, by omega, by go_num, _, _, HZ9, by rw [HT1.out]; exact HR1, by rw [HT2.out]; exact HR2, HB9⟩
            case measure => simp [intOf]; omega
        · have HT1 : Hid ((a.ops.set k o).take (q + 1) = (a.ops.set k o).take q ++ [a.ops[q]]) := hide (by rw [List.take_succ_eq_append_getElem (by rw [List.length_set]; exact hqo), List.getElem_set, if_neg (fun e => hqk e.symm)])
          have HT2 : Hid ((a.hv.set k true).take (q + 1) = (a.hv.set k true).take q ++ [a.hv[q]]) := hide (by rw [List.take_succ_eq_append_getElem (by rw [List.length_set]; exact hqh), List.getElem_set, if_neg (fun e => hqk e.symm)])
          have tk : ((q : Int) == (k : Int)) = false := by rw [beq_eq_false_iff_ne]; omega
          have tk' : (q == k) = false := by rw [beq_eq_false_iff_ne]; omega
          obtain ⟨g2, off2, ys, e2, hz2, hl2, hc2, hr2⟩ := Lst.at_ HL2.out hqo
          subst e2
          obtain ⟨-, zs, hl3, hc3, hr3⟩ := Lst.at1 HL3.out hqh
          have hgb2 : gb < w.heap.size := (Lst.at1 HL3.out hqh).1
          obtain ⟨y, hy⟩ : ∃ y, a.ops[q] = y := ⟨_, rfl⟩
          obtain ⟨b, hb⟩ : ∃ b, a.hv[q] = b := ⟨_, rfl⟩
          rw [hy] at hr2 HT1
          rw [hb] at hr3 HT2
          clear hy hb
          have hr3' : zs = [.bool b] := hr3
          subst hr3'
          obtain ⟨yv, yu, e5⟩ : ∃ yv yu, ys = [yv, yu] := by match ys, hl2 with | [a, b], _ => exact ⟨a, b, rfl⟩
          subst e5
          have HRY := hide hr2
          have HON1 : Hid (∀ y ∈ [yv, yu], y.oneCell' = true) := hide (one_Oq hr2)
          have hz2' : g2 < w.heap.size := hz2
          have hc20 := hc2 0 _ rfl
          have hc21 := hc2 1 _ rfl
          have hc30 := hc3 0 _ rfl
          rw [Nat.add_zero] at hc20
          rw [Nat.add_zero, Nat.mul_one] at hc30
          have HY0 := hide hc20
          have HY1 := hide hc21
          have HBC := hide hc30
          clear hc2 hc3 hr2 hr3 hl2 hl3 hc20 hc21 hc30 hz2
          have ju0 : (0 : Int) ≤ (q : Int) := by omega
          have ju1 : (q : Int) < (n3 : Int) := by omega
          clear hqk
          go_upto_region 20 with (fail)
          refine wp_region_grow2 (L + 1 + 1) (by omega) 19 [91, 92, 93, 94, 95, 96, 97, 98, 99, 100, 101, 102, 103, 104, 105, 106, 107, 108, 109] [Fix (.pointer (some ⟨L + 1, 2, none⟩)), RowE w.heap.size (L + 1 + 1) 42 2 ROq q ((a.ops.set k o).take q), Fix (.pointer (some ⟨L, 2, none⟩)), Fix (.slice (some ⟨g2, off2, none⟩) n3 c2), Fix (.int .i64 q), Fix (.pointer (some ⟨g2, off2 + q * 2, none⟩)), Fix (.agg #[yv, yu]), LitT 42 [yv, yu], RowE w.heap.size (L + 1 + 1) 42 2 ROq (q + 1) (((a.ops.set k o).take q) ++ [y]), Fix (.pointer (some ⟨L + 1, 3, none⟩)), RowE w.heap.size (L + 1 + 1) 4 1 RBq q ((a.hv.set k true).take q), Fix (.pointer (some ⟨L, 3, none⟩)), Fix (.slice (some ⟨gb, ob, none⟩) n3 c3), Fix (.int .i64 q), Fix (.pointer (some ⟨gb, ob + q, none⟩)), Fix (.bool b), LitT 4 [.bool b], RowE w.heap.size (L + 1 + 1) 4 1 RBq (q + 1) (((a.hv.set k true).take q) ++ [b]), Fix (.pointer (some ⟨L + 1, 2, none⟩))] (by kernel_rfl) (by kernel_rfl) (by kernel_rfl) (by kernel_rfl) (by kernel_rfl) (IvR w.heap.size L (.slice B1 q b1) ((a.ops.set k o).take q) (.slice B2 q b2) ((a.hv.set k true).take q)) si20 us20 (by kernel_rfl) ?_ (trF (L + 1 + 1) 8 17) sp20 (fun j wa wb _ ht hsz => trF_below ht (by omega)) ?_ (fun j d _ hd wa wb _ ht hi => iv_st (by omega) (by decide) (by decide) hd ht hi) ?_ ?_
          · intro d
            match d with
            | 0 => exact HG1.out.below rd_Oq ((Below.refl _ _).drew)
            | 1 => exact HG2.out.below rd_Bq ((Below.refl _ _).drew)
            | _ + 2 => trivial
          · intro j k9 hj hk9 hne hsp _ w5 w6 v5 hsz ht hP5
            have hkc : k9 = 0 ∨ k9 = 1 ∨ k9 = 2 ∨ k9 = 3 ∨ k9 = 4 ∨ k9 = 5 ∨ k9 = 6 ∨ k9 = 7 ∨ k9 = 8 ∨ k9 = 9 ∨ k9 = 10 ∨ k9 = 11 ∨ k9 = 12 ∨ k9 = 13 ∨ k9 = 14 ∨ k9 = 15 ∨ k9 = 16 ∨ k9 = 17 ∨ k9 = 18 := by omega
            rcases trF_cases ht with ⟨rfl, ht⟩ | ⟨rfl, ht⟩ | ⟨-, -, ht⟩
            · rcases hkc with rfl | rfl | rfl | rfl | rfl | rfl | rfl | rfl | rfl | rfl | rfl | rfl | rfl | rfl | rfl | rfl | rfl | rfl | rfl
              all_goals first | exact absurd rfl hne | exact absurd (by decide) hsp | exact hP5 | exact row_grown rd_Bq hP5 ht (by decide) (by omega) | exact lit_grown hP5 ht (by decide)
            · rcases hkc with rfl | rfl | rfl | rfl | rfl | rfl | rfl | rfl | rfl | rfl | rfl | rfl | rfl | rfl | rfl | rfl | rfl | rfl | rfl
              all_goals first | exact absurd rfl hne | exact absurd (by decide) hsp | exact hP5 | exact row_grown rd_Oq hP5 ht (by decide) (by omega) | exact lit_grown hP5 ht (by decide)
            · rcases hkc with rfl | rfl | rfl | rfl | rfl | rfl | rfl | rfl | rfl | rfl | rfl | rfl | rfl | rfl | rfl | rfl | rfl | rfl | rfl
              all_goals first | exact hP5 | exact row_below rd_Oq hP5 ht | exact row_below rd_Bq hP5 ht | exact lit_below hP5 ht
          · intro j o9 hj ho x w5 hb hI hd
            have hjc : j = 0 ∨ j = 1 ∨ j = 2 ∨ j = 3 ∨ j = 4 ∨ j = 5 ∨ j = 6 ∨ j = 7 ∨ j = 8 ∨ j = 9 ∨ j = 10 ∨ j = 11 ∨ j = 12 ∨ j = 13 ∨ j = 14 ∨ j = 15 ∨ j = 16 ∨ j = 17 ∨ j = 18 := by omega
            have c45 : Below (L + 1) w4 w5 := HBW.out.trans (hb.mono (by omega))
            have hw5 : wr.heap.size ≤ w5.heap.size := hb.size
            rcases hjc with rfl | rfl | rfl | rfl | rfl | rfl | rfl | rfl | rfl | rfl | rfl | rfl | rfl | rfl | rfl | rfl | rfl | rfl | rfl
            all_goals obtain rfl := Option.some.inj ho
            all_goals generalize hK : (fun (a' : Act) (w' : World) => _) = K
            all_goals simp only [puts]
            · go_simp
              rw [← hK]
              exact ⟨.pointer (some ⟨L + 1, 2, none⟩), (by simp only [puts]; go_simp), trF_0 (by decide) (by decide) (Below.refl _ _), rfl⟩
            · have e : x 91 = .pointer (some ⟨L + 1, 2, none⟩) := hd 0 (by kernel_rfl) (by kernel_rfl)
              have hG := hide (hI 0 (by decide))
              have zc := (bl_low HZB.out hb (by omega)).c 2 _ rfl
              go_simp
              rw [← hK]
              exact ⟨(.slice B1 q b1), (by simp only [puts]; go_simp), trF_0 (by decide) (by decide) (Below.refl _ _), ⟨_, _, rfl⟩, hG.out⟩
            · go_simp
              rw [← hK]
              exact ⟨.pointer (some ⟨L, 2, none⟩), (by simp only [puts]; go_simp), trF_0 (by decide) (by decide) (Below.refl _ _), rfl⟩
            · have e : x 93 = .pointer (some ⟨L, 2, none⟩) := hd 2 (by kernel_rfl) (by kernel_rfl)
              have ac := (bl_low HAY.out hb (by omega)).c 2 _ rfl
              go_simp
              rw [← hK]
              exact ⟨.slice (some ⟨g2, off2, none⟩) n3 c2, (by simp only [puts]; go_simp), trF_0 (by decide) (by decide) (Below.refl _ _), rfl⟩
            · go_simp
              rw [← hK]
              exact ⟨.int .i64 q, (by simp only [puts]; go_simp), trF_0 (by decide) (by decide) (Below.refl _ _), rfl⟩
            · have e : x 94 = .slice (some ⟨g2, off2, none⟩) n3 c2 := hd 3 (by kernel_rfl) (by kernel_rfl)
              have e' : x 95 = .int .i64 q := hd 4 (by kernel_rfl) (by kernel_rfl)
              go_simp
              rw [← hK]
              exact ⟨.pointer (some ⟨g2, off2 + q * 2, none⟩), (by simp only [puts]; go_simp), trF_0 (by decide) (by decide) (Below.refl _ _), rfl⟩
            · have e : x 96 = .pointer (some ⟨g2, off2 + q * 2, none⟩) := hd 5 (by kernel_rfl) (by kernel_rfl)
              have o0 := c45.cell (p := ⟨g2, off2 + q * 2, none⟩) (by show g2 < L + 1; omega) |>.trans HY0.out
              have o1 := c45.cell (p := ⟨g2, off2 + q * 2 + 1, none⟩) (by show g2 < L + 1; omega) |>.trans HY1.out
              go_simp
              rw [← hK]
              exact ⟨.agg #[yv, yu], (by simp only [puts]; go_simp), trF_0 (by decide) (by decide) (Below.refl _ _), rfl⟩
            · have e : x 97 = .agg #[yv, yu] := hd 6 (by kernel_rfl) (by kernel_rfl)
              go_simp
              rw [← hK]
              exact ⟨.slice (some ⟨w5.heap.size, 0, none⟩) 1 1, (by simp only [puts]; go_simp), trF_0 (by decide) (by decide) (below_laid _), lit_new w5 [yv, yu] 42⟩
            · obtain ⟨⟨D1, d1, e1⟩, hG⟩ : RowE w.heap.size (L + 1 + 1) 42 2 ROq q ((a.ops.set k o).take q) w5 (x 92) := hd 1 (by kernel_rfl) (by kernel_rfl)
              have hLt : LitT 42 [yv, yu] w5 (x 98) := hd 7 (by kernel_rfl) (by kernel_rfl)
              obtain ⟨u9, e3⟩ : ∃ u, x 98 = u := ⟨_, rfl⟩
              rw [e3] at hLt
              rw [e1] at hG
              refine wp_append_gqb rd_Oq (.tmp 92) (.tmp 98) 48 (by rfl) w.heap.size (L + 1 + 1) 42 i1 _ 2 48 Try.underlying48 hi1 hz10 hz11 hz12 (by rfl) (by decide) (.slice D1 q d1) _ (by go_simp) hG u9 (by go_simp) [yv, yu] hLt (by rfl) HON1.out y (rd_Oq.keep (Kp.lowBelow c45 (fun b (hz : b < w.heap.size) => by omega)) HRY.out) (by omega) (by simp; omega) (by decide) (by omega) ?_
              intro v9 w9 hg9 ht9
              obtain ⟨B9, q9, hv9⟩ := hg9.form
              rw [← hK]
              exact ⟨v9, (by simp only [puts]), trF_1 ht9, ⟨B9, q9, by rw [hv9, HN1.out]⟩, hg9⟩
            · go_simp
              rw [← hK]
              exact ⟨.pointer (some ⟨L + 1, 3, none⟩), (by simp only [puts]; go_simp), trF_0 (by decide) (by decide) (Below.refl _ _), rfl⟩
            · have e : x 100 = .pointer (some ⟨L + 1, 3, none⟩) := hd 9 (by kernel_rfl) (by kernel_rfl)
              have hG := hide (hI 1 (by decide))
              have zc := (bl_low HZB.out hb (by omega)).c 3 _ rfl
              go_simp
              rw [← hK]
              exact ⟨(.slice B2 q b2), (by simp only [puts]; go_simp), trF_0 (by decide) (by decide) (Below.refl _ _), ⟨_, _, rfl⟩, hG.out⟩
            · go_simp
              rw [← hK]
              exact ⟨.pointer (some ⟨L, 3, none⟩), (by simp only [puts]; go_simp), trF_0 (by decide) (by decide) (Below.refl _ _), rfl⟩
            · have e : x 102 = .pointer (some ⟨L, 3, none⟩) := hd 11 (by kernel_rfl) (by kernel_rfl)
              have ac := (bl_low HAY.out hb (by omega)).c 3 _ rfl
              go_simp
              rw [← hK]
              exact ⟨.slice (some ⟨gb, ob, none⟩) n3 c3, (by simp only [puts]; go_simp), trF_0 (by decide) (by decide) (Below.refl _ _), rfl⟩
            · go_simp
              rw [← hK]
              exact ⟨.int .i64 q, (by simp only [puts]; go_simp), trF_0 (by decide) (by decide) (Below.refl _ _), rfl⟩
            · have e : x 103 = .slice (some ⟨gb, ob, none⟩) n3 c3 := hd 12 (by kernel_rfl) (by kernel_rfl)
              have e' : x 104 = .int .i64 q := hd 13 (by kernel_rfl) (by kernel_rfl)
              go_simp
              rw [← hK]
              exact ⟨.pointer (some ⟨gb, ob + q, none⟩), (by simp only [puts]; go_simp), trF_0 (by decide) (by decide) (Below.refl _ _), rfl⟩
            · have e : x 105 = .pointer (some ⟨gb, ob + q, none⟩) := hd 14 (by kernel_rfl) (by kernel_rfl)
              have o0 := c45.cell (p := ⟨gb, ob + q, none⟩) (by show gb < L + 1; omega) |>.trans HBC.out
              go_simp
              rw [← hK]
              exact ⟨.bool b, (by simp only [puts]; go_simp), trF_0 (by decide) (by decide) (Below.refl _ _), rfl⟩
            · have e : x 106 = .bool b := hd 15 (by kernel_rfl) (by kernel_rfl)
              go_simp
              rw [← hK]
              exact ⟨.slice (some ⟨w5.heap.size, 0, none⟩) 1 1, (by simp only [puts]; go_simp), trF_0 (by decide) (by decide) (below_laid _), lit_new w5 [.bool b] 4⟩
            · obtain ⟨⟨D1, d1, e1⟩, hG⟩ : RowE w.heap.size (L + 1 + 1) 4 1 RBq q ((a.hv.set k true).take q) w5 (x 101) := hd 10 (by kernel_rfl) (by kernel_rfl)
              have hLt : LitT 4 [.bool b] w5 (x 107) := hd 16 (by kernel_rfl) (by kernel_rfl)
              obtain ⟨u9, e3⟩ : ∃ u, x 107 = u := ⟨_, rfl⟩
              rw [e3] at hLt
              rw [e1] at hG
              refine wp_append_gqb rd_Bq (.tmp 101) (.tmp 107) 49 (by rfl) w.heap.size (L + 1 + 1) 4 i2 _ 1 1 Try.underlying49 hi2 hz20 hz21 hz22 (by rfl) (by decide) (.slice D1 q d1) _ (by go_simp) hG u9 (by go_simp) [.bool b] hLt (by rfl) (fun y hy => by simp at hy; subst hy; rfl) b rfl (by omega) (by simp; omega) (by decide) (by omega) ?_
              intro v9 w9 hg9 ht9
              obtain ⟨B9, q9, hv9⟩ := hg9.form
              rw [← hK]
              exact ⟨v9, (by simp only [puts]), trF_2 (by decide) ht9, ⟨B9, q9, by rw [hv9, HN2.out]⟩, hg9⟩
            · go_simp
              rw [← hK]
              exact ⟨.pointer (some ⟨L + 1, 2, none⟩), (by simp only [puts]; go_simp), trF_0 (by decide) (by decide) (Below.refl _ _), rfl⟩
          · intro x w9 hb hP
            obtain ⟨⟨D1, d1, e9⟩, hR1⟩ : RowE w.heap.size (L + 1 + 1) 42 2 ROq (q + 1) ((a.ops.set k o).take q ++ [y]) w9 (x 99) := hP 8 (by decide) (by decide)
            obtain ⟨⟨D2, d2, e8⟩, hR2⟩ : RowE w.heap.size (L + 1 + 1) 4 1 RBq (q + 1) ((a.hv.set k true).take q ++ [b]) w9 (x 108) := hP 17 (by decide) (by decide)
            have eP : x 109 = .pointer (some ⟨L + 1, 2, none⟩) := hP 18 (by decide) (by decide)
            rw [e9] at hR1
            rw [e8] at hR2
            have hBl : Bl w9 (L + 1) [.int .i64 a.num, .slice A1 nr c1, (.slice B1 q b1), (.slice B2 q b2)] := bl_low HZB.out hb (by omega)
            have f2 := hBl.f 2
            have f3 := hBl.f 3
            have z2 := hBl.c 2 _ rfl
            have z3 := hBl.c 3 _ rfl
            have HZ9 := hide ((hBl.put (k := 2) (by simp) (.slice D1 (q + 1) d1)).put (k := 3) (by simp) (.slice D2 (q + 1) d2))
            have HR1 := hide ((hR1.set rd_Oq (b := L + 1) (by omega) (by omega) 2 (.slice D1 (q + 1) d1)).set rd_Oq (b := L + 1) (by omega) (by omega) 3 (.slice D2 (q + 1) d2))
            have HR2 := hide ((hR2.set rd_Bq (b := L + 1) (by omega) (by omega) 2 (.slice D1 (q + 1) d1)).set rd_Bq (b := L + 1) (by omega) (by omega) 3 (.slice D2 (q + 1) d2))
            have HB9 := hide (((HBW.out.trans (hb.mono (by omega))).setCell (p := ⟨L + 1, 2, none⟩) (Nat.le_refl _) (.slice D1 (q + 1) d1)).setCell (p := ⟨L + 1, 3, none⟩) (Nat.le_refl _) (.slice D2 (q + 1) d2))
            clear hP hR1 hR2 hBl hb
            simp only [puts, Act.put, List.setIfInBounds_toArray, List.set_cons_succ, List.set_cons_zero, List.drop]
            go_wp2
            go_roundw
            case rel => exact ⟨q + 1, by omega, by go_num, _, _, HZ9, by rw [HT1.out]; exact HR1, by rw [HT2.out]; exact HR2, HB9⟩
            case measure => simp [intOf]; omega
      · obtain rfl : q = n3 := by omega
        have HBR := hide (HB.out.trans (HBW.out.mono (by omega)))
        have HXR := hide (bl_low HX.out HBW.out (by omega))
        have HYR := hide (bl_low HY.out HBW.out (by omega))
        have hsz := HBR.out.size
        have tm0 : 0 < m := by omega
        have HMW : Hid (c.atts.length ≤ maxLen) := hide (by unfold maxLen; omega)
        go_wp2_with fail
        clear g3
        refine wp_region_grow 9 [111, 112, 113, 114, 115, 116, 117, 118, 15] [Fix (.pointer (some ⟨w.heap.size, 0, none⟩)), Fix (.int .i64 c.next), Fix (.pointer (some ⟨w.heap.size, 1, none⟩)), Fix (.slice (some ⟨g, off, none⟩) m cap), RowE w.heap.size wr.heap.size 51 4 RAq m c.atts, Fix (.pointer (some ⟨w.heap.size, 2, none⟩)), Fix (.int .i64 c.dur), RowGB w.heap.size wr.heap.size c.next c.dur m c.atts, PtrN wr.heap.size [.int .i64 0, .slice none 0 0, .int .i64 0]] (by kernel_rfl) (by kernel_rfl) (by kernel_rfl) (by kernel_rfl) (by kernel_rfl) ?_ ?_ ?_
        · intro p hp
          simp only [List.mem_cons, List.not_mem_nil, or_false] at hp
          rcases hp with rfl | rfl | rfl | rfl | rfl | rfl | rfl | rfl | rfl
          all_goals first | exact stb_fix _ | exact (fun _ _ _ hb h => row_below rd_Aq h hb) | exact stb_rowgb | exact stb_ptr
        · intro j9 o9 hj ho x w5 hb hd
          have hjc : j9 = 0 ∨ j9 = 1 ∨ j9 = 2 ∨ j9 = 3 ∨ j9 = 4 ∨ j9 = 5 ∨ j9 = 6 ∨ j9 = 7 ∨ j9 = 8 := by omega
          have hw5 := hb.size
          have hx5 := HXR.out.keep hb
          have x0 := hx5.c 0 _ rfl
          have x1 := hx5.c 1 _ rfl
          have x2 := hx5.c 2 _ rfl
          clear hx5
          rcases hjc with rfl | rfl | rfl | rfl | rfl | rfl | rfl | rfl | rfl
          all_goals obtain rfl := Option.some.inj ho
          all_goals generalize hK : (fun (a' : Act) (w' : World) => _) = K
          all_goals simp only [puts]
          · go_simp
            rw [← hK]
            exact ⟨.pointer (some ⟨w.heap.size, 0, none⟩), (by simp only [puts]; go_simp), Below.refl _ _, rfl⟩
          · have e : x 111 = .pointer (some ⟨w.heap.size, 0, none⟩) := hd 0 (by kernel_rfl)
            go_simp
            rw [← hK]
            exact ⟨.int .i64 c.next, (by simp only [puts]; go_simp), Below.refl _ _, rfl⟩
          · go_simp
            rw [← hK]
            exact ⟨.pointer (some ⟨w.heap.size, 1, none⟩), (by simp only [puts]; go_simp), Below.refl _ _, rfl⟩
          · have e : x 113 = .pointer (some ⟨w.heap.size, 1, none⟩) := hd 2 (by kernel_rfl)
            go_simp
            rw [← hK]
            exact ⟨.slice (some ⟨g, off, none⟩) m cap, (by simp only [puts]; go_simp), Below.refl _ _, rfl⟩
          · have e : x 114 = .slice (some ⟨g, off, none⟩) m cap := hd 3 (by kernel_rfl)
            go_simp
            go_at_call 35
            refine (HAT.out _ (HBR.out.trans (hb.mono hsz))).mono ?_
            rintro en w9 ⟨V9, rfl, ho9, hbc⟩
            have hG : GqB w9 w.heap.size wr.heap.size 51 4 RAq V9 c.atts := GqB.of_copy rd_Aq (w0 := w) (own_more ho9 hw5) HEL.out.1 HEL.out.2 (HBR.out.trans ((hb.mono hsz).trans (hbc.mono (by omega))))
            obtain ⟨B9, q9, hV⟩ := hG.form
            rw [HM.out] at hV
            rw [← hK]
            exact ⟨V9, (by simp only [puts]; go_simp), hbc, ⟨B9, q9, hV⟩, hG⟩
          · go_simp
            rw [← hK]
            exact ⟨.pointer (some ⟨w.heap.size, 2, none⟩), (by simp only [puts]; go_simp), Below.refl _ _, rfl⟩
          · have e : x 116 = .pointer (some ⟨w.heap.size, 2, none⟩) := hd 5 (by kernel_rfl)
            go_simp
            rw [← hK]
            exact ⟨.int .i64 c.dur, (by simp only [puts]; go_simp), Below.refl _ _, rfl⟩
          · have e29 : x 112 = .int .i64 c.next := hd 1 (by kernel_rfl)
            obtain ⟨⟨B9, q9, e31⟩, hG⟩ : RowE w.heap.size wr.heap.size 51 4 RAq m c.atts w5 (x 115) := hd 4 (by kernel_rfl)
            have e33 : x 117 = .int .i64 c.dur := hd 6 (by kernel_rfl)
            rw [e31] at hG
            have HG9 := hide hG
            clear hG
            go_simp
            rw [← hK]
            exact ⟨.agg #[.int .i64 c.next, .slice B9 m q9, .int .i64 c.dur], (by simp only [puts]; go_simp), Below.refl _ _, B9, q9, rfl, HG9.out⟩
          · go_simp
            rw [← hK]
            exact ⟨.pointer (some ⟨w5.heap.size, 0, none⟩), (by simp only [puts]; go_simp), below_laid _, w5.heap.size, rfl, hw5, Bl.new w5 [.int .i64 0, .slice none 0 0, .int .i64 0] _⟩
        · intro x w6 hb hP
          obtain ⟨B9, q9, eA, hG⟩ : RowGB w.heap.size wr.heap.size c.next c.dur m c.atts w6 (x 118) := hP 7 (by decide)
          obtain ⟨gx, eX, hgx, hBX⟩ : PtrN wr.heap.size [.int .i64 0, .slice none 0 0, .int .i64 0] w6 (x 15) := hP 8 (by decide)
          simp only [puts, Act.put, List.setIfInBounds_toArray, List.set_cons_succ, List.set_cons_zero, List.drop]
          obtain ⟨B7, n7, d7, eV1⟩ : ∃ A n c, V1 = .slice A n c := by obtain ⟨A, c, e⟩ := HG1.out.form; exact ⟨_, _, _, e⟩
          obtain ⟨B8, n8, d8, eV2⟩ : ∃ A n c, V2 = .slice A n c := by obtain ⟨A, c, e⟩ := HG2.out.form; exact ⟨_, _, _, e⟩
          subst eV1 eV2
          obtain ⟨xs0, hown, hel⟩ := id hG
          have hmm : 0 < c.atts.length := by rw [HM.out]; exact tm0
          have hown' := hown
          rw [HM.out] at hown'
          obtain ⟨gr, qr, eR, hgr, hgr2⟩ := own_some hown' tm0
          injection eR with e1 e2 e3
          subst e1 e3
          have gne : gr ≠ gx := by
            obtain ⟨ys, hyl, hyc, v1, v2, v3, rfl, h1, h2, h3, h4⟩ := hel 0 hmm
            obtain ⟨Au, cu, rfl⟩ := h2.form
            have q2 := own_cell hown' (hyc 2 _ rfl)
            rw [Nat.zero_mul, Nat.zero_add] at q2
            rintro rfl
            have h9 := hBX.c 2 _ rfl
            rw [q2] at h9
            cases h9
          have hG9 : Gq w6 (fun b => b < w.heap.size ∨ (L + 1 < b ∧ b ≠ gx)) wr.heap.size 51 4 RAq (.slice (some ⟨gr, 0, none⟩) m q9) c.atts := GqB.gq rd_Aq hG hsz hb.size (fun b h => .inl h) (fun b h => by
            have e9 : gr = b := by injection h
            subst e9
            exact .inr ⟨by omega, gne⟩)
          have ngx : ¬ (gx < w.heap.size ∨ (L + 1 < gx ∧ gx ≠ gx)) := by omega
          have hne : (Value.slice (some ⟨gr, 0, none⟩) m q9).ownBlock ≠ some gx := fun e => gne (by injection e)
          have hw6 := hb.size
          have T1 : List.take q (a.ops.set k o) = a.ops.set k o := List.take_of_length_le (by rw [List.length_set, HOL.out, HR3.out]; exact Nat.le_refl _)
          have T2 : List.take q (a.hv.set k true) = a.hv.set k true := List.take_of_length_le (by rw [List.length_set, HR3.out]; exact Nat.le_refl _)
          have E1 : Lst w6 (fun b => b < w.heap.size ∨ (L + 1 < b ∧ b < wr.heap.size)) 2 ROq (.slice B7 n7 d7) (a.ops.set k o) := by
            have h1 := HG1.out
            rw [T1] at h1
            obtain ⟨xs1, o1, -⟩ := id h1
            have := (GqB.gq rd_Oq (Y := fun b => b < w.heap.size ∨ (L + 1 < b ∧ b < wr.heap.size)) h1 (by omega) (by omega) (fun b h => .inl h) (fun b e => .inr (by have := o1.lt b e; omega))).lst rd_Oq (by decide) (by rw [List.length_set, HOL.out, HR3.out]; unfold maxLen; omega)
            exact (this.keep rd_Oq (Kp.of_below hb)).more rd_Oq fun b h => h.1
          have E2 : Lst w6 (fun b => b < w.heap.size ∨ (L + 1 < b ∧ b < wr.heap.size)) 1 RBq (.slice B8 n8 d8) (a.hv.set k true) := by
            have h1 := HG2.out
            rw [T2] at h1
            obtain ⟨xs1, o1, -⟩ := id h1
            have := (GqB.gq rd_Bq (Y := fun b => b < w.heap.size ∨ (L + 1 < b ∧ b < wr.heap.size)) h1 (by omega) (by omega) (fun b h => .inl h) (fun b e => .inr (by have := o1.lt b e; omega))).lst rd_Bq (by decide) (by rw [List.length_set, HR3.out]; unfold maxLen; omega)
            exact (this.keep rd_Bq (Kp.of_below hb)).more rd_Bq fun b h => h.1
          have E0 : Lst w6 (fun b => b < w.heap.size ∨ (L + 1 < b ∧ b < wr.heap.size)) 6 RRq (.slice A1 nr c1) a.rds :=
            (HL1.out.keep rd_Rq ((Kp.lowBelow HBW.out (fun b (h : b < w.heap.size) => by omega)).trans (Kp.of_below hb))).more rd_Rq fun b h => .inl h
          have HBZ := bl_low HZB.out hb (by omega)
          have HBY := HYR.out.keep hb
          have hB6 : Below w.heap.size w w6 := bthen HBR.out hb
          obtain ⟨w7, hw7⟩ : ∃ z, (((w6.setCell ⟨gx, 0, none⟩ (.int .i64 c.next)).setCell ⟨gx, 1, none⟩ (.slice (some ⟨gr, 0, none⟩) m q9)).setCell ⟨gx, 2, none⟩ (.int .i64 c.dur)) = z := ⟨_, rfl⟩
          have HK7 : Hid (Kp (fun b => b ≠ gx) w6 w7) := hide (by subst hw7; exact ((Kp.set ⟨gx, 0, none⟩ _ fun b h => h).trans (Kp.set ⟨gx, 1, none⟩ _ fun b h => h)).trans (Kp.set ⟨gx, 2, none⟩ _ fun b h => h))
          have HG7 : Hid (Gq w7 (fun b => b < w.heap.size ∨ (L + 1 < b ∧ b ≠ gx)) wr.heap.size 51 4 RAq (.slice (some ⟨gr, 0, none⟩) m q9) c.atts) := hide (by subst hw7; exact ((hG9.set rd_Aq ngx 0 _).set rd_Aq ngx 1 _).set rd_Aq ngx 2 _)
          have HO7 : Hid (w7.ownsRow wr.heap.size 51 4 (.slice (some ⟨gr, 0, none⟩) m q9) m xs0) := hide (by subst hw7; exact own_set (p := ⟨gx, 2, none⟩) (own_set (p := ⟨gx, 1, none⟩) (own_set (p := ⟨gx, 0, none⟩) hown' hne _) hne _) hne _)
          have HX7 : Hid (Bl w7 gx [.int .i64 c.next, .slice (some ⟨gr, 0, none⟩) m q9, .int .i64 c.dur]) := hide (by subst hw7; exact ((hBX.put (k := 0) (by simp) _).put (k := 1) (by simp) _).put (k := 2) (by simp) _)
          have zne : gx ≠ L + 1 := by omega
          have yne : gx ≠ w.heap.size + 1 + 1 := by omega
          have HZ7 : Hid (Bl w7 (L + 1) [.int .i64 a.num, .slice A1 nr c1, .slice B7 n7 d7, .slice B8 n8 d8]) := hide (by subst hw7; exact ((HBZ.far (p := ⟨gx, 0, none⟩) zne _).far (p := ⟨gx, 1, none⟩) zne _).far (p := ⟨gx, 2, none⟩) zne _)
          have HY7 : Hid (Bl w7 (w.heap.size + 1 + 1) [.int .i64 0, .slice none 0 0, .int .i64 0]) := hide (by subst hw7; exact ((HBY.far (p := ⟨gx, 0, none⟩) yne _).far (p := ⟨gx, 1, none⟩) yne _).far (p := ⟨gx, 2, none⟩) yne _)
          have HB7 : Hid (Below w.heap.size w w7) := hide (by subst hw7; exact ((hB6.setCell (p := ⟨gx, 0, none⟩) (by show w.heap.size ≤ gx; omega) _).setCell (p := ⟨gx, 1, none⟩) (by show w.heap.size ≤ gx; omega) _).setCell (p := ⟨gx, 2, none⟩) (by show w.heap.size ≤ gx; omega) _)
          have HRA : Hid (RAq w7 (fun b => (b < w.heap.size ∨ (L + 1 < b ∧ b ≠ gx)) ∧ b < w7.heap.size ∧ b ≠ gr) [.int .i64 a.num, .slice A1 nr c1, .slice B7 n7 d7, .slice B8 n8 d8] (repA a k o)) := hide (by
            have kz : ∀ b, (b < w.heap.size ∨ (L + 1 < b ∧ b < wr.heap.size)) → b ≠ gx := fun b h => by omega
            have mz : ∀ b, (b < w.heap.size ∨ (L + 1 < b ∧ b < wr.heap.size)) → (b < w.heap.size ∨ (L + 1 < b ∧ b ≠ gx)) ∧ b < w7.heap.size ∧ b ≠ gr := fun b h => by have := HK7.out.1; omega
            exact ⟨_, _, _, rfl, (E0.keep rd_Rq (HK7.out.less kz)).more rd_Rq mz, (E1.keep rd_Oq (HK7.out.less kz)).more rd_Oq mz, (E2.keep rd_Bq (HK7.out.less kz)).more rd_Bq mz, HNU.out⟩)
          have q0 := hBX.c 0 _ rfl
          have q1 := hBX.c 1 _ rfl
          have q2 := hBX.c 2 _ rfl
          have p0 := hBX.f 0
          have p1 := hBX.f 1
          have p2 := hBX.f 2
          rw [eA, eX]
          clear E0 E1 E2 HBZ HBY hB6 hBX hG9 hG hown hown' hel HG1 HG2 hP T1 T2 eA eX hb HZB HYR HXR HBW HBR HEL HAT HL1 HL2 HL3
          go_upto_region 22 with (fail)
          clear q0 q1 q2 p0 p1 p2 hw7
          have x0 := HX7.out.c 1 _ rfl
          have z0 := HZ7.out.c 0 _ rfl
          have z1 := HZ7.out.c 1 _ rfl
          have z2 := HZ7.out.c 2 _ rfl
          have z3 := HZ7.out.c 3 _ rfl
          have hil : (j + 1) * 4 + 4 ≤ m * 4 := by have h1 := HI.out; rw [HM.out] at h1; omega
          have hxl : xs0.length = m * 4 := HO7.out.1
          obtain ⟨b0, g0⟩ : ∃ u, w7.cell? ⟨gr, (j + 1) * 4, none⟩ = some u := ⟨_, own_cell HO7.out (k := (j + 1) * 4) (List.getElem?_eq_getElem (by omega))⟩
          obtain ⟨b1, g1⟩ : ∃ u, w7.cell? ⟨gr, (j + 1) * 4 + 1, none⟩ = some u := ⟨_, own_cell HO7.out (k := (j + 1) * 4 + 1) (List.getElem?_eq_getElem (by omega))⟩
          obtain ⟨b2, g2⟩ : ∃ u, w7.cell? ⟨gr, (j + 1) * 4 + 2, none⟩ = some u := ⟨_, own_cell HO7.out (k := (j + 1) * 4 + 2) (List.getElem?_eq_getElem (by omega))⟩
          obtain ⟨b3, g3⟩ : ∃ u, w7.cell? ⟨gr, (j + 1) * 4 + 3, none⟩ = some u := ⟨_, own_cell HO7.out (k := (j + 1) * 4 + 3) (List.getElem?_eq_getElem (by omega))⟩
          have p0 := own_free HO7.out ((j + 1) * 4)
          have p1 := own_free HO7.out ((j + 1) * 4 + 1)
          have p2 := own_free HO7.out ((j + 1) * 4 + 2)
          have p3 := own_free HO7.out ((j + 1) * 4 + 3)
          have hil2 := hide hil
          have hxl2 := hide hxl
          clear hil hxl
          obtain ⟨w8, hw8⟩ : ∃ z, ((((w7.setCell ⟨gr, (j + 1) * 4, none⟩ (.int .i64 a.num)).setCell ⟨gr, (j + 1) * 4 + 1, none⟩ (.slice A1 nr c1)).setCell ⟨gr, (j + 1) * 4 + 2, none⟩ (.slice B7 n7 d7)).setCell ⟨gr, (j + 1) * 4 + 3, none⟩ (.slice B8 n8 d8)) = z := ⟨_, rfl⟩
          have HG8 : Hid (Gq w8 (fun b => b < w.heap.size ∨ (L + 1 < b ∧ b ≠ gx)) wr.heap.size 51 4 RAq (.slice (some ⟨gr, 0, none⟩) m q9) (c.atts.set (j + 1) (repA a k o))) := hide (by
            subst hw8
            have h1 := HG7.out
            rw [← HM.out] at h1 ⊢
            exact gq_put4 rd_Aq h1 HI.out _ _ _ _ _ HRA.out)
          have HX8 : Hid (Bl w8 gx [.int .i64 c.next, .slice (some ⟨gr, 0, none⟩) m q9, .int .i64 c.dur]) := hide (by subst hw8; exact (((HX7.out.far (p := ⟨gr, (j + 1) * 4, none⟩) gne _).far (p := ⟨gr, (j + 1) * 4 + 1, none⟩) gne _).far (p := ⟨gr, (j + 1) * 4 + 2, none⟩) gne _).far (p := ⟨gr, (j + 1) * 4 + 3, none⟩) gne _)
          have yn2 : gr ≠ w.heap.size + 1 + 1 := by omega
          have HY8 : Hid (Bl w8 (w.heap.size + 1 + 1) [.int .i64 0, .slice none 0 0, .int .i64 0]) := hide (by subst hw8; exact (((HY7.out.far (p := ⟨gr, (j + 1) * 4, none⟩) yn2 _).far (p := ⟨gr, (j + 1) * 4 + 1, none⟩) yn2 _).far (p := ⟨gr, (j + 1) * 4 + 2, none⟩) yn2 _).far (p := ⟨gr, (j + 1) * 4 + 3, none⟩) yn2 _)
          have HB8 : Hid (Below w.heap.size w w8) := hide (by subst hw8; exact (((HB7.out.setCell (p := ⟨gr, (j + 1) * 4, none⟩) (by show w.heap.size ≤ gr; omega) _).setCell (p := ⟨gr, (j + 1) * 4 + 1, none⟩) (by show w.heap.size ≤ gr; omega) _).setCell (p := ⟨gr, (j + 1) * 4 + 2, none⟩) (by show w.heap.size ≤ gr; omega) _).setCell (p := ⟨gr, (j + 1) * 4 + 3, none⟩) (by show w.heap.size ≤ gr; omega) _)
          clear HG7 HX7 HZ7 HY7 HB7 HO7 HRA HK7
          go_upto_region 23 with (fail)
          clear x0 z0 z1 z2 z3 g0 g1 g2 g3 p0 p1 p2 p3 hw8
          have x0 := HX8.out.c 0 _ rfl
          have x1 := HX8.out.c 1 _ rfl
          have x2 := HX8.out.c 2 _ rfl
          have y0 := HY8.out.c 0 _ rfl
          have y1 := HY8.out.c 1 _ rfl
          have y2 := HY8.out.c 2 _ rfl
          have v0 := HY8.out.f 0
          have v1 := HY8.out.f 1
          have v2 := HY8.out.f 2
          go_wp2
          have nrb : ¬ (w.heap.size + 1 + 1 < w.heap.size ∨ (L + 1 < w.heap.size + 1 + 1 ∧ w.heap.size + 1 + 1 ≠ gx)) := by omega
          have hfin := (((HG8.out.set rd_Aq nrb 0 (.int .i64 c.next)).set rd_Aq nrb 1 (.slice (some ⟨gr, 0, none⟩) m q9)).set rd_Aq nrb 2 (.int .i64 c.dur)).lst rd_Aq (by decide) (by rw [List.length_set]; exact HMW.out)
          refine bodyPost_ret (v := .tuple #[.agg #[.int .i64 c.next, .slice (some ⟨gr, 0, none⟩) m q9, .int .i64 c.dur], .int .i64 0]) (by rw [results_ct rfl]; go_simp) rfl ?_
          rw [HC.out]
          exact ⟨_, rfl, ⟨_, rfl, hfin.more rd_Aq fun b h => h.2, HQ.out.1, HQ.out.2⟩, ((HB8.out.setCell (p := ⟨w.heap.size + 1 + 1, 0, none⟩) (by show w.heap.size ≤ w.heap.size + 1 + 1; omega) _).setCell (p := ⟨w.heap.size + 1 + 1, 1, none⟩) (by show w.heap.size ≤ w.heap.size + 1 + 1; omega) _).setCell (p := ⟨w.heap.size + 1 + 1, 2, none⟩) (by show w.heap.size ≤ w.heap.size + 1 + 1; omega) _⟩
end
end Go.Proofs.Ytihbonndinnohaa
