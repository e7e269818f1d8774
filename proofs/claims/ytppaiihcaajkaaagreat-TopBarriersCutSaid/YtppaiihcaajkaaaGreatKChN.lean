/- channel: Peek, Receive. channel.Receive: written by genCh6.py. channel.Send of one item. channel.Begin of two readers and two workers. -/
import Derived.Test.YtppaiihcaajkaaaGreatKChM
import Derived.Test.YtppaiihcaajkaaaGreatKRcvM
namespace Go.Proofs.YtppaiihcaajkaaaGreat
open Go.RowKit
set_option linter.unusedVariables false
set_option linter.unusedSimpArgs false
def putQ (qs : List Que) (i : Nat) (l : List Itm) : List Que := qs.modify i fun q => ⟨q.f, q.t, l⟩
theorem putQ_len {qs : List Que} {i : Nat} {l : List Itm} : (putQ qs i l).length = qs.length := by simp [putQ]
theorem putQ_at {qs : List Que} {i j : Nat} {l : List Itm} (h : j < (putQ qs i l).length) : (putQ qs i l)[j] = if j = i then ⟨(qs[j]'(by rw [putQ_len] at h; exact h)).f, (qs[j]'(by rw [putQ_len] at h; exact h)).t, l⟩ else qs[j]'(by rw [putQ_len] at h; exact h) := by
  simp only [putQ]
  rw [List.getElem_modify]
  by_cases e : i = j
  · rw [if_pos e, if_pos e.symm]
  · rw [if_neg e, if_neg (fun h => e h.symm)]
theorem results_tct {fn : Func} {p u v : Tmp} {ty : TypeId} (h : fn.results = #[.tmp p, .cell u ty, .tmp v]) (tmps : Array Value) (P : Program) (w : World) :
    (results fn tmps).run P w =
      ((asAddr (tmps.getD u undef)).run P w).andThen fun a w₁ => ((loadVar ty a).run P w₁).andThen fun x w₂ => .ok (.tuple #[tmps.getD p undef, x, tmps.getD v undef]) w₂ := by
  simp only [results, h]
  simp [Sem.run_bind, Result.andThen]
/-- Queues of own memory, one of which is about to be stored. -/
theorem cq_fin {w : World} {base : Nat} {W0 : World} {g c ix : Nat} {vs : Nat → Value} {qs : List Que} {xs : List Value} {v9 : Value} {l9 : List Itm} (hok : QsOK qs) (hix : ix < 4)
    (hrow : w.ownsRow base 88 3 (.slice (some ⟨g, 0, none⟩) 4 c) 4 xs) (hxs : ∀ j (h : j < qs.length), xs[j * 3]? = some (.int .i64 qs[j].f) ∧ xs[j * 3 + 1]? = some (.int .i64 qs[j].t) ∧ xs[j * 3 + 2]? = some (vs j))
    (hel : ∀ j (h : j < qs.length), j ≠ ix → Lst w (fun b => base ≤ b ∧ b < w.heap.size ∧ b ≠ g) 7 (RIt W0) (vs j) qs[j].l) (hv9 : Lst w (fun b => base ≤ b ∧ b < w.heap.size ∧ b ≠ g) 7 (RIt W0) v9 l9) :
    Lst (w.setCell ⟨g, ix * 3 + 2, none⟩ v9) (fun b => base ≤ b ∧ b < w.heap.size) 3 (RQu W0) (.slice (some ⟨g, 0, none⟩) 4 c) (putQ qs ix l9) := by
  have h6 := hrow.stored (ix * 3 + 2) v9
  have hlen := hok.len
  have hpl : (putQ qs ix l9).length = 4 := by rw [putQ_len]; exact hlen
  have hgl := hrow.lt g rfl
  have hcap : 4 ≤ c := by
    rcases hrow.2 with ⟨e, -⟩ | ⟨g', cap', cur, e, -, -, hnc, -⟩
    · cases e
    · cases e; exact hnc
  have hkp : Kp (fun b => base ≤ b ∧ b < w.heap.size ∧ b ≠ g) w (w.setCell ⟨g, ix * 3 + 2, none⟩ v9) := Kp.set ⟨g, ix * 3 + 2, none⟩ _ fun b hb => hb.2.2
  refine ⟨⟨_, c, by rw [hpl], by rw [hpl]; exact hcap, by rw [hpl]; unfold maxLen; omega⟩, fun j hj => ?_⟩
  have hjq : j < qs.length := by rw [putQ_len] at hj; exact hj
  obtain ⟨a1, a2, a3⟩ := hxs j hjq
  have hft := hok.ft j hjq
  have hxl : ∀ k u, xs[k]? = some u → k < xs.length := fun k u h => (List.getElem?_eq_some_iff.1 h).1
  by_cases e : j = ix
  · subst e
    refine ⟨g, 0, c, [.int .i64 qs[j].f, .int .i64 qs[j].t, v9], by rw [hpl], hgl, rfl, fun k u hu => ?_, v9, by rw [putQ_at hj, if_pos rfl], ?_, ?_, ?_⟩
    · rw [Nat.zero_add]
      have h3 := hxl _ _ a3
      match k, hu with
      | 0, hu => cases hu; exact own_cell h6.1 (by rw [List.getElem?_set_ne (by omega)]; exact a1)
      | 1, hu => cases hu; exact own_cell h6.1 (by rw [List.getElem?_set_ne (by omega)]; exact a2)
      | 2, hu => cases hu; exact own_cell h6.1 (by rw [List.getElem?_set_self h3])
    · rw [putQ_at hj, if_pos rfl]
      exact (hv9.keep rd_It hkp).more rd_It fun b hb => ⟨hb.1, hb.2.1⟩
    · rw [putQ_at hj, if_pos rfl]
      show inI qs[j].f
      rw [hft.1]; unfold inI; omega
    · rw [putQ_at hj, if_pos rfl]
      show inI qs[j].t
      rw [hft.2]; unfold inI; omega
  · refine ⟨g, 0, c, [.int .i64 qs[j].f, .int .i64 qs[j].t, vs j], by rw [hpl], hgl, rfl, fun k u hu => ?_, vs j, by rw [putQ_at hj, if_neg e], ?_, ?_, ?_⟩
    · rw [Nat.zero_add]
      match k, hu with
      | 0, hu => cases hu; exact own_cell h6.1 (by rw [List.getElem?_set_ne (by omega)]; exact a1)
      | 1, hu => cases hu; exact own_cell h6.1 (by rw [List.getElem?_set_ne (by omega)]; exact a2)
      | 2, hu => cases hu; exact own_cell h6.1 (by rw [List.getElem?_set_ne (by omega)]; exact a3)
    · rw [putQ_at hj, if_neg e]
      exact ((hel j hjq e).keep rd_It hkp).more rd_It fun b hb => ⟨hb.1, hb.2.1⟩
    · rw [putQ_at hj, if_neg e]
      show inI qs[j].f
      rw [hft.1]; unfold inI; omega
    · rw [putQ_at hj, if_neg e]
      show inI qs[j].t
      rw [hft.2]; unfold inI; omega
/-- Whether there is an item. -/
def RetPk (p : Bool) (w : World) (e : Ending) (w' : World) : Prop := ∃ (k a b c d n : Int) (A : Option Addr) (m q : Nat), e = .returned (.tuple #[.agg #[.int .i64 k, .int .i64 a, .int .i64 b, .int .i64 c, .int .i64 d, .slice A m q, .int .i64 n], .bool p, .int .i64 0]) ∧ Below w.heap.size w w'
section
variable (w : World)
set_option maxRecDepth 100000 in
set_option maxHeartbeats 16000000 in
theorem cpeek_any (W0 : World) (qs : List Que) (A : Option Addr) (c ix : Nat) (hl : Lst w (· < w.heap.size) 3 (RQu W0) (.slice A qs.length c) qs) (hok : QsOK qs) (hix : ix < qs.length) :
    Calls Tryz.prog 31 #[.slice A qs.length c, .int .i64 ((ix / 2 : Nat) : Int), .int .i64 ((ix % 2 : Nat) : Int)] w (RetPk (decide (0 < qs[ix].l.length)) w) := by
  have hm : qs.length = 4 := hok.len
  have HFD := hide (fun (w1 : World) (hb : Below w.heap.size w w1) => cfind_any w1 W0 qs A c ix (hl.below rd_Qu hb) hok (by omega))
  obtain ⟨F, hF⟩ : ∃ F : Int, ((ix / 2 : Nat) : Int) = F := ⟨_, rfl⟩
  obtain ⟨T, hT⟩ : ∃ T : Int, ((ix % 2 : Nat) : Int) = T := ⟨_, rfl⟩
  have HL := hide (fun (w1 : World) (hb : Below w.heap.size w w1) => hl.below rd_Qu hb)
  obtain ⟨g, off, xs, rfl, hg, hxl, hc, hR⟩ := hl.at_ hix
  obtain ⟨q, hq⟩ : ∃ q, qs[ix] = q := ⟨_, rfl⟩
  rw [hq] at hR ⊢
  obtain ⟨v, rfl, hlq, -, -⟩ := hR
  obtain ⟨A1, c1, rfl⟩ := hlq.form
  have HK := hide (fun (w1 : World) (hb : Below w.heap.size w w1) => keep1 hb (hc 2 _ rfl))
  have HLQ := hide (fun (w1 : World) (hb : Below w.heap.size w w1) => hlq.below rd_It hb)
  have hi0 : (0 : Int) ≤ (ix : Int) := by omega
  have hi1 : (ix : Int) < 4 := by omega
  simp only [hF, hT, hm] at HFD ⊢
  obtain ⟨n1, hn1⟩ : ∃ n1, q.l.length = n1 := ⟨_, rfl⟩
  have HN := hide hn1
  simp only [hn1] at HK ⊢
  have HX := hide (Bl.new w [.int .i64 0, .int .i64 0, .int .i64 0, .int .i64 0, .int .i64 0, .slice none 0 0, .int .i64 0] 58)
  have HB := hide (below_laid (w := w) (.cells #[.int .i64 0, .int .i64 0, .int .i64 0, .int .i64 0, .int .i64 0, .slice none 0 0, .int .i64 0] 58))
  clear hl hok hF hT hc hxl hq hlq hn1 hix hm hg
  go_enter Tryz.func31, Tryz.ntmps31
  go_upto_region 1 with (fail)
  obtain ⟨W1, hW1⟩ : ∃ W1, w.alloc (.cells #[.int .i64 0, .int .i64 0, .int .i64 0, .int .i64 0, .int .i64 0, .slice none 0 0, .int .i64 0] 58) = W1 := ⟨_, rfl⟩
  rw [hW1] at HX HB ⊢
  clear hW1
  have HFD1 := hide (HFD.out W1 HB.out)
  go_wp2_with fail
  refine HFD1.out.mono ?_
  rintro e1 w1 ⟨rfl, hb1⟩
  have HX1 := hide (HX.out.keep hb1)
  have HB1 := hide (bthen HB.out hb1)
  clear hb1 HFD HFD1 HX HB
  have k2 := HK.out w1 HB1.out
  have z0 := HX1.out.c 0 _ rfl
  have z1 := HX1.out.c 1 _ rfl
  have z2 := HX1.out.c 2 _ rfl
  have z3 := HX1.out.c 3 _ rfl
  have z4 := HX1.out.c 4 _ rfl
  have z5 := HX1.out.c 5 _ rfl
  have z6 := HX1.out.c 6 _ rfl
  have g0 := HX1.out.f 0
  have g1 := HX1.out.f 1
  have g2 := HX1.out.f 2
  have g3 := HX1.out.f 3
  have g4 := HX1.out.f 4
  have g5 := HX1.out.f 5
  have g6 := HX1.out.f 6
  by_cases hn : n1 = 0
  · subst hn
    go_wp2
    refine bodyPost_ret (v := .tuple #[.agg #[.int .i64 0, .int .i64 0, .int .i64 0, .int .i64 0, .int .i64 0, .slice none 0 0, .int .i64 0], .bool false, .int .i64 0]) (by rw [results_ctt rfl]; go_simp) rfl ?_
    refine ⟨_, _, _, _, _, _, _, _, _, rfl, Off.below (s := w.heap.size) (d := 1) ?_ HB1.out (Nat.le_refl _)⟩
    repeat (first | refine Off.set ?_ (by constructor <;> simp) | exact Off.refl)
  · have t1 : ((n1 : Int) == 0) = false := beq_eq_false_iff_ne.2 (by omega)
    obtain ⟨g', o', ys, rfl, -, -, hyc, hyR⟩ := (HLQ.out w1 HB1.out).at_ (j := 0) (by have := HN.out; omega)
    obtain ⟨A2, c2, rfl, -, -⟩ := hyR
    have y0 := hyc 0 _ rfl
    have y1 := hyc 1 _ rfl
    have y2 := hyc 2 _ rfl
    have y3 := hyc 3 _ rfl
    have y4 := hyc 4 _ rfl
    have y5 := hyc 5 _ rfl
    have y6 := hyc 6 _ rfl
    simp only [Nat.zero_mul, Nat.add_zero] at y0 y1 y2 y3 y4 y5 y6
    generalize (q.l[0]'(by have := HN.out; omega)) = x0 at y0 y1 y2 y3 y4 y5 y6
    clear hyc
    have hu1 : (0 : Int) < (n1 : Int) := by omega
    have hp : decide (0 < n1) = true := decide_eq_true (by omega)
    go_wp2
    refine bodyPost_ret (v := .tuple #[.agg #[.int .i64 x0.k, .int .i64 x0.e.a, .int .i64 x0.e.b, .int .i64 x0.e.c, .int .i64 x0.e.d, .slice A2 x0.e.vs.length c2, .int .i64 x0.n], .bool true, .int .i64 0]) (by rw [results_ctt rfl]; go_simp) rfl ?_
    refine ⟨_, _, _, _, _, _, _, _, _, by (try rw [hp]), Off.below (s := w.heap.size) (d := 1) ?_ HB1.out (Nat.le_refl _)⟩
    repeat (first | refine Off.set ?_ (by constructor <;> simp) | exact Off.refl)
end
end Go.Proofs.YtppaiihcaajkaaaGreat

namespace Go.Proofs.YtppaiihcaajkaaaGreat
open Go.RowKit
set_option linter.unusedVariables false
set_option linter.unusedSimpArgs false
/-- The queues without an item, and this item. -/
def RetRv (W0 : World) (qs : List Que) (x : Itm) (w : World) (e : Ending) (w' : World) : Prop := ∃ g c A k, e = .returned (.tuple #[.slice (some ⟨g, 0, none⟩) 4 c, .agg #[.int .i64 x.k, .int .i64 x.e.a, .int .i64 x.e.b, .int .i64 x.e.c, .int .i64 x.e.d, .slice A x.e.vs.length k, .int .i64 x.n], .int .i64 0]) ∧ Lst w' (fun b => w.heap.size ≤ b ∧ b < w'.heap.size) 3 (RQu W0) (.slice (some ⟨g, 0, none⟩) 4 c) qs ∧ VsE W0 A k x.e ∧ NumI x ∧ Below w.heap.size w w'
theorem Lst.tail_ {α : Type} {R : World → (Nat → Prop) → List Value → α → Prop} {w : World} {Z : Nat → Prop} {sz g off n c : Nat} {x : α} {l : List α} (h : Lst w Z sz R (.slice (some ⟨g, off, none⟩) n c) (x :: l)) : Lst w Z sz R (.slice (if c = 1 then some ⟨g, off, none⟩ else some ⟨g, off + sz, none⟩) (n - 1) (c - 1)) l := by
  obtain ⟨A, cap, e, hc, hm⟩ := h.1
  injection e with e1 e2 e3
  subst e1 e2 e3
  simp only [List.length_cons] at hc hm h ⊢
  by_cases h1 : c = 1
  · have hl0 : l = [] := by cases l with
      | nil => rfl
      | cons y l => simp only [List.length_cons] at hc; omega
    subst hl0
    rw [if_pos h1]
    exact Lst.zero
  · rw [if_neg h1]
    have := h.drop_ 1 (by omega)
    rw [Nat.one_mul] at this
    exact this
theorem gq_lst3 {w : World} {W0 : World} {base g : Nat} {v : Value} {l : List Itm} (h : Gq w (fun _ => True) base 58 7 (RIt W0) v l) (hm : l.length ≤ maxLen) (hg : v.ownBlock ≠ some g) : Lst w (fun b => base ≤ b ∧ b < w.heap.size ∧ b ≠ g) 7 (RIt W0) v l := by
  have h1 := h.lst rd_It (by decide) hm
  obtain ⟨A, c, rfl⟩ := h.form
  refine (h1.only (fun h => h)).more rd_It fun b hb => ⟨(h.low b hb.2).1, hb.1.2, fun e => hg (by rw [← e]; exact hb.2)⟩
section
variable (w : World)
set_option maxRecDepth 100000 in
set_option maxHeartbeats 16000000 in
theorem creceive_any (W0 : World) (qs : List Que) (A : Option Addr) (c ix : Nat) (x : Itm) (r : List Itm) (hl : Lst w (· < w.heap.size) 3 (RQu W0) (.slice A qs.length c) qs) (hok : QsOK qs) (hix : ix < qs.length) (hxr : qs[ix].l = x :: r) :
    Calls Tryz.prog 32 #[.slice A qs.length c, .int .i64 ((ix / 2 : Nat) : Int), .int .i64 ((ix % 2 : Nat) : Int)] w (RetRv W0 (putQ qs ix r) x w) := by
  have hm : qs.length = 4 := hok.len
  have HFD := hide (fun (w1 : World) (hb : Below w.heap.size w w1) => cfind_any w1 W0 qs A c ix (hl.below rd_Qu hb) hok (by omega))
  have HCP := hide (fun (w1 : World) (hb : Below w.heap.size w w1) => ccopied_any w1 W0 qs A c (hl.below rd_Qu hb) hok)
  obtain ⟨F, hF⟩ : ∃ F : Int, ((ix / 2 : Nat) : Int) = F := ⟨_, rfl⟩
  obtain ⟨T, hT⟩ : ∃ T : Int, ((ix % 2 : Nat) : Int) = T := ⟨_, rfl⟩
  have hik := hix
  obtain ⟨g, off, xs, rfl, hg, hxl, hc, hR⟩ := hl.at_ hix
  obtain ⟨v, rfl, hlq, -, -⟩ := hR
  obtain ⟨A1, c1, rfl⟩ := hlq.form
  have HK := hide (fun (w1 : World) (hb : Below w.heap.size w w1) => keep1 hb (hc 2 _ rfl))
  have HIX := hide hix
  have HXR := hide hxr
  have HOK := hide hok
  have HMM := hide hm
  have hi0 : (0 : Int) ≤ (ix : Int) := by omega
  have hi1 : (ix : Int) < 4 := by omega
  simp only [hF, hT, hm] at HFD HCP ⊢
  rw [hxr, List.length_cons] at HK
  obtain ⟨n1, hn1⟩ : ∃ n1, r.length + 1 = n1 := ⟨_, rfl⟩
  have HN := hide hn1
  have hn0 : (0 : Int) < (n1 : Int) := by omega
  have t1 : ((n1 : Int) == 0) = false := beq_eq_false_iff_ne.2 (by omega)
  simp only [hn1] at HK
  have HX := hide (Bl.new w [.int .i64 0, .int .i64 0, .int .i64 0, .int .i64 0, .int .i64 0, .slice none 0 0, .int .i64 0] 58)
  have HB := hide (below_laid (w := w) (.cells #[.int .i64 0, .int .i64 0, .int .i64 0, .int .i64 0, .int .i64 0, .slice none 0 0, .int .i64 0] 58))
  clear hl hok hF hT hc hxl hlq hn1 hm hg hxr
  go_enter Tryz.func32, Tryz.ntmps32
  go_upto_region 1 with (fail)
  obtain ⟨W1, hW1⟩ : ∃ W1, w.alloc (.cells #[.int .i64 0, .int .i64 0, .int .i64 0, .int .i64 0, .int .i64 0, .slice none 0 0, .int .i64 0] 58) = W1 := ⟨_, rfl⟩
  rw [hW1] at HX HB ⊢
  clear hW1
  have HFD1 := hide (HFD.out W1 HB.out)
  go_wp2_with fail
  refine HFD1.out.mono ?_
  rintro e1 w1 ⟨rfl, hb1⟩
  have HX1 := hide (HX.out.keep hb1)
  have HB1 := hide (bthen HB.out hb1)
  clear hb1 HFD HFD1 HX HB
  have k2 := HK.out w1 HB1.out
  have HCP1 := hide (HCP.out w1 HB1.out)
  go_wp2_with fail
  refine HCP1.out.mono ?_
  rintro e2 w2 ⟨g3, c3, vs, rfl, hcq, hb2⟩
  obtain ⟨⟨xs, hrow, hxs⟩, hit, -, hne⟩ := hcq
  have hitx := hit ix HIX.out (by omega)
  rw [HXR.out] at hitx
  obtain ⟨g4, c4, hv, hg4a, hg4b, hg4c⟩ := hitx.1.some_ (by simp)
  have hng : g4 ≠ g3 := fun e => hitx.2 (by rw [hv, e]; rfl)
  rw [hv] at hitx
  obtain ⟨ys, hyl, hyc, hyR⟩ := hitx.1.at_ (j := 0) (by simp)
  obtain ⟨A2, c2, rfl, hvs, hnm⟩ := hyR
  simp only [List.getElem_cons_zero] at hvs hnm hyc
  have q2 := own_cell hrow (hxs ix HIX.out).2.2
  have hfr := hrow.frozenAt (ix * 3 + 2)
  rw [hv] at q2
  have HLI := hide (gq_lst3 hitx.1 (by have := HN.out; simp only [List.length_cons]; have h2 := HOK.out.few _ (List.getElem_mem HIX.out); rw [HXR.out, List.length_cons] at h2; unfold maxLen; omega) hitx.2)
  have HHIT := hide hit
  have HROW := hide hrow
  have HXS := hide hxs
  have HVS := hide hvs
  have HNM := hide hnm
  have HX2 := hide (HX1.out.keep hb2)
  have HB2 := hide (bthen HB1.out hb2)
  have HB12 := hide hb2
  have hz1 := HX1.out.lt
  have hz2 := hb2.size
  have hg3 := hrow.lt g3 rfl
  have hcap3 : 4 ≤ c3 := by
    rcases hrow.2 with ⟨e, -⟩ | ⟨g', cap', cur, e, -, -, hnc, -⟩
    · cases e
    · cases e; exact hnc
  have y0 := hyc 0 _ rfl
  have y1 := hyc 1 _ rfl
  have y2 := hyc 2 _ rfl
  have y3 := hyc 3 _ rfl
  have y4 := hyc 4 _ rfl
  have y5 := hyc 5 _ rfl
  have y6 := hyc 6 _ rfl
  simp only [Nat.zero_mul, Nat.zero_add] at y0 y1 y2 y3 y4 y5 y6
  simp only [List.length_cons, HN.out] at q2 HLI
  have hcap4 : n1 ≤ c4 := by simp only [List.length_cons, HN.out] at hg4c; exact hg4c
  have HCC := hide hcap4
  clear hrow hxs hit hitx hyc hyl hvs hnm hb2 k2 HCP1 HCP HX1 hg4c hv hne
  go_upto_region 8 with (fail)
  obtain ⟨W3, hW3⟩ : ∃ W3, w2.alloc (.cells #[.int .i64 x.k, .int .i64 x.e.a, .int .i64 x.e.b, .int .i64 x.e.c, .int .i64 x.e.d, .slice A2 x.e.vs.length c2, .int .i64 x.n] 58) = W3 := ⟨_, rfl⟩
  have hbW : Below w2.heap.size w2 W3 := by rw [← hW3]; exact below_laid _
  have HB3 := hide (show Bl W3 w2.heap.size [.int .i64 x.k, .int .i64 x.e.a, .int .i64 x.e.b, .int .i64 x.e.c, .int .i64 x.e.d, .slice A2 x.e.vs.length c2, .int .i64 x.n] by rw [← hW3]; exact Bl.new w2 [.int .i64 x.k, .int .i64 x.e.a, .int .i64 x.e.b, .int .i64 x.e.c, .int .i64 x.e.d, .slice A2 x.e.vs.length c2, .int .i64 x.n] 58)
  have HS3 := hide (show W3.heap.size = w2.heap.size + 1 by rw [← hW3]; simp)
  have HBW := hide hbW
  have q2 := keep1 hbW q2
  have hfr := ((bcell hbW).2 g3 (ix * 3 + 2) hg3.2).trans hfr
  have HX3 := hide (HX2.out.keep hbW)
  rw [hW3]
  clear hW3 hbW y0 y1 y2 y3 y4 y5 y6
  go_upto_region 9 with (fail)
  obtain ⟨A5, hA5⟩ : ∃ A5, (if c4 = 1 then some (⟨g4, 0, none⟩ : Addr) else some ⟨g4, 7, none⟩) = A5 := ⟨_, rfl⟩
  rw [hA5]
  have hfin := cq_fin (w := W3) (ix := ix) (v9 := .slice A5 (n1 - 1) (c4 - 1)) (l9 := r) HOK.out (by omega) (own_keep HROW.out HBW.out) HXS.out (fun j hj hji => by
      have hq := HHIT.out j hj (by have := HMM.out; omega)
      have h2 := HOK.out.few _ (List.getElem_mem hj)
      have h3 := gq_lst3 hq.1 (by unfold maxLen; omega) hq.2
      exact (h3.keep rd_It (Kp.of_below HBW.out)).more rd_It fun b hb => ⟨hb.1, Nat.lt_of_lt_of_le hb.2.1 HBW.out.size, hb.2.2⟩) (by
      have h3 := HLI.out.tail_
      simp only [Nat.zero_add] at h3
      rw [hA5] at h3
      exact (h3.keep rd_It (Kp.of_below HBW.out)).more rd_It fun b hb => ⟨hb.1, Nat.lt_of_lt_of_le hb.2.1 HBW.out.size, hb.2.2⟩)
  obtain ⟨W4, hW4⟩ : ∃ W4, W3.setCell ⟨g3, ix * 3 + 2, none⟩ (.slice A5 (n1 - 1) (c4 - 1)) = W4 := ⟨_, rfl⟩
  have hgw : g3 ≠ w.heap.size := by omega
  have hgw2 : g3 ≠ w2.heap.size := by omega
  rw [hW4] at hfin ⊢
  have HFIN := hide hfin
  have HX4 := hide (show Bl W4 w.heap.size [.int .i64 0, .int .i64 0, .int .i64 0, .int .i64 0, .int .i64 0, .slice none 0 0, .int .i64 0] by rw [← hW4]; exact HX3.out.far (p := ⟨g3, ix * 3 + 2, none⟩) hgw _)
  have HY4 := hide (show Bl W4 w2.heap.size [.int .i64 x.k, .int .i64 x.e.a, .int .i64 x.e.b, .int .i64 x.e.c, .int .i64 x.e.d, .slice A2 x.e.vs.length c2, .int .i64 x.n] by rw [← hW4]; exact HB3.out.far (p := ⟨g3, ix * 3 + 2, none⟩) hgw2 _)
  have HB4 := hide (show Below w.heap.size w W4 by rw [← hW4]; exact (bthen HB2.out HBW.out).setCell (p := ⟨g3, ix * 3 + 2, none⟩) (by show w.heap.size ≤ g3; omega) _)
  have HS4 := hide (show W4.heap.size = W3.heap.size by rw [← hW4]; simp [World.setCell])
  clear hW4 hfin hA5 q2 hfr HLI
  have z0 := HX4.out.c 0 _ rfl
  have gf0 := HX4.out.f 0
  have z1 := HX4.out.c 1 _ rfl
  have gf1 := HX4.out.f 1
  have z2 := HX4.out.c 2 _ rfl
  have gf2 := HX4.out.f 2
  have z3 := HX4.out.c 3 _ rfl
  have gf3 := HX4.out.f 3
  have z4 := HX4.out.c 4 _ rfl
  have gf4 := HX4.out.f 4
  have z5 := HX4.out.c 5 _ rfl
  have gf5 := HX4.out.f 5
  have z6 := HX4.out.c 6 _ rfl
  have gf6 := HX4.out.f 6
  have y0 := HY4.out.c 0 _ rfl
  have y1 := HY4.out.c 1 _ rfl
  have y2 := HY4.out.c 2 _ rfl
  have y3 := HY4.out.c 3 _ rfl
  have y4 := HY4.out.c 4 _ rfl
  have y5 := HY4.out.c 5 _ rfl
  have y6 := HY4.out.c 6 _ rfl
  have key := hide (show ∀ W', Off w.heap.size 1 W4 W' → RetRv W0 (putQ qs ix r) x w (.returned (.tuple #[.slice (some ⟨g3, 0, none⟩) 4 c3, .agg #[.int .i64 x.k, .int .i64 x.e.a, .int .i64 x.e.b, .int .i64 x.e.c, .int .i64 x.e.d, .slice A2 x.e.vs.length c2, .int .i64 x.n], .int .i64 0])) W' from fun W' hO => by
    have hs := hO.size
    have hs4 := HS4.out
    exact ⟨g3, c3, A2, c2, rfl, (HFIN.out.keep rd_Qu (hO.kp (fun k hk => .inr (by omega)))).more rd_Qu (fun k (hk : w1.heap.size ≤ k ∧ k < W3.heap.size) => ⟨by omega, by omega⟩), HVS.out, HNM.out, hO.below HB4.out (Nat.le_refl _)⟩)
  go_region
  all_goals
    go_wp2
    refine bodyPost_ret (v := .tuple #[.slice (some ⟨g3, 0, none⟩) 4 c3, .agg #[.int .i64 x.k, .int .i64 x.e.a, .int .i64 x.e.b, .int .i64 x.e.c, .int .i64 x.e.d, .slice A2 x.e.vs.length c2, .int .i64 x.n], .int .i64 0]) (by rw [results_tct rfl]; go_simp) rfl ?_
    exact key.out _ (by repeat (first | with_reducible exact Off.refl | with_reducible refine Off.drew ?_ | (with_reducible refine Off.set ?_ ?_; rotate_left; (constructor <;> simp))))
end
end Go.Proofs.YtppaiihcaajkaaaGreat

namespace Go.Proofs.YtppaiihcaajkaaaGreat
open Go.RowKit
set_option linter.unusedVariables false
set_option linter.unusedSimpArgs false
def RetSd (W0 : World) (qs : List Que) (w : World) (e : Ending) (w' : World) : Prop := ∃ g c, e = .returned (.tuple #[.slice (some ⟨g, 0, none⟩) 4 c, .int .i64 0]) ∧ Lst w' (fun b => w.heap.size ≤ b ∧ b < w'.heap.size) 3 (RQu W0) (.slice (some ⟨g, 0, none⟩) 4 c) qs ∧ Below w.heap.size w w'
section
variable (w : World)
set_option maxRecDepth 100000 in
set_option maxHeartbeats 16000000 in
theorem csend_any (W0 : World) (qs : List Que) (A : Option Addr) (c ix : Nat) (x : Itm) (g2 : Nat) (hl : Lst w (· < w.heap.size) 3 (RQu W0) (.slice A qs.length c) qs) (hok : QsOK qs) (hix : ix < qs.length) (hmo : Lst w (· < w.heap.size) 7 (RIt W0) (.slice (some ⟨g2, 0, none⟩) 1 1) [x]) (hx : ItemOK x) (hfew : qs[ix].l.length + 1 ≤ 4000) :
    Calls Tryz.prog 39 #[.slice A qs.length c, .int .i64 ((ix / 2 : Nat) : Int), .int .i64 ((ix % 2 : Nat) : Int), .slice (some ⟨g2, 0, none⟩) 1 1] w (RetSd W0 (putQ qs ix (qs[ix].l ++ [x])) w) := by
  have hm : qs.length = 4 := hok.len
  obtain ⟨i0, hi, hz0, hz1, hz2⟩ := info_parts iq_item
  have HFD := hide (cfind_any w W0 qs A c ix hl hok (by omega))
  have HIT := hide (fun (w1 : World) (hb : Below w.heap.size w w1) => citems_any w1 W0 [x] (some ⟨g2, 0, none⟩) 1 (hmo.below rd_It hb) (fun y hy => by rw [List.mem_singleton.1 hy]; exact hx))
  have HCP := hide (fun (w1 : World) (hb : Below w.heap.size w w1) => ccopied_any w1 W0 qs A c (hl.below rd_Qu hb) hok)
  obtain ⟨F, hF⟩ : ∃ F : Int, ((ix / 2 : Nat) : Int) = F := ⟨_, rfl⟩
  obtain ⟨T, hT⟩ : ∃ T : Int, ((ix % 2 : Nat) : Int) = T := ⟨_, rfl⟩
  obtain ⟨g, off, xs, rfl, hg, hxl, hc, hR⟩ := hl.at_ hix
  obtain ⟨v, rfl, hlq, -, -⟩ := hR
  obtain ⟨L, hL⟩ : ∃ L, qs[ix].l = L := ⟨_, rfl⟩
  have HLE := hide hL
  rw [hL] at hlq hfew ⊢
  clear hL
  obtain ⟨A1, c1, rfl⟩ := hlq.form
  have HK := hide (fun (w1 : World) (hb : Below w.heap.size w w1) => keep1 hb (hc 2 _ rfl))
  obtain ⟨gm, om, ym, em, hgm, hyl, hyc, hyR⟩ := hmo.at_ (j := 0) (by simp)
  cases em
  simp only [List.getElem_cons_zero, Nat.zero_mul, Nat.zero_add] at hyc hyR
  have HMC := hide (fun (w1 : World) (hb : Below w.heap.size w w1) (k : Nat) (u : Value) (hu : ym[k]? = some u) => keep1 hb (hyc k u hu))
  have HYR := hide hyR
  have HYL := hide hyl
  have HIX := hide hix
  have HOK := hide hok
  have HMM := hide hm
  have HFW := hide hfew
  have hi0 : (0 : Int) ≤ (ix : Int) := by omega
  have hi1 : (ix : Int) < 4 := by omega
  simp only [hF, hT, hm] at HFD HCP ⊢
  obtain ⟨n1, hn1⟩ : ∃ n1, L.length = n1 := ⟨_, rfl⟩
  have HN := hide hn1
  have t1 : decide ((4096 : Int) < (n1 : Int) + 1) = false := decide_eq_false (by omega)
  have hw1 : IntKind.i64.wrap ((n1 : Int) + 1) = (n1 : Int) + 1 := by rw [IntKind.wrap_i64]; omega
  simp only [hn1] at HK
  clear hl hok hF hT hc hxl hlq hn1 hm hg hmo hx hfew hgm hyl hyc hyR
  go_enter Tryz.func39, Tryz.ntmps39
  go_wp2_with fail
  refine HFD.out.mono ?_
  rintro e1 w1 ⟨rfl, hb1⟩
  have HB1 := hide hb1
  have HIT1 := hide (HIT.out w1 hb1)
  clear hb1 HFD
  go_wp2_with fail
  refine HIT1.out.mono ?_
  rintro e2 w2 ⟨rfl, hb2⟩
  have HB2 := hide (bthen HB1.out hb2)
  have k2 := HK.out w2 HB2.out
  have HCP2 := hide (HCP.out w2 HB2.out)
  clear hb2 HIT1 HIT
  go_wp2_with fail
  refine HCP2.out.mono ?_
  rintro e3 w3 ⟨g3, c3, vs, rfl, hcq, hb3⟩
  obtain ⟨⟨xs, hrow, hxs⟩, hit, -, hne⟩ := hcq
  have hitx := hit ix HIX.out (by omega)
  rw [HLE.out] at hitx
  obtain ⟨A4, c4, hv⟩ := hitx.1.form
  have q2 := own_cell hrow (hxs ix HIX.out).2.2
  have hcap3 : 4 ≤ c3 := by
    rcases hrow.2 with ⟨e, -⟩ | ⟨g', cap', cur, e, -, -, hnc, -⟩
    · cases e
    · cases e; exact hnc
  have hg3 := hrow.lt g3 rfl
  have HB3 := hide (bthen HB2.out hb3)
  have hz3 := hb3.size
  have hgx := hitx.1
  rw [hv] at q2 hgx
  rw [HN.out] at q2
  have HGX := hide hgx
  have HV := hide hv
  have HHIT := hide hit
  have HROW := hide hrow
  have HXS := hide hxs
  have HNE := hide hne
  have HCE := hide (fun k u hu => HMC.out w3 HB3.out k u hu)
  have HNW := hide hitx.2
  clear hrow hxs hit hitx hb3 k2 HCP2 HCP hv hne hgx
  have hfr := HROW.out.frozenAt (ix * 3 + 2)
  go_upto_region 10 with (at_builtin; refine wpList_append_gq rd_It rfl _ _ 43 rfl (fun _ => True) w2.heap.size 58 i0 _ 7 72 Tryz.underlying43 hi hz0 hz1 hz2 rfl (by decide) (.slice A4 n1 c4) L rfl (by rw [← HN.out]; exact HGX.out) g2 rfl ym HYL.out (fun k u hu => HCE.out k u hu) (one_It HYR.out) x HYR.out (fun _ _ => trivial) (by have := HN.out; have := HFW.out; omega) (by decide) hz3 ?_; intro v9 w4 hg9 hgr hbl; have HG9 := hide hg9; have HGR := hide hgr; have HBL := hide hbl; obtain ⟨A9, c9, e9⟩ := hg9.form; subst e9; have hfr4 := ((World.frozen?_of_block (w := w3) (w' := w4) (a := ⟨g3, ix * 3 + 2, none⟩) (hgr.block g3 hg3.2 (fun e => HNW.out (by rw [HV.out, HN.out]; exact e.symm))))).trans hfr; have q4 := (World.cell?_of_block (w := w3) (w' := w4) (a := ⟨g3, ix * 3 + 2, none⟩) (hgr.block g3 hg3.2 (fun e => HNW.out (by rw [HV.out, HN.out]; exact e.symm)))).trans q2; clear hg9 hgr hbl)
  have hrow4 := HROW.out.kept HGR.out (.inr (fun e => HNW.out (by rw [HV.out, HN.out]; exact e.symm)))
  have hng : (Value.slice A9 (L ++ [x]).length c9).ownBlock ≠ some g3 := fun e => by
    obtain ⟨ys, hown, -⟩ := HG9.out
    exact own_apart hown hrow4 (by decide) g3 e rfl
  have hln : (L ++ [x]).length ≤ maxLen := by have := HFW.out; rw [List.length_append, List.length_singleton]; unfold maxLen; omega
  have hfin := cq_fin (w := w4) (ix := ix) (v9 := .slice A9 (L ++ [x]).length c9) (l9 := L ++ [x]) HOK.out (by omega) hrow4 HXS.out (fun j hj hji => by
      have hq := HHIT.out j hj (by have := HMM.out; omega)
      have h2 := HOK.out.few _ (List.getElem_mem hj)
      have h3 := gq_lst3 hq.1 (by unfold maxLen; omega) hq.2
      obtain ⟨Aj, cj, ej⟩ := h3.form
      rw [ej] at h3 hq
      have h4 := h3.only (fun h => h)
      rw [ej]
      exact (h4.keep rd_It ⟨HGR.out.size, fun b hb hlt => HGR.out.block b hlt (fun e => HNE.out j ix (by have := HMM.out; omega) (by omega) hji b (by rw [ej]; exact hb.2) (by rw [HV.out, HN.out]; exact e.symm))⟩).more rd_It fun b hb => ⟨hb.1.1, Nat.lt_of_lt_of_le hb.1.2.1 HGR.out.size, hb.1.2.2⟩) (gq_lst3 HG9.out hln hng)
  obtain ⟨W5, hW5⟩ : ∃ W5, w4.setCell ⟨g3, ix * 3 + 2, none⟩ (.slice A9 (L ++ [x]).length c9) = W5 := ⟨_, rfl⟩
  rw [hW5] at hfin
  have hb5 : Below w.heap.size w W5 := by rw [← hW5]; exact (HB3.out.trans (HBL.out.mono HB2.out.size)).setCell (p := ⟨g3, ix * 3 + 2, none⟩) (by show w.heap.size ≤ g3; have := HB2.out.size; omega) _
  have hs5 : W5.heap.size = w4.heap.size := by rw [← hW5]; simp [World.setCell]
  have hw2 := HB2.out.size
  have HFIN := hide hfin
  have HB5 := hide hb5
  have HLA := hide (show (L ++ [x]).length = n1 + 1 by rw [List.length_append, List.length_singleton, HN.out])
  first | rw [hW5] | (rw [HLA.out] at hW5; rw [hW5]) | (simp only [List.length_append, List.length_singleton, HN.out] at hW5 ⊢; rw [hW5])
  clear hW5 hfin hb5 hrow4 hng hln q2 q4 hfr hfr4
  go_wp2
  go_ret2
  exact ⟨g3, c3, rfl, HFIN.out.more rd_Qu (fun k (hk : w2.heap.size ≤ k ∧ k < w4.heap.size) => ⟨by omega, by omega⟩), HB5.out⟩
end
end Go.Proofs.YtppaiihcaajkaaaGreat

namespace Go.Proofs.YtppaiihcaajkaaaGreat
open Go.RowKit
set_option linter.unusedVariables false
set_option linter.unusedSimpArgs false
def qs0 : List Que := [⟨0, 0, []⟩, ⟨0, 1, []⟩, ⟨1, 0, []⟩, ⟨1, 1, []⟩]
theorem qs0_ok : QsOK qs0 := by
  refine ⟨rfl, fun j h => ?_, fun q hq x hx => ?_, fun q hq => ?_⟩
  · have : j = 0 ∨ j = 1 ∨ j = 2 ∨ j = 3 := by simp [qs0] at h; omega
    rcases this with rfl | rfl | rfl | rfl <;> exact ⟨rfl, rfl⟩
  · simp only [qs0, List.mem_cons, List.not_mem_nil, or_false] at hq
    rcases hq with rfl | rfl | rfl | rfl <;> cases hx
  · simp only [qs0, List.mem_cons, List.not_mem_nil, or_false] at hq
    rcases hq with rfl | rfl | rfl | rfl <;> exact Nat.zero_le _
theorem qs0_next {a b : Nat} (ha : a < 2) (hb : b < 2) : qs0.take (2 * a + b) ++ [⟨(a : Int), (b : Int), []⟩] = qs0.take (2 * a + (b + 1)) := by
  have h1 : a = 0 ∨ a = 1 := by omega
  have h2 : b = 0 ∨ b = 1 := by omega
  rcases h1 with rfl | rfl <;> rcases h2 with rfl | rfl <;> rfl
theorem qs0_len {a b : Nat} (ha : a < 2) (hb : b < 2) : (qs0.take (2 * a + b)).length < 1099511627776 := by
  rw [List.length_take]; simp [qs0]; omega
section
variable (w : World)
set_option maxRecDepth 100000 in
set_option maxHeartbeats 16000000 in
theorem cbegin_any (W0 : World) : Calls Tryz.prog 18 #[.int .i64 2, .int .i64 2] w (RetSd W0 qs0 w) := by
  obtain ⟨i0, hi, hz0, hz1, hz2⟩ := info_parts iq_queue
  have HG0 := hide (show Gq w (fun b => w.heap.size ≤ b) w.heap.size 88 3 (RQu W0) (.slice none 0 0) (qs0.take (2 * 0)) from Gq.nil)
  go_enter Tryz.func18, Tryz.ntmps18
  go_wp2
  go_loopw [6, 24] (fun v i wr => ∃ a : Nat, a ≤ 2 ∧ i = .int .i64 a ∧ Hid (Gq wr (fun b => w.heap.size ≤ b) w.heap.size 88 3 (RQu W0) v (qs0.take (2 * a))) ∧ Hid (Below w.heap.size w wr)) (fun _ i _ => 2 - (intOf i).toNat)
  case atStart => exact ⟨0, by omega, rfl, HG0, hide (Below.refl _ _)⟩
  case round =>
    clear HG0
    rename_i v0 _
    obtain ⟨a, ha, rfl, HG, HB⟩ := hrel
    by_cases hlt : a < 2
    · have hu0 : (0 : Int) ≤ (a : Int) := by omega
      have hu1 : (a : Int) < 2 := by omega
      have HA := hide (show inI (a : Int) by unfold inI; omega)
      go_wp2
      go_loopw [6, 28] (fun v i wx => ∃ b : Nat, b ≤ 2 ∧ i = .int .i64 b ∧ Hid (Gq wx (fun b => w.heap.size ≤ b) w.heap.size 88 3 (RQu W0) v (qs0.take (2 * a + b))) ∧ Hid (Below w.heap.size w wx)) (fun _ i _ => 2 - (intOf i).toNat)
      case atStart => exact ⟨0, by omega, rfl, HG, HB⟩
      case round =>
        clear HG HB
        obtain ⟨b, hb, rfl, HG, HB⟩ := hrel
        by_cases hlb : b < 2
        · have hv0 : (0 : Int) ≤ (b : Int) := by omega
          have hv1 : (b : Int) < 2 := by omega
          have hg := HG.out
          obtain ⟨A, c, e⟩ := hg.form
          subst e
          obtain ⟨n, hn⟩ : ∃ n, (qs0.take (2 * a + b)).length = n := ⟨_, rfl⟩
          rw [hn] at HG ⊢
          have HLN := hide (qs0_len hlt hlb)
          have HNX := hide (qs0_next hlt hlb)
          have HGL := hide (HG.out.keep rd_Qu (below_laid (.cells #[.int .i64 (a : Int), .int .i64 (b : Int), .slice none 0 0] 88)))
          have HB8 := hide (show inI (b : Int) by unfold inI; omega)
          have HOC := hide (show ∀ y ∈ ([.int .i64 (a : Int), .int .i64 (b : Int), .slice none 0 0] : List Value), y.oneCell' = true by simp [Value.oneCell'])
          have HQY := hide (show ∀ (W : World) (Z : Nat → Prop), RQu W0 W Z [.int .i64 (a : Int), .int .i64 (b : Int), .slice none 0 0] ⟨(a : Int), (b : Int), []⟩ from fun W Z => ⟨.slice none 0 0, rfl, Lst.nil, HA.out, HB8.out⟩)
          have HBZ := hide (Nat.le_trans HB.out.size (below_laid (w := wr) (.cells #[.int .i64 (a : Int), .int .i64 (b : Int), .slice none 0 0] 88)).size)
          clear hg hn
          go_wp2_with (at_builtin; go_loud (refine wpList_append_gq rd_Qu rfl _ _ 37 rfl (fun b => w.heap.size ≤ b) w.heap.size 88 i0 _ 3 40 Tryz.underlying37 hi hz0 hz1 hz2 rfl (by decide) (.slice A n c) (qs0.take (2 * a + b)) rfl HGL.out wr.heap.size rfl [.int .i64 (a : Int), .int .i64 (b : Int), .slice none 0 0] rfl (cells_lit wr [.int .i64 (a : Int), .int .i64 (b : Int), .slice none 0 0] 88) HOC.out ⟨(a : Int), (b : Int), []⟩ (HQY.out _ _) (fun b hb => Nat.le_trans HBZ.out hb) HLN.out (by decide) HBZ.out ?_; intro v9 w4 hg9 hgr hbl; rw [HNX.out] at hg9; have HG9 := hide hg9; have HB9 := hide (HB.out.trans (((below_laid (w := wr) (.cells #[.int .i64 (a : Int), .int .i64 (b : Int), .slice none 0 0] 88)).mono HB.out.size).trans hbl)); clear hg9 hgr hbl))
          go_roundw
          case rel => exact ⟨b + 1, by omega, by go_num, HG9, HB9⟩
          case measure => simp [intOf]; omega
        · obtain rfl : b = 2 := by omega
          go_wp2
          go_roundw
          case rel => exact ⟨a + 1, by omega, by go_num, HG, HB⟩
          case measure => simp [intOf]; omega
    · obtain rfl : a = 2 := by omega
      have hg := HG.out
      obtain ⟨A, c, e⟩ := hg.form
      subst e
      obtain ⟨g, c', e, hg1, hg2, -⟩ := hg.some_ (by decide)
      have HL := hide (hg.lst rd_Qu (by decide) (by unfold maxLen; decide))
      rw [e] at HL ⊢
      have HLL := hide HL.out
      clear hg e
      go_wp2
      go_ret2
      exact ⟨g, c', rfl, HLL.out.more rd_Qu (fun k hk => ⟨hk.1, hk.2⟩), HB.out⟩
end
end Go.Proofs.YtppaiihcaajkaaaGreat
