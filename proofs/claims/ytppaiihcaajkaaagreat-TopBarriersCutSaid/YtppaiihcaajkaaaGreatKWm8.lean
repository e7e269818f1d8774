/- watermark.Receive: written by genWm8.py. -/
import Derived.Test.YtppaiihcaajkaaaGreatKWm7
import Derived.Test.YtppaiihcaajkaaaGreatXAll
namespace Go.Proofs.YtppaiihcaajkaaaGreat
open Go.RowKit
set_option linter.unusedVariables false
set_option linter.unusedSimpArgs false
/-- A list in memory from B0 on. -/
def ListV {α : Type} (B0 sz : Nat) (R : World → (Nat → Prop) → List Value → α → Prop) (l : List α) : World → Value → Prop := fun w v => Lst w (fun k => B0 ≤ k ∧ k < w.heap.size) sz R v l
theorem ListV.keep {α : Type} {B0 sz : Nat} {R : World → (Nat → Prop) → List Value → α → Prop} {l : List α} {w w' : World} {v : Value} (h : ListV B0 sz R l w v) (hk : Kp (fun b => B0 ≤ b ∧ b < w.heap.size) w w') (hR : Rd R) : ListV B0 sz R l w' v := (Lst.keep hR hk h).more hR fun b hb => ⟨hb.1, Nat.lt_of_lt_of_le hb.2 hk.1⟩
theorem ListV.form {α : Type} {B0 sz : Nat} {R : World → (Nat → Prop) → List Value → α → Prop} {l : List α} {w : World} {v : Value} (h : ListV B0 sz R l w v) : ∃ A n c, v = .slice A n c := by
  obtain ⟨A, c, e⟩ := Lst.form h
  exact ⟨A, _, c, e⟩
theorem ListV.of_own {α : Type} {R : World → (Nat → Prop) → List Value → α → Prop} {w : World} {B0 sz : Nat} {te : TypeId} {v : Value} {cells : List (List Value)} {l : List α} (hR : ∀ {w w' Z Z' xs x}, R w Z xs x → R w' Z' xs x) (hsz : 0 < sz) (hown : w.ownsRow B0 te sz v cells.length cells.flatten) (hcl : cells.length = l.length) (hm : l.length ≤ maxLen) {w0 : World} {Z0 : Nat → Prop}
    (hce : ∀ j (hj : j < l.length), ∃ xs, cells[j]? = some xs ∧ xs.length = sz ∧ R w0 Z0 xs l[j]) : ListV B0 sz R l w v := lst_own hR hsz hown hcl hm hce
theorem Own1.imp {p q : World → Value → Prop} {w w' : World} {vs : List Value} (h : ∀ v, p w v → q w' v) (ho : Own1 p w vs) : Own1 q w' vs := by
  obtain ⟨v, e, hp⟩ := ho
  exact ⟨v, e, h v hp⟩
theorem frozen_set {w : World} {g c o : Nat} {u : Value} (h : w.frozen? ⟨g, c, none⟩ = false) : (w.setCell ⟨g, o, none⟩ u).frozen? ⟨g, c, none⟩ = false := by
  unfold World.frozen? at h ⊢
  simp only [World.setCell]
  rw [Array.getElem?_modify, if_pos rfl]
  rw [show (⟨g, c, none⟩ : Addr).block = g from rfl] at h
  revert h
  cases w.heap[g]? with
  | none => simp
  | some o => cases o <;> simp
def CellF (g o : Nat) : World → List Value → Prop := fun w vs => ∀ v, vs = [v] → w.cell? ⟨g, o, none⟩ = some v
theorem ListV.low {α : Type} {B0 B1 sz : Nat} {R : World → (Nat → Prop) → List Value → α → Prop} {l : List α} {w : World} {v : Value} (h : ListV B0 sz R l w v) (hR : Rd R) (hb : B1 ≤ B0) : ListV B1 sz R l w v := Lst.more hR (fun b hb' => ⟨Nat.le_trans hb hb'.1, hb'.2⟩) h
/-- The lists of the element i of the row g lie behind the row. -/
def NewL (g i : Nat) (y : Trk) (w : World) : Prop := ∃ u v, w.cell? ⟨g, i * 4 + 1, none⟩ = some u ∧ w.cell? ⟨g, i * 4 + 2, none⟩ = some v ∧ ListV (g + 1) 1 RIn y.beyond w u ∧ ListV (g + 1) 2 RPn y.points w v
theorem NewL.keep {g i : Nat} {y : Trk} {w w' : World} (h : NewL g i y w) (hb : Below w.heap.size w w') : NewL g i y w' := by
  obtain ⟨u, v, h1, h2, h3, h4⟩ := h
  exact ⟨u, v, keep1 hb h1, keep1 hb h2, h3.keep (Kp.of_below hb) rd_In, h4.keep (Kp.of_below hb) rd_Pn⟩
theorem NewL.drew {g i : Nat} {y : Trk} {w : World} (h : NewL g i y w) : NewL g i y w.drew := h.keep ((Below.refl _ _).drew)
theorem NewL.far {g i o : Nat} {y : Trk} {w : World} (h : NewL g i y w) (h1 : o ≠ i * 4 + 1) (h2 : o ≠ i * 4 + 2) (z : Value) : NewL g i y (w.setCell ⟨g, o, none⟩ z) := by
  obtain ⟨u, v, e1, e2, h3, h4⟩ := h
  exact ⟨u, v, (World.cell?_setCell_other _ _ _ _ (by intro hh; injection hh with _ hh _; omega)).trans e1, (World.cell?_setCell_other _ _ _ _ (by intro hh; injection hh with _ hh _; omega)).trans e2, h3.keep (Kp.set ⟨g, o, none⟩ _ fun b hb => by show b ≠ g; have := hb.1; omega) rd_In, h4.keep (Kp.set ⟨g, o, none⟩ _ fun b hb => by show b ≠ g; have := hb.1; omega) rd_Pn⟩
/-- As RetRw; the lists of the tracker that is turned lie behind the row. -/
def RetRx (S : Prop) (P : Bool → Trk → Prop) (l : List Trk) (i : Nat) (w : World) (e : Ending) (w' : World) : Prop :=
  (∃ n : Int, n ≠ 0 ∧ e = .returned (.tuple #[.slice none 0 0, .bool false, .int .i64 n]) ∧ ¬ S ∧ Below w.heap.size w w') ∨
  (∃ f y g c, e = .returned (.tuple #[.slice (some ⟨g, 0, none⟩) l.length c, .bool f, .int .i64 0]) ∧ Gq w' (fun _ => True) w.heap.size 33 4 RTr (.slice (some ⟨g, 0, none⟩) l.length c) (l.set i y) ∧ P f y ∧ Below w.heap.size w w' ∧ NewL g i y w')
section
variable (w : World)
set_option maxRecDepth 100000 in
set_option maxHeartbeats 32000000 in
theorem wrcv_any (l : List Trk) (i : Nat) (M : Msg) (A E : Option Addr) (c cc : Nat) (hl : Lst w (· < w.heap.size) 4 RTr (.slice A l.length c) l) (h8 : l.length ≤ 8) (hok : ∀ x ∈ l, TrkOK x) (hi : i < l.length) (hsrc : (if M.k = 0 then M.e.a else M.s) = (i : Int)) (hM : NumM M) : Calls Tryz.prog 69 #[.slice A l.length c, .agg #[.int .i64 M.k, .int .i64 M.e.a, .int .i64 M.e.b, .int .i64 M.e.c, .int .i64 M.e.d, .slice E M.e.vs.length cc, .int .i64 M.s, .int .i64 M.q, .int .i64 M.t]] w (RetRx (SimW l[i] M) (PosW l[i] M) l i w) := by
  have HCK := hide (fun (w1 : World) (hb : Below w.heap.size w w1) => wcheck_any w1 l A c (hl.below rd_Tr hb) h8 hok)
  have HRC := hide (fun (w1 : World) (hb : Below w.heap.size w w1) => wreceive_any w1 l i M A E c cc (hl.below rd_Tr hb) h8 hok hi hsrc hM)
  obtain ⟨S, hS⟩ : ∃ S, SimW l[i] M = S := ⟨_, rfl⟩
  have HOKS := hide (show ∀ f y, PosW l[i] M f y → ∀ x ∈ l.set i y, TrkOK x from fun f y h x hx => by
    rcases List.mem_or_eq_of_mem_set hx with hx | rfl
    · exact hok x hx
    · exact h.1)
  obtain ⟨P, hP⟩ : ∃ P, PosW l[i] M = P := ⟨_, rfl⟩
  rw [hS, hP] at HRC ⊢
  rw [hP] at HOKS
  have HX := hide (Bl.new w [.int .i64 M.k, .int .i64 M.e.a, .int .i64 M.e.b, .int .i64 M.e.c, .int .i64 M.e.d, .slice E M.e.vs.length cc, .int .i64 M.s, .int .i64 M.q, .int .i64 M.t] 54)
  have HB0 := hide (below_laid (w := w) (.cells #[.int .i64 M.k, .int .i64 M.e.a, .int .i64 M.e.b, .int .i64 M.e.c, .int .i64 M.e.d, .slice E M.e.vs.length cc, .int .i64 M.s, .int .i64 M.q, .int .i64 M.t] 54))
  have HI := hide hi
  clear hS hP hl hok hi hsrc hM
  obtain ⟨k, ⟨ea, eb, ec, ed, vs⟩, s, q, t⟩ := M
  simp only at HRC HX HB0 ⊢
  obtain ⟨m, hm⟩ : ∃ m, l.length = m := ⟨_, rfl⟩
  have HML := hide hm
  obtain ⟨el, hel⟩ : ∃ el, vs.length = el := ⟨_, rfl⟩
  simp only [hm, hel] at HCK HRC HX HB0 h8 ⊢
  clear hm hel
  go_enter Tryz.func69, Tryz.ntmps69
  go_upto_region 1 with (fail)
  obtain ⟨W1, hW1⟩ : ∃ W1, w.alloc (.cells #[.int .i64 k, .int .i64 ea, .int .i64 eb, .int .i64 ec, .int .i64 ed, .slice E el cc, .int .i64 s, .int .i64 q, .int .i64 t] 54) = W1 := ⟨_, rfl⟩
  rw [hW1] at HX HB0 ⊢
  clear hW1
  have HCK1 := hide (HCK.out W1 HB0.out)
  go_wp2_with fail
  refine HCK1.out.mono ?_
  rintro e1 w1 ⟨rfl, hb1⟩
  have HX1 := hide (HX.out.keep hb1)
  have HB1 := hide (bthen HB0.out hb1)
  have HRC1 := hide (HRC.out w1 HB1.out)
  clear hb1 HCK HCK1 HX HB0
  have x0 := HX1.out.c 0 _ rfl
  have x1 := HX1.out.c 1 _ rfl
  have x2 := HX1.out.c 2 _ rfl
  have x3 := HX1.out.c 3 _ rfl
  have x4 := HX1.out.c 4 _ rfl
  have x5 := HX1.out.c 5 _ rfl
  have x6 := HX1.out.c 6 _ rfl
  have x7 := HX1.out.c 7 _ rfl
  have x8 := HX1.out.c 8 _ rfl
  go_wp2_with fail
  refine HRC1.out.mono ?_
  rintro e2 w2 (⟨n2, hn2, rfl, hns, hb2⟩ | ⟨f, y, g, c6, rfl, hg, hp, hb2⟩)
  · have t2 : (n2 != 0) = true := bne_iff_ne.2 hn2
    have HB2 := hide (bthen HB1.out hb2)
    clear hb2
    go_wp2
    refine bodyPost_ret (results_ttt rfl _ _ _) rfl ?_
    exact .inl ⟨n2, hn2, rfl, hns, HB2.out⟩
  · obtain ⟨L, hL⟩ : ∃ L, l.set i y = L := ⟨_, rfl⟩
    have HLE := hide hL
    have hlo := HOKS.out f y hp
    rw [hL] at hlo hg
    have HLO := hide hlo
    have HLL := hide (show L.length = m by rw [← hL, List.length_set]; exact HML.out)
    have HB2 := hide (bthen HB1.out hb2)
    have hgw := hg.low g rfl
    have HP := hide hp
    have hw1 := HB1.out.size
    have hgw1 : w.heap.size ≤ g := by omega
    have HG2 := hide (hg.down hw1)
    rw [HML.out] at HG2 ⊢
    clear hL hlo hg hp hb2 hgw x0 x1 x2 x3 x4 x5 x6 x7 x8 HX1 HRC1 HRC HOKS
    go_wp2
    go_loopw [29] (fun ix wr => ∃ j : Nat, j ≤ m ∧ ix = .int .i64 j ∧ Hid (Gq wr (fun _ => True) w.heap.size 33 4 RTr (.slice (some ⟨g, 0, none⟩) m c6) L) ∧ Hid (Below w.heap.size w wr) ∧ Hid (i < j → NewL g i y wr)) (fun ix _ => m - (intOf ix).toNat)
    case atStart => exact ⟨0, by omega, rfl, HG2, HB2, hide (fun h => absurd h (by omega))⟩
    case round =>
      clear HG2 HB2
      obtain ⟨j, hj, rfl, HG, HB, HNW⟩ := hrel
      by_cases hlt : j < m
      · have hjl : j < L.length := by rw [HLL.out]; exact hlt
        obtain ⟨ys, hyl, hyc, hR⟩ := HG.out.at_ hjl
        have hxo := HLO.out _ (List.getElem_mem hjl)
        obtain ⟨x0, hx0⟩ : ∃ x0, L[j] = x0 := ⟨_, rfl⟩
        have HXJ := hide hx0
        rw [hx0] at hR hxo
        obtain ⟨A1, a1, B1, b1, rfl, hT⟩ := hR.tv
        have hcap : m ≤ c6 := by
          obtain ⟨xs, hown, -⟩ := HG.out
          rw [HLL.out] at hown
          rcases hown.2 with ⟨e, -⟩ | ⟨g', cap', cur, e, -, -, hnc, -⟩
          · cases e
          · cases e; exact hnc
        have hgl : g < wr.heap.size := (HG.out.low g rfl).2
        obtain ⟨cu, hcu, hul, hue⟩ := lst_raw one_In hT.u
        obtain ⟨cv, hcv, hvl, hve⟩ := lst_raw one_Pn hT.v
        have hZZ : ∀ b, (True ∧ b < wr.heap.size ∧ b ≠ g) → b ≠ g ∧ b < wr.heap.size := fun b hb => ⟨hb.2.2, hb.2.1⟩
        have HUE := hide hue
        have HVE := hide hve
        have HUL := hide hul
        have HVL := hide hvl
        have HBN := hide (show x0.beyond.length ≤ 256 from hxo.1.2.2.1)
        have HPN := hide (show x0.points.length ≤ 256 from hxo.2.2.1)
        have HCU := hide (fun (w' : World) (h : Kp (fun b => b ≠ g ∧ b < wr.heap.size) wr w') => iclone_any A1 a1 cu w' _ (by rw [hul]; exact hcu.keep rd_Wq (h.less hZZ)) (by have := HBN.out; omega))
        have HCV := hide (fun (w' : World) (h : Kp (fun b => b ≠ g ∧ b < wr.heap.size) wr w') => pclone_any B1 b1 cv w' _ (by rw [hvl]; exact hcv.keep rd_Wq (h.less hZZ)) (by have := HPN.out; omega))
        rw [hul] at HCU
        rw [hvl] at HCV
        have k1 := hyc 1 _ rfl
        have k2 := hyc 2 _ rfl
        clear hcu hcv hue hve hul hvl hT hR hyc hyl hxo hx0
        obtain ⟨bl, hbl⟩ : ∃ bl, x0.beyond.length = bl := ⟨_, rfl⟩
        obtain ⟨pl, hpl⟩ : ∃ pl, x0.points.length = pl := ⟨_, rfl⟩
        simp only [hbl, hpl] at k1 k2 HCU HCV
        clear hbl hpl
        have hu0 : (0 : Int) ≤ (j : Int) := by omega
        have hu1 : (j : Int) < (m : Int) := by omega
        have t1 : decide ((j : Int) < (m : Int)) = true := decide_eq_true hu1
        have HSA := hide (show ∀ w5 v, wr.heap.size ≤ w5.heap.size → ListV wr.heap.size 1 RIn x0.beyond w5 v → Gq w5 (fun _ => True) w.heap.size 33 4 RTr (.slice (some ⟨g, 0, none⟩) m c6) L → Gq (w5.setCell ⟨g, j * 4 + 1, none⟩ v) (fun _ => True) w.heap.size 33 4 RTr (.slice (some ⟨g, 0, none⟩) m c6) L from fun w5 v hsz hv hq => by
          have hml := HLL.out
          rw [← hml] at hq ⊢
          have hst := Gq.store rd_Tr (by decide) (i := j) (k := 1) (us := [v]) hq hjl (by simp) L[j] (fun ys hl hc hr => by
            obtain ⟨u', v', rfl, hu, hv', hn, hm⟩ := hr
            exact ⟨v, v', rfl, by rw [HXJ.out]; exact hv.more rd_In (fun k hk => ⟨trivial, hk.2, by have := hk.1; omega⟩), hv', hn, hm⟩)
          rw [List.set_getElem_self] at hst
          exact hst)
        have HSB := hide (show ∀ w5 v, wr.heap.size ≤ w5.heap.size → ListV wr.heap.size 2 RPn x0.points w5 v → Gq w5 (fun _ => True) w.heap.size 33 4 RTr (.slice (some ⟨g, 0, none⟩) m c6) L → Gq (w5.setCell ⟨g, j * 4 + 2, none⟩ v) (fun _ => True) w.heap.size 33 4 RTr (.slice (some ⟨g, 0, none⟩) m c6) L from fun w5 v hsz hv hq => by
          have hml := HLL.out
          rw [← hml] at hq ⊢
          have hst := Gq.store rd_Tr (by decide) (i := j) (k := 2) (us := [v]) hq hjl (by simp) L[j] (fun ys hl hc hr => by
            obtain ⟨u', v', rfl, hu, hv', hn, hm⟩ := hr
            exact ⟨u', v, rfl, hu, by rw [HXJ.out]; exact hv.more rd_Pn (fun k hk => ⟨trivial, hk.2, by have := hk.1; omega⟩), hn, hm⟩)
          rw [List.set_getElem_self] at hst
          exact hst)
        go_wp2_with fail
        refine wp_region_all0 [some 32, some 33, some 34, some 35, some 36, some 37, some 38, some 39, some 40, some 41, some 42, some 43, some 44, some 45, some 46, some 47, some 48, some 49, none, some 50, some 51, none] [[32], [33], [34], [35], [36], [37], [38], [39], [40], [41], [42], [43], [44], [45], [46], [47], [48], [49], [41], [50], [51], [47]] [Fix1 (.slice (some ⟨g, 0, none⟩) m c6), Fix1 (.int .i64 (j : Int)), Fix1 (.slice (some ⟨g, 0, none⟩) m c6), Fix1 (.int .i64 (j : Int)), Fix1 (.slice (some ⟨g, 0, none⟩) m c6), Fix1 (.int .i64 (j : Int)), Fix1 (.pointer (some ⟨g, j * 4, none⟩)), Fix1 (.pointer (some ⟨g, j * 4 + 1, none⟩)), Fix1 (.slice A1 bl a1), Own1 (ListV wr.heap.size 1 RIn x0.beyond), Fix1 (.slice (some ⟨g, 0, none⟩) m c6), Fix1 (.int .i64 (j : Int)), Fix1 (.pointer (some ⟨g, j * 4, none⟩)), Fix1 (.pointer (some ⟨g, j * 4 + 2, none⟩)), Fix1 (.slice B1 pl b1), Own1 (ListV wr.heap.size 2 RPn x0.points), Fix1 (.pointer (some ⟨g, j * 4, none⟩)), Fix1 (.pointer (some ⟨g, j * 4 + 1, none⟩)), CellF g (j * 4 + 1), Fix1 (.pointer (some ⟨g, j * 4, none⟩)), Fix1 (.pointer (some ⟨g, j * 4 + 2, none⟩)), CellF g (j * 4 + 2)] (by kernel_rfl) (by kernel_rfl) (by kernel_rfl) (fun d w5 => match d with | 0 => (fun w5 => w5.cell? ⟨g, j * 4 + 1, none⟩ = some (.slice A1 bl a1)) w5 | 1 => (fun w5 => w5.cell? ⟨g, j * 4 + 2, none⟩ = some (.slice B1 pl b1)) w5 | 2 => (fun w5 => ∀ c, w5.frozen? ⟨g, c, none⟩ = false) w5 | 3 => (fun w5 => Below w.heap.size w w5) w5 | 4 => (fun w5 => Kp (fun b => b ≠ g ∧ b < wr.heap.size) wr w5) w5 | 5 => (fun w5 => Gq w5 (fun _ => True) w.heap.size 33 4 RTr (.slice (some ⟨g, 0, none⟩) m c6) L) w5 | 6 => (fun w5 => i < j → NewL g i y w5) w5 | _ + 7 => True) (fun k => if k = 18 then [0] else if k = 21 then [1] else []) (fun k => if k = 8 then [0, 2, 3, 4, 5, 6] else if k = 14 then [1, 2, 3, 4, 5, 6] else if k = 18 then [0, 2, 3, 4, 5, 6] else if k = 21 then [1, 2, 3, 4, 5, 6] else [2, 3, 4, 5, 6]) (by kernel_rfl) ?_ (fun k w5 w6 => ((k ≠ 18 ∧ k ≠ 21) ∧ Below w5.heap.size w5 w6) ∨ (k = 18 ∧ (fun w5 w6 => ∃ v, ListV wr.heap.size 1 RIn x0.beyond w5 v ∧ w6 = w5.setCell ⟨g, j * 4 + 1, none⟩ v) w5 w6) ∨ (k = 21 ∧ (fun w5 w6 => ∃ v, ListV wr.heap.size 2 RPn x0.points w5 v ∧ w6 = w5.setCell ⟨g, j * 4 + 2, none⟩ v) w5 w6)) (fun _ => []) ?_ ?_ ?_ ?_ ?_
        · intro d
          match d with
          | 0 => exact k1
          | 1 => exact k2
          | 2 => exact fun c => HG.out.frozen c
          | 3 => exact HB.out.drew
          | 4 => exact ⟨Nat.le_refl _, fun _ _ _ => rfl⟩
          | 5 => exact HG.out.drew rd_Tr
          | 6 => exact (fun h => (HNW.out h).drew)
          | _ + 7 => trivial
        · intro j w5 w6 ht
          rcases ht with ⟨-, hb⟩ | ⟨rfl, ht⟩ | ⟨rfl, ht⟩
          · exact hb.size
          · exact (by obtain ⟨v, -, rfl⟩ := ht; simp [World.setCell])
          · exact (by obtain ⟨v, -, rfl⟩ := ht; simp [World.setCell])
        · intro j k hj hk hne hsp hwt w5 w6 vs hsz ht hv
          have hkc : k = 0 ∨ k = 1 ∨ k = 2 ∨ k = 3 ∨ k = 4 ∨ k = 5 ∨ k = 6 ∨ k = 7 ∨ k = 8 ∨ k = 9 ∨ k = 10 ∨ k = 11 ∨ k = 12 ∨ k = 13 ∨ k = 14 ∨ k = 15 ∨ k = 16 ∨ k = 17 ∨ k = 18 ∨ k = 19 ∨ k = 20 ∨ k = 21 := by have : k < 22 := hk; omega
          rcases hkc with rfl | rfl | rfl | rfl | rfl | rfl | rfl | rfl | rfl | rfl | rfl | rfl | rfl | rfl | rfl | rfl | rfl | rfl | rfl | rfl | rfl | rfl
          · exact hv
          · exact hv
          · exact hv
          · exact hv
          · exact hv
          · exact hv
          · exact hv
          · exact hv
          · exact hv
          · rcases ht with ⟨-, hb⟩ | ⟨rfl, ht⟩ | ⟨rfl, ht⟩
            · exact Own1.imp (fun v h => ListV.keep h (Kp.of_below hb) rd_In) hv
            · obtain ⟨v, -, rfl⟩ := ht
              exact Own1.imp (fun u h => ListV.keep h (Kp.set ⟨g, j * 4 + 1, none⟩ _ fun b hb => by show b ≠ g; omega) rd_In) hv
            · obtain ⟨v, -, rfl⟩ := ht
              exact Own1.imp (fun u h => ListV.keep h (Kp.set ⟨g, j * 4 + 2, none⟩ _ fun b hb => by show b ≠ g; omega) rd_In) hv
          · exact hv
          · exact hv
          · exact hv
          · exact hv
          · exact hv
          · rcases ht with ⟨-, hb⟩ | ⟨rfl, ht⟩ | ⟨rfl, ht⟩
            · exact Own1.imp (fun v h => ListV.keep h (Kp.of_below hb) rd_Pn) hv
            · obtain ⟨v, -, rfl⟩ := ht
              exact Own1.imp (fun u h => ListV.keep h (Kp.set ⟨g, j * 4 + 1, none⟩ _ fun b hb => by show b ≠ g; omega) rd_Pn) hv
            · obtain ⟨v, -, rfl⟩ := ht
              exact Own1.imp (fun u h => ListV.keep h (Kp.set ⟨g, j * 4 + 2, none⟩ _ fun b hb => by show b ≠ g; omega) rd_Pn) hv
          · exact hv
          · exact hv
          · rcases ht with ⟨-, hb⟩ | ⟨rfl, ht⟩ | ⟨rfl, ht⟩
            · exact fun v hv9 => keep1 hb (hv v hv9)
            · exact absurd rfl hne
            · obtain ⟨v, -, rfl⟩ := ht
              exact fun u hu => (World.cell?_setCell_other _ _ _ _ (by intro hh; injection hh with _ hh _; omega)).trans (hv u hu)
          · exact hv
          · exact hv
          · rcases ht with ⟨-, hb⟩ | ⟨rfl, ht⟩ | ⟨rfl, ht⟩
            · exact fun v hv9 => keep1 hb (hv v hv9)
            · obtain ⟨v, -, rfl⟩ := ht
              exact fun u hu => (World.cell?_setCell_other _ _ _ _ (by intro hh; injection hh with _ hh _; omega)).trans (hv u hu)
            · exact absurd rfl hne
        · intro j d hj hd w5 w6 hsz ht hI
          match d with
          | 0 =>
            rcases ht with ⟨-, hb⟩ | ⟨rfl, ht⟩ | ⟨rfl, ht⟩
            · exact keep1 hb hI
            · exact absurd (by decide) hd
            · obtain ⟨v, -, rfl⟩ := ht
              exact (World.cell?_setCell_other _ _ _ _ (by intro hh; injection hh with _ hh _; omega)).trans hI
          | 1 =>
            rcases ht with ⟨-, hb⟩ | ⟨rfl, ht⟩ | ⟨rfl, ht⟩
            · exact keep1 hb hI
            · obtain ⟨v, -, rfl⟩ := ht
              exact (World.cell?_setCell_other _ _ _ _ (by intro hh; injection hh with _ hh _; omega)).trans hI
            · exact absurd (by decide) hd
          | 2 =>
            rcases ht with ⟨-, hb⟩ | ⟨rfl, ht⟩ | ⟨rfl, ht⟩
            · exact fun c => ((bcell hb).2 g c (Nat.lt_of_lt_of_le hgl hsz)).trans (hI c)
            · obtain ⟨v, -, rfl⟩ := ht
              exact fun c => frozen_set (hI c)
            · obtain ⟨v, -, rfl⟩ := ht
              exact fun c => frozen_set (hI c)
          | 3 =>
            rcases ht with ⟨-, hb⟩ | ⟨rfl, ht⟩ | ⟨rfl, ht⟩
            · exact hI.trans (hb.mono hI.size)
            · obtain ⟨v, -, rfl⟩ := ht
              exact hI.setCell (p := ⟨g, j * 4 + 1, none⟩) hgw1 _
            · obtain ⟨v, -, rfl⟩ := ht
              exact hI.setCell (p := ⟨g, j * 4 + 2, none⟩) hgw1 _
          | 4 =>
            rcases ht with ⟨-, hb⟩ | ⟨rfl, ht⟩ | ⟨rfl, ht⟩
            · exact hI.trans (Kp.of_below hb)
            · obtain ⟨v, -, rfl⟩ := ht
              exact hI.trans (Kp.set ⟨g, j * 4 + 1, none⟩ _ fun b hb => hb.1)
            · obtain ⟨v, -, rfl⟩ := ht
              exact hI.trans (Kp.set ⟨g, j * 4 + 2, none⟩ _ fun b hb => hb.1)
          | 5 =>
            rcases ht with ⟨-, hb⟩ | ⟨rfl, ht⟩ | ⟨rfl, ht⟩
            · exact hI.keep rd_Tr hb
            · obtain ⟨v, hv, rfl⟩ := ht
              exact HSA.out w5 v hsz hv hI
            · obtain ⟨v, hv, rfl⟩ := ht
              exact HSB.out w5 v hsz hv hI
          | 6 =>
            rcases ht with ⟨-, hb⟩ | ⟨rfl, ht⟩ | ⟨rfl, ht⟩
            · exact fun h => (hI h).keep hb
            · obtain ⟨v, -, rfl⟩ := ht
              exact fun h => (hI h).far (o := j * 4 + 1) (by omega) (by omega) v
            · obtain ⟨v, -, rfl⟩ := ht
              exact fun h => (hI h).far (o := j * 4 + 2) (by omega) (by omega) v
          | _ + 7 => trivial
        · intro j9 o9 hj9 ho x w5 hsz hI hd
          have hjc : j9 = 0 ∨ j9 = 1 ∨ j9 = 2 ∨ j9 = 3 ∨ j9 = 4 ∨ j9 = 5 ∨ j9 = 6 ∨ j9 = 7 ∨ j9 = 8 ∨ j9 = 9 ∨ j9 = 10 ∨ j9 = 11 ∨ j9 = 12 ∨ j9 = 13 ∨ j9 = 14 ∨ j9 = 15 ∨ j9 = 16 ∨ j9 = 17 ∨ j9 = 18 ∨ j9 = 19 ∨ j9 = 20 ∨ j9 = 21 := by have : j9 < 22 := hj9; omega
          rcases hjc with rfl | rfl | rfl | rfl | rfl | rfl | rfl | rfl | rfl | rfl | rfl | rfl | rfl | rfl | rfl | rfl | rfl | rfl | rfl | rfl | rfl | rfl
          all_goals obtain rfl := Option.some.inj ho
          all_goals generalize hK : (fun (a' : Act) (w' : World) => _) = K
          all_goals simp only [List.filterMap_cons, List.filterMap_nil, _root_.id, puts]
          · have i2 := hI 2 (by decide)
            have i3 := hI 3 (by decide)
            have i4 := hI 4 (by decide)
            have i5 := hI 5 (by decide)
            have i6 := hI 6 (by decide)
            clear hI hd HSA HSB HG HB HNW i6
            go_simp
            rw [← hK]
            exact ⟨.slice (some ⟨g, 0, none⟩) m c6, (by simp only [List.filterMap_cons, List.filterMap_nil, _root_.id, puts]; go_simp), .inl ⟨by decide, Below.refl _ _⟩, rfl⟩
          · have i2 := hI 2 (by decide)
            have i3 := hI 3 (by decide)
            have i4 := hI 4 (by decide)
            have i5 := hI 5 (by decide)
            have i6 := hI 6 (by decide)
            clear hI hd HSA HSB HG HB HNW i6
            go_simp
            rw [← hK]
            exact ⟨.int .i64 (j : Int), (by simp only [List.filterMap_cons, List.filterMap_nil, _root_.id, puts]; go_simp), .inl ⟨by decide, Below.refl _ _⟩, rfl⟩
          · have i2 := hI 2 (by decide)
            have i3 := hI 3 (by decide)
            have i4 := hI 4 (by decide)
            have i5 := hI 5 (by decide)
            have i6 := hI 6 (by decide)
            clear hI hd HSA HSB HG HB HNW i6
            go_simp
            rw [← hK]
            exact ⟨.slice (some ⟨g, 0, none⟩) m c6, (by simp only [List.filterMap_cons, List.filterMap_nil, _root_.id, puts]; go_simp), .inl ⟨by decide, Below.refl _ _⟩, rfl⟩
          · have i2 := hI 2 (by decide)
            have i3 := hI 3 (by decide)
            have i4 := hI 4 (by decide)
            have i5 := hI 5 (by decide)
            have i6 := hI 6 (by decide)
            clear hI hd HSA HSB HG HB HNW i6
            go_simp
            rw [← hK]
            exact ⟨.int .i64 (j : Int), (by simp only [List.filterMap_cons, List.filterMap_nil, _root_.id, puts]; go_simp), .inl ⟨by decide, Below.refl _ _⟩, rfl⟩
          · have i2 := hI 2 (by decide)
            have i3 := hI 3 (by decide)
            have i4 := hI 4 (by decide)
            have i5 := hI 5 (by decide)
            have i6 := hI 6 (by decide)
            clear hI hd HSA HSB HG HB HNW i6
            go_simp
            rw [← hK]
            exact ⟨.slice (some ⟨g, 0, none⟩) m c6, (by simp only [List.filterMap_cons, List.filterMap_nil, _root_.id, puts]; go_simp), .inl ⟨by decide, Below.refl _ _⟩, rfl⟩
          · have i2 := hI 2 (by decide)
            have i3 := hI 3 (by decide)
            have i4 := hI 4 (by decide)
            have i5 := hI 5 (by decide)
            have i6 := hI 6 (by decide)
            clear hI hd HSA HSB HG HB HNW i6
            go_simp
            rw [← hK]
            exact ⟨.int .i64 (j : Int), (by simp only [List.filterMap_cons, List.filterMap_nil, _root_.id, puts]; go_simp), .inl ⟨by decide, Below.refl _ _⟩, rfl⟩
          · have i2 := hI 2 (by decide)
            have i3 := hI 3 (by decide)
            have i4 := hI 4 (by decide)
            have i5 := hI 5 (by decide)
            have i6 := hI 6 (by decide)
            have e36 : x 36 = .slice (some ⟨g, 0, none⟩) m c6 := fix1 (hd 4 (by kernel_rfl) (by kernel_rfl))
            have e37 : x 37 = .int .i64 (j : Int) := fix1 (hd 5 (by kernel_rfl) (by kernel_rfl))
            clear hI hd HSA HSB HG HB HNW i6
            go_simp
            rw [← hK]
            exact ⟨.pointer (some ⟨g, j * 4, none⟩), (by simp only [List.filterMap_cons, List.filterMap_nil, _root_.id, puts]; go_simp), .inl ⟨by decide, Below.refl _ _⟩, rfl⟩
          · have i2 := hI 2 (by decide)
            have i3 := hI 3 (by decide)
            have i4 := hI 4 (by decide)
            have i5 := hI 5 (by decide)
            have i6 := hI 6 (by decide)
            have e38 : x 38 = .pointer (some ⟨g, j * 4, none⟩) := fix1 (hd 6 (by kernel_rfl) (by kernel_rfl))
            clear hI hd HSA HSB HG HB HNW i6
            go_simp
            rw [← hK]
            exact ⟨.pointer (some ⟨g, j * 4 + 1, none⟩), (by simp only [List.filterMap_cons, List.filterMap_nil, _root_.id, puts]; go_simp), .inl ⟨by decide, Below.refl _ _⟩, rfl⟩
          · have i0 := hI 0 (by decide)
            have i2 := hI 2 (by decide)
            have i3 := hI 3 (by decide)
            have i4 := hI 4 (by decide)
            have i5 := hI 5 (by decide)
            have i6 := hI 6 (by decide)
            have e39 : x 39 = .pointer (some ⟨g, j * 4 + 1, none⟩) := fix1 (hd 7 (by kernel_rfl) (by kernel_rfl))
            clear hI hd HSA HSB HG HB HNW i6
            go_simp
            rw [← hK]
            exact ⟨.slice A1 bl a1, (by simp only [List.filterMap_cons, List.filterMap_nil, _root_.id, puts]; go_simp), .inl ⟨by decide, Below.refl _ _⟩, rfl⟩
          · have i2 := hI 2 (by decide)
            have i3 := hI 3 (by decide)
            have i4 := hI 4 (by decide)
            have i5 := hI 5 (by decide)
            have i6 := hI 6 (by decide)
            have e40 : x 40 = .slice A1 bl a1 := fix1 (hd 8 (by kernel_rfl) (by kernel_rfl))
            have HC := hide (HCU.out w5 i4)
            clear hI hd HSA HSB HG HB HNW i2 i3 i4 i5 i6
            go_simp
            go_at_call 48
            refine HC.out.mono ?_
            rintro en9 w10 ⟨v9, rfl, hown, hbc⟩
            rw [← hK]
            exact ⟨v9, (by simp only [List.filterMap_cons, List.filterMap_nil, _root_.id, puts]; go_simp), .inl ⟨by decide, hbc⟩, v9, rfl, ListV.of_own (fun h => h) (by decide) (own_more hown hsz) HUL.out (by have := HBN.out; unfold maxLen; omega) HUE.out⟩
          · have i2 := hI 2 (by decide)
            have i3 := hI 3 (by decide)
            have i4 := hI 4 (by decide)
            have i5 := hI 5 (by decide)
            have i6 := hI 6 (by decide)
            clear hI hd HSA HSB HG HB HNW i6
            go_simp
            rw [← hK]
            exact ⟨.slice (some ⟨g, 0, none⟩) m c6, (by simp only [List.filterMap_cons, List.filterMap_nil, _root_.id, puts]; go_simp), .inl ⟨by decide, Below.refl _ _⟩, rfl⟩
          · have i2 := hI 2 (by decide)
            have i3 := hI 3 (by decide)
            have i4 := hI 4 (by decide)
            have i5 := hI 5 (by decide)
            have i6 := hI 6 (by decide)
            clear hI hd HSA HSB HG HB HNW i6
            go_simp
            rw [← hK]
            exact ⟨.int .i64 (j : Int), (by simp only [List.filterMap_cons, List.filterMap_nil, _root_.id, puts]; go_simp), .inl ⟨by decide, Below.refl _ _⟩, rfl⟩
          · have i2 := hI 2 (by decide)
            have i3 := hI 3 (by decide)
            have i4 := hI 4 (by decide)
            have i5 := hI 5 (by decide)
            have i6 := hI 6 (by decide)
            have e42 : x 42 = .slice (some ⟨g, 0, none⟩) m c6 := fix1 (hd 10 (by kernel_rfl) (by kernel_rfl))
            have e43 : x 43 = .int .i64 (j : Int) := fix1 (hd 11 (by kernel_rfl) (by kernel_rfl))
            clear hI hd HSA HSB HG HB HNW i6
            go_simp
            rw [← hK]
            exact ⟨.pointer (some ⟨g, j * 4, none⟩), (by simp only [List.filterMap_cons, List.filterMap_nil, _root_.id, puts]; go_simp), .inl ⟨by decide, Below.refl _ _⟩, rfl⟩
          · have i2 := hI 2 (by decide)
            have i3 := hI 3 (by decide)
            have i4 := hI 4 (by decide)
            have i5 := hI 5 (by decide)
            have i6 := hI 6 (by decide)
            have e44 : x 44 = .pointer (some ⟨g, j * 4, none⟩) := fix1 (hd 12 (by kernel_rfl) (by kernel_rfl))
            clear hI hd HSA HSB HG HB HNW i6
            go_simp
            rw [← hK]
            exact ⟨.pointer (some ⟨g, j * 4 + 2, none⟩), (by simp only [List.filterMap_cons, List.filterMap_nil, _root_.id, puts]; go_simp), .inl ⟨by decide, Below.refl _ _⟩, rfl⟩
          · have i1 := hI 1 (by decide)
            have i2 := hI 2 (by decide)
            have i3 := hI 3 (by decide)
            have i4 := hI 4 (by decide)
            have i5 := hI 5 (by decide)
            have i6 := hI 6 (by decide)
            have e45 : x 45 = .pointer (some ⟨g, j * 4 + 2, none⟩) := fix1 (hd 13 (by kernel_rfl) (by kernel_rfl))
            clear hI hd HSA HSB HG HB HNW i6
            go_simp
            rw [← hK]
            exact ⟨.slice B1 pl b1, (by simp only [List.filterMap_cons, List.filterMap_nil, _root_.id, puts]; go_simp), .inl ⟨by decide, Below.refl _ _⟩, rfl⟩
          · have i2 := hI 2 (by decide)
            have i3 := hI 3 (by decide)
            have i4 := hI 4 (by decide)
            have i5 := hI 5 (by decide)
            have i6 := hI 6 (by decide)
            have e46 : x 46 = .slice B1 pl b1 := fix1 (hd 14 (by kernel_rfl) (by kernel_rfl))
            have HC := hide (HCV.out w5 i4)
            clear hI hd HSA HSB HG HB HNW i2 i3 i4 i5 i6
            go_simp
            go_at_call 49
            refine HC.out.mono ?_
            rintro en9 w10 ⟨v9, rfl, hown, hbc⟩
            rw [← hK]
            exact ⟨v9, (by simp only [List.filterMap_cons, List.filterMap_nil, _root_.id, puts]; go_simp), .inl ⟨by decide, hbc⟩, v9, rfl, ListV.of_own (fun h => h) (by decide) (own_more hown hsz) HVL.out (by have := HPN.out; unfold maxLen; omega) HVE.out⟩
          · have i2 := hI 2 (by decide)
            have i3 := hI 3 (by decide)
            have i4 := hI 4 (by decide)
            have i5 := hI 5 (by decide)
            have i6 := hI 6 (by decide)
            have e32 : x 32 = .slice (some ⟨g, 0, none⟩) m c6 := fix1 (hd 0 (by kernel_rfl) (by kernel_rfl))
            have e33 : x 33 = .int .i64 (j : Int) := fix1 (hd 1 (by kernel_rfl) (by kernel_rfl))
            clear hI hd HSA HSB HG HB HNW i6
            go_simp
            rw [← hK]
            exact ⟨.pointer (some ⟨g, j * 4, none⟩), (by simp only [List.filterMap_cons, List.filterMap_nil, _root_.id, puts]; go_simp), .inl ⟨by decide, Below.refl _ _⟩, rfl⟩
          · have i2 := hI 2 (by decide)
            have i3 := hI 3 (by decide)
            have i4 := hI 4 (by decide)
            have i5 := hI 5 (by decide)
            have i6 := hI 6 (by decide)
            have e48 : x 48 = .pointer (some ⟨g, j * 4, none⟩) := fix1 (hd 16 (by kernel_rfl) (by kernel_rfl))
            clear hI hd HSA HSB HG HB HNW i6
            go_simp
            rw [← hK]
            exact ⟨.pointer (some ⟨g, j * 4 + 1, none⟩), (by simp only [List.filterMap_cons, List.filterMap_nil, _root_.id, puts]; go_simp), .inl ⟨by decide, Below.refl _ _⟩, rfl⟩
          · have i0 := hI 0 (by decide)
            have i2 := hI 2 (by decide)
            have i3 := hI 3 (by decide)
            have i4 := hI 4 (by decide)
            have i5 := hI 5 (by decide)
            have i6 := hI 6 (by decide)
            have e49 : x 49 = .pointer (some ⟨g, j * 4 + 1, none⟩) := fix1 (hd 17 (by kernel_rfl) (by kernel_rfl))
            have p41 : (ListV wr.heap.size 1 RIn x0.beyond) w5 (x 41) := Own1.out (p := (ListV wr.heap.size 1 RIn x0.beyond : World → Value → Prop)) (w := w5) (v := x 41) (hd 9 (by kernel_rfl) (by kernel_rfl))
            have hfr := i2 (j * 4 + 1)
            have hcl := i0
            have hcs := fun v => World.cell?_setCell_same' w5 ⟨g, j * 4 + 1, none⟩ v (by rw [hcl]; rfl)
            clear hI hd HSA HSB HG HB HNW i6
            have h9 := p41.form
            with_reducible obtain ⟨A9, n9, c9, e41⟩ := h9
            go_simp
            rw [← hK]
            exact ⟨undef, (by simp only [List.filterMap_cons, List.filterMap_nil, _root_.id, puts]; go_simp), .inr (.inl ⟨rfl, x 41, p41, by rw [e41]⟩), (by intro v hv; have h9 : x 41 = v := fix1 hv; rw [← h9, e41]; exact hcs _)⟩
          · have i2 := hI 2 (by decide)
            have i3 := hI 3 (by decide)
            have i4 := hI 4 (by decide)
            have i5 := hI 5 (by decide)
            have i6 := hI 6 (by decide)
            have e34 : x 34 = .slice (some ⟨g, 0, none⟩) m c6 := fix1 (hd 2 (by kernel_rfl) (by kernel_rfl))
            have e35 : x 35 = .int .i64 (j : Int) := fix1 (hd 3 (by kernel_rfl) (by kernel_rfl))
            clear hI hd HSA HSB HG HB HNW i6
            go_simp
            rw [← hK]
            exact ⟨.pointer (some ⟨g, j * 4, none⟩), (by simp only [List.filterMap_cons, List.filterMap_nil, _root_.id, puts]; go_simp), .inl ⟨by decide, Below.refl _ _⟩, rfl⟩
          · have i2 := hI 2 (by decide)
            have i3 := hI 3 (by decide)
            have i4 := hI 4 (by decide)
            have i5 := hI 5 (by decide)
            have i6 := hI 6 (by decide)
            have e50 : x 50 = .pointer (some ⟨g, j * 4, none⟩) := fix1 (hd 19 (by kernel_rfl) (by kernel_rfl))
            clear hI hd HSA HSB HG HB HNW i6
            go_simp
            rw [← hK]
            exact ⟨.pointer (some ⟨g, j * 4 + 2, none⟩), (by simp only [List.filterMap_cons, List.filterMap_nil, _root_.id, puts]; go_simp), .inl ⟨by decide, Below.refl _ _⟩, rfl⟩
          · have i1 := hI 1 (by decide)
            have i2 := hI 2 (by decide)
            have i3 := hI 3 (by decide)
            have i4 := hI 4 (by decide)
            have i5 := hI 5 (by decide)
            have i6 := hI 6 (by decide)
            have e51 : x 51 = .pointer (some ⟨g, j * 4 + 2, none⟩) := fix1 (hd 20 (by kernel_rfl) (by kernel_rfl))
            have p47 : (ListV wr.heap.size 2 RPn x0.points) w5 (x 47) := Own1.out (p := (ListV wr.heap.size 2 RPn x0.points : World → Value → Prop)) (w := w5) (v := x 47) (hd 15 (by kernel_rfl) (by kernel_rfl))
            have hfr := i2 (j * 4 + 2)
            have hcl := i1
            have hcs := fun v => World.cell?_setCell_same' w5 ⟨g, j * 4 + 2, none⟩ v (by rw [hcl]; rfl)
            clear hI hd HSA HSB HG HB HNW i6
            have h9 := p47.form
            with_reducible obtain ⟨A9, n9, c9, e47⟩ := h9
            go_simp
            rw [← hK]
            exact ⟨undef, (by simp only [List.filterMap_cons, List.filterMap_nil, _root_.id, puts]; go_simp), .inr (.inr ⟨rfl, x 47, p47, by rw [e47]⟩), (by intro v hv; have h9 : x 47 = v := fix1 hv; rw [← h9, e47]; exact hcs _)⟩
        · intro x w9 hsz hI hP
          have i2 := hI 2 (fun j _ => by by_cases h18 : j = 18 <;> by_cases h21 : j = 21 <;> simp [h18, h21])
          have i3 := hI 3 (fun j _ => by by_cases h18 : j = 18 <;> by_cases h21 : j = 21 <;> simp [h18, h21])
          have i4 := hI 4 (fun j _ => by by_cases h18 : j = 18 <;> by_cases h21 : j = 21 <;> simp [h18, h21])
          have i5 := hI 5 (fun j _ => by by_cases h18 : j = 18 <;> by_cases h21 : j = 21 <;> simp [h18, h21])
          have i6 := hI 6 (fun j _ => by by_cases h18 : j = 18 <;> by_cases h21 : j = 21 <;> simp [h18, h21])
          have e32 : x 32 = .slice (some ⟨g, 0, none⟩) m c6 := fix1 (hP 0 (by decide) (fun _ _ h => by cases h))
          have e33 : x 33 = .int .i64 (j : Int) := fix1 (hP 1 (by decide) (fun _ _ h => by cases h))
          have e34 : x 34 = .slice (some ⟨g, 0, none⟩) m c6 := fix1 (hP 2 (by decide) (fun _ _ h => by cases h))
          have e35 : x 35 = .int .i64 (j : Int) := fix1 (hP 3 (by decide) (fun _ _ h => by cases h))
          have e36 : x 36 = .slice (some ⟨g, 0, none⟩) m c6 := fix1 (hP 4 (by decide) (fun _ _ h => by cases h))
          have e37 : x 37 = .int .i64 (j : Int) := fix1 (hP 5 (by decide) (fun _ _ h => by cases h))
          have e38 : x 38 = .pointer (some ⟨g, j * 4, none⟩) := fix1 (hP 6 (by decide) (fun _ _ h => by cases h))
          have e39 : x 39 = .pointer (some ⟨g, j * 4 + 1, none⟩) := fix1 (hP 7 (by decide) (fun _ _ h => by cases h))
          have e40 : x 40 = .slice A1 bl a1 := fix1 (hP 8 (by decide) (fun _ _ h => by cases h))
          have p41 : (ListV wr.heap.size 1 RIn x0.beyond) w9 (x 41) := Own1.out (p := (ListV wr.heap.size 1 RIn x0.beyond : World → Value → Prop)) (w := w9) (v := x 41) (hP 9 (by decide) (fun _ _ h => by cases h))
          have e42 : x 42 = .slice (some ⟨g, 0, none⟩) m c6 := fix1 (hP 10 (by decide) (fun _ _ h => by cases h))
          have e43 : x 43 = .int .i64 (j : Int) := fix1 (hP 11 (by decide) (fun _ _ h => by cases h))
          have e44 : x 44 = .pointer (some ⟨g, j * 4, none⟩) := fix1 (hP 12 (by decide) (fun _ _ h => by cases h))
          have e45 : x 45 = .pointer (some ⟨g, j * 4 + 2, none⟩) := fix1 (hP 13 (by decide) (fun _ _ h => by cases h))
          have e46 : x 46 = .slice B1 pl b1 := fix1 (hP 14 (by decide) (fun _ _ h => by cases h))
          have p47 : (ListV wr.heap.size 2 RPn x0.points) w9 (x 47) := Own1.out (p := (ListV wr.heap.size 2 RPn x0.points : World → Value → Prop)) (w := w9) (v := x 47) (hP 15 (by decide) (fun _ _ h => by cases h))
          have e48 : x 48 = .pointer (some ⟨g, j * 4, none⟩) := fix1 (hP 16 (by decide) (fun _ _ h => by cases h))
          have e49 : x 49 = .pointer (some ⟨g, j * 4 + 1, none⟩) := fix1 (hP 17 (by decide) (fun _ _ h => by cases h))
          have pS18 : (CellF g (j * 4 + 1) : World → List Value → Prop) w9 [x 41] := hP 18 (by decide) (fun _ _ h => by cases h)
          have e50 : x 50 = .pointer (some ⟨g, j * 4, none⟩) := fix1 (hP 19 (by decide) (fun _ _ h => by cases h))
          have e51 : x 51 = .pointer (some ⟨g, j * 4 + 2, none⟩) := fix1 (hP 20 (by decide) (fun _ _ h => by cases h))
          have pS21 : (CellF g (j * 4 + 2) : World → List Value → Prop) w9 [x 47] := hP 21 (by decide) (fun _ _ h => by cases h)
          clear hI hP
          have HGQ9 := hide i5
          have HB9 := hide i3
          have HNW9 := hide (show i < j + 1 → NewL g i y w9 from fun h => by
            by_cases hij : i < j
            · exact i6 hij
            · obtain rfl : i = j := by omega
              have he : x0 = y := by rw [← HXJ.out]; have := HLE.out; subst this; simp
              subst he
              exact ⟨x 41, x 47, pS18 _ rfl, pS21 _ rfl, p41.low rd_In (by omega), p47.low rd_Pn (by omega)⟩)
          clear p41 p47 pS18 pS21 i2 i3 i4 i5 i6
          simp only [List.filterMap_cons, List.filterMap_nil, _root_.id, puts, Act.put, List.setIfInBounds_toArray, List.set_cons_succ, List.set_cons_zero]
          go_wp2
          go_roundw
          case rel => exact ⟨j + 1, by omega, by go_num, HGQ9, HB9, HNW9⟩
          case measure => simp [intOf]; omega
      · obtain rfl : j = m := by omega
        go_wp2
        refine bodyPost_ret (results_ttt rfl _ _ _) rfl ?_
        exact .inr ⟨f, y, g, c6, by rw [HML.out]; rfl, by rw [HML.out, HLE.out]; exact HG.out, HP.out, HB.out, HNW.out (by have := HI.out; have := HML.out; omega)⟩
end
end Go.Proofs.YtppaiihcaajkaaaGreat
