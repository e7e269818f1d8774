/- barrier.Take: the way that takes the barrier. -/
import Derived.Test.YtjahjefkfcifhaaBPTake
namespace Go.Proofs.Ytjahjefkfcifhaa
open Go.RowKit Go.Shelf
set_option linter.unusedVariables false
set_option linter.unusedSimpArgs false
attribute [local go_sem] Oper.semAt_some
/-- The same cell written in both worlds. -/
theorem below_set_both {m : Nat} {a b : World} (h : Below m a b) (p : Addr) (v : Value) : Below m (a.setCell p v) (b.setCell p v) := by
  refine ⟨h.os, h.tape, h.output, ?_, fun k hk => ?_⟩
  · have := h.size; simpa [World.setCell] using this
  · have hb := h.block k hk
    by_cases e : k = p.block
    · subst e
      show (b.heap.modify p.block _)[p.block]? = (a.heap.modify p.block _)[p.block]?
      rw [Array.getElem?_modify, Array.getElem?_modify, if_pos rfl, if_pos rfl, hb]
    · rw [Below.heap_setCell _ _ _ _ e, Below.heap_setCell _ _ _ _ e, hb]

theorem all_true {l : List Bool} (h : has false l = false) {k : Nat} (hk : k < l.length) : l.getD k true = true := by
  have h1 : ¬ (false = l[k]) := by
    have := List.any_eq_false.1 h l[k] (List.getElem_mem hk)
    simpa using this
  have : l[k] = true := by cases e : l[k]; (exact absurd e.symm h1); rfl
  simp [hk, this]
theorem sel_none {l : List Bool} (h : has false l = false) : ∀ k, k ≤ l.length → k ≤ 8 → sel l k = []
  | 0, _, _ => by simp [sel]
  | k + 1, h1, h2 => by rw [sel_miss (by omega) (all_true h (by omega))]; exact sel_none h k (by omega) (by omega)
theorem sel_some {l : List Bool} {m : Nat} (hm : l.length = m) (h8 : m ≤ 8) (h : has false l = true) : sel l m ≠ [] := by
  obtain ⟨y, hy, he⟩ := List.any_eq_true.1 h
  obtain ⟨j, hj, hjy⟩ := List.getElem_of_mem hy
  have hy' : y = false := by simpa using he
  subst hy'
  have h1 := sel_hit (l := l) (k := j) (by omega) (by simp [hj, hjy])
  have hp := sel_pre l (k := j + 1) (m := m) (by omega)
  intro h0
  rw [h0, h1] at hp
  simp at hp
/-- A loop over one value a round, where the code that takes the yielded value over does nothing. -/
theorem rangeFunc_one {F : Fence} {n : Nat} {P : Program} {α : Type} {g : Operand} {p : Tmp} {body : Code} {Q : Exit → Act → World → Prop} {a : Act} {w : World}
    (hro : F.round = none) (h1 : 1 ≤ n) {gf : Nat} {lb : Array Value} (hg : a.eval g = .func (.func gf) #[] lb) (hFg : F.fn gf) (eg : ∀ args w, (callFunc gf args).run P w = .ok (.enter gf args) w)
    {v : α → Value} {Kp : World → World → Prop} {S Sp : List α → Prop} {N : Nat} {w0 : World} (hseq : SeqStopsK F (n - 1) P gf lb (fun x => #[v x]) Kp S Sp N w0)
    (hKt : ∀ {A B C : World}, Kp A B → Kp B C → Kp A C) (hKb : ∀ (W : World) (l : Nat) (o o' : Obj), w.heap.size ≤ l → W.heap[l]? = some o → o.isCells = false → o.isWalk = false → Kp W (W.putObj l o')) (hb0 : Below w0.heap.size w0 w)
    (I : List α → World → Prop) (Ix : Code → List α → World → Prop) (hI : OwnFrom w.heap.size I) (hIx : ∀ c, OwnFrom w.heap.size (Ix c)) (h0 : I [] w)
    (hbody : ∀ (l : Nat) (pre : List α) (x : α) (W : World), I pre W → pre.length < N → body.wpIn (F.inRound l) (n - 1 - 1) P (ownPostG w.heap.size Kp I Ix (pre ++ [x]) W) { tmps := a.tmps.setIfInBounds p (v x), defers := [] } W)
    (hdone : ∀ (D : Nat) (xs : List α) (W : World), w.heap.size ≤ D → S xs → I xs W → W.heap[D]? = some (.deferred (some [])) → Q .normal { a with defers := { target := .collected D, args := #[] } :: a.defers } W)
    (hstop : ∀ (D : Nat) (c : Code) (pre : List α) (W : World), w.heap.size ≤ D → Sp pre → Ix c pre W → W.heap[D]? = some (.deferred (some [])) → c.wpIn F n P Q { a with defers := { target := .collected D, args := #[] } :: a.defers } W) :
    (Code.rangeFunc g #[p] Code.skip body).wpIn F n P Q a w :=
  wpIn_rangeFunc_ownG hro h1 hg hFg eg hseq hKt hKb hb0 (fun _ => rfl) I Ix hI hIx h0 (fun x => { tmps := a.tmps.setIfInBounds p (v x), defers := [] }) (fun l x W K hK => by refine wpIn_skip ?_; simpa [Exit.then] using hK) hbody hdone hstop

theorem keepsFrom_set {B : Nat} {W W' : World} (h : KeepsFrom B W W') {p : Addr} (hp : p.block < B) (v : Value) : KeepsFrom B W (W'.setCell p v) :=
  h.trans ⟨by simp [World.setCell], fun k o hk h _ => by rw [Below.heap_setCell _ _ _ _ (by omega)]; exact h⟩

theorem cell_putObj {W : World} {D : Nat} {ds : List Deferred} (hD : W.heap[D]? = some (.deferred (some ds))) (o' : Obj) {p : Addr} (hc : W.cell? p ≠ none) : (W.putObj D o').cell? p = W.cell? p := by
  refine World.cell?_of_block ?_
  have hne : p.block ≠ D := fun e => hc (by simp [World.cell?, e, hD])
  have hlt : p.block < W.heap.size := by
    rcases Nat.lt_or_ge p.block W.heap.size with h | h
    · exact h
    · exact absurd (by simp [World.cell?, h]) hc
  exact (grownBy_putObj' W D o').block _ hlt (fun e => by injection e with e; exact hne e)
theorem Row.putObj {W : World} {B sz n : Nat} {v : Value} {xs : List Value} (h : Row W B sz v n xs) {D : Nat} {ds : List Deferred} (hD : W.heap[D]? = some (.deferred (some ds))) (o' : Obj) : Row (W.putObj D o') B sz v n xs := by
  refine ⟨h.1, ?_⟩
  rcases h.2 with h0 | ⟨g, off, cap, rfl, hg, hn, hc⟩
  · exact .inl h0
  · exact .inr ⟨g, off, cap, rfl, hg, hn, fun j u hj => by have := hc j u hj; rw [cell_putObj hD o' (by rw [this]; simp)]; exact this⟩
theorem heap_putObj_size (W : World) (D : Nat) (o' : Obj) : (W.putObj D o').heap.size = W.heap.size := by simp [World.putObj]
/-- The end of Take behind its loop: the mark is taken off, the three results lie in their cells. -/
theorem leave_take {F : Fence} {n : Nat} {P : Program} {fn : Func} {R : Ending → World → Prop} {tmps : Array Value} {D o : Nat} {x y : Value} {b : Bool} {c : Int} {W : World} (hfn : fn.results = #[.cell 6 24, .cell 7 4, .cell 8 27])
    (hla : ∀ w' : World, w'.cell? ⟨o, 0, none⟩ = some x → w'.cell? ⟨o, 1, none⟩ = some y → (loadVar 24 ⟨o, 0, none⟩).run P w' = .ok (.agg #[x, y]) w') (hlb : ∀ w' : World, w'.cell? ⟨o + 1, 0, none⟩ = some (.bool b) → (loadVar 4 ⟨o + 1, 0, none⟩).run P w' = .ok (.bool b) w') (hlc : ∀ w' : World, w'.cell? ⟨o + 1 + 1, 0, none⟩ = some (.int .i64 c) → (loadVar 27 ⟨o + 1 + 1, 0, none⟩).run P w' = .ok (.int .i64 c) w')
    (t6 : tmps.getD 6 undef = .pointer (some ⟨o, 0, none⟩)) (t7 : tmps.getD 7 undef = .pointer (some ⟨o + 1, 0, none⟩)) (t8 : tmps.getD 8 undef = .pointer (some ⟨o + 1 + 1, 0, none⟩))
    (hD : W.heap[D]? = some (.deferred (some []))) (c0 : W.cell? ⟨o, 0, none⟩ = some x) (c1 : W.cell? ⟨o, 1, none⟩ = some y) (c7 : W.cell? ⟨o + 1, 0, none⟩ = some (.bool b)) (c8 : W.cell? ⟨o + 1 + 1, 0, none⟩ = some (.int .i64 c))
    (hR : R (.returned (.tuple #[.agg #[x, y], .bool b, .int .i64 c])) (W.putObj D (.deferred none))) :
    bodyPostM F n P fn R .ret { tmps := tmps, defers := [{ target := .collected D, args := #[] }] } W := by
  refine ⟨by simp, .inl ⟨_, _, rfl, run_takeDeferred hD, ?_⟩⟩
  refine ⟨_, ?_, hR⟩
  have k0 := (cell_putObj hD (.deferred none) (by rw [c0]; simp)).trans c0
  have k1 := (cell_putObj hD (.deferred none) (by rw [c1]; simp)).trans c1
  have k7 := (cell_putObj hD (.deferred none) (by rw [c7]; simp)).trans c7
  have k8 := (cell_putObj hD (.deferred none) (by rw [c8]; simp)).trans c8
  rw [results_ccc hfn, t6, t7, t8]
  simp only [asAddr, Sem.run_pure, Result.andThen, hla _ k0 k1, hlb _ k7, hlc _ k8]

set_option maxRecDepth 100000 in
set_option maxHeartbeats 2000000 in
theorem ptake_yes (n : Int) (A : Option Addr) (cap : Nat) (l : List Bool) (k : Nat) (num : Int) (w : World) (hl : l.length ≤ 1000) (hv : Row w w.heap.size 1 (.slice A l.length cap) l.length (bools l)) (hk : k < l.length) (hok : takE n l k num = 0) :
    Calls Try.prog 16 #[.agg #[.int .i64 n, .slice A l.length cap], .int .i64 (k : Int), .int .i64 num] w (RetTak w n l k num) := by
  have HV := hide ((((hv.laid (.cells #[.int .i64 n, .slice A l.length cap] 24)).laid (.cells #[.int .i64 0, .slice none 0 0] 24)).laid (.cells #[.bool false] 4)).laid (.cells #[.int .i64 0] 27))
  clear hv
  have HK := hide (@input_any n (.slice A l.length cap) l k)
  obtain ⟨hc, hlk, hnum, hmax⟩ := tak_zero hok
  have HC := hide hok
  rw [hc] at HK
  have h8 := (chk_zero (inp_zero hc).1).1
  have hr := (chk_zero (inp_zero hc).1).2.1
  rw [Int.toNat_natCast] at hlk
  have hlk' : l[k] = false := by simpa [hk] using hlk
  have u1 : (num != n + 1) = false := by rw [bne_eq_false_iff_eq]; exact hnum
  have u2 : (n == 1099511627776) = false := by rw [beq_eq_false_iff_ne]; exact hmax
  clear hc hok hlk hmax hnum
  refine callsIn_wide.1 (callsIn_of_wp_marks (F := Fence.wide) (n := 10) Try.func16 rfl trivial ?_ rfl)
  simp only [Try.ntmps16, List.size_toArray, List.length_cons, List.length_nil, Nat.reduceAdd, Nat.reduceSub, Array.replicate_succ, Array.replicate_zero, List.push_toArray, List.append_toArray, List.nil_append, List.cons_append]
  refine wpIn_wide.2 ?_
  go_wp2_with fail
  refine (HK.out _ hl HV.out).mono ?_
  rintro e w1 ⟨rfl, hb⟩
  have hbw : Below w.heap.size w w1 := bthen (((((Below.refl w.heap.size w).alloc (Nat.le_refl _) _).alloc (by simp only [World.size_alloc]; omega) _).alloc (by simp only [World.size_alloc]; omega) _).alloc (by simp only [World.size_alloc]; omega) _) hb
  obtain ⟨-, hz4, hx4⟩ := step_box [.int .i64 0] hb
  have v0 := hx4 0 _ rfl
  have fz8 := step_frozen [.int .i64 0] hb 0
  have hb3 := step_box [.int .i64 0] hb |>.1
  obtain ⟨-, hz3, hx3⟩ := step_box [.bool false] hb3
  have u0 := hx3 0 _ rfl
  have fz7 := step_frozen [.bool false] hb3 0
  have hb2 := step_box [.bool false] hb3 |>.1
  obtain ⟨-, hz2, hx2⟩ := step_box [.int .i64 0, .slice none 0 0] hb2
  have y0 := hx2 0 _ rfl
  have y1 := hx2 1 _ rfl
  have fz60 := step_frozen [.int .i64 0, .slice none 0 0] hb2 0
  have fz61 := step_frozen [.int .i64 0, .slice none 0 0] hb2 1
  have hb1 := step_box [.int .i64 0, .slice none 0 0] hb2 |>.1
  obtain ⟨-, hz, hx1⟩ := step_box [.int .i64 n, .slice A l.length cap] hb1
  have x0 := hx1 0 _ rfl
  have x1 := hx1 1 _ rfl
  simp only [World.size_alloc] at v0 u0 y0 y1 fz8 fz7 fz60 fz61 hz4 hz3 hz2
  clear hx1 hx2 hx3 hx4 hb1 hb2 hb3
  obtain ⟨g, off, cap', e1, hg, hcell⟩ := HV.out.flag hb hk
  cases e1
  have HR := hide (HV.out.grow hb)
  have hg1 : g < w1.heap.size := Nat.lt_of_lt_of_le hg hb.size
  clear hb
  rw [hlk'] at hcell
  go_wp2
  refine (wpIn_wide (n := 10)).1 ?_
  obtain ⟨g2, off2, cap2, e2, -, -, hcs⟩ := HR.out.at_ (by omega)
  cases e2
  refine region_take ⟨rfl, by kernel_rfl, ⟨_, rfl, rfl, rfl, rfl⟩, ⟨_, rfl, rfl, rfl, rfl, (by kernel_rfl)⟩, ⟨_, rfl, rfl, rfl, rfl⟩, ⟨_, rfl, rfl, rfl, rfl, (by kernel_rfl)⟩, ⟨_, rfl, rfl, rfl, rfl, (by kernel_rfl)⟩, ⟨_, rfl, rfl, rfl, rfl, (by kernel_rfl), (by kernel_rfl)⟩, ⟨_, rfl, rfl, rfl, rfl⟩, ⟨_, rfl, rfl, rfl, rfl, (by kernel_rfl), (by kernel_rfl)⟩⟩ _ w1 rfl w.heap.size g off cap n l hl (by omega) rfl hz hg1 x0 x1 hcs ?_
  intro B v w2 hCo
  have HBl := hide hCo.below
  have hB := hCo.ge
  have bx0 : w2.cell? ⟨B, 0, none⟩ = some (.int .i64 n) := by simp [World.cell?, hCo.box]
  have bx1 : w2.cell? ⟨B, 1, none⟩ = some v := by simp [World.cell?, hCo.box]
  obtain ⟨gv, cv, rfl, hgv, hgl, -, hcv⟩ := own_cells hCo.own (by omega)
  have ck := hcv k _ (by simp [bools, hk]; rfl)
  rw [hlk'] at ck
  have fk : w2.frozen? ⟨gv, k, none⟩ = false := by
    obtain ⟨_, h2⟩ := hCo.own
    rcases h2 with ⟨h2, _⟩ | ⟨g', cap', cur, h2, _, h3, _⟩
    · cases h2
    · cases h2; simp [World.frozen?, h3]
  have HS := hide (set_row hCo.own hk)
  have hne : B ≠ gv := fun e => box_not_row (cs := [.int .i64 n, .slice (some ⟨gv, 0, none⟩) l.length cv]) hCo.own hCo.box (by rw [e]; rfl)
  have hBlt : B < w2.heap.size := (Array.getElem?_eq_some_iff.1 hCo.box).1
  clear hcs hcv hCo
  simp only [Act.put]
  have hB3 : Below w1.heap.size w1 (w2.setCell ⟨gv, k, none⟩ (.bool true)) := HBl.out.setCell (p := ⟨gv, k, none⟩) hgv _
  have bx0' : (w2.setCell ⟨gv, k, none⟩ (.bool true)).cell? ⟨B, 0, none⟩ = some (.int .i64 n) := by rw [World.cell?_setCell_other _ _ _ _ (by intro e'; injection e' with e' _ _; exact hne (by first | exact e' | exact e'.symm))]; exact bx0
  have bx1' : (w2.setCell ⟨gv, k, none⟩ (.bool true)).cell? ⟨B, 1, none⟩ = some (.slice (some ⟨gv, 0, none⟩) l.length cv) := by rw [World.cell?_setCell_other _ _ _ _ (by intro e'; injection e' with e' _ _; exact hne (by first | exact e' | exact e'.symm))]; exact bx1
  have hs3 : (w2.setCell ⟨gv, k, none⟩ (.bool true)).heap.size = w2.heap.size := by simp [World.setCell]
  have HS3 : Hid (Row (w2.setCell ⟨gv, k, none⟩ (.bool true)) (w2.setCell ⟨gv, k, none⟩ (.bool true)).heap.size 1 (.slice (some ⟨gv, 0, none⟩) l.length cv) (setT l k).length (bools (setT l k))) := hide (by
    have := HS.out; unfold setT; rw [Int.toNat_natCast, hs3]; simpa using this)
  have hlT : (setT l (k : Int)).length = l.length := by simp [setT]
  go_wp2_with fail
  refine (free_any n _ _ _ l.length cv rfl).mono ?_
  rintro e w4 ⟨rfl, hw4⟩
  go_wp2_with fail
  have hB34 : Below (w2.setCell ⟨gv, k, none⟩ (.bool true)).heap.size (w2.setCell ⟨gv, k, none⟩ (.bool true)) w4 := by rw [← hw4]; exact (Below.refl _ _).alloc (Nat.le_refl _) _
  have hsz4 : w4.heap.size = w2.heap.size + 1 := by rw [← hw4, World.size_alloc, hs3]
  have HS4 := hide (HS3.out.grow hB34)
  have hcb := cells_lit (w2.setCell ⟨gv, k, none⟩ (.bool true)) [.int .i64 n, .slice (some ⟨gv, 0, none⟩) l.length cv] 24
  rw [hw4, hs3] at hcb
  have q0 := hcb 0 _ rfl
  have q1 := hcb 1 _ rfl
  rw [hs3] at hB34
  have m0 := ((bcell (w1 := w4) (W := w2.setCell ⟨gv, k, none⟩ (.bool true)) (by rw [hs3]; exact hB34)).1 B 0 (by rw [hs3]; exact hBlt)).trans bx0'
  have m1 := ((bcell (w1 := w4) (W := w2.setCell ⟨gv, k, none⟩ (.bool true)) (by rw [hs3]; exact hB34)).1 B 1 (by rw [hs3]; exact hBlt)).trans bx1'
  have h14 : Below w1.heap.size w1 w4 := hB3.trans (hB34.mono (by have := HBl.out.size; omega))
  have c60 := ((bcell h14).1 _ 0 (by omega)).trans y0
  have c61 := ((bcell h14).1 _ 1 (by omega)).trans y1
  have c7 := ((bcell h14).1 _ 0 (by omega)).trans u0
  have c8 := ((bcell h14).1 _ 0 (by omega)).trans v0
  have d60 := ((bcell h14).2 _ 0 (by omega)).trans fz60
  have d61 := ((bcell h14).2 _ 1 (by omega)).trans fz61
  have d7 := ((bcell h14).2 _ 0 (by omega)).trans fz7
  have d8 := ((bcell h14).2 _ 0 (by omega)).trans fz8
  have e31 := ((bcell h14).1 _ 1 hz).trans x1
  have HW4 := hide (hbw.trans (h14.mono hbw.size))
  have HCS : Hid (∀ j u, (bools (setT l k))[j]? = some u → w4.cell? ⟨gv, 0 + j, none⟩ = some u) := hide (by
    have h4 := HS4.out
    rw [hlT] at h4
    obtain ⟨g', o', c', e', -, -, hh⟩ := h4.at_ (by omega)
    cases e'; exact hh)
  obtain ⟨Ws, hWs⟩ : ∃ Ws, ((((w4.setCell ⟨w.heap.size + 1, 0, none⟩ (.int .i64 n)).setCell ⟨w.heap.size + 1, 1, none⟩ (.slice (some ⟨gv, 0, none⟩) l.length cv)).setCell ⟨w.heap.size + 1 + 1, 0, none⟩ (.bool false)).setCell ⟨w.heap.size + 1 + 1 + 1, 0, none⟩ (.int .i64 0)) = Ws := ⟨_, rfl⟩
  have hszS : Ws.heap.size = w4.heap.size := by rw [← hWs]; simp [World.setCell]
  have HWS := hide hWs
  have HW1 := hide hw4
  clear hWs hw4 bx0 bx1 bx0' bx1' ck fk HS HS3 hs3 hcb hB34 h14 hB3 HR HV HK hcell x0 x1 y0 y1 u0 v0 fz8 fz7 fz60 fz61
  have h48 : gv < w4.heap.size := by omega
  have h49 : w.heap.size + 1 + 1 + 1 < w4.heap.size := by have := HBl.out.size; omega
  have h4B : w1.heap.size ≤ w4.heap.size := by have := HBl.out.size; omega
  rename_i K hK'
  refine (wpIn_wide (n := 10)).1 ?_
  refine rangeFunc_one rfl (by omega) (gf := 38) (lb := #[.pointer (some ⟨w2.heap.size, 0, none⟩)]) rfl trivial (enters_of Try.func38 (by kernel_rfl) rfl)
    (free_stops 9 (by omega) w2.heap.size (fun k => k = w2.heap.size ∨ k = gv) n gv 0 cv l.length (setT l k) hlT h8.2 w4 (.inl rfl) (.inr rfl) (by rintro k (rfl | rfl) <;> omega) q0 q1 HCS.out) KeepS.trans (keepS_b (n := w4.heap.size) (by rintro k (rfl | rfl) <;> omega)) (Below.refl _ _)
    (fun (pre : List (Fin 8)) W => pre = [] ∧ Below w4.heap.size w4 W)
    (fun c pre W => (c = .ret ∧ pre ≠ []) ∧ Below w4.heap.size Ws W)
    (OwnFrom.and (ownFrom_pure _ (fun pre => pre = [])) (ownFrom_below (Nat.le_refl _) (Nat.le_refl _)))
    (fun c => OwnFrom.and (ownFrom_pure _ (fun pre => c = .ret ∧ pre ≠ [])) (ownFrom_below (by omega) (Nat.le_refl _)))
    ⟨rfl, Below.refl _ _⟩
    ?body ?done ?stop
  case body =>
    rintro L pre x W ⟨rfl, hB⟩ hlt
    have hszW := hB.size
    have b0 := ((bcell hB).1 B 0 (by omega)).trans m0
    have b1 := ((bcell hB).1 B 1 (by omega)).trans m1
    have r60 := ((bcell hB).1 _ 0 (by omega)).trans c60
    have r61 := ((bcell hB).1 _ 1 (by omega)).trans c61
    have r7 := ((bcell hB).1 _ 0 (by omega)).trans c7
    have r8 := ((bcell hB).1 _ 0 (by omega)).trans c8
    have f60 := ((bcell hB).2 _ 0 (by omega)).trans d60
    have f61 := ((bcell hB).2 _ 1 (by omega)).trans d61
    have f7 := ((bcell hB).2 _ 0 (by omega)).trans d7
    have f8 := ((bcell hB).2 _ 0 (by omega)).trans d8
    gi_wp2
    refine ⟨keepsFrom_set (keepsFrom_set (keepsFrom_set (keepsFrom_set (KeepsFrom.refl _ _) (p := ⟨w.heap.size + 1, 0, none⟩) (by show w.heap.size + 1 < _; omega) _) (p := ⟨w.heap.size + 1, 1, none⟩) (by show w.heap.size + 1 < _; omega) _) (p := ⟨w.heap.size + 1 + 1, 0, none⟩) (by show w.heap.size + 1 + 1 < _; omega) _) (p := ⟨w.heap.size + 1 + 1 + 1, 0, none⟩) (by show w.heap.size + 1 + 1 + 1 < _; omega) _, ⟨rfl, by simp⟩, ?_⟩
    rw [← HWS.out]
    exact below_set_both (below_set_both (below_set_both (below_set_both hB _ _) _ _) _ _) _ _
  case done =>
    rintro D ys W hD hys ⟨rfl, hB⟩ hK
    have hh : has false (setT l k) = false := by
      cases h : has false (setT l k)
      · rfl
      · exact absurd hys.symm (sel_some hlT h8.2 h)
    have HP := hide (tak_full HC.out hh)
    have HD := hide hK
    clear hh hys hK
    have hszW := hB.size
    have r31 := ((bcell hB).1 _ 1 (by omega)).trans e31
    have r60 := ((bcell hB).1 _ 0 (by omega)).trans c60
    have r61 := ((bcell hB).1 _ 1 (by omega)).trans c61
    have r7 := ((bcell hB).1 _ 0 (by omega)).trans c7
    have r8 := ((bcell hB).1 _ 0 (by omega)).trans c8
    have f60 := ((bcell hB).2 _ 0 (by omega)).trans d60
    have f61 := ((bcell hB).2 _ 1 (by omega)).trans d61
    have f7 := ((bcell hB).2 _ 0 (by omega)).trans d7
    have f8 := ((bcell hB).2 _ 0 (by omega)).trans d8
    have HBW := hide hB
    clear hB c60 c61 c7 c8 d60 d61 d7 d8 e31 m0 m1 q0 q1
    have hmk := make_bools l.length hl
    have hB4 : Below W.heap.size W (W.alloc (.cells (bools (falses l.length)).toArray 4)) := (Below.refl _ _).alloc (Nat.le_refl _) _
    have s60 := ((bcell hB4).1 (w.heap.size + 1) 0 (by omega)).trans r60
    have s61 := ((bcell hB4).1 (w.heap.size + 1) 1 (by omega)).trans r61
    have s7 := ((bcell hB4).1 (w.heap.size + 1 + 1) 0 (by omega)).trans r7
    have s8 := ((bcell hB4).1 (w.heap.size + 1 + 1 + 1) 0 (by omega)).trans r8
    have g60 := ((bcell hB4).2 (w.heap.size + 1) 0 (by omega)).trans f60
    have g61 := ((bcell hB4).2 (w.heap.size + 1) 1 (by omega)).trans f61
    have g7 := ((bcell hB4).2 (w.heap.size + 1 + 1) 0 (by omega)).trans f7
    have g8 := ((bcell hB4).2 (w.heap.size + 1 + 1 + 1) 0 (by omega)).trans f8
    clear hB4
    refine hK' _ _ ?_
    go_wp2
    refine leave_take (o := w.heap.size + 1) (x := .int .i64 num) (y := .slice (some ⟨W.heap.size, 0, none⟩) l.length l.length) (b := true) (c := 0) rfl (fun w' h0 h1 => by go_simp) (fun w' h0 => by go_simp) (fun w' h0 => by go_simp) rfl rfl rfl ?_ (by go_simp) (by go_simp) (by go_simp) (by go_simp) ?_
    · rw [Below.heap_setCell _ _ _ _ (by show D ≠ w.heap.size + 1 + 1 + 1; omega), Below.heap_setCell _ _ _ _ (by show D ≠ w.heap.size + 1 + 1; omega), Below.heap_setCell _ _ _ _ (by show D ≠ w.heap.size + 1; omega), Below.heap_setCell _ _ _ _ (by show D ≠ w.heap.size + 1; omega), Below.heap_alloc _ _ _ (Array.getElem?_eq_some_iff.1 HD.out).1]; exact HD.out
    · unfold RetTak
      rw [HP.out.1, HP.out.2.1, HP.out.2.2, HC.out]
      have hDl : D < W.heap.size := (Array.getElem?_eq_some_iff.1 HD.out).1
      refine ⟨_, rfl, ?_, ?_⟩
      · have hr0 := row_new' (w := W) l.length 4 (Below.refl _ _)
        have hr1 := row_set_other (row_set_other (row_set_other (row_set_other hr0 (a := ⟨w.heap.size + 1, 0, none⟩) (by show w.heap.size + 1 ≠ W.heap.size; omega) (.int .i64 num)) (a := ⟨w.heap.size + 1, 1, none⟩) (by show w.heap.size + 1 ≠ W.heap.size; omega) (.slice (some ⟨W.heap.size, 0, none⟩) l.length l.length)) (a := ⟨w.heap.size + 1 + 1, 0, none⟩) (by show w.heap.size + 1 + 1 ≠ W.heap.size; omega) (.bool true)) (a := ⟨w.heap.size + 1 + 1 + 1, 0, none⟩) (by show w.heap.size + 1 + 1 + 1 ≠ W.heap.size; omega) (.int .i64 0)
        have hr2 := hr1.putObj (D := D) (ds := []) (by rw [Below.heap_setCell _ _ _ _ (by show D ≠ w.heap.size + 1 + 1 + 1; omega), Below.heap_setCell _ _ _ _ (by show D ≠ w.heap.size + 1 + 1; omega), Below.heap_setCell _ _ _ _ (by show D ≠ w.heap.size + 1; omega), Below.heap_setCell _ _ _ _ (by show D ≠ w.heap.size + 1; omega), Below.heap_alloc _ _ _ hDl]; exact HD.out) (.deferred none)
        exact hr2.more (by rw [heap_putObj_size]; simp [World.setCell])
      · have hq : Below w.heap.size w W := HW4.out.trans (HBW.out.mono HW4.out.size)
        have hw4 := HW4.out.size
        have hq2 := ((((hq.alloc (by omega) (.cells (bools (falses l.length)).toArray 4)).setCell (p := ⟨w.heap.size + 1, 0, none⟩) (by show w.heap.size ≤ w.heap.size + 1; omega) (.int .i64 num)).setCell (p := ⟨w.heap.size + 1, 1, none⟩) (by show w.heap.size ≤ w.heap.size + 1; omega) (.slice (some ⟨W.heap.size, 0, none⟩) l.length l.length)).setCell (p := ⟨w.heap.size + 1 + 1, 0, none⟩) (by show w.heap.size ≤ w.heap.size + 1 + 1; omega) (.bool true)).setCell (p := ⟨w.heap.size + 1 + 1 + 1, 0, none⟩) (by show w.heap.size ≤ w.heap.size + 1 + 1 + 1; omega) (.int .i64 0)
        refine hq2.trans (belowK_b (w := w) (Nat.le_refl _) _ D (.deferred (some [])) _ (by omega) ?_ rfl rfl)
        rw [Below.heap_setCell _ _ _ _ (by show D ≠ w.heap.size + 1 + 1 + 1; omega), Below.heap_setCell _ _ _ _ (by show D ≠ w.heap.size + 1 + 1; omega), Below.heap_setCell _ _ _ _ (by show D ≠ w.heap.size + 1; omega), Below.heap_setCell _ _ _ _ (by show D ≠ w.heap.size + 1; omega), Below.heap_alloc _ _ _ hDl]; exact HD.out
  case stop =>
    rintro D c pre W hD hpre ⟨⟨rfl, hne⟩, hB⟩ hK
    have hh : has false (setT l k) = true := by
      cases h : has false (setT l k)
      · exact absurd (List.prefix_nil.1 (by rw [← sel_none h l.length (by omega) h8.2]; exact hpre)) hne
      · rfl
    have HP := hide (tak_part HC.out hh)
    have HD := hide hK
    clear hh hpre hK
    refine wpIn_wide.2 ?_
    go_wp2
    refine leave_take (o := w.heap.size + 1) (x := .int .i64 n) (y := .slice (some ⟨gv, 0, none⟩) l.length cv) (b := false) (c := 0) rfl (fun w' h0 h1 => by go_simp) (fun w' h0 => by go_simp) (fun w' h0 => by go_simp) rfl rfl rfl HD.out ?_ ?_ ?_ ?_ ?_
    · refine (hB.cell (p := ⟨w.heap.size + 1, 0, none⟩) (by show w.heap.size + 1 < _; omega)).trans ?_; rw [← HWS.out]; go_simp
    · refine (hB.cell (p := ⟨w.heap.size + 1, 1, none⟩) (by show w.heap.size + 1 < _; omega)).trans ?_; rw [← HWS.out]; go_simp
    · refine (hB.cell (p := ⟨w.heap.size + 1 + 1, 0, none⟩) (by show w.heap.size + 1 + 1 < _; omega)).trans ?_; rw [← HWS.out]; go_simp
    · refine (hB.cell (p := ⟨w.heap.size + 1 + 1 + 1, 0, none⟩) (by show w.heap.size + 1 + 1 + 1 < _; omega)).trans ?_; rw [← HWS.out]; go_simp
    · unfold RetTak
      rw [HP.out.1, HP.out.2.1, HP.out.2.2, HC.out]
      have hDl : D < W.heap.size := (Array.getElem?_eq_some_iff.1 HD.out).1
      have hw4 := HW4.out.size
      refine ⟨_, rfl, ?_, ?_⟩
      · have hr1 := row_set_other (row_set_other (row_set_other (row_set_other HS4.out (a := ⟨w.heap.size + 1, 0, none⟩) (by show w.heap.size + 1 ≠ gv; omega) (.int .i64 n)) (a := ⟨w.heap.size + 1, 1, none⟩) (by show w.heap.size + 1 ≠ gv; omega) (.slice (some ⟨gv, 0, none⟩) l.length cv)) (a := ⟨w.heap.size + 1 + 1, 0, none⟩) (by show w.heap.size + 1 + 1 ≠ gv; omega) (.bool false)) (a := ⟨w.heap.size + 1 + 1 + 1, 0, none⟩) (by show w.heap.size + 1 + 1 + 1 ≠ gv; omega) (.int .i64 0)
        rw [HWS.out] at hr1
        exact ((hr1.below hB).putObj HD.out (.deferred none)).more (by rw [heap_putObj_size]; have := hB.size; omega)
      · have hq2 := (((HW4.out.setCell (p := ⟨w.heap.size + 1, 0, none⟩) (by show w.heap.size ≤ w.heap.size + 1; omega) (.int .i64 n)).setCell (p := ⟨w.heap.size + 1, 1, none⟩) (by show w.heap.size ≤ w.heap.size + 1; omega) (.slice (some ⟨gv, 0, none⟩) l.length cv)).setCell (p := ⟨w.heap.size + 1 + 1, 0, none⟩) (by show w.heap.size ≤ w.heap.size + 1 + 1; omega) (.bool false)).setCell (p := ⟨w.heap.size + 1 + 1 + 1, 0, none⟩) (by show w.heap.size ≤ w.heap.size + 1 + 1 + 1; omega) (.int .i64 0)
        rw [HWS.out] at hq2
        exact (hq2.trans (hB.mono hw4)).trans (belowK_b (w := w) (Nat.le_refl _) W D _ _ (by omega) HD.out rfl rfl)

theorem take_any (n : Int) (v : Value) (l : List Bool) (i num : Int) (w : World) (hl : l.length ≤ 1000) (hv : Row w w.heap.size 1 v l.length (bools l)) :
    Calls Try.prog 16 #[.agg #[.int .i64 n, v], .int .i64 i, .int .i64 num] w (RetTak w n l i num) := by
  obtain ⟨A, cap, rfl⟩ := hv.form
  by_cases hc : inp n l i = 0
  · obtain ⟨hc1, h0, h1⟩ := inp_zero hc
    obtain ⟨k, rfl⟩ := Int.eq_ofNat_of_zero_le h0
    by_cases hok : takE n l k num = 0
    · exact ptake_yes n A cap l k num w hl hv (by omega) hok
    · exact ptake_no n A cap l k num w hl hv hc (by omega) hok
  · exact ptake_bad n A cap l i num w hl hv hc
end Go.Proofs.Ytjahjefkfcifhaa
