/- keygroup.Assign. -/
import Derived.Test.YtoafjlfidgjgbaaRAssign
import Derived.Test.YtoafjlfidgjgbaaAReg
import Derived.Test.YtoafjlfidgjgbaaIter
namespace Go.Proofs.Ytoafjlfidgjgbaa
open Go.RowKit Go.Shelf
set_option linter.unusedVariables false
set_option linter.unusedSimpArgs false
attribute [local go_sem] Oper.semAt_some

/-- The mark of a range over a function. -/
def amark (D : Nat) : Deferred := { target := .collected D, args := #[] }
def Marks (W : World) (B : Nat) (Ds : List Nat) : Prop := ∀ D ∈ Ds, B ≤ D ∧ W.heap[D]? = some (.deferred (some []))

theorem Marks.kept {W W' : World} {B : Nat} {Ds : List Nat} (h : Marks W B Ds) (hk : ∀ (k : Nat) (o : Obj), k ∈ Ds → W.heap[k]? = some o → o.isCells = false → W'.heap[k]? = some o) : Marks W' B Ds :=
  fun D hD => ⟨(h D hD).1, hk D _ hD (h D hD).2 rfl⟩
theorem Marks.lt {W : World} {B : Nat} {Ds : List Nat} (h : Marks W B Ds) {D : Nat} (hD : D ∈ Ds) : D < W.heap.size := (Array.getElem?_eq_some_iff.1 (h D hD).2).1
theorem Marks.alloc {W : World} {B : Nat} {Ds : List Nat} (h : Marks W B Ds) (o : Obj) : Marks (W.alloc o) B Ds :=
  h.kept fun k o' hk ho _ => (Below.heap_alloc W o k (h.lt hk)).trans ho

/-- A frame with marks alone among its deferred calls leaves. -/
theorem leaves_marks {F : Fence} {n : Nat} {P : Program} {fn : Func} {tmps : Array Value} {R : Ending → World → Prop} {u : FrameMode} (hu : u ≠ .run) (B : Nat) (Pr : World → Prop)
    (hput : ∀ W D, Pr W → B ≤ D → W.heap[D]? = some (.deferred (some [])) → Pr (W.putObj D (.deferred none))) (hend : ∀ W, Pr W → LeavesInM F n P fn tmps R [] u W) :
    ∀ (Ds : List Nat) (W : World), Ds.Nodup → Marks W B Ds → Pr W → LeavesInM F n P fn tmps R (Ds.map amark) u W
  | [], W, _, _, hp => hend W hp
  | D :: Ds, W, hn, hm, hp => by
    obtain ⟨hB, hD⟩ := hm D (List.mem_cons_self)
    refine ⟨hu, .inl ⟨D, _, rfl, run_takeDeferred hD, ?_⟩⟩
    obtain ⟨h1, h2⟩ := List.nodup_cons.1 hn
    refine leaves_marks hu B Pr hput hend Ds _ h2 (fun E hE => ⟨(hm E (List.mem_cons_of_mem _ hE)).1, ?_⟩) (hput W D hp hB hD)
    rw [World.putObj_heap_other (show E ≠ D from fun e => h1 (by rw [← e]; exact hE))]
    exact (hm E (List.mem_cons_of_mem _ hE)).2

/-- The lists when worker k has been handed pre, all before it all of theirs. -/
def gridL (n k : Nat) (pre : List (Fin 16)) : Nat → List Int := fun i => if i < k then own_ n 16 i else if i = k then pre.map (fun g => (g.val : Int)) else []
theorem gridL_here (n k : Nat) (pre : List (Fin 16)) : gridL n k pre k = pre.map (fun g => (g.val : Int)) := by simp [gridL]
theorem gridL_push (n k : Nat) (pre : List (Fin 16)) (x : Fin 16) (i : Nat) : (if i = k then gridL n k pre i ++ [(x.val : Int)] else gridL n k pre i) = gridL n k (pre ++ [x]) i := by
  unfold gridL
  by_cases h : i = k
  · subst h; simp
  · simp [h]
theorem sel_own_all : ∀ n ∈ List.range 9, ∀ k ∈ List.range 9, (sel (k : Int) (n : Int) 16).map (fun g => (g.val : Int)) = own_ n 16 k := by decide +kernel
theorem gridL_next {n k : Nat} (hn : n ≤ 8) (hk : k < n) (i : Nat) : gridL n k (sel (k : Int) (n : Int) 16) i = gridL n (k + 1) [] i := by
  unfold gridL
  rw [sel_own_all n (by simp; omega) k (by simp; omega)]
  by_cases h1 : i < k
  · simp [h1, Nat.lt_succ_of_lt h1]
  · by_cases h2 : i = k
    · subst h2; simp
    · have h3 : ¬ i < k + 1 := by omega
      simp [h1, h2, h3]
      

/-- What holds at the head of the loop. -/
def Head (w : World) (n k : Nat) (Ds : List Nat) (W : World) : Prop :=
  Grid W (w.heap.size + 2) (w.heap.size + 1) n (gridL n k []) ∧ Boxed W (w.heap.size + 1 + 1) 31 (.slice (some ⟨w.heap.size + 1, 0, none⟩) n n) ∧ Marks W w.heap.size Ds ∧ Ds.Nodup ∧ Below w.heap.size w W ∧ (∀ i, k ≤ i → i < n → W.cell? ⟨w.heap.size + 1, i, none⟩ = some (.slice none 0 0))

set_option maxRecDepth 100000 in
set_option maxHeartbeats 2000000 in
theorem assign_ok (n : Nat) (w : World) (h1 : 1 ≤ n) (h8 : n ≤ 8) :
    Calls Try.prog 13 #[.int .i64 (n : Int)] w (RetGrid w n 0) := by
  have hno := numOk_t (n := (n : Int)) (by omega) (by omega)
  have hok : okC [true] = 0 := rfl
  have hmk := make_nils n (by omega)
  refine callsIn_wide.1 (callsIn_of_wp_marks (F := Fence.wide) (n := 10) Try.func13 rfl trivial ?_ rfl)
  simp only [Try.ntmps13, List.size_toArray, List.length_cons, List.length_nil, Nat.reduceAdd, Nat.reduceSub, Array.replicate_succ, Array.replicate_zero, List.push_toArray, List.append_toArray, List.nil_append, List.cons_append]
  refine wpIn_wide.2 ?_
  go_wp2_with (first
    | (go_at_call 29; refine (number_any _ _).mono ?_; rintro e w1 ⟨rfl, rfl⟩)
    | (go_at_call 28; refine (allowed_any _ 1 [true] _ (by omega) (by decide) (by decide) (cells_lit w [.bool true] _)).mono ?_; rintro e w1 ⟨rfl, rfl⟩))
  clear hmk hok hno
  refine wp_loop (fun a' W => ∃ (k : Nat) (Ds : List Nat) (u6 u19 u20 u21 u22 u23 u35 : Value), k ≤ n ∧ Head w n k Ds W ∧
      a' = { tmps := #[.int .i64 (n : Int), undef, .slice none 0 0, .int .i64 0, .int .i64 0, .pointer (some ⟨w.heap.size + 1 + 1, 0, none⟩), u6, undef, .int .i64 (n : Int), .bool true, .slice (some ⟨w.heap.size, 0, none⟩) 1 1, .int .i64 0, .int .i64 0, .bool false, undef, .int .i64 (n : Int), .slice (some ⟨w.heap.size + 1, 0, none⟩) n n, .int .i64 (n : Int), .int .i64 (k : Int), u19, u20, u21, u22, u23, undef, undef, undef, undef, undef, undef, undef, undef, undef, undef, undef, u35, undef], defers := Ds.map amark })
    (fun a' _ => n - (intOf (slot a' 18)).toNat) ?_ ?_
  · refine ⟨0, [], _, _, _, _, _, _, _, Nat.zero_le _, ⟨?_, ?_, fun D hD => ?_, List.nodup_nil, ?_, ?_⟩, rfl⟩
    · have := ((grid_new n (w.alloc (.cells #[.bool true] 4))).alloc (.cells #[.slice (some ⟨w.heap.size + 1, 0, none⟩) n n] 31)).congr (L' := gridL n 0 []) (fun i _ => by simp [gridL])
      simpa using this
    · have := Boxed.new ((w.alloc (.cells #[.bool true] 4)).alloc (.cells (nils n) 50)) 31 (.slice (some ⟨w.heap.size + 1, 0, none⟩) n n)
      simpa using this
    · cases hD
    · exact (((Below.refl _ _).alloc (Nat.le_refl _) _).alloc (by simp) _).alloc (by simp; omega) _
    · intro i _ hi
      have h2 : ((w.alloc (.cells #[.bool true] 4)).alloc (.cells (nils n) 50)).cell? ⟨w.heap.size + 1, i, none⟩ = some (.slice none 0 0) := by
        rw [World.cell?_alloc_at _ _ _ _ (by simp)]
        simp [nils, hi]
      rw [World.cell?_alloc_lt _ _ _ (by simp)]
      exact h2
  · rintro a' W ⟨k, Ds, u6, u19, u20, u21, u22, u23, u35, hk, hH, rfl⟩
    have HH := hide hH
    clear hH
    by_cases hlt : k < n
    · go_wp2_with (go_at_call 30; refine (groups_any _ _ _).mono ?_; rintro e w1 ⟨rfl, rfl⟩)
      obtain ⟨hG, hb5, hM, hN, hB, hZ⟩ := HH.out
      clear HH
      have hZ0 : ∀ i, k ≤ i → i < n → (((W.alloc (.cells #[.int .i64 (k : Int)] 3)).alloc (.cells #[.int .i64 (k : Int)] 3)).alloc (.cells #[.int .i64 (n : Int)] 3)).cell? ⟨w.heap.size + 1, i, none⟩ = some (.slice none 0 0) := fun i h h' => by
        have hlt := hb5.lt
        rw [World.cell?_alloc_lt _ _ _ (by simp; omega), World.cell?_alloc_lt _ _ _ (by simp; omega), World.cell?_alloc_lt _ _ _ (by simp; omega)]; exact hZ i h h'
      have hWlt : w.heap.size + 2 < W.heap.size := hb5.lt
      have b6 := ((Boxed.new W 3 (.int .i64 (k : Int))).alloc (.cells #[.int .i64 (k : Int)] 3)).alloc (.cells #[.int .i64 (n : Int)] 3)
      have ba := (Boxed.new (W.alloc (.cells #[.int .i64 (k : Int)] 3)) 3 (.int .i64 (k : Int))).alloc (.cells #[.int .i64 (n : Int)] 3)
      have bn := Boxed.new ((W.alloc (.cells #[.int .i64 (k : Int)] 3)).alloc (.cells #[.int .i64 (k : Int)] 3)) 3 (.int .i64 (n : Int))
      simp only [World.size_alloc] at ba bn
      have hG0 := ((hG.alloc (.cells #[.int .i64 (k : Int)] 3)).alloc (.cells #[.int .i64 (k : Int)] 3)).alloc (.cells #[.int .i64 (n : Int)] 3)
      have hb50 := ((hb5.alloc (.cells #[.int .i64 (k : Int)] 3)).alloc (.cells #[.int .i64 (k : Int)] 3)).alloc (.cells #[.int .i64 (n : Int)] 3)
      have hM0 := ((hM.alloc (.cells #[.int .i64 (k : Int)] 3)).alloc (.cells #[.int .i64 (k : Int)] 3)).alloc (.cells #[.int .i64 (n : Int)] 3)
      have hB0 : Below w.heap.size w (((W.alloc (.cells #[.int .i64 (k : Int)] 3)).alloc (.cells #[.int .i64 (k : Int)] 3)).alloc (.cells #[.int .i64 (n : Int)] 3)) := ((hB.alloc (by omega) _).alloc (by simp; omega) _).alloc (by simp; omega) _
      have hsz : (((W.alloc (.cells #[.int .i64 (k : Int)] 3)).alloc (.cells #[.int .i64 (k : Int)] 3)).alloc (.cells #[.int .i64 (n : Int)] 3)).heap.size = W.heap.size + 3 := by simp
      have hMlt : ∀ D ∈ Ds, D < W.heap.size := fun D hD => hM.lt hD
      obtain ⟨W0, hW0⟩ : ∃ W0, ((W.alloc (.cells #[.int .i64 (k : Int)] 3)).alloc (.cells #[.int .i64 (k : Int)] 3)).alloc (.cells #[.int .i64 (n : Int)] 3) = W0 := ⟨_, rfl⟩
      rw [hW0] at b6 ba bn hG0 hb50 hM0 hB0 hsz hZ0 ⊢
      clear hW0 hG hb5 hM hB hZ
      have hF : ∀ f, Fence.wide.fn f := fun _ => trivial
      have hdep : Fence.wide.depth.isSome = false := rfl
      refine (wpIn_wide (n := 10)).1 ?_
      refine wpIn_rangeFunc_ownG rfl (by omega) (gf := 38) (lb := #[.pointer (some ⟨W.heap.size + 1 + 1, 0, none⟩), .pointer (some ⟨W.heap.size + 1, 0, none⟩)]) rfl trivial (enters_of Try.func38 (by kernel_rfl) rfl)
        (groups_stops 9 (by omega) (W.heap.size + 1 + 1) (W.heap.size + 1) (fun j => j = W.heap.size + 1 + 1 ∨ j = W.heap.size + 1) (k : Int) (n : Int) (by omega) (by omega) W0 (.inl rfl) (.inr rfl) (by omega) bn.cell ba.cell) KeepS.trans (keepS_b (by omega)) (Below.refl _ _) (fun _ => rfl)
        (fun pre W' => (Grid W' (w.heap.size + 2) (w.heap.size + 1) n (gridL n k pre) ∧ (∃ v, W'.cell? ⟨w.heap.size + 1, k, none⟩ = some v ∧ ∀ g, v.ownBlock = some g → W0.heap.size ≤ g) ∧ W0.heap.size ≤ W'.heap.size ∧ (∀ i, k < i → i < n → W'.cell? ⟨w.heap.size + 1, i, none⟩ = some (.slice none 0 0)) ∧ Boxed W' (w.heap.size + 1 + 1) 31 (.slice (some ⟨w.heap.size + 1, 0, none⟩) n n) ∧ Boxed W' W.heap.size 3 (.int .i64 (k : Int))) ∧ Marks W' w.heap.size Ds ∧ Below w.heap.size w W')
        (fun _ _ _ => False) ?hI (fun _ _ _ _ _ hs _ _ => hs) ?h0
        (fun x => { tmps := #[.int .i64 (n : Int), undef, .slice none 0 0, .int .i64 0, .int .i64 0, .pointer (some ⟨w.heap.size + 1 + 1, 0, none⟩), .pointer (some ⟨W.heap.size, 0, none⟩), .int .i64 (x.val : Int), .int .i64 (n : Int), .bool true, .slice (some ⟨w.heap.size, 0, none⟩) 1 1, .int .i64 0, .int .i64 0, .bool false, undef, .int .i64 (n : Int), .slice (some ⟨w.heap.size + 1, 0, none⟩) n n, .int .i64 (n : Int), .int .i64 (k : Int), .bool true, .int .i64 (k : Int), .int .i64 (k : Int), .int .i64 (n : Int), .func (.func 38) #[] #[.pointer (some ⟨W.heap.size + 1 + 1, 0, none⟩), .pointer (some ⟨W.heap.size + 1, 0, none⟩)], .int .i64 (x.val : Int), undef, undef, undef, undef, undef, undef, undef, undef, undef, undef, u35, undef], defers := [] }) ?assign ?body ?done ?stop
      case hI =>
        refine OwnFrom.and (Own.from ?_ _) (OwnFrom.and ?_ (ownFrom_below (Nat.le_refl _) (by omega)))
        · intro pre X Y row hs hg hr
          obtain ⟨s1, ⟨v, hv, hf⟩, s2, s3, s4, s5⟩ := hs
          exact ⟨s1.kept hg hr, ⟨v, cell_kept hv hg hr, hf⟩, Nat.le_trans s2 hg.size, fun i hi hi' => cell_kept (s3 i hi hi') hg hr,
            boxed_own _ _ (fun (_ : Unit) => _) () X Y row s4 hg hr, boxed_own _ _ (fun (_ : Unit) => _) () X Y row s5 hg hr⟩
        · intro pre X Y row hs hg hr
          exact hs.kept (fun j o hj ho _ => (hg.block j (hs.lt hj) (fun e => by have := (hr j e.symm).1; have := hMlt j hj; omega)).trans ho)
      case h0 =>
        exact ⟨⟨hG0, ⟨_, hZ0 k (Nat.le_refl _) hlt, fun g hg => by cases hg⟩, Nat.le_refl _, fun i h h' => hZ0 i (by omega) h', hb50, b6⟩, hM0, hB0⟩
      case assign =>
        intro l x W1 K hK
        gi_wp2
        exact hK
      case body =>
        rintro l pre x W1 ⟨⟨g1, ⟨v, hv, hfr⟩, hW1, hnil, b51, b61⟩, hM1, hB1⟩ hlen
        have hF' : ∀ f, (Fence.wide.inRound l).fn f := fun _ => trivial
        gi_wp2
        refine region10 hF' ⟨rfl, by kernel_rfl, ⟨_, rfl, rfl, rfl, rfl⟩, ⟨_, rfl, rfl, rfl, rfl⟩, ⟨_, rfl, rfl, rfl, rfl⟩, ⟨_, rfl, rfl, rfl, rfl⟩, ⟨_, rfl, rfl, rfl, rfl, (by kernel_rfl), (by kernel_rfl)⟩, ⟨_, rfl, rfl, rfl, rfl, (by kernel_rfl)⟩, ⟨_, rfl, rfl, rfl, rfl⟩, ⟨_, rfl, rfl, rfl, rfl, (by kernel_rfl)⟩, ⟨_, rfl, rfl, rfl, rfl, (by kernel_rfl), (by kernel_rfl)⟩, ⟨_, rfl, rfl, rfl, rfl, (by kernel_rfl), (by kernel_rfl), (by kernel_rfl)⟩, ⟨_, rfl, rfl, rfl, rfl, ?_⟩⟩ _ W1 rfl (w.heap.size + 1 + 1) W.heap.size (w.heap.size + 1) k n (w.heap.size + 2) (x.val : Int) (gridL n k pre) rfl rfl rfl b51 b61 hlt g1 v hv ?_ ?_ ?_ ?_
        · intro j hj
          have : j = 0 ∨ j = 1 ∨ j = 2 ∨ j = 3 ∨ j = 4 ∨ j = 5 ∨ j = 6 ∨ j = 7 ∨ j = 8 ∨ j = 9 := by omega
          rcases this with rfl | rfl | rfl | rfl | rfl | rfl | rfl | rfl | rfl | rfl <;> (show depOn _ _ = true; kernel_rfl)
        · intro e; have := hfr _ e; omega
        · rw [gridL_here, List.length_map]; omega
        · omega
        · intro a' v' W2 hA
          obtain ⟨v0, hv0, hrow⟩ := g1.cell hlt
          obtain rfl : v0 = v := by rw [hv] at hv0; cases hv0; rfl
          have hob : ∀ g, v0.ownBlock = some g → w.heap.size + 2 ≤ g := fun g e => (hrow.lt g e).1
          have hne : ∀ j, j < W0.heap.size → some j ≠ v0.ownBlock := fun j hj e => by have := hfr j e.symm; omega
          have hsame : ∀ j, j < W0.heap.size → W2.heap[j]? = W1.heap[j]? := fun j hj => hA.grown.block j (by show j < W1.heap.size; omega) (hne j hj)
          have hcell : ∀ i, W2.cell? ⟨w.heap.size + 1, i, none⟩ = W1.cell? ⟨w.heap.size + 1, i, none⟩ := fun i => World.cell?_of_block (w := W1) (hsame (w.heap.size + 1) (by omega))
          have hcells : ∀ (j : Nat) (o : Obj), v0.ownBlock = some j → W1.drew.heap[j]? = some o → o.isCells = true := fun j o e ho => by
            rcases hrow.2 with ⟨rfl, _⟩ | ⟨g, cap, cur, rfl, _, hg, _⟩
            · cases e
            · obtain rfl : g = j := by simpa [Value.ownBlock] using e
              rw [show W1.drew.heap[g]? = _ from hg] at ho; cases ho; rfl
          have hKO : KeepsOthers W1 (W2.setCell ⟨w.heap.size + 1, k, none⟩ v') := ((KeepsOthers.drew _).trans (KeepsOthers.of_grownBy hA.grown hcells)).trans (KeepsOthers.setCell _ _ _)
          have hsz2 : W1.heap.size ≤ W2.heap.size := hA.grown.size
          refine ⟨hKO.from _, ?_, ⟨?_, ?_, ?_, ?_, ?_, ?_⟩, ?_, ?_⟩
          · refine KeepS.setCell (p := ⟨w.heap.size + 1, k, none⟩) (fun j hj => hsame j (by rcases hj with rfl | rfl <;> omega)) (fun j hj => ?_) _
            show j ≠ w.heap.size + 1
            rcases hj with rfl | rfl <;> omega
          · exact (Grid.push (W := W1.drew) (g1.same ⟨rfl, rfl, rfl, Nat.le_refl _, fun _ _ _ => rfl⟩) hlt hv hA.own hA.grown (Nat.le_succ _) hA.at_).congr (fun i _ => gridL_push n k pre x i)
          · refine ⟨v', World.cell?_setCell_same' _ _ _ (by rw [hcell, hv]; rfl), fun g hg => ?_⟩
            rcases hA.at_ with e | e
            · exact hfr g (by rw [← e]; exact hg)
            · rw [e] at hg; cases hg; show W0.heap.size ≤ W1.heap.size + 1; omega
          · have := hKO.size; omega
          · intro i hi hi'
            rw [World.cell?_setCell_other _ _ _ _ (by intro e; injection e with _ e _; omega), hcell]
            exact hnil i hi hi'
          · exact (Below.heap_setCell W2 ⟨w.heap.size + 1, k, none⟩ v' (w.heap.size + 1 + 1) (by simp)).trans ((hsame (w.heap.size + 1 + 1) (by omega)).trans b51)
          · exact (Below.heap_setCell W2 ⟨w.heap.size + 1, k, none⟩ v' W.heap.size (by simp; omega)).trans ((hsame W.heap.size (by omega)).trans b61)
          · exact hM1.kept (fun j o _ ho hc => hKO.same j o ho hc)
          · exact (hB1.drew.grown hA.grown (by show _ ≤ W1.heap.size; omega) (fun j hj => by have := hob j hj; omega)).setCell (p := ⟨w.heap.size + 1, k, none⟩) (by show _ ≤ w.heap.size + 1; omega) _
      case done =>
        rintro D ys W1 hD rfl ⟨⟨g1, ⟨v, hv, hfr⟩, hW1, hnil, b51, b61⟩, hM1, hB1⟩ hK
        have HG := hide g1
        have HZ := hide hnil
        have HM := hide hM1
        clear g1 hnil hM1 hG0 hb50 hM0 hB0 hZ0 b6 ba bn
        go_wp2
        refine ⟨⟨k + 1, D :: Ds, _, _, _, _, _, _, _, by omega, ⟨HG.out.congr (fun i _ => gridL_next h8 hlt i), b51, fun E hE => ?_, ?_, hB1, fun i hi hi' => HZ.out i (by omega) hi'⟩, rfl⟩, ?_⟩
        · rcases List.mem_cons.1 hE with rfl | hE
          · exact ⟨by omega, hK⟩
          · exact HM.out E hE
        · refine List.nodup_cons.2 ⟨fun h => ?_, hN⟩
          have := hMlt D h; omega
        · simp [slot, intOf]; omega
      case stop =>
        rintro D c pre W1 _ _ h _
        exact h.elim
    · obtain rfl : k = n := by omega
      obtain ⟨hG, hb5, hM, hN, hB, hZ⟩ := HH.out
      have hc5 := hb5.cell
      have HG := hide hG
      have HM := hide hM
      clear HH hG hb5 hM
      go_wp2
      refine leaves_marks (by simp) w.heap.size (fun W' => Grid W' (w.heap.size + 2) (w.heap.size + 1) k (gridL k k []) ∧ Below w.heap.size w W') ?_ ?_ Ds _ hN HM.out ⟨HG.out, hB⟩
      · intro W' D ⟨g, b⟩ hD hk
        exact ⟨g.kept (grownBy_putObj' W' D _) (fun r e => by cases e; exact ⟨_, hk, rfl⟩), b.trans (belowK_b (w := w) (Nat.le_refl _) W' D _ _ hD hk rfl rfl)⟩
      · intro W' ⟨g, b⟩
        exact ⟨_, results_tmp2 rfl _ _ _, _, _, Nat.le_succ _, rfl, g.congr (fun i hi => by simp [gridL, hi]), b⟩

set_option maxHeartbeats 400000 in
theorem assign_any (q : Int) (w : World) : Calls Try.prog 13 #[.int .i64 q] w (RetAssign w q) := by
  by_cases h : 1 ≤ q ∧ q ≤ 8
  · obtain ⟨n, rfl⟩ := Int.eq_ofNat_of_zero_le (show 0 ≤ q by omega)
    exact (assign_ok n w (by omega) (by omega)).mono fun e w' hr => .inl ⟨n, rfl, by omega, by omega, hr⟩
  · refine Calls.mono (R := fun e w' => e = .returned (.tuple #[.slice none 0 0, .int .i64 2]) ∧ Below w.heap.size w w') ?_ (fun e w' hr => .inr ⟨h, hr⟩)
    have hok : okC [numOk q] = 2 := okC_ne (by simp [numOk]; omega)
    clear h
    go_enter Try.func13, Try.ntmps13
    go_wp2_with (first
      | (go_at_call 29; refine (number_any _ _).mono ?_; rintro e w1 ⟨rfl, rfl⟩)
      | (go_at_call 28; refine (allowed_any _ 1 [numOk q] _ (by omega) (Nat.le_refl 1) (Nat.le_refl 1) (cells_lit w [.bool (numOk q)] _)).mono ?_; rintro e w1 ⟨rfl, rfl⟩))
    go_ret2
    exact ⟨rfl, (Below.refl _ _).alloc (Nat.le_refl _) _⟩
end Go.Proofs.Ytoafjlfidgjgbaa
