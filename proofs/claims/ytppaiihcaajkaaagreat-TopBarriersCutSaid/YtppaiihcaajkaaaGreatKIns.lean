/- slices.Insert of one element, at int and at Point: a row of own memory. -/
import Derived.Test.YtppaiihcaajkaaaGreatKRefM
import Derived.Laws.Externs
import Derived.Shelf.RegionOpenPlain
namespace Go.Proofs.YtppaiihcaajkaaaGreat
open Go.RowKit
set_option linter.unusedVariables false
set_option linter.unusedSimpArgs false
def RetIns (w : World) (te : TypeId) (sz base n : Nat) (row : Option Nat) (xs : List Value) (e : Ending) (w' : World) : Prop := ∃ v', e = .returned v' ∧ w'.ownsRow base te sz v' (n + 1) xs ∧ w.grownBy w' row
theorem grown_trans {a b c : World} {row : Option Nat} {k : Nat} (h : a.grownBy b row) (h' : b.grownBy c (some k)) (hk : row = some k ∨ a.heap.size ≤ k) : a.grownBy c row :=
  ⟨h'.os.trans h.os, h'.tape.trans h.tape, h'.output.trans h.output, Nat.le_trans h.size h'.size, fun j hj hne => (h'.block j (Nat.lt_of_lt_of_le hj h.size) (fun e => by injection e with e; rcases hk with hk | hk; exact hne (by rw [hk, e]); omega)).trans (h.block j hj hne)⟩
theorem add_at (g o j : Nat) : (⟨g, o, none⟩ : Addr).add j = ⟨g, o + j, none⟩ := by unfold Addr.add; split <;> simp_all
theorem shape_row {w : World} {g : Nat} {cur : Array Value} {t : TypeId} (h : w.heap[g]? = some (.cells cur t (0, 0))) : w.shape? g = some (t, cur.size) := by simp [World.shape?, h]
theorem frozen_row {w : World} {g : Nat} {cur : Array Value} {t : TypeId} (h : w.heap[g]? = some (.cells cur t (0, 0))) (k : Nat) : w.frozen? ⟨g, k, none⟩ = false := by simp [World.frozen?, h]
theorem cell_row {w : World} {g : Nat} {cur : List Value} {t : TypeId} (h : w.heap[g]? = some (.cells cur.toArray t (0, 0))) {k : Nat} {u : Value} (hk : cur[k]? = some u) : w.cell? ⟨g, k, none⟩ = some u := by simp [World.cell?, h, hk]
set_option maxRecDepth 100000 in
set_option maxHeartbeats 8000000 in
theorem iins_any (v : Value) (n i g2 base : Nat) (xs ys : List Value) (w : World) (hown : w.ownsRow base 3 1 v n xs) (hi : i ≤ n) (hn : n ≤ 1000) (hyl : ys.length = 1)
    (hg2 : w.heap[g2]? = some (.cells ys.toArray 3 (0, 0))) (hne : v.ownBlock ≠ some g2) (h1x : ∀ u ∈ xs, u.oneCell' = true) (h1 : ∀ u ∈ ys, u.oneCell' = true) (hbase : base ≤ w.heap.size) :
    Calls Tryz.prog 128 #[v, .int .i64 i, .slice (some ⟨g2, 0, none⟩) 1 1] w (RetIns w 3 1 base n v.ownBlock (insL xs (i) ys)) := by
  obtain ⟨i0, hi0, hz0, hz1, hz2⟩ := info_parts iq_int
  have hlt2 : g2 < w.heap.size := (Array.getElem?_eq_some_iff.1 hg2).1
  have hxl := hown.1
  rcases Nat.lt_or_ge i n with hlt | hge
  · rcases hown.2 with ⟨-, h0⟩ | ⟨g, cap, cur, rfl, hb, hg, hnc, hcm, hcs, hct⟩
    · omega
    have hgl : g < w.heap.size := (Array.getElem?_eq_some_iff.1 hg).1
    have hne' : g2 ≠ g := fun e => hne (by rw [e]; rfl)
    unfold maxLen at hcm
    have hszq : (Tryz.prog.info? 3).map (·.size) = some 1 := by rw [hi0]; simp [hz1]
    have hz2' : ¬ ((i : Int) = (n : Int)) := by omega
    have hci : ¬ (cap = i) := by omega
    have hb0 : (0 : Int) ≤ (i : Int) := by omega
    have hb1 : (0 : Int) ≤ (i : Int) + 1 := by omega
    have hin : i ≤ n := by omega
    have hin' : (i : Int) ≤ (n : Int) := by omega
    have htn : ((i : Int) + 1).toNat = i + 1 := by omega
    have mixed : Tryz.prog.follows .mixedOrders = true := by kernel_rfl
    have hw1 : IntKind.i64.wrap ((i : Int) + 1) = (i : Int) + 1 := by rw [IntKind.wrap_i64]; omega
    have htn2 : ((n : Int) + 1).toNat = n + 1 := by omega
    have hxd : (xs.drop (i)).length = (n - i) * 1 := by rw [List.length_drop, hxl]; omega
    have hcl : cur.toList.length = cap * 1 := by simpa using hcs
    rcases Nat.lt_or_ge n cap with hroom | hfull
    · have hov : ∀ lb cb, (callFunc 134 #[.slice (some ⟨g2, 0, none⟩) 1 1, .slice (some ⟨g, i + 1, none⟩) lb cb]).run Tryz.prog w = .ok (.value (.bool false)) w := fun lb cb => by
        rw [run_callFunc_extern Tryz.func134 (by kernel_rfl) (by kernel_rfl) (by kernel_rfl) (e := Extern.SlicesOverlaps.overlaps #[30, 30] #[4]) (by kernel_rfl),
          Lib.run_overlaps_apart w 30 4 3 Tryz.underlying30 1 (fun w => by simp [sizeOf, typeInfo, hi0, hz1]) ⟨g2, 0, none⟩ ⟨g, i + 1, none⟩ 1 1 lb cb hne' 3 3 ys.toArray.size cur.size (shape_row hg2) (shape_row hg) (by rw [hcs]; omega) (frozen_row hg2 0) (frozen_row hg2 _)]
        rfl
      have hci1 : ¬ (cap = i + 1) := by omega
      have hb3 : (i : Int) + 1 ≤ (n : Int) + 1 := by omega
      have hb4 : (i : Int) ≤ (n : Int) + 1 := by omega
      have hb5 : (n : Int) + 1 ≤ (cap : Int) := by omega
      have hb6 : n + 1 ≤ cap := by omega
      have hnocap : ¬ ((cap : Int) < (n : Int) + 1) := by omega
      have hgL : w.heap[g]? = some (.cells cur.toList.toArray 3 (0, 0)) := by simpa using hg
      have hsrc : ∀ (j : Nat) (u : Value), (xs.drop (i))[j]? = some u → w.cell? ((⟨g, i, none⟩ : Addr).add j) = some u := by
        intro j u hj
        rw [List.getElem?_drop, ← hct, List.getElem?_take] at hj
        split at hj
        · rw [add_at]
          exact cell_row hgL hj
        · cases hj
      have hD1 : (xs.drop (i)).length = Nat.min (n + 1 - i) (n + 1 - (i + 1)) * 1 := by rw [hxd]; show _ = min _ _ * 1; omega
      have hfit1 : i + 1 + (xs.drop (i)).length ≤ cur.toList.length := by rw [hxd, hcl]; omega
      have h1d : ∀ u ∈ xs.drop (i), u.oneCell' = true := fun u hu => h1x u (List.mem_of_mem_drop hu)
      have hL1 := over_len hfit1
      have hD2 : ys.length = Nat.min 1 (n + 1 - i) * 1 := by rw [hyl]; show _ = min _ _ * 1; omega
      have hfit2 : i + ys.length ≤ (over cur.toList (i + 1) (xs.drop (i))).length := by rw [hL1, hcl, hyl]; omega
      have hR : (over (over cur.toList (i + 1) (xs.drop (i))) (i) ys).take ((n + 1) * 1) = insL xs (i) ys := by
        have := over_room (cur := cur.toList) (xs := xs) (ys := ys) (o := i) (by rw [hxl]; omega) (by rw [hxl]; exact hct) (by rw [hxl, hyl, hcl]; omega)
        rw [hxl, hyl, show n * 1 + 1 = (n + 1) * 1 by omega, show i + 1 = i + 1 by omega] at this
        exact this
      have hsz2 : (over (over cur.toList (i + 1) (xs.drop (i))) (i) ys).length = cap * 1 := by rw [over_len hfit2, hL1, hcl]
      have hil : (insL xs (i) ys).length = (n + 1) * 1 := by rw [← hR, List.length_take, hsz2, Nat.min_eq_left] <;> omega
      obtain ⟨C1, hC1⟩ : ∃ C, C = over cur.toList (i + 1) (xs.drop (i)) := ⟨_, rfl⟩
      rw [← hC1] at hR hsz2 hfit2
      obtain ⟨I, hI⟩ : ∃ I, I = insL xs (i) ys := ⟨_, rfl⟩
      rw [← hI] at hR hil ⊢
      obtain ⟨D, hD⟩ : ∃ D, D = xs.drop (i) := ⟨_, rfl⟩
      rw [← hD] at hsrc hD1 hfit1 h1d hC1
      have HC1 := hide hC1
      have HR := hide hR
      have HS2 := hide hsz2
      have HIL := hide hil
      have HD1 := hide hD1
      have HD2 := hide hD2
      have HF1 := hide hfit1
      have HF2 := hide hfit2
      have HSRC := hide hsrc
      clear hR hsz2 hil hI hD hD1 hD2 hfit1 hfit2 hL1 hsrc hC1 hxd hxl hcs hct hown hcl
      go_enter Tryz.func128, Tryz.ntmps128
      go_wp2_with (simp only [hov])
      go_region_law_o (refine step_copy_rowN rfl _ _ 30 30 rfl 3 1 Tryz.underlying30 hszq g (i + 1) (n + 1 - (i + 1)) (cap - (i + 1)) ⟨g, i, none⟩ (n + 1 - i) (cap - i) (by simp [Act.eval, Act.put]) (by simp [Act.eval, Act.put]) cur.toList 3 hgL D HD1.out HSRC.out HF1.out h1d ?_; intro w4 u4 hg4 hgr4; rw [← HC1.out] at hg4)
      have hv4 : w4.heap[g2]? = some (.cells ys.toArray 3 (0, 0)) := (hgr4.block g2 hlt2 (fun e => hne' (Option.some.inj e))).trans hg2
      have hsv : ∀ (j : Nat) (u : Value), ys[j]? = some u → w4.cell? ((⟨g2, 0, none⟩ : Addr).add j) = some u := fun j u hj => by rw [add_at, Nat.zero_add]; exact cell_row hv4 hj
      go_wp2_with (refine wpList_copy_rowN rfl _ _ 30 30 rfl 3 1 Tryz.underlying30 hszq g (i) (n + 1 - i) (cap - i) ⟨g2, 0, none⟩ 1 1 rfl rfl C1 3 hg4 ys HD2.out hsv HF2.out h1 ?_; intro w5 u5 hg5 hgr5)
      go_ret
      exact ⟨_, rfl, ⟨HIL.out, .inr ⟨g, cap, _, rfl, hb, hg5, hb6, by unfold maxLen; omega, by simpa using HS2.out, by simpa using HR.out⟩⟩, grown_trans (⟨hgr4.os, hgr4.tape, hgr4.output, hgr4.size, hgr4.block⟩ : w.grownBy w4 (some g)) hgr5 (.inl rfl)⟩
    · have hgL : w.heap[g]? = some (.cells cur.toList.toArray 3 (0, 0)) := by simpa using hg
      have hxc : ∀ (j : Nat) (u : Value), xs[j]? = some u → cur.toList[j]? = some u := by
        intro j u hj
        rw [← hct, List.getElem?_take] at hj
        split at hj
        · exact hj
        · cases hj
      have hold : (Builtin.firstCells i0.size i (.slice (some ⟨g, 0, none⟩) i cap)).run Tryz.prog w.drew = .ok (xs.take (i)).toArray w.drew := by
        rw [hz1]
        refine run_firstCells_some w.drew 1 i ⟨g, 0, none⟩ i cap (xs.take (i)) (by rw [List.length_take, hxl, Nat.min_eq_left] <;> omega) (fun j u hj => ?_)
        rw [List.getElem?_take] at hj
        split at hj
        · rw [add_at, Nat.zero_add]
          exact cell_row (w := w) hgL (hxc j u hj)
        · cases hj
      have hik : i + (n + 1 - i) = n + 1 := by omega
      obtain ⟨G, hG⟩ : ∃ G, G = grownCap w (n + 1) cap 3 := ⟨_, rfl⟩
      have hGn : n + 1 ≤ G := by rw [hG]; exact grownCap_ge w _ _ _
      have hG63 : G ≤ maxLen := by rw [hG]; exact grownCap_le_maxLen w (n + 1) cap 3 (by unfold maxLen; omega)
      obtain ⟨Zs, hZs⟩ : ∃ Zs : List Value, Zs = (Builtin.zeroCells (Value.cells (.int .i64 0)) (n + 1 - i)).toList ++ (Builtin.zeroCells (Value.cells (.int .i64 0)) (G - (n + 1))).toList := ⟨_, rfl⟩
      have hZl : Zs.length = (G - i) * 1 := by
        rw [hZs]
        simp [Builtin.zeroCells, Value.cells]
        omega
      obtain ⟨W1, hW1⟩ : ∃ W1, W1 = w.drew.alloc (.cells (xs.take (i) ++ Zs).toArray 3) := ⟨_, rfl⟩
      have hrz : ∀ ty, (Builtin.append_ #[30, 3] ty #[.slice (some ⟨g, 0, none⟩) i cap, .int .i64 ((n : Int) + 1 - (i : Int))]).run Tryz.prog w = .ok (.slice (some ⟨w.heap.size, 0, none⟩) (n + 1) G) W1 := fun ty => by
        have h := Lib.run_append_grow_zeros w 30 3 ty 3 i0 _ .i64 .i64 Tryz.underlying30 Tryz.underlying3 hi0 hz0 (some ⟨g, 0, none⟩) i cap (xs.take (i)) hold (n + 1 - i) (by omega) (by rw [hz1]; decide) (by omega) (by omega) (by rw [hz2]; omega) (by rw [hz2, hik]; exact growslice_fits (by omega) (by omega))
        rw [hik, ← hG] at h
        have hA : (xs.take (i) ++ Zs).toArray = (xs.take (i)).toArray ++ Builtin.zeroCells (Value.cells (.int .i64 0)) (n + 1 - i) ++ Builtin.zeroCells (Value.cells (.int .i64 0)) (G - (n + 1)) := by
          rw [hZs]
          apply Array.ext'
          simp
        rw [hW1, hA, show (n : Int) + 1 - (i : Int) = ((n + 1 - i : Nat) : Int) by omega, h]
      have hN1 : W1.heap[w.heap.size]? = some (.cells (xs.take (i) ++ Zs).toArray 3 (0, 0)) := by rw [hW1]; exact heap_alloc_new w.drew _
      have hO1 : ∀ k, k < w.heap.size → W1.heap[k]? = w.heap[k]? := fun k hk => by rw [hW1]; exact (below_laid (w := w.drew) _).block k hk
      have hgr1 : w.grownBy W1 (some g) := by rw [hW1]; exact ⟨rfl, rfl, rfl, (below_laid (w := w.drew) _).size, fun k hk _ => (below_laid (w := w.drew) _).block k hk⟩
      have hlt1 : w.heap.size < W1.heap.size := by rw [hW1]; show w.drew.heap.size < (w.drew.alloc _).heap.size; simp
      have hGi : ¬ (G = i) := by omega
      have hGi1 : ¬ (G = i + 1) := by omega
      have htl : (xs.take (i)).length = i := by rw [List.length_take, hxl, Nat.min_eq_left] <;> omega
      have hcl1 : (xs.take (i) ++ Zs).length = G * 1 := by rw [List.length_append, htl, hZl]; omega
      have hD2 : ys.length = Nat.min 1 (n + 1 - i) * 1 := by rw [hyl]; show _ = min _ _ * 1; omega
      have hfit2 : i + ys.length ≤ (xs.take (i) ++ Zs).length := by rw [hcl1, hyl]; omega
      have hL1 := over_len hfit2
      have hD1 : (xs.drop (i)).length = Nat.min (n - i) (n + 1 - (i + 1)) * 1 := by rw [hxd]; show _ = min _ _ * 1; omega
      have hfit1 : i + 1 + (xs.drop (i)).length ≤ (over (xs.take (i) ++ Zs) (i) ys).length := by rw [hL1, hxd, hcl1]; omega
      have h1d : ∀ u ∈ xs.drop (i), u.oneCell' = true := fun u hu => h1x u (List.mem_of_mem_drop hu)
      have hsrc : ∀ (j : Nat) (u : Value), (xs.drop (i))[j]? = some u → cur.toList[i + j]? = some u := fun j u hj => hxc _ u (by rwa [List.getElem?_drop] at hj)
      have hR : (over (over (xs.take (i) ++ Zs) (i) ys) (i + 1) (xs.drop (i))).take ((n + 1) * 1) = insL xs (i) ys := by
        have := over_new (xs := xs) (ys := ys) (z := Zs) (o := i) (by rw [hxl]; omega) (by rw [hxl, hyl, hZl]; omega)
        rw [hxl, hyl, show n * 1 + 1 = (n + 1) * 1 by omega, show i + 1 = i + 1 by omega] at this
        exact this
      have hsz2 : (over (over (xs.take (i) ++ Zs) (i) ys) (i + 1) (xs.drop (i))).length = G * 1 := by rw [over_len hfit1, hL1, hcl1]
      have hil : (insL xs (i) ys).length = (n + 1) * 1 := by rw [← hR, List.length_take, hsz2, Nat.min_eq_left] <;> omega
      obtain ⟨C0, hC0⟩ : ∃ C, C = xs.take (i) ++ Zs := ⟨_, rfl⟩
      rw [← hC0] at hR hsz2 hfit2 hfit1 hN1
      obtain ⟨C1, hC1⟩ : ∃ C, C = over C0 (i) ys := ⟨_, rfl⟩
      rw [← hC1] at hR hsz2 hfit1
      obtain ⟨I, hI⟩ : ∃ I, I = insL xs (i) ys := ⟨_, rfl⟩
      rw [← hI] at hR hil ⊢
      obtain ⟨D, hD⟩ : ∃ D, D = xs.drop (i) := ⟨_, rfl⟩
      rw [← hD] at hR hsz2 hsrc hD1 hfit1 h1d
      have HC1 := hide hC1
      have HR := hide hR
      have HS2 := hide hsz2
      have HIL := hide hil
      have HD1 := hide hD1
      have HD2 := hide hD2
      have HF1 := hide hfit1
      have HF2 := hide hfit2
      have HSRC := hide hsrc
      have HN1 := hide hN1
      have HO1 := hide hO1
      have HG1 := hide hgr1
      have HLT1 := hide hlt1
      unfold maxLen at hG63
      have HSV := hide (fun (j : Nat) (u : Value) (hj : ys[j]? = some u) => show W1.cell? ((⟨g2, 0, none⟩ : Addr).add j) = some u by rw [add_at, Nat.zero_add]; exact cell_row ((hO1 g2 hlt2).trans hg2) hj)
      have hneN : g ≠ w.heap.size := by omega
      have hneN2 : g2 ≠ w.heap.size := by omega
      have hg63' : G ≤ 9223372036854775807 := by omega
      have hgb : base ≤ w.heap.size := hbase
      have hb3 : (i : Int) + 1 ≤ (n : Int) + 1 := by omega
      have hb4 : (i : Int) ≤ (n : Int) + 1 := by omega
      have hfull' : (cap : Int) < (n : Int) + 1 := by omega
      clear hR hsz2 hil hI hD hD1 hD2 hfit1 hfit2 hL1 hsrc hC0 hC1 hxd hxl hcl hct hown hZs hZl hW1 hN1 hO1 hgr1 hlt1 htl hcl1 hG hold hxc hik hG63
      go_enter Tryz.func128, Tryz.ntmps128
      go_wp2_with (first
        | (at_builtin; refine Lib.wpList_append_run _ rfl _ _ _ _ rfl _ _ rfl rfl _ _ (hrz _) ?_)
        | (refine wpList_copy_rowN rfl _ _ 30 30 rfl 3 1 Tryz.underlying30 hszq w.heap.size (i) (n + 1 - i) (G - i) ⟨g2, 0, none⟩ 1 1 rfl rfl C0 3 HN1.out ys HD2.out HSV.out HF2.out h1 ?_; intro w4 u4 hg4 hgr4; rw [← HC1.out] at hg4; have HG4 := hide hg4; have HR4 := hide hgr4; clear hg4 hgr4))
      have hv4 : w4.heap[g]? = some (.cells cur.toList.toArray 3 (0, 0)) := (HR4.out.block g (Nat.lt_trans hgl HLT1.out) (fun e => hneN (Option.some.inj e))).trans ((HO1.out g hgl).trans hgL)
      have hsv : ∀ (j : Nat) (u : Value), D[j]? = some u → w4.cell? ((⟨g, i, none⟩ : Addr).add j) = some u := fun j u hj => by rw [add_at]; exact cell_row hv4 (HSRC.out j u hj)
      go_region_law_o (refine step_copy_rowN rfl _ _ 30 30 rfl 3 1 Tryz.underlying30 hszq w.heap.size (i + 1) (n + 1 - (i + 1)) (G - (i + 1)) ⟨g, i, none⟩ (n - i) (cap - i) (by simp [Act.eval, Act.put]) (by simp [Act.eval, Act.put]) C1 3 HG4.out D HD1.out hsv HF1.out h1d ?_; intro w5 u5 hg5 hgr5)
      go_wp2
      go_ret
      exact ⟨_, rfl, ⟨HIL.out, .inr ⟨w.heap.size, G, _, rfl, hgb, hg5, hGn, by unfold maxLen; omega, by simpa using HS2.out, by simpa using HR.out⟩⟩, grown_trans (grown_trans HG1.out HR4.out (.inr (Nat.le_refl _))) (⟨hgr5.os, hgr5.tape, hgr5.output, hgr5.size, hgr5.block⟩ : w4.grownBy w5 (some w.heap.size)) (.inr (Nat.le_refl _))⟩
  · obtain rfl : i = n := by omega
    have hins : insL xs (i) ys = xs ++ ys := by unfold insL; rw [List.take_of_length_le (by omega), List.drop_eq_nil_of_le (by omega), List.append_nil]
    rw [hins]
    have happ := hide (fun (ty : TypeId) => run_append_own_at (P := Tryz.prog) w base 30 ty 3 i0 _ 1 8 Tryz.underlying30 hi0 hz0 hz1 hz2 rfl (by decide) v i xs hown ⟨g2, 0, none⟩ 1 1 ys (by rw [hyl]) (fun j u hj => by
        rw [add_at, Nat.zero_add]
        exact cell_row hg2 hj) h1 (by unfold maxLen; omega) (by omega) hbase)
    obtain ⟨A, cap, rfl⟩ := own_form hown
    have hcap : i ≤ cap := by
      rcases hown.2 with ⟨e, h0⟩ | ⟨g, cap, cur, e, hb, hg, hnc, hcm, hcs, hct⟩
      · omega
      · cases e; exact hnc
    have hcap2 : cap ≤ 9223372036854775807 := by
      rcases hown.2 with ⟨e, h0⟩ | ⟨g, cap, cur, e, hb, hg, hnc, hcm, hcs, hct⟩
      · cases e; omega
      · cases e; unfold maxLen at hcm; omega
    obtain ⟨v', w', hr, ho', hgr, -, -⟩ := happ.out 30
    clear hown happ hins hxl hi hi0 hz0 hz1 hz2
    go_enter Tryz.func128, Tryz.ntmps128
    go_wp2_with (at_builtin; refine Lib.wpList_append_run _ rfl _ _ _ _ rfl _ _ rfl rfl _ _ hr ?_)
    all_goals (go_ret; first | exact ⟨_, rfl, ho', hgr⟩ | exact ⟨_, rfl, ho', by cases A <;> exact hgr⟩)
set_option maxRecDepth 100000 in
set_option maxHeartbeats 8000000 in
theorem pins_any (v : Value) (n i g2 base : Nat) (xs ys : List Value) (w : World) (hown : w.ownsRow base 84 2 v n xs) (hi : i ≤ n) (hn : n ≤ 1000) (hyl : ys.length = 2)
    (hg2 : w.heap[g2]? = some (.cells ys.toArray 84 (0, 0))) (hne : v.ownBlock ≠ some g2) (h1x : ∀ u ∈ xs, u.oneCell' = true) (h1 : ∀ u ∈ ys, u.oneCell' = true) (hbase : base ≤ w.heap.size) :
    Calls Tryz.prog 124 #[v, .int .i64 i, .slice (some ⟨g2, 0, none⟩) 1 1] w (RetIns w 84 2 base n v.ownBlock (insL xs (i * 2) ys)) := by
  obtain ⟨i0, hi0, hz0, hz1, hz2⟩ := info_parts iq_point
  have hlt2 : g2 < w.heap.size := (Array.getElem?_eq_some_iff.1 hg2).1
  have hxl := hown.1
  rcases Nat.lt_or_ge i n with hlt | hge
  · rcases hown.2 with ⟨-, h0⟩ | ⟨g, cap, cur, rfl, hb, hg, hnc, hcm, hcs, hct⟩
    · omega
    have hgl : g < w.heap.size := (Array.getElem?_eq_some_iff.1 hg).1
    have hne' : g2 ≠ g := fun e => hne (by rw [e]; rfl)
    unfold maxLen at hcm
    have hszq : (Tryz.prog.info? 84).map (·.size) = some 2 := by rw [hi0]; simp [hz1]
    have hz2' : ¬ ((i : Int) = (n : Int)) := by omega
    have hci : ¬ (cap = i) := by omega
    have hb0 : (0 : Int) ≤ (i : Int) := by omega
    have hb1 : (0 : Int) ≤ (i : Int) + 1 := by omega
    have hin : i ≤ n := by omega
    have hin' : (i : Int) ≤ (n : Int) := by omega
    have htn : ((i : Int) + 1).toNat = i + 1 := by omega
    have mixed : Tryz.prog.follows .mixedOrders = true := by kernel_rfl
    have hw1 : IntKind.i64.wrap ((i : Int) + 1) = (i : Int) + 1 := by rw [IntKind.wrap_i64]; omega
    have htn2 : ((n : Int) + 1).toNat = n + 1 := by omega
    have hxd : (xs.drop (i * 2)).length = (n - i) * 2 := by rw [List.length_drop, hxl]; omega
    have hcl : cur.toList.length = cap * 2 := by simpa using hcs
    rcases Nat.lt_or_ge n cap with hroom | hfull
    · have hov : ∀ lb cb, (callFunc 130 #[.slice (some ⟨g2, 0, none⟩) 1 1, .slice (some ⟨g, (i + 1) * 2, none⟩) lb cb]).run Tryz.prog w = .ok (.value (.bool false)) w := fun lb cb => by
        rw [run_callFunc_extern Tryz.func130 (by kernel_rfl) (by kernel_rfl) (by kernel_rfl) (e := Extern.SlicesOverlaps.overlaps #[31, 31] #[4]) (by kernel_rfl),
          Lib.run_overlaps_apart w 31 4 84 Tryz.underlying31 2 (fun w => by simp [sizeOf, typeInfo, hi0, hz1]) ⟨g2, 0, none⟩ ⟨g, (i + 1) * 2, none⟩ 1 1 lb cb hne' 84 84 ys.toArray.size cur.size (shape_row hg2) (shape_row hg) (by rw [hcs]; omega) (frozen_row hg2 0) (frozen_row hg2 _)]
        rfl
      have hci1 : ¬ (cap = i + 1) := by omega
      have hb3 : (i : Int) + 1 ≤ (n : Int) + 1 := by omega
      have hb4 : (i : Int) ≤ (n : Int) + 1 := by omega
      have hb5 : (n : Int) + 1 ≤ (cap : Int) := by omega
      have hb6 : n + 1 ≤ cap := by omega
      have hnocap : ¬ ((cap : Int) < (n : Int) + 1) := by omega
      have hgL : w.heap[g]? = some (.cells cur.toList.toArray 84 (0, 0)) := by simpa using hg
      have hsrc : ∀ (j : Nat) (u : Value), (xs.drop (i * 2))[j]? = some u → w.cell? ((⟨g, i * 2, none⟩ : Addr).add j) = some u := by
        intro j u hj
        rw [List.getElem?_drop, ← hct, List.getElem?_take] at hj
        split at hj
        · rw [add_at]
          exact cell_row hgL hj
        · cases hj
      have hD1 : (xs.drop (i * 2)).length = Nat.min (n + 1 - i) (n + 1 - (i + 1)) * 2 := by rw [hxd]; show _ = min _ _ * 2; omega
      have hfit1 : (i + 1) * 2 + (xs.drop (i * 2)).length ≤ cur.toList.length := by rw [hxd, hcl]; omega
      have h1d : ∀ u ∈ xs.drop (i * 2), u.oneCell' = true := fun u hu => h1x u (List.mem_of_mem_drop hu)
      have hL1 := over_len hfit1
      have hD2 : ys.length = Nat.min 1 (n + 1 - i) * 2 := by rw [hyl]; show _ = min _ _ * 2; omega
      have hfit2 : i * 2 + ys.length ≤ (over cur.toList ((i + 1) * 2) (xs.drop (i * 2))).length := by rw [hL1, hcl, hyl]; omega
      have hR : (over (over cur.toList ((i + 1) * 2) (xs.drop (i * 2))) (i * 2) ys).take ((n + 1) * 2) = insL xs (i * 2) ys := by
        have := over_room (cur := cur.toList) (xs := xs) (ys := ys) (o := i * 2) (by rw [hxl]; omega) (by rw [hxl]; exact hct) (by rw [hxl, hyl, hcl]; omega)
        rw [hxl, hyl, show n * 2 + 2 = (n + 1) * 2 by omega, show i * 2 + 2 = (i + 1) * 2 by omega] at this
        exact this
      have hsz2 : (over (over cur.toList ((i + 1) * 2) (xs.drop (i * 2))) (i * 2) ys).length = cap * 2 := by rw [over_len hfit2, hL1, hcl]
      have hil : (insL xs (i * 2) ys).length = (n + 1) * 2 := by rw [← hR, List.length_take, hsz2, Nat.min_eq_left] <;> omega
      obtain ⟨C1, hC1⟩ : ∃ C, C = over cur.toList ((i + 1) * 2) (xs.drop (i * 2)) := ⟨_, rfl⟩
      rw [← hC1] at hR hsz2 hfit2
      obtain ⟨I, hI⟩ : ∃ I, I = insL xs (i * 2) ys := ⟨_, rfl⟩
      rw [← hI] at hR hil ⊢
      obtain ⟨D, hD⟩ : ∃ D, D = xs.drop (i * 2) := ⟨_, rfl⟩
      rw [← hD] at hsrc hD1 hfit1 h1d hC1
      have HC1 := hide hC1
      have HR := hide hR
      have HS2 := hide hsz2
      have HIL := hide hil
      have HD1 := hide hD1
      have HD2 := hide hD2
      have HF1 := hide hfit1
      have HF2 := hide hfit2
      have HSRC := hide hsrc
      clear hR hsz2 hil hI hD hD1 hD2 hfit1 hfit2 hL1 hsrc hC1 hxd hxl hcs hct hown hcl
      go_enter Tryz.func124, Tryz.ntmps124
      go_wp2_with (simp only [hov])
      go_region_law_o (refine step_copy_rowN rfl _ _ 31 31 rfl 84 2 Tryz.underlying31 hszq g ((i + 1) * 2) (n + 1 - (i + 1)) (cap - (i + 1)) ⟨g, i * 2, none⟩ (n + 1 - i) (cap - i) (by simp [Act.eval, Act.put]) (by simp [Act.eval, Act.put]) cur.toList 84 hgL D HD1.out HSRC.out HF1.out h1d ?_; intro w4 u4 hg4 hgr4; rw [← HC1.out] at hg4)
      have hv4 : w4.heap[g2]? = some (.cells ys.toArray 84 (0, 0)) := (hgr4.block g2 hlt2 (fun e => hne' (Option.some.inj e))).trans hg2
      have hsv : ∀ (j : Nat) (u : Value), ys[j]? = some u → w4.cell? ((⟨g2, 0, none⟩ : Addr).add j) = some u := fun j u hj => by rw [add_at, Nat.zero_add]; exact cell_row hv4 hj
      go_wp2_with (refine wpList_copy_rowN rfl _ _ 31 31 rfl 84 2 Tryz.underlying31 hszq g (i * 2) (n + 1 - i) (cap - i) ⟨g2, 0, none⟩ 1 1 rfl rfl C1 84 hg4 ys HD2.out hsv HF2.out h1 ?_; intro w5 u5 hg5 hgr5)
      go_ret
      exact ⟨_, rfl, ⟨HIL.out, .inr ⟨g, cap, _, rfl, hb, hg5, hb6, by unfold maxLen; omega, by simpa using HS2.out, by simpa using HR.out⟩⟩, grown_trans (⟨hgr4.os, hgr4.tape, hgr4.output, hgr4.size, hgr4.block⟩ : w.grownBy w4 (some g)) hgr5 (.inl rfl)⟩
    · have hgL : w.heap[g]? = some (.cells cur.toList.toArray 84 (0, 0)) := by simpa using hg
      have hxc : ∀ (j : Nat) (u : Value), xs[j]? = some u → cur.toList[j]? = some u := by
        intro j u hj
        rw [← hct, List.getElem?_take] at hj
        split at hj
        · exact hj
        · cases hj
      have hold : (Builtin.firstCells i0.size i (.slice (some ⟨g, 0, none⟩) i cap)).run Tryz.prog w.drew = .ok (xs.take (i * 2)).toArray w.drew := by
        rw [hz1]
        refine run_firstCells_some w.drew 2 i ⟨g, 0, none⟩ i cap (xs.take (i * 2)) (by rw [List.length_take, hxl, Nat.min_eq_left] <;> omega) (fun j u hj => ?_)
        rw [List.getElem?_take] at hj
        split at hj
        · rw [add_at, Nat.zero_add]
          exact cell_row (w := w) hgL (hxc j u hj)
        · cases hj
      have hik : i + (n + 1 - i) = n + 1 := by omega
      obtain ⟨G, hG⟩ : ∃ G, G = grownCap w (n + 1) cap 84 := ⟨_, rfl⟩
      have hGn : n + 1 ≤ G := by rw [hG]; exact grownCap_ge w _ _ _
      have hG63 : G ≤ maxLen := by rw [hG]; exact grownCap_le_maxLen w (n + 1) cap 84 (by unfold maxLen; omega)
      obtain ⟨Zs, hZs⟩ : ∃ Zs : List Value, Zs = (Builtin.zeroCells (Value.cells (.agg #[.int .i64 0, .int .i64 0])) (n + 1 - i)).toList ++ (Builtin.zeroCells (Value.cells (.agg #[.int .i64 0, .int .i64 0])) (G - (n + 1))).toList := ⟨_, rfl⟩
      have hZl : Zs.length = (G - i) * 2 := by
        rw [hZs]
        simp [Builtin.zeroCells, Value.cells]
        omega
      obtain ⟨W1, hW1⟩ : ∃ W1, W1 = w.drew.alloc (.cells (xs.take (i * 2) ++ Zs).toArray 84) := ⟨_, rfl⟩
      have hrz : ∀ ty, (Builtin.append_ #[31, 3] ty #[.slice (some ⟨g, 0, none⟩) i cap, .int .i64 ((n : Int) + 1 - (i : Int))]).run Tryz.prog w = .ok (.slice (some ⟨w.heap.size, 0, none⟩) (n + 1) G) W1 := fun ty => by
        have h := Lib.run_append_grow_zeros w 31 3 ty 84 i0 _ .i64 .i64 Tryz.underlying31 Tryz.underlying3 hi0 hz0 (some ⟨g, 0, none⟩) i cap (xs.take (i * 2)) hold (n + 1 - i) (by omega) (by rw [hz1]; decide) (by omega) (by omega) (by rw [hz2]; omega) (by rw [hz2, hik]; exact growslice_fits (by omega) (by omega))
        rw [hik, ← hG] at h
        have hA : (xs.take (i * 2) ++ Zs).toArray = (xs.take (i * 2)).toArray ++ Builtin.zeroCells (Value.cells (.agg #[.int .i64 0, .int .i64 0])) (n + 1 - i) ++ Builtin.zeroCells (Value.cells (.agg #[.int .i64 0, .int .i64 0])) (G - (n + 1)) := by
          rw [hZs]
          apply Array.ext'
          simp
        rw [hW1, hA, show (n : Int) + 1 - (i : Int) = ((n + 1 - i : Nat) : Int) by omega, h]
      have hN1 : W1.heap[w.heap.size]? = some (.cells (xs.take (i * 2) ++ Zs).toArray 84 (0, 0)) := by rw [hW1]; exact heap_alloc_new w.drew _
      have hO1 : ∀ k, k < w.heap.size → W1.heap[k]? = w.heap[k]? := fun k hk => by rw [hW1]; exact (below_laid (w := w.drew) _).block k hk
      have hgr1 : w.grownBy W1 (some g) := by rw [hW1]; exact ⟨rfl, rfl, rfl, (below_laid (w := w.drew) _).size, fun k hk _ => (below_laid (w := w.drew) _).block k hk⟩
      have hlt1 : w.heap.size < W1.heap.size := by rw [hW1]; show w.drew.heap.size < (w.drew.alloc _).heap.size; simp
      have hGi : ¬ (G = i) := by omega
      have hGi1 : ¬ (G = i + 1) := by omega
      have htl : (xs.take (i * 2)).length = i * 2 := by rw [List.length_take, hxl, Nat.min_eq_left] <;> omega
      have hcl1 : (xs.take (i * 2) ++ Zs).length = G * 2 := by rw [List.length_append, htl, hZl]; omega
      have hD2 : ys.length = Nat.min 1 (n + 1 - i) * 2 := by rw [hyl]; show _ = min _ _ * 2; omega
      have hfit2 : i * 2 + ys.length ≤ (xs.take (i * 2) ++ Zs).length := by rw [hcl1, hyl]; omega
      have hL1 := over_len hfit2
      have hD1 : (xs.drop (i * 2)).length = Nat.min (n - i) (n + 1 - (i + 1)) * 2 := by rw [hxd]; show _ = min _ _ * 2; omega
      have hfit1 : (i + 1) * 2 + (xs.drop (i * 2)).length ≤ (over (xs.take (i * 2) ++ Zs) (i * 2) ys).length := by rw [hL1, hxd, hcl1]; omega
      have h1d : ∀ u ∈ xs.drop (i * 2), u.oneCell' = true := fun u hu => h1x u (List.mem_of_mem_drop hu)
      have hsrc : ∀ (j : Nat) (u : Value), (xs.drop (i * 2))[j]? = some u → cur.toList[i * 2 + j]? = some u := fun j u hj => hxc _ u (by rwa [List.getElem?_drop] at hj)
      have hR : (over (over (xs.take (i * 2) ++ Zs) (i * 2) ys) ((i + 1) * 2) (xs.drop (i * 2))).take ((n + 1) * 2) = insL xs (i * 2) ys := by
        have := over_new (xs := xs) (ys := ys) (z := Zs) (o := i * 2) (by rw [hxl]; omega) (by rw [hxl, hyl, hZl]; omega)
        rw [hxl, hyl, show n * 2 + 2 = (n + 1) * 2 by omega, show i * 2 + 2 = (i + 1) * 2 by omega] at this
        exact this
      have hsz2 : (over (over (xs.take (i * 2) ++ Zs) (i * 2) ys) ((i + 1) * 2) (xs.drop (i * 2))).length = G * 2 := by rw [over_len hfit1, hL1, hcl1]
      have hil : (insL xs (i * 2) ys).length = (n + 1) * 2 := by rw [← hR, List.length_take, hsz2, Nat.min_eq_left] <;> omega
      obtain ⟨C0, hC0⟩ : ∃ C, C = xs.take (i * 2) ++ Zs := ⟨_, rfl⟩
      rw [← hC0] at hR hsz2 hfit2 hfit1 hN1
      obtain ⟨C1, hC1⟩ : ∃ C, C = over C0 (i * 2) ys := ⟨_, rfl⟩
      rw [← hC1] at hR hsz2 hfit1
      obtain ⟨I, hI⟩ : ∃ I, I = insL xs (i * 2) ys := ⟨_, rfl⟩
      rw [← hI] at hR hil ⊢
      obtain ⟨D, hD⟩ : ∃ D, D = xs.drop (i * 2) := ⟨_, rfl⟩
      rw [← hD] at hR hsz2 hsrc hD1 hfit1 h1d
      have HC1 := hide hC1
      have HR := hide hR
      have HS2 := hide hsz2
      have HIL := hide hil
      have HD1 := hide hD1
      have HD2 := hide hD2
      have HF1 := hide hfit1
      have HF2 := hide hfit2
      have HSRC := hide hsrc
      have HN1 := hide hN1
      have HO1 := hide hO1
      have HG1 := hide hgr1
      have HLT1 := hide hlt1
      unfold maxLen at hG63
      have HSV := hide (fun (j : Nat) (u : Value) (hj : ys[j]? = some u) => show W1.cell? ((⟨g2, 0, none⟩ : Addr).add j) = some u by rw [add_at, Nat.zero_add]; exact cell_row ((hO1 g2 hlt2).trans hg2) hj)
      have hneN : g ≠ w.heap.size := by omega
      have hneN2 : g2 ≠ w.heap.size := by omega
      have hg63' : G ≤ 9223372036854775807 := by omega
      have hgb : base ≤ w.heap.size := hbase
      have hb3 : (i : Int) + 1 ≤ (n : Int) + 1 := by omega
      have hb4 : (i : Int) ≤ (n : Int) + 1 := by omega
      have hfull' : (cap : Int) < (n : Int) + 1 := by omega
      clear hR hsz2 hil hI hD hD1 hD2 hfit1 hfit2 hL1 hsrc hC0 hC1 hxd hxl hcl hct hown hZs hZl hW1 hN1 hO1 hgr1 hlt1 htl hcl1 hG hold hxc hik hG63
      go_enter Tryz.func124, Tryz.ntmps124
      go_wp2_with (first
        | (at_builtin; refine Lib.wpList_append_run _ rfl _ _ _ _ rfl _ _ rfl rfl _ _ (hrz _) ?_)
        | (refine wpList_copy_rowN rfl _ _ 31 31 rfl 84 2 Tryz.underlying31 hszq w.heap.size (i * 2) (n + 1 - i) (G - i) ⟨g2, 0, none⟩ 1 1 rfl rfl C0 84 HN1.out ys HD2.out HSV.out HF2.out h1 ?_; intro w4 u4 hg4 hgr4; rw [← HC1.out] at hg4; have HG4 := hide hg4; have HR4 := hide hgr4; clear hg4 hgr4))
      have hv4 : w4.heap[g]? = some (.cells cur.toList.toArray 84 (0, 0)) := (HR4.out.block g (Nat.lt_trans hgl HLT1.out) (fun e => hneN (Option.some.inj e))).trans ((HO1.out g hgl).trans hgL)
      have hsv : ∀ (j : Nat) (u : Value), D[j]? = some u → w4.cell? ((⟨g, i * 2, none⟩ : Addr).add j) = some u := fun j u hj => by rw [add_at]; exact cell_row hv4 (HSRC.out j u hj)
      go_region_law_o (refine step_copy_rowN rfl _ _ 31 31 rfl 84 2 Tryz.underlying31 hszq w.heap.size ((i + 1) * 2) (n + 1 - (i + 1)) (G - (i + 1)) ⟨g, i * 2, none⟩ (n - i) (cap - i) (by simp [Act.eval, Act.put]) (by simp [Act.eval, Act.put]) C1 84 HG4.out D HD1.out hsv HF1.out h1d ?_; intro w5 u5 hg5 hgr5)
      go_wp2
      go_ret
      exact ⟨_, rfl, ⟨HIL.out, .inr ⟨w.heap.size, G, _, rfl, hgb, hg5, hGn, by unfold maxLen; omega, by simpa using HS2.out, by simpa using HR.out⟩⟩, grown_trans (grown_trans HG1.out HR4.out (.inr (Nat.le_refl _))) (⟨hgr5.os, hgr5.tape, hgr5.output, hgr5.size, hgr5.block⟩ : w4.grownBy w5 (some w.heap.size)) (.inr (Nat.le_refl _))⟩
  · obtain rfl : i = n := by omega
    have hins : insL xs (i * 2) ys = xs ++ ys := by unfold insL; rw [List.take_of_length_le (by omega), List.drop_eq_nil_of_le (by omega), List.append_nil]
    rw [hins]
    have happ := hide (fun (ty : TypeId) => run_append_own_at (P := Tryz.prog) w base 31 ty 84 i0 _ 2 16 Tryz.underlying31 hi0 hz0 hz1 hz2 rfl (by decide) v i xs hown ⟨g2, 0, none⟩ 1 1 ys (by rw [hyl]) (fun j u hj => by
        rw [add_at, Nat.zero_add]
        exact cell_row hg2 hj) h1 (by unfold maxLen; omega) (by omega) hbase)
    obtain ⟨A, cap, rfl⟩ := own_form hown
    have hcap : i ≤ cap := by
      rcases hown.2 with ⟨e, h0⟩ | ⟨g, cap, cur, e, hb, hg, hnc, hcm, hcs, hct⟩
      · omega
      · cases e; exact hnc
    have hcap2 : cap ≤ 9223372036854775807 := by
      rcases hown.2 with ⟨e, h0⟩ | ⟨g, cap, cur, e, hb, hg, hnc, hcm, hcs, hct⟩
      · cases e; omega
      · cases e; unfold maxLen at hcm; omega
    obtain ⟨v', w', hr, ho', hgr, -, -⟩ := happ.out 31
    clear hown happ hins hxl hi hi0 hz0 hz1 hz2
    go_enter Tryz.func124, Tryz.ntmps124
    go_wp2_with (at_builtin; refine Lib.wpList_append_run _ rfl _ _ _ _ rfl _ _ rfl rfl _ _ hr ?_)
    all_goals (go_ret; first | exact ⟨_, rfl, ho', hgr⟩ | exact ⟨_, rfl, ho', by cases A <;> exact hgr⟩)
end Go.Proofs.YtppaiihcaajkaaaGreat
