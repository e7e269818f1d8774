/- The walk of the law TopTotalsIncremental, of an aggregate that is one. -/
import Derived.Test.YthngffceneemnaaEInc
import Derived.Deep.Cut
import Derived.Deep.RegionHeld3
namespace Go.Proofs.Ythngffceneemnaa
open Go.RowKit
set_option linter.unusedVariables false
set_option linter.unusedSimpArgs false
/-- What holds at the head of the loop over the parts. -/
structure OInv (k : Int) (o : V3) (pv : Nat → Value) (Q : Nat → List V3) (w : World) (F j : Nat) (v : Value) (wr : World) : Prop where
  low : Below w.heap.size w wr
  parts : ∀ i, i < 3 → wr.cell? ⟨w.heap.size, i, none⟩ = some (pv i)
  other : Box3 wr (w.heap.size + 1) o
  box : BoxL wr F (fun i => if i < j then fld k (Q i) else A5.z)
  own : wr.ownsRow (F + 1) 25 3 v (cat Q j).length (flat (cat Q j))
  right : ∀ i, i < j → Right k (Q i) ∧ (Q i).length ≤ 8
theorem OInv.keep {k : Int} {o : V3} {pv : Nat → Value} {Q : Nat → List V3} {w : World} {F j : Nat} {v : Value} {wr w' : World} (h : OInv k o pv Q w F j v wr) (hb : Below wr.heap.size wr w') : OInv k o pv Q w F j v w' :=
  ⟨bthen h.low hb, fun i hi => keep1 hb (h.parts i hi), h.other.keep hb, h.box.low hb (by have := (h.box 0 (by omega) 0 _ rfl).1; exact World.block_lt_of_cell? wr _ this), own_keep h.own hb, h.right⟩
theorem BoxL.ex {w : World} {F j : Nat} {f : Nat → A5} (h : BoxL w F f) (hj : j < 3) : ∃ y0 y1 y2 y3 y4 : Value,
    w.cell? ⟨F, j * 5, none⟩ = some y0 ∧ w.cell? ⟨F, j * 5 + 1, none⟩ = some y1 ∧ w.cell? ⟨F, j * 5 + 2, none⟩ = some y2 ∧ w.cell? ⟨F, j * 5 + 3, none⟩ = some y3 ∧ w.cell? ⟨F, j * 5 + 4, none⟩ = some y4 ∧
    w.frozen? ⟨F, j * 5, none⟩ = false ∧ w.frozen? ⟨F, j * 5 + 1, none⟩ = false ∧ w.frozen? ⟨F, j * 5 + 2, none⟩ = false ∧ w.frozen? ⟨F, j * 5 + 3, none⟩ = false ∧ w.frozen? ⟨F, j * 5 + 4, none⟩ = false := by
  have h0 := h j hj 0 _ rfl
  have h1 := h j hj 1 _ rfl
  have h2 := h j hj 2 _ rfl
  have h3 := h j hj 3 _ rfl
  have h4 := h j hj 4 _ rfl
  exact ⟨_, _, _, _, _, h0.1, h1.1, h2.1, h3.1, h4.1, h0.2, h1.2, h2.2, h3.2, h4.2⟩
/-- A box of three accumulators, cell by cell. -/
def Box15 (w : World) (F : Nat) (f0 f1 f2 : A5) : Prop := (w.cell? ⟨F, 0, none⟩ = some (.int .i64 f0.k) ∧ w.cell? ⟨F, 1, none⟩ = some (.int .i64 f0.c) ∧ w.cell? ⟨F, 2, none⟩ = some (.int .i64 f0.q) ∧ w.cell? ⟨F, 3, none⟩ = some (.int .i64 f0.n) ∧ w.cell? ⟨F, 4, none⟩ = some (.string f0.s)) ∧ (w.cell? ⟨F, 5, none⟩ = some (.int .i64 f1.k) ∧ w.cell? ⟨F, 6, none⟩ = some (.int .i64 f1.c) ∧ w.cell? ⟨F, 7, none⟩ = some (.int .i64 f1.q) ∧ w.cell? ⟨F, 8, none⟩ = some (.int .i64 f1.n) ∧ w.cell? ⟨F, 9, none⟩ = some (.string f1.s)) ∧ (w.cell? ⟨F, 10, none⟩ = some (.int .i64 f2.k) ∧ w.cell? ⟨F, 11, none⟩ = some (.int .i64 f2.c) ∧ w.cell? ⟨F, 12, none⟩ = some (.int .i64 f2.q) ∧ w.cell? ⟨F, 13, none⟩ = some (.int .i64 f2.n) ∧ w.cell? ⟨F, 14, none⟩ = some (.string f2.s))
theorem Box15.keep {w w' : World} {F : Nat} {f0 f1 f2 : A5} (h : Box15 w F f0 f1 f2) (hb : Below w.heap.size w w') : Box15 w' F f0 f1 f2 := by
  obtain ⟨⟨b0, b1, b2, b3, b4⟩, ⟨b5, b6, b7, b8, b9⟩, ⟨b10, b11, b12, b13, b14⟩⟩ := h
  exact ⟨⟨keep1 hb b0, keep1 hb b1, keep1 hb b2, keep1 hb b3, keep1 hb b4⟩, ⟨keep1 hb b5, keep1 hb b6, keep1 hb b7, keep1 hb b8, keep1 hb b9⟩, ⟨keep1 hb b10, keep1 hb b11, keep1 hb b12, keep1 hb b13, keep1 hb b14⟩⟩
theorem BoxL.three {w : World} {F : Nat} {f : Nat → A5} {f0 f1 f2 : A5} (h : BoxL w F f) (e0 : f 0 = f0) (e1 : f 1 = f1) (e2 : f 2 = f2) : Box15 w F f0 f1 f2 := by
  subst e0 e1 e2
  exact ⟨⟨(h 0 (by omega) 0 _ rfl).1, (h 0 (by omega) 1 _ rfl).1, (h 0 (by omega) 2 _ rfl).1, (h 0 (by omega) 3 _ rfl).1, (h 0 (by omega) 4 _ rfl).1⟩,
    ⟨(h 1 (by omega) 0 _ rfl).1, (h 1 (by omega) 1 _ rfl).1, (h 1 (by omega) 2 _ rfl).1, (h 1 (by omega) 3 _ rfl).1, (h 1 (by omega) 4 _ rfl).1⟩,
    ⟨(h 2 (by omega) 0 _ rfl).1, (h 2 (by omega) 1 _ rfl).1, (h 2 (by omega) 2 _ rfl).1, (h 2 (by omega) 3 _ rfl).1, (h 2 (by omega) 4 _ rfl).1⟩⟩
theorem inc_plain {k : Int} {Q : Nat → List V3} (hk : knownB k = true) (hr : ∀ i, i < 3 → Right k (Q i) ∧ (Q i).length ≤ 8) :
    (mgE (fld k (Q 0)) (fld k (Q 1)) = 0 ∧ mg (fld k (Q 0)) (fld k (Q 1)) = mrg (fld k (Q 0)) (fld k (Q 1))) ∧
    (mgE (mrg (fld k (Q 0)) (fld k (Q 1))) (fld k (Q 2)) = 0 ∧ mg (mrg (fld k (Q 0)) (fld k (Q 1))) (fld k (Q 2)) = fld k (cat Q 3)) ∧
    (mgE (fld k (Q 1)) (fld k (Q 2)) = 0 ∧ mg (fld k (Q 1)) (fld k (Q 2)) = mrg (fld k (Q 1)) (fld k (Q 2))) ∧
    (mgE (fld k (Q 0)) (mrg (fld k (Q 1)) (fld k (Q 2))) = 0 ∧ mg (fld k (Q 0)) (mrg (fld k (Q 1)) (fld k (Q 2))) = fld k (cat Q 3)) ∧
    Right k (cat Q 3) ∧ (cat Q 3).length ≤ 24 ∧ (∀ i, i < 3 → Good (fld k (Q i))) ∧ Good (mrg (fld k (Q 0)) (fld k (Q 1))) ∧ Good (mrg (fld k (Q 1)) (fld k (Q 2))) ∧ Good (fld k (cat Q 3)) ∧ (fld k (cat Q 3)).k = k := by
  obtain ⟨r0, l0⟩ := hr 0 (by omega)
  obtain ⟨r1, l1⟩ := hr 1 (by omega)
  obtain ⟨r2, l2⟩ := hr 2 (by omega)
  have e3 : cat Q 3 = Q 0 ++ Q 1 ++ Q 2 := rfl
  obtain ⟨g0, k0, c0⟩ := fld_good hk (Q 0) r0 (by omega)
  obtain ⟨g1, k1, c1⟩ := fld_good hk (Q 1) r1 (by omega)
  obtain ⟨g2, k2, c2⟩ := fld_good hk (Q 2) r2 (by omega)
  have a01 := fld_app hk r0 r1 (by omega)
  have r01 := right_app r0 r1
  have l01 : (Q 0 ++ Q 1).length = (Q 0).length + (Q 1).length := List.length_append
  have a3 := fld_app hk r01 r2 (by omega)
  have g01 := mrg_good' g0 g1 (by rw [k0, k1]) (by rw [c0, c1]; omega)
  have g12 := mrg_good' g1 g2 (by rw [k1, k2]) (by rw [c1, c2]; omega)
  have k01 : (mrg (fld k (Q 0)) (fld k (Q 1))).k = k := by rw [mrg_k (by rw [k0, k1]), k0]
  have k12 : (mrg (fld k (Q 1)) (fld k (Q 2))).k = k := by rw [mrg_k (by rw [k1, k2]), k1]
  have r3 : Right k (cat Q 3) := by rw [e3]; exact right_app r01 r2
  have l3 : (cat Q 3).length ≤ 24 := by rw [e3, List.length_append, l01]; omega
  obtain ⟨g3, k3, c3⟩ := fld_good hk (cat Q 3) r3 (by omega)
  have hass := mrg_assoc g0 g1 g2 (by rw [k0, k1]) (by rw [k1, k2])
  have f3 : fld k (cat Q 3) = mrg (mrg (fld k (Q 0)) (fld k (Q 1))) (fld k (Q 2)) := by rw [e3, a3, a01]
  refine ⟨mg_ok g0 g1 (by rw [k0, k1]) (by rw [c0, c1]; omega), ⟨?_, ?_⟩, mg_ok g1 g2 (by rw [k1, k2]) (by rw [c1, c2]; omega), ⟨?_, ?_⟩, r3, l3, fun i hi => ?_, g01, g12, g3, k3⟩
  · exact (mg_ok g01 g2 (by rw [k01, k2]) (by rw [mrg_c, c0, c1, c2]; omega)).1
  · rw [(mg_ok g01 g2 (by rw [k01, k2]) (by rw [mrg_c, c0, c1, c2]; omega)).2, f3]
  · exact (mg_ok g0 g12 (by rw [k0, k12]) (by rw [mrg_c, c0, c1, c2]; omega)).1
  · rw [(mg_ok g0 g12 (by rw [k0, k12]) (by rw [mrg_c, c0, c1, c2]; omega)).2, f3, hass]
  · have hi3 : i = 0 ∨ i = 1 ∨ i = 2 := by omega
    rcases hi3 with rfl | rfl | rfl
    · exact g0
    · exact g1
    · exact g2
theorem set5_low {wr : World} {F j : Nat} (a : A5) : Below F wr (((((wr.setCell ⟨F, j * 5, none⟩ (.int .i64 a.k)).setCell ⟨F, j * 5 + 1, none⟩ (.int .i64 a.c)).setCell ⟨F, j * 5 + 2, none⟩ (.int .i64 a.q)).setCell ⟨F, j * 5 + 3, none⟩ (.int .i64 a.n)).setCell ⟨F, j * 5 + 4, none⟩ (.string a.s)) :=
  ((((((Below.refl _ _).setCell (p := ⟨F, j * 5, none⟩) (Nat.le_refl _) _).setCell (p := ⟨F, j * 5 + 1, none⟩) (Nat.le_refl _) _).setCell (p := ⟨F, j * 5 + 2, none⟩) (Nat.le_refl _) _).setCell (p := ⟨F, j * 5 + 3, none⟩) (Nat.le_refl _) _).setCell (p := ⟨F, j * 5 + 4, none⟩) (Nat.le_refl _) _)
theorem OInv.own_set {k : Int} {o : V3} {pv : Nat → Value} {Q : Nat → List V3} {w : World} {F j : Nat} {v : Value} {wr : World} (h : OInv k o pv Q w F j v wr) (a : A5) :
    ((((((wr.setCell ⟨F, j * 5, none⟩ (.int .i64 a.k)).setCell ⟨F, j * 5 + 1, none⟩ (.int .i64 a.c)).setCell ⟨F, j * 5 + 2, none⟩ (.int .i64 a.q)).setCell ⟨F, j * 5 + 3, none⟩ (.int .i64 a.n)).setCell ⟨F, j * 5 + 4, none⟩ (.string a.s))).ownsRow (F + 1) 25 3 v (cat Q j).length (flat (cat Q j)) :=
  Go.Proofs.Ythngffceneemnaa.own_set (Go.Proofs.Ythngffceneemnaa.own_set (Go.Proofs.Ythngffceneemnaa.own_set (Go.Proofs.Ythngffceneemnaa.own_set (Go.Proofs.Ythngffceneemnaa.own_set h.own (Nat.lt_succ_self F) _) (Nat.lt_succ_self F) _) (Nat.lt_succ_self F) _) (Nat.lt_succ_self F) _) (Nat.lt_succ_self F) _
theorem OInv.next {k : Int} {o : V3} {pv : Nat → Value} {Q : Nat → List V3} {w : World} {F j : Nat} {v v' : Value} {wr w' : World} {a : A5} (h : OInv k o pv Q w F j v wr) (hF : w.heap.size + 2 ≤ F) (hj : j < 3) (hr : Right k (Q j) ∧ (Q j).length ≤ 8) (ha : fld k (Q j) = a)
    (hown : w'.ownsRow (F + 1) 25 3 v' ((cat Q j).length + (Q j).length) (flat (cat Q j) ++ flat (Q j))) (hb : Below (F + 1) (((((wr.setCell ⟨F, j * 5, none⟩ (.int .i64 a.k)).setCell ⟨F, j * 5 + 1, none⟩ (.int .i64 a.c)).setCell ⟨F, j * 5 + 2, none⟩ (.int .i64 a.q)).setCell ⟨F, j * 5 + 3, none⟩ (.int .i64 a.n)).setCell ⟨F, j * 5 + 4, none⟩ (.string a.s)) w') : OInv k o pv Q w F (j + 1) v' w' := by
  have hlow : Below F wr w' := (set5_low a).trans (hb.mono (Nat.le_succ _))
  refine ⟨h.low.trans (hlow.mono (by omega)), fun i hi => (hlow.cell (p := ⟨w.heap.size, i, none⟩) (show w.heap.size < F by omega)).trans (h.parts i hi), ?_, ?_, ?_, fun i hi => ?_⟩
  · obtain ⟨⟨a0, a1, a2⟩, g0, g1, g2⟩ := h.other
    have hl : w.heap.size + 1 < F := by omega
    exact ⟨⟨(hlow.cell (p := ⟨_, 0, none⟩) hl).trans a0, (hlow.cell (p := ⟨_, 1, none⟩) hl).trans a1, (hlow.cell (p := ⟨_, 2, none⟩) hl).trans a2⟩, (hlow.frozen (p := ⟨_, 0, none⟩) hl).trans g0, (hlow.frozen (p := ⟨_, 1, none⟩) hl).trans g1, (hlow.frozen (p := ⟨_, 2, none⟩) hl).trans g2⟩
  · have hbx := (h.box.set hj a).low hb (Nat.lt_succ_self F)
    intro i hi c u hu
    refine hbx i hi c u ?_
    unfold upd
    rw [← hu]
    by_cases e : i = j
    · subst e; simp [ha]
    · have : (i < j + 1) ↔ i < j := by omega
      simp [e, this]
  · have : cat Q (j + 1) = cat Q j ++ Q j := rfl
    rw [this, List.length_append, flat_app]; exact hown
  · rcases Nat.lt_or_ge i j with h1 | h1
    · exact h.right i h1
    · obtain rfl : i = j := by omega
      exact hr
section
variable (k : Int) (o : V3) (pv : Nat → Value) (Q : Nat → List V3) (w : World)
set_option maxRecDepth 100000 in
set_option maxHeartbeats 8000000 in
theorem inc_yes (hp : ∀ i, i < 3 → InV w (pv i) (Q i)) (ho : o.s.size ≤ maxLen) (hk : knownB k = true) (h0 : ¬ k = 0) : Calls Try.prog 3 #[.int .i64 k, .agg #[pv 0, pv 1, pv 2], .agg #[.int .i64 o.q, .int .i64 o.n, .string o.s]] w (Ret (.bool true) w) := by
  obtain ⟨A0, c0, e0⟩ := (hp 0 (by omega)).2.2.1
  obtain ⟨A1, c1, e1⟩ := (hp 1 (by omega)).2.2.1
  obtain ⟨A2, c2, e2⟩ := (hp 2 (by omega)).2.2.1
  have HT := hide (fun w => trytot_any w)
  have HBG := hide (fun w => abegin_any k w)
  rw [show begV k = k from if_pos hk, show begE k = 0 from if_pos hk] at HBG
  have hcl : ∀ i, i < 3 → (w.alloc (.cells #[pv 0, pv 1, pv 2] 23)).cell? ⟨w.heap.size, i, none⟩ = some (pv i) := by
    intro i hi
    have hi3 : i = 0 ∨ i = 1 ∨ i = 2 := by omega
    rcases hi3 with rfl | rfl | rfl <;> exact cells_lit w [pv 0, pv 1, pv 2] _ _ _ rfl
  have hO := Box3.new (w.alloc (.cells #[pv 0, pv 1, pv 2] 23)) o 25
  rw [World.size_alloc] at hO
  have HCL := hide hcl
  have HO := hide hO
  have HP := hide hp
  have HK := hide hk
  have HHO := hide ho
  have t0 : (k == 0) = false := beq_eq_false_iff_ne.2 h0
  have HE0 := hide e0
  have HE1 := hide e1
  have HE2 := hide e2
  rw [e0, e1, e2] at HCL HO ⊢
  clear hp e0 e1 e2 hcl hO hk ho
  go_enter Try.func3, Try.ntmps3
  go_wp2_with fail
  refine (HT.out _).mono ?_
  rintro e w1 ⟨rfl, hb⟩
  have hz1 := hb.size
  rw [World.size_alloc, World.size_alloc] at hz1
  have HI : Hid (OInv k o pv Q w w1.heap.size 0 (.slice none 0 0) (w1.alloc (.cells z15.toArray 29))) := hide
    ⟨bthen (bthen (bthen (below_laid _) (below_laid _)) hb) (below_laid _), fun i hi => keep1 (below_laid _) (keep1 hb (keep1 (below_laid _) (HCL.out i hi))), (HO.out.keep hb).keep (below_laid _), BoxL.new w1 _, World.ownsRow_nil _ _ _ _, fun i hi => by omega⟩
  clear hb
  go_wp2_with fail
  go_loopw [7, 30] (fun v i wr => ∃ j : Nat, j ≤ 3 ∧ i = .int .i64 j ∧ Hid (OInv k o pv Q w w1.heap.size j v wr)) (fun _ i _ => 3 - (intOf i).toNat)
  case atStart => exact ⟨0, by omega, rfl, HI⟩
  case round =>
    obtain ⟨j, hj, rfl, HR⟩ := hrel
    by_cases hlt : j < 3
    · have hu0 : (0 : Int) ≤ (j : Int) := by omega
      have hu1 : (j : Int) < 3 := by omega
      go_wp2_with fail
      refine (HBG.out _).mono ?_
      rintro e w2 ⟨rfl, hb⟩
      replace HR := hide (HR.out.keep hb)
      clear hb
      have hIn := HP.out j hlt
      obtain ⟨A, cap, he⟩ := hIn.2.2.1
      have cp := HR.out.parts j hlt
      have hl2 := World.block_lt_of_cell? w2 _ cp
      simp only at hl2
      rw [he] at cp
      have HIN := hide hIn
      have HPJ := hide he
      obtain ⟨m, hm⟩ : ∃ m, (Q j).length = m := ⟨_, rfl⟩
      have hml := hIn.1
      rw [hm] at cp hml
      have HM := hide hm
      clear hm he hIn
      by_cases h8 : m ≤ 8
      · have t1 : decide ((8 : Int) < (m : Int)) = false := decide_eq_false (by omega)
        go_wp2_with fail
        have HA := hide (Box5.new w2 (beg k) 28)
        have HRT : Hid (Right k ((Q j).take 0)) := hide (by simp [Right])
        obtain ⟨wA, hwA⟩ : ∃ wA, wA = w2.alloc (.cells #[.int .i64 k, .int .i64 0, .int .i64 0, .int .i64 0, .string ⟨#[]⟩] 28) := ⟨_, rfl⟩
        have HBA : Hid (Below w2.heap.size w2 wA) := hide (by rw [hwA]; exact below_laid _)
        rw [show (w2.alloc (.cells #[.int .i64 (beg k).k, .int .i64 (beg k).c, .int .i64 (beg k).q, .int .i64 (beg k).n, .string (beg k).s] 28)) = wA from hwA.symm] at HA
        rw [← hwA]
        clear hwA cp
        go_loopw [55] (fun i wr => ∃ q : Nat, q ≤ m ∧ i = .int .i64 q ∧ Hid (Box5 wr w2.heap.size (fld k ((Q j).take q))) ∧ Hid (Below w2.heap.size w2 wr) ∧ Hid (Right k ((Q j).take q))) (fun i _ => m - (intOf i).toNat)
        case atStart => exact ⟨0, by omega, rfl, HA, HBA, HRT⟩
        case round =>
          obtain ⟨q, hq, rfl, HF, HB, HRT⟩ := hrel
          have hlF := World.block_lt_of_cell? wr _ HF.out.1.1
          simp only at hlF
          by_cases hlt2 : q < m
          · have hql : q < (Q j).length := by rw [HM.out]; exact hlt2
            have hrow := HIN.out.2.2.2
            rw [HPJ.out] at hrow
            obtain ⟨g, off, cap', e', hg, -, hcell⟩ := hrow.at_ (by omega)
            cases e'
            obtain ⟨f1, f2, f3⟩ := flat_at (Q j) q hql
            have hlow := bthen HR.out.low HB.out
            have e0 := (hlow.cell (p := ⟨g, off + q * 3, none⟩) hg).trans (hcell _ _ f1)
            have e1 := (hlow.cell (p := ⟨g, off + q * 3 + 1, none⟩) hg).trans (hcell _ _ f2)
            have e2 := (hlow.cell (p := ⟨g, off + q * 3 + 2, none⟩) hg).trans (hcell _ _ f3)
            have hgl := Nat.lt_of_lt_of_le hg hlow.size
            have HLOW := hide hlow
            obtain ⟨hgd, hak, hac⟩ := fld_good HK.out ((Q j).take q) HRT.out (by rw [List.length_take]; omega)
            rw [List.length_take] at hac
            have hadE := ad_eq (x := (Q j)[q]) hgd hak (by omega)
            have hxs := HIN.out.2.1 (Q j)[q] (List.getElem_mem hql)
            have hAD := fun w' => add_any w' (fld k ((Q j).take q)) (Q j)[q] (by have := good_len hgd; unfold maxLen; omega) hxs
            rw [hadE] at hAD
            have hu0' : (0 : Int) ≤ (q : Int) := by omega
            have hu1' : (q : Int) < (m : Int) := by omega
            have ne2 : wr.heap.size ≠ g := by omega
            by_cases hx : wrE k (Q j)[q].q (Q j)[q].n (Q j)[q].s.size = 0
            · have hadV : ad (fld k ((Q j).take q)) (Q j)[q] = fld k ((Q j).take (q + 1)) := by
                rw [fld_take k (Q j) hql]
                unfold ad
                rw [if_pos (by rw [hadE]; exact hx), hak]
              rw [hx, hadV] at hAD
              have HAD := hide hAD
              have HRN := hide (right_take hql HRT.out hx)
              obtain ⟨x, hxe⟩ : ∃ x, (Q j)[q] = x := ⟨_, rfl⟩
              rw [hxe] at e0 e1 e2 HAD
              obtain ⟨a, hae⟩ : ∃ a, fld k ((Q j).take q) = a := ⟨_, rfl⟩
              rw [hae] at HF HAD
              obtain ⟨b, hbe⟩ : ∃ b, fld k ((Q j).take (q + 1)) = b := ⟨_, rfl⟩
              rw [hbe] at HAD
              have HBE := hide hbe
              clear hxe hae hbe f1 f2 f3 hcell hx hxs hadE hadV hAD hgd hak hac hrow hlow
              obtain ⟨⟨a0, a1, a2, a3, a4⟩, -⟩ := HF.out
              go_wp2_with fail
              refine (HAD.out _).mono ?_
              rintro e w3 ⟨rfl, hb⟩
              have HF3 := hide ((HF.out.keep (below_laid _)).keep hb)
              have HB3 := hide (bthen HB.out (bel1 hb))
              clear hb a0 a1 a2 a3 a4 e0 e1 e2
              obtain ⟨⟨a0, a1, a2, a3, a4⟩, z0, z1, z2, z3, z4⟩ := HF3.out
              have hl3 := World.block_lt_of_cell? w3 _ a0
              simp only at hl3
              go_wp2
              go_roundw
              case rel => exact ⟨q + 1, by omega, by go_num, hide (by rw [HBE.out]; exact (HF3.out.set b).keep (below_laid _)), hide ((below_set5 HB3.out (Nat.le_refl _) _ _ _ _ _).alloc (by simpa [World.setCell] using HB3.out.size) _), HRN⟩
              case measure => simp [intOf]; omega
            · have hno := hx
              have HAD := hide hAD
              have HRC := hide (fun w => rcheck_any (Q j)[q].q (Q j)[q].n (Q j)[q].s w hxs)
              have HRS := hide (fun w => rsuits_any k (Q j)[q].q (Q j)[q].n (Q j)[q].s w)
              have hsame := suits_same (q := (Q j)[q].q) HK.out
              rw [hsame] at HRS
              unfold wrE at hno
              obtain ⟨x, hxe⟩ : ∃ x, (Q j)[q] = x := ⟨_, rfl⟩
              rw [hxe] at e0 e1 e2 HAD HRC HRS hno hx
              obtain ⟨a, hae⟩ : ∃ a, fld k ((Q j).take q) = a := ⟨_, rfl⟩
              rw [hae] at HF HAD
              obtain ⟨c, hce⟩ : ∃ c, wrE k x.q x.n x.s.size = c := ⟨_, rfl⟩
              rw [hce] at HAD hx
              have tc : (c != 0) = true := bne_iff_ne.2 hx
              clear hxe hae hce f1 f2 f3 hcell hxs hadE hAD hgd hak hac hrow hlow hx hsame
              obtain ⟨⟨a0, a1, a2, a3, a4⟩, -⟩ := HF.out
              generalize ad a x = ab at HAD
              obtain ⟨bk, bc, bq, bn, bs⟩ := ab
              go_wp2_with fail
              refine (HAD.out _).mono ?_
              rintro e w3 ⟨rfl, hb⟩
              have HX3 := hide ((Box3.new wr x 25).keep hb)
              have HB3 := hide (bthen HB.out (bel1 hb))
              clear hb a0 a1 a2 a3 a4 e0 e1 e2
              obtain ⟨⟨q0, q1, q2⟩, -⟩ := HX3.out
              have hl3 := World.block_lt_of_cell? w3 _ q0
              simp only at hl3
              go_wp2_with fail
              refine (HRC.out _).mono ?_
              rintro e w4 ⟨rfl, hb⟩
              have HX4 := hide ((HX3.out.keep (below_laid _)).keep hb)
              have HB4 := hide (bthen HB3.out (bel1 hb))
              clear hb q0 q1 q2
              obtain ⟨⟨q0, q1, q2⟩, -⟩ := HX4.out
              by_cases hc : checkC x.q x.n x.s.size = 0
              · have tq : (checkC x.q x.n x.s.size != 0) = false := bne_eq_false_iff_eq.2 hc
                have hsu : suitsB k x.q = false := by
                  cases hs : suitsB k x.q
                  · rfl
                  · rw [hs] at hno; exact absurd (by simp [hc]) hno
                rw [hsu] at HRS
                go_wp2_with fail
                refine (HRS.out _).mono ?_
                rintro e w5 ⟨rfl, hb⟩
                go_wp2
                go_ret
                exact Ret.bool rfl (bthen HR.out.low (bthen HB4.out hb))
              · have tq : (checkC x.q x.n x.s.size != 0) = true := bne_iff_ne.2 hc
                go_wp2
                go_ret
                exact Ret.bool rfl (bthen HR.out.low HB4.out)
          · obtain rfl : q = m := by omega
            have htk : (Q j).take q = Q j := List.take_of_length_le (by rw [HM.out]; exact Nat.le_refl _)
            rw [htk] at HF HRT
            replace HR := hide (HR.out.keep HB.out)
            obtain ⟨a, hae⟩ : ∃ a, fld k (Q j) = a := ⟨_, rfl⟩
            rw [hae] at HF
            have HAE := hide hae
            obtain ⟨⟨a0, a1, a2, a3, a4⟩, -⟩ := HF.out
            obtain ⟨y0, y1, y2, y3, y4, b0, b1, b2, b3, b4, f0, f1, f2, f3, f4⟩ := HR.out.box.ex hlt
            have cp := HR.out.parts j hlt
            rw [HPJ.out, HM.out] at cp
            have HOS := hide (HR.out.own_set a)
            have HRW : Hid (Row (((((wr.setCell ⟨w1.heap.size, j * 5, none⟩ (.int .i64 a.k)).setCell ⟨w1.heap.size, j * 5 + 1, none⟩ (.int .i64 a.c)).setCell ⟨w1.heap.size, j * 5 + 2, none⟩ (.int .i64 a.q)).setCell ⟨w1.heap.size, j * 5 + 3, none⟩ (.int .i64 a.n)).setCell ⟨w1.heap.size, j * 5 + 4, none⟩ (.string a.s)) w.heap.size 3 (.slice A q cap) q (flat (Q j))) := hide (by
              have := HIN.out.2.2.2
              rw [HPJ.out, HM.out] at this
              exact this.below (HR.out.low.trans ((set5_low a).mono (by omega))))
            have HLT : Hid (w1.heap.size + 1 ≤ (((((wr.setCell ⟨w1.heap.size, j * 5, none⟩ (.int .i64 a.k)).setCell ⟨w1.heap.size, j * 5 + 1, none⟩ (.int .i64 a.c)).setCell ⟨w1.heap.size, j * 5 + 2, none⟩ (.int .i64 a.q)).setCell ⟨w1.heap.size, j * 5 + 3, none⟩ (.int .i64 a.n)).setCell ⟨w1.heap.size, j * 5 + 4, none⟩ (.string a.s)).heap.size) := hide (by
              have := World.block_lt_of_cell? wr _ b0
              exact Nat.succ_le_of_lt (by simpa [World.setCell] using this))
            have ne3 : w.heap.size ≠ w1.heap.size := by omega
            have HCL8 : Hid ((cat Q j).length ≤ 24) := hide (by
              have hr := HR.out.right
              have hj3 : j = 0 ∨ j = 1 ∨ j = 2 := by omega
              rcases hj3 with rfl | rfl | rfl
              · exact Nat.zero_le _
              · have := (hr 0 (by omega)).2; simp [cat]; omega
              · have := (hr 0 (by omega)).2; have := (hr 1 (by omega)).2; simp [cat]; omega)
            have HNX := hide (fun v' w' => HR.out.next (v' := v') (w' := w') (a := a) hz1 hlt ⟨HRT.out, by rw [HM.out]; exact h8⟩ HAE.out)
            rw [HM.out] at HNX
            obtain ⟨i0, hi0, hz0, hz2, hz3⟩ := info_parts info_value
            clear hae htk
            go_upto_region 20 with (fail)
            have hcp : ((((((wr.setCell ⟨w1.heap.size, j * 5, none⟩ (.int .i64 a.k)).setCell ⟨w1.heap.size, j * 5 + 1, none⟩ (.int .i64 a.c)).setCell ⟨w1.heap.size, j * 5 + 2, none⟩ (.int .i64 a.q)).setCell ⟨w1.heap.size, j * 5 + 3, none⟩ (.int .i64 a.n)).setCell ⟨w1.heap.size, j * 5 + 4, none⟩ (.string a.s))).cell? ⟨w.heap.size, j, none⟩ = some (.slice A q cap) := ((set5_low a).cell (p := ⟨w.heap.size, j, none⟩) (show w.heap.size < w1.heap.size by omega)).trans cp
            obtain ⟨W5, hW5⟩ : ∃ W5, (((((wr.setCell ⟨w1.heap.size, j * 5, none⟩ (.int .i64 a.k)).setCell ⟨w1.heap.size, j * 5 + 1, none⟩ (.int .i64 a.c)).setCell ⟨w1.heap.size, j * 5 + 2, none⟩ (.int .i64 a.q)).setCell ⟨w1.heap.size, j * 5 + 3, none⟩ (.int .i64 a.n)).setCell ⟨w1.heap.size, j * 5 + 4, none⟩ (.string a.s)) = W5 := ⟨_, rfl⟩
            rw [hW5] at HOS HRW HLT HNX hcp ⊢
            clear hW5 cp a0 a1 a2 a3 a4 b0 b1 b2 b3 b4 f0 f1 f2 f3 f4
            go_wp2_with (go_loud (at_builtin; refine wpList_append_row rfl _ _ 22 rfl (w1.heap.size + 1) 25 i0 _ 3 32 Try.underlying22 hi0 hz0 hz2 hz3 rfl (by decide) u7 _ _ (by rfl) HOS.out (.slice A q cap) w.heap.size q (flat (Q j)) (by rfl) HRW.out (flat_one _) (by have := HCL8.out; unfold maxLen; omega) (by have := HCL8.out; omega) HLT.out ?_; intro v' w' hown' hb'))
            go_roundw
            case rel => exact ⟨j + 1, by omega, by go_num, hide (HNX.out v' w' hown' hb')⟩
            case measure => simp [intOf]; omega
      · have t1 : decide ((8 : Int) < (m : Int)) = true := decide_eq_true (by omega)
        go_wp2
        go_ret
        exact Ret.bool rfl (bthen HR.out.low (below_laid _))
    · obtain rfl : j = 3 := by omega
      obtain ⟨⟨m1, m2⟩, ⟨m3, m4⟩, ⟨m5, m6⟩, ⟨m7, m8⟩, hrl, hll, hgd, g01, g12, g3, k3⟩ := inc_plain HK.out HR.out.right
      have HBX := hide (HR.out.box.three (f0 := fld k (Q 0)) (f1 := fld k (Q 1)) (f2 := fld k (Q 2)) rfl rfl rfl)
      have s0 := good_len (hgd 0 (by omega))
      have s1 := good_len (hgd 1 (by omega))
      have s2 := good_len (hgd 2 (by omega))
      have s01 := good_len g01
      have s12 := good_len g12
      have s3 := good_len g3
      obtain ⟨f0, hf0⟩ : ∃ f, fld k (Q 0) = f := ⟨_, rfl⟩
      obtain ⟨f1, hf1⟩ : ∃ f, fld k (Q 1) = f := ⟨_, rfl⟩
      obtain ⟨f2, hf2⟩ : ∃ f, fld k (Q 2) = f := ⟨_, rfl⟩
      rw [hf0, hf1] at m1 m2 m3 m4 s01
      rw [hf1, hf2] at m5 m6 m7 m8 s12
      rw [hf0] at m7 m8 s0
      rw [hf1] at s1
      rw [hf2] at m3 m4 s2
      rw [hf0, hf1, hf2] at HBX
      obtain ⟨x, hx⟩ : ∃ f, mrg f0 f1 = f := ⟨_, rfl⟩
      obtain ⟨y, hy⟩ : ∃ f, mrg f1 f2 = f := ⟨_, rfl⟩
      rw [hx] at m2 m3 m4 s01
      rw [hy] at m6 m7 m8 s12
      have hof := fun o' : V3 => of_ok (o := o') HK.out (show (cat Q 3).length ≤ 4096 by omega) ((fE_right k _).2 hrl)
      have hrs : ∀ o' : V3, rsE (fld k (cat Q 3)) o' = wrE k o'.q o'.n o'.s.size := fun o' => by
        unfold rsE
        rw [if_neg (by simp [(good_iff _).2 g3]), k3]
      have hrz : k = 1 → ∀ o' : V3, rsG (fld k (cat Q 3)) o' = rsG (fld k (cat Q 3)) V3.z := fun hk1 o' => by
        unfold rsG
        rw [k3, if_neg h0, if_neg (fun h => h.2 hk1), if_neg h0, if_neg (fun h => h.2 hk1)]
      have HLL := hide hll
      have HINL : Hid (∀ w', Below wr.heap.size wr w' → InV w' u7 (cat Q 3)) := hide (fun w' hb => by
        have hO := own_keep HR.out.own hb
        have hrow := Row.of_own hO
        refine ⟨by omega, fun z hz => ?_, hrow.form, hrow⟩
        rcases List.mem_append.1 hz with h | h
        · rcases List.mem_append.1 h with h | h
          · exact (HP.out 0 (by omega)).2.1 z (by simpa [cat] using h)
          · exact (HP.out 1 (by omega)).2.1 z h
        · exact (HP.out 2 (by omega)).2.1 z h)
      obtain ⟨L, hL⟩ : ∃ L, cat Q 3 = L := ⟨_, rfl⟩
      rw [hL] at m4 m8 s3 hof hrs hrz HLL HINL
      obtain ⟨lf, hlf⟩ : ∃ f, fld k L = f := ⟨_, rfl⟩
      rw [hlf] at m4 m8 s3 hof hrs hrz
      have M1 := hide (fun w' => merge_any w' f0 f1 (by unfold maxLen; omega) (by unfold maxLen; omega))
      have M2 := hide (fun w' => merge_any w' x f2 (by unfold maxLen; omega) (by unfold maxLen; omega))
      have M3 := hide (fun w' => merge_any w' f1 f2 (by unfold maxLen; omega) (by unfold maxLen; omega))
      have M4 := hide (fun w' => merge_any w' f0 y (by unfold maxLen; omega) (by unfold maxLen; omega))
      rw [m1, m2] at M1
      rw [m3, m4] at M2
      rw [m5, m6] at M3
      rw [m7, m8] at M4
      have M5 := hide (fun w' => result_any w' lf o (by unfold maxLen; omega) HHO.out)
      have M6 := hide (fun w' (h : InV w' u7 L) => of_any k L o w' u7 h.1 HHO.out (fun _ => h.2.1) h.2.2.1 (fun _ => h.2.2.2))
      rw [(hof o).1, (hof o).2] at M6
      obtain ⟨r, hrr⟩ : ∃ r, rs lf o = r := ⟨_, rfl⟩
      obtain ⟨c, hcc⟩ : ∃ c, rsE lf o = c := ⟨_, rfl⟩
      rw [hrr, hcc] at M5 M6
      have HRR := hide hrr
      have HCC := hide hcc
      have M8 := hide (fun w' (h : InV w' u7 L) => tryev_any L w' u7 (by have := HLL.out; omega) h.2.2.2)
      have HOF := hide hof
      have HRS := hide hrs
      have HRZ := hide hrz
      have HSL := hide (HINL.out wr (Below.refl _ _)).2.1
      obtain ⟨LA, lc, rfl⟩ := (HINL.out wr (Below.refl _ _)).2.2.1
      clear hrr hcc m1 m2 m3 m4 m5 m6 m7 m8 hof hrs hrz hL hlf hx hy hf0 hf1 hf2 hrl hll hgd g01 g12 g3 k3 s0 s1 s2 s01 s12 s3
      obtain ⟨bx0, bx1, bx2⟩ := HBX.out
      obtain ⟨a00, a01, a02, a03, a04⟩ := bx0
      obtain ⟨a10, a11, a12, a13, a14⟩ := bx1
      clear bx2
      go_wp2_with fail
      refine (M1.out _).mono ?_
      rintro e u1 ⟨rfl, hb⟩
      have hb9 := bthen hb (below_laid (.cells #[.int .i64 x.k, .int .i64 x.c, .int .i64 x.q, .int .i64 x.n, .string x.s] 28))
      have HR2 := hide (HR.out.keep hb9)
      have HBX2 := hide (HBX.out.keep hb9)
      have HX := hide (Box5.new u1 x 28)
      have HB9 := hide hb9
      clear hb hb9 a00 a01 a02 a03 a04 a10 a11 a12 a13 a14
      obtain ⟨-, -, a10, a11, a12, a13, a14⟩ := HBX2.out
      obtain ⟨⟨x0, x1, x2, x3, x4⟩, -⟩ := HX.out
      go_wp2_with fail
      refine (M2.out _).mono ?_
      rintro e u2 ⟨rfl, hb⟩
      have hb9 := bthen hb (below_laid (.cells #[.int .i64 lf.k, .int .i64 lf.c, .int .i64 lf.q, .int .i64 lf.n, .string lf.s] 28))
      replace HR2 := hide (HR2.out.keep hb9)
      replace HBX2 := hide (HBX2.out.keep hb9)
      have HLF := hide (Box5.new u2 lf 28)
      replace HB9 := hide (bthen HB9.out hb9)
      clear hb hb9 a10 a11 a12 a13 a14 x0 x1 x2 x3 x4 HX
      obtain ⟨-, ⟨a00, a01, a02, a03, a04⟩, a10, a11, a12, a13, a14⟩ := HBX2.out
      go_wp2_with fail
      refine (M3.out _).mono ?_
      rintro e u3 ⟨rfl, hb⟩
      have hb9 := bthen hb (below_laid (.cells #[.int .i64 y.k, .int .i64 y.c, .int .i64 y.q, .int .i64 y.n, .string y.s] 28))
      replace HR2 := hide (HR2.out.keep hb9)
      replace HBX2 := hide (HBX2.out.keep hb9)
      replace HLF := hide (HLF.out.keep hb9)
      have HY := hide (Box5.new u3 y 28)
      replace HB9 := hide (bthen HB9.out hb9)
      clear hb hb9 a00 a01 a02 a03 a04 a10 a11 a12 a13 a14
      obtain ⟨⟨a00, a01, a02, a03, a04⟩, -, -⟩ := HBX2.out
      obtain ⟨⟨x0, x1, x2, x3, x4⟩, -⟩ := HY.out
      go_wp2_with fail
      refine (M4.out _).mono ?_
      rintro e u4 ⟨rfl, hb⟩
      have hb9 := bthen hb (below_laid (.cells #[.int .i64 lf.k, .int .i64 lf.c, .int .i64 lf.q, .int .i64 lf.n, .string lf.s] 28))
      replace HR2 := hide (HR2.out.keep hb9)
      replace HLF := hide (HLF.out.keep hb9)
      have HRF := hide (Box5.new u4 lf 28)
      replace HB9 := hide (bthen HB9.out hb9)
      clear hb hb9 a00 a01 a02 a03 a04 x0 x1 x2 x3 x4 HY HBX2 HBX
      obtain ⟨⟨x0, x1, x2, x3, x4⟩, -⟩ := HLF.out
      obtain ⟨⟨q0, q1, q2⟩, -⟩ := HR2.out.other
      have lx := World.block_lt_of_cell? (u4.alloc (.cells #[.int .i64 lf.k, .int .i64 lf.c, .int .i64 lf.q, .int .i64 lf.n, .string lf.s] 28)) _ x0
      rw [World.size_alloc] at lx
      go_wp2_with fail
      refine (M5.out _).mono ?_
      rintro e u5 ⟨rfl, hb⟩
      have hb9 := bthen hb (below_laid (.cells #[.int .i64 r.q, .int .i64 r.n, .string r.s] 25))
      replace HR2 := hide (HR2.out.keep hb9)
      have HV := hide (Box3.new u5 r 25)
      replace HB9 := hide (bthen HB9.out hb9)
      clear hb hb9 x0 x1 x2 x3 x4 q0 q1 q2 lx HLF HRF
      obtain ⟨⟨q0, q1, q2⟩, -⟩ := HR2.out.other
      go_wp2_with fail
      refine (M6.out _ (HINL.out _ HB9.out)).mono ?_
      rintro e u6 ⟨rfl, hb⟩
      have hb9 := bthen hb (below_laid (.cells #[.int .i64 r.q, .int .i64 r.n, .string r.s] 25))
      replace HR2 := hide (HR2.out.keep hb9)
      replace HV := hide (HV.out.keep hb9)
      have HU := hide (Box3.new u6 r 25)
      replace HB9 := hide (bthen HB9.out hb9)
      clear hb hb9 q0 q1 q2
      by_cases hc : c = 0
      · subst hc
        obtain ⟨⟨q0, q1, q2⟩, -⟩ := HR2.out.other
        have hk15 : 1 ≤ k ∧ k ≤ 5 := by
          have := HK.out
          simp only [knownB, decide_eq_true_eq] at this
          omega
        by_cases hk1 : k = 1
        · have t1 : (k == 1) = true := beq_iff_eq.2 hk1
          have HK1 := hide hk1
          clear hk1
          have hev : ∀ w' g E, w'.cell? ⟨g, 0, none⟩ = some E → Evs w' E L → Calls Try.prog 12 #[.agg #[.int .i64 4, .slice none 0 0, .int .i64 0, .int .i64 0, .int .i64 k, .int .i64 V3.z.q, .int .i64 V3.z.n, .string V3.z.s], .agg #[.slice (some ⟨g, 0, none⟩) 1 1], .int .i64 (-1), .agg #[.int .i64 0, .int .i64 0, .int .i64 0, .int .i64 0, .slice none 0 0]] w' (Ret (.tuple #[.agg #[.int .i64 r.q, .int .i64 r.n, .string r.s], .int .i64 0]) w') := fun w' g E h1 h2 => by
            have hwz : wrE k V3.z.q V3.z.n V3.z.s.size = 0 := by rw [HK1.out]; decide
            have h := eev_any k V3.z g E L w' hk15.1 hk15.2 (Nat.zero_le _) hwz (fun _ => rfl) (by have := HLL.out; omega) HSL.out h1 h2
            rw [(HOF.out V3.z).1, (HOF.out V3.z).2, show rsE lf V3.z = 0 by rw [HRS.out]; exact hwz, show rs lf V3.z = r by unfold rs; rw [if_pos (by rw [HRS.out]; exact hwz), ← HRZ.out HK1.out o, ← HRR.out]; unfold rs; rw [if_pos HCC.out]] at h
            exact h
          have HEV := hide hev
          clear hev
          go_wp2_with fail
          have hbx : BoxE ((u6.alloc (.cells #[.int .i64 r.q, .int .i64 r.n, .string r.s] 25)).alloc (.cells #[.int .i64 4, .slice none 0 0, .int .i64 0, .int .i64 0, .int .i64 k, .int .i64 0, .int .i64 0, .string ⟨#[]⟩] 42)) (u6.heap.size + 1) k V3.z := by
            have h := BoxE.new (u6.alloc (.cells #[.int .i64 r.q, .int .i64 r.n, .string r.s] 25)) k V3.z
            rw [World.size_alloc] at h
            exact h
          have hbe : Below (u6.alloc (.cells #[.int .i64 r.q, .int .i64 r.n, .string r.s] 25)).heap.size (u6.alloc (.cells #[.int .i64 r.q, .int .i64 r.n, .string r.s] 25)) ((u6.alloc (.cells #[.int .i64 r.q, .int .i64 r.n, .string r.s] 25)).alloc (.cells #[.int .i64 4, .slice none 0 0, .int .i64 0, .int .i64 0, .int .i64 k, .int .i64 0, .int .i64 0, .string ⟨#[]⟩] 42)) := below_laid _
          have hsz : ((u6.alloc (.cells #[.int .i64 r.q, .int .i64 r.n, .string r.s] 25)).alloc (.cells #[.int .i64 4, .slice none 0 0, .int .i64 0, .int .i64 0, .int .i64 k, .int .i64 0, .int .i64 0, .string ⟨#[]⟩] 42)).heap.size = u6.heap.size + 1 + 1 := by rw [World.size_alloc, World.size_alloc]
          have HV7 := hide (HV.out.keep hbe)
          have HU7 := hide (HU.out.keep hbe)
          obtain ⟨W7, hW7⟩ : ∃ W7, (u6.alloc (.cells #[.int .i64 r.q, .int .i64 r.n, .string r.s] 25)).alloc (.cells #[.int .i64 4, .slice none 0 0, .int .i64 0, .int .i64 0, .int .i64 k, .int .i64 0, .int .i64 0, .string ⟨#[]⟩] 42) = W7 := ⟨_, rfl⟩
          rw [hW7] at hbx hbe hsz HV7 HU7 ⊢
          obtain ⟨y0, y1, y2, y3, y4, y5, y6, y7⟩ := hbx
          simp only [V3.z] at y5 y6 y7
          have hb7 := bthen HB9.out hbe
          have HLW := hide (bthen HR2.out.low hbe)
          clear hW7 hbe HV HU HB9 q0 q1 q2
          have hsl : u6.heap.size + 1 < W7.heap.size := by omega
          clear hsz
          have neA : W7.heap.size ≠ u6.heap.size + 1 := by omega
          go_region_held3 (fun w' => w'.cell? ⟨u6.heap.size + 1, 0, none⟩ = some (.int .i64 4) ∧ w'.cell? ⟨u6.heap.size + 1, 1, none⟩ = some (.slice none 0 0) ∧ w'.cell? ⟨u6.heap.size + 1, 2, none⟩ = some (.int .i64 0) ∧ w'.cell? ⟨u6.heap.size + 1, 3, none⟩ = some (.int .i64 0) ∧ w'.cell? ⟨u6.heap.size + 1, 4, none⟩ = some (.int .i64 k) ∧ w'.cell? ⟨u6.heap.size + 1, 5, none⟩ = some (.int .i64 0) ∧ w'.cell? ⟨u6.heap.size + 1, 6, none⟩ = some (.int .i64 0) ∧ w'.cell? ⟨u6.heap.size + 1, 7, none⟩ = some (.string ⟨#[]⟩))
            (first
              | with_reducible exact ⟨keep1 hb8 y0, keep1 hb8 y1, keep1 hb8 y2, keep1 hb8 y3, keep1 hb8 y4, keep1 hb8 y5, keep1 hb8 y6, keep1 hb8 y7⟩
              | with_reducible exact ⟨keep1 hb9 y0, keep1 hb9 y1, keep1 hb9 y2, keep1 hb9 y3, keep1 hb9 y4, keep1 hb9 y5, keep1 hb9 y6, keep1 hb9 y7⟩
              | with_reducible exact ⟨keep1 (bthen hb8 (below_laid _)) y0, keep1 (bthen hb8 (below_laid _)) y1, keep1 (bthen hb8 (below_laid _)) y2, keep1 (bthen hb8 (below_laid _)) y3, keep1 (bthen hb8 (below_laid _)) y4, keep1 (bthen hb8 (below_laid _)) y5, keep1 (bthen hb8 (below_laid _)) y6, keep1 (bthen hb8 (below_laid _)) y7⟩
              | with_reducible exact ⟨keep1 (bthen hb9 (below_laid _)) y0, keep1 (bthen hb9 (below_laid _)) y1, keep1 (bthen hb9 (below_laid _)) y2, keep1 (bthen hb9 (below_laid _)) y3, keep1 (bthen hb9 (below_laid _)) y4, keep1 (bthen hb9 (below_laid _)) y5, keep1 (bthen hb9 (below_laid _)) y6, keep1 (bthen hb9 (below_laid _)) y7⟩
              | with_reducible exact ⟨(set3_far (p := ⟨u6.heap.size + 1, 0, none⟩) neA).trans (keep1 hb9 y0), (set3_far (p := ⟨u6.heap.size + 1, 1, none⟩) neA).trans (keep1 hb9 y1), (set3_far (p := ⟨u6.heap.size + 1, 2, none⟩) neA).trans (keep1 hb9 y2), (set3_far (p := ⟨u6.heap.size + 1, 3, none⟩) neA).trans (keep1 hb9 y3), (set3_far (p := ⟨u6.heap.size + 1, 4, none⟩) neA).trans (keep1 hb9 y4), (set3_far (p := ⟨u6.heap.size + 1, 5, none⟩) neA).trans (keep1 hb9 y5), (set3_far (p := ⟨u6.heap.size + 1, 6, none⟩) neA).trans (keep1 hb9 y6), (set3_far (p := ⟨u6.heap.size + 1, 7, none⟩) neA).trans (keep1 hb9 y7)⟩
              | with_reducible exact ⟨(set3_far (p := ⟨u6.heap.size + 1, 0, none⟩) neB).trans (keep1 hb9 y0), (set3_far (p := ⟨u6.heap.size + 1, 1, none⟩) neB).trans (keep1 hb9 y1), (set3_far (p := ⟨u6.heap.size + 1, 2, none⟩) neB).trans (keep1 hb9 y2), (set3_far (p := ⟨u6.heap.size + 1, 3, none⟩) neB).trans (keep1 hb9 y3), (set3_far (p := ⟨u6.heap.size + 1, 4, none⟩) neB).trans (keep1 hb9 y4), (set3_far (p := ⟨u6.heap.size + 1, 5, none⟩) neB).trans (keep1 hb9 y5), (set3_far (p := ⟨u6.heap.size + 1, 6, none⟩) neB).trans (keep1 hb9 y6), (set3_far (p := ⟨u6.heap.size + 1, 7, none⟩) neB).trans (keep1 hb9 y7)⟩
              | (go_keep; done))
            (first
              | (go_at_call 13; refine (M8.out _ (HINL.out _ hb7.drew)).mono ?_; rintro e w8 ⟨g, E, rfl, hcE, hev, hb'⟩; have hb8 : Below W7.heap.size W7 w8 := below_undrew hb'; have neB : w8.heap.size ≠ u6.heap.size + 1 := by (have := hb8.size; omega))
              | (go_at_call 13; refine (M8.out _ (HINL.out _ (bthen hb7 (below_laid _)).drew)).mono ?_; rintro e w8 ⟨g, E, rfl, hcE, hev, hb'⟩; have hb0 : Below (W7.alloc (.cells #[.int .i64 0, .int .i64 0, .string ⟨#[]⟩] 25)).heap.size (W7.alloc (.cells #[.int .i64 0, .int .i64 0, .string ⟨#[]⟩] 25)) w8 := below_undrew hb'; have hb8 : Below W7.heap.size W7 w8 := bel1 hb0; have HZA := hide ((Box3.new W7 V3.z 25).keep hb0))
              | (go_at_call 12; refine (HEV.out _ g E hcE hev).mono ?_; rintro e w9 ⟨rfl, hb2⟩; have hb9 : Below W7.heap.size W7 w9 := bthen hb8 hb2; obtain ⟨⟨z0, z1, z2⟩, f0, f1, f2⟩ := HZA.out.keep hb2; simp only [V3.z] at z0 z1 z2)
              | (go_at_call 12; refine (HEV.out _ g E hcE hev).mono ?_; rintro e w9 ⟨rfl, hb2⟩; have hb9 : Below W7.heap.size W7 w9 := bthen hb8 hb2)
              | (go_at_call 12; refine (HEV.out _ g E (keep1 (below_laid _) hcE) (hev.keep (below_laid _))).mono ?_; rintro e w9 ⟨rfl, hb2⟩; have hb9 : Below W7.heap.size W7 w9 := bthen (bthen hb8 (below_laid _)) hb2; obtain ⟨⟨z0, z1, z2⟩, f0, f1, f2⟩ := (Box3.new w8 V3.z 25).keep hb2; simp only [V3.z] at z0 z1 z2))
          · obtain ⟨⟨v0, v1, v2⟩, -⟩ := HV7.out.keep hb9
            obtain ⟨⟨p0, p1, p2⟩, -⟩ := HU7.out.keep hb9
            have l1 := World.block_lt_of_cell? W7 _ HV7.out.1.1
            have l2 := World.block_lt_of_cell? W7 _ HU7.out.1.1
            simp only at l1 l2
            have l3 := hb9.size
            have l4 := HLW.out.size
            have HLB := hide (bthen HLW.out hb9)
            have l5 : u5.heap.size < w9.heap.size := by omega
            have l6 : u6.heap.size < w9.heap.size := by omega
            clear hb9 hb8 hb2 hb' hcE hev l3 l4
            go_wp2
            go_ret
            exact Ret.bool rfl (bthen HLB.out (below_laid _))
          · obtain ⟨⟨v0, v1, v2⟩, -⟩ := HV7.out.keep hb9
            obtain ⟨⟨p0, p1, p2⟩, -⟩ := HU7.out.keep hb9
            have l1 := World.block_lt_of_cell? W7 _ HV7.out.1.1
            have l2 := World.block_lt_of_cell? W7 _ HU7.out.1.1
            simp only at l1 l2
            have l3 := hb9.size
            have l4 := HLW.out.size
            have HLB := hide (bthen HLW.out hb9)
            have l7 := hb8.size
            have l5 : w8.heap.size ≠ u5.heap.size := by omega
            have l6 : w8.heap.size ≠ u6.heap.size := by omega
            have HL8 : Hid (w.heap.size ≤ w8.heap.size) := hide (by omega)
            clear hb9 hb8 hb2 hb' hcE hev l3 l4 l7
            go_wp2
            go_ret
            exact Ret.bool rfl (below_set3' HLB.out HL8.out _ _ _)
          · obtain ⟨⟨v0, v1, v2⟩, -⟩ := HV7.out.keep hb9
            obtain ⟨⟨p0, p1, p2⟩, -⟩ := HU7.out.keep hb9
            have l1 := World.block_lt_of_cell? W7 _ HV7.out.1.1
            have l2 := World.block_lt_of_cell? W7 _ HU7.out.1.1
            simp only at l1 l2
            have l3 := hb9.size
            have l4 := HLW.out.size
            have HLB := hide (bthen HLW.out hb9)
            have l5 : W7.heap.size ≠ u5.heap.size := by omega
            have l6 : W7.heap.size ≠ u6.heap.size := by omega
            have HL8 : Hid (w.heap.size ≤ W7.heap.size) := hide l4
            clear hb9 hb8 hb2 hb' hcE hev l3 l4 hb0
            go_wp2
            go_ret
            exact Ret.bool rfl (below_set3' HLB.out HL8.out _ _ _)
        · have t1 : (k == 1) = false := beq_eq_false_iff_ne.2 hk1
          have hev : ∀ w' g E, w'.cell? ⟨g, 0, none⟩ = some E → Evs w' E L → Calls Try.prog 12 #[.agg #[.int .i64 4, .slice none 0 0, .int .i64 0, .int .i64 0, .int .i64 k, .int .i64 o.q, .int .i64 o.n, .string o.s], .agg #[.slice (some ⟨g, 0, none⟩) 1 1], .int .i64 (-1), .agg #[.int .i64 0, .int .i64 0, .int .i64 0, .int .i64 0, .slice none 0 0]] w' (Ret (.tuple #[.agg #[.int .i64 r.q, .int .i64 r.n, .string r.s], .int .i64 0]) w') := fun w' g E h1 h2 => by
            have h := eev_any k o g E L w' hk15.1 hk15.2 HHO.out (by rw [← HRS.out]; exact HCC.out) (fun h => absurd h hk1) (by have := HLL.out; omega) HSL.out h1 h2
            rw [(HOF.out o).1, (HOF.out o).2, HRR.out, HCC.out] at h
            exact h
          have HEV := hide hev
          clear hev
          go_wp2_with fail
          have hbx : BoxE ((u6.alloc (.cells #[.int .i64 r.q, .int .i64 r.n, .string r.s] 25)).alloc (.cells #[.int .i64 4, .slice none 0 0, .int .i64 0, .int .i64 0, .int .i64 k, .int .i64 o.q, .int .i64 o.n, .string o.s] 42)) (u6.heap.size + 1) k o := by
            have h := BoxE.new (u6.alloc (.cells #[.int .i64 r.q, .int .i64 r.n, .string r.s] 25)) k o
            rw [World.size_alloc] at h
            exact h
          have hbe : Below (u6.alloc (.cells #[.int .i64 r.q, .int .i64 r.n, .string r.s] 25)).heap.size (u6.alloc (.cells #[.int .i64 r.q, .int .i64 r.n, .string r.s] 25)) ((u6.alloc (.cells #[.int .i64 r.q, .int .i64 r.n, .string r.s] 25)).alloc (.cells #[.int .i64 4, .slice none 0 0, .int .i64 0, .int .i64 0, .int .i64 k, .int .i64 o.q, .int .i64 o.n, .string o.s] 42)) := below_laid _
          have hsz : ((u6.alloc (.cells #[.int .i64 r.q, .int .i64 r.n, .string r.s] 25)).alloc (.cells #[.int .i64 4, .slice none 0 0, .int .i64 0, .int .i64 0, .int .i64 k, .int .i64 o.q, .int .i64 o.n, .string o.s] 42)).heap.size = u6.heap.size + 1 + 1 := by rw [World.size_alloc, World.size_alloc]
          have HV7 := hide (HV.out.keep hbe)
          have HU7 := hide (HU.out.keep hbe)
          obtain ⟨W7, hW7⟩ : ∃ W7, (u6.alloc (.cells #[.int .i64 r.q, .int .i64 r.n, .string r.s] 25)).alloc (.cells #[.int .i64 4, .slice none 0 0, .int .i64 0, .int .i64 0, .int .i64 k, .int .i64 o.q, .int .i64 o.n, .string o.s] 42) = W7 := ⟨_, rfl⟩
          rw [hW7] at hbx hbe hsz HV7 HU7 ⊢
          obtain ⟨y0, y1, y2, y3, y4, y5, y6, y7⟩ := hbx
          have hb7 := bthen HB9.out hbe
          have HLW := hide (bthen HR2.out.low hbe)
          clear hW7 hbe HV HU HB9 q0 q1 q2
          have hsl : u6.heap.size + 1 < W7.heap.size := by omega
          clear hsz
          have neA : W7.heap.size ≠ u6.heap.size + 1 := by omega
          go_region_held3 (fun w' => w'.cell? ⟨u6.heap.size + 1, 0, none⟩ = some (.int .i64 4) ∧ w'.cell? ⟨u6.heap.size + 1, 1, none⟩ = some (.slice none 0 0) ∧ w'.cell? ⟨u6.heap.size + 1, 2, none⟩ = some (.int .i64 0) ∧ w'.cell? ⟨u6.heap.size + 1, 3, none⟩ = some (.int .i64 0) ∧ w'.cell? ⟨u6.heap.size + 1, 4, none⟩ = some (.int .i64 k) ∧ w'.cell? ⟨u6.heap.size + 1, 5, none⟩ = some (.int .i64 o.q) ∧ w'.cell? ⟨u6.heap.size + 1, 6, none⟩ = some (.int .i64 o.n) ∧ w'.cell? ⟨u6.heap.size + 1, 7, none⟩ = some (.string o.s))
            (first
              | with_reducible exact ⟨keep1 hb8 y0, keep1 hb8 y1, keep1 hb8 y2, keep1 hb8 y3, keep1 hb8 y4, keep1 hb8 y5, keep1 hb8 y6, keep1 hb8 y7⟩
              | with_reducible exact ⟨keep1 hb9 y0, keep1 hb9 y1, keep1 hb9 y2, keep1 hb9 y3, keep1 hb9 y4, keep1 hb9 y5, keep1 hb9 y6, keep1 hb9 y7⟩
              | with_reducible exact ⟨keep1 (bthen hb8 (below_laid _)) y0, keep1 (bthen hb8 (below_laid _)) y1, keep1 (bthen hb8 (below_laid _)) y2, keep1 (bthen hb8 (below_laid _)) y3, keep1 (bthen hb8 (below_laid _)) y4, keep1 (bthen hb8 (below_laid _)) y5, keep1 (bthen hb8 (below_laid _)) y6, keep1 (bthen hb8 (below_laid _)) y7⟩
              | with_reducible exact ⟨keep1 (bthen hb9 (below_laid _)) y0, keep1 (bthen hb9 (below_laid _)) y1, keep1 (bthen hb9 (below_laid _)) y2, keep1 (bthen hb9 (below_laid _)) y3, keep1 (bthen hb9 (below_laid _)) y4, keep1 (bthen hb9 (below_laid _)) y5, keep1 (bthen hb9 (below_laid _)) y6, keep1 (bthen hb9 (below_laid _)) y7⟩
              | with_reducible exact ⟨(set3_far (p := ⟨u6.heap.size + 1, 0, none⟩) neA).trans (keep1 hb9 y0), (set3_far (p := ⟨u6.heap.size + 1, 1, none⟩) neA).trans (keep1 hb9 y1), (set3_far (p := ⟨u6.heap.size + 1, 2, none⟩) neA).trans (keep1 hb9 y2), (set3_far (p := ⟨u6.heap.size + 1, 3, none⟩) neA).trans (keep1 hb9 y3), (set3_far (p := ⟨u6.heap.size + 1, 4, none⟩) neA).trans (keep1 hb9 y4), (set3_far (p := ⟨u6.heap.size + 1, 5, none⟩) neA).trans (keep1 hb9 y5), (set3_far (p := ⟨u6.heap.size + 1, 6, none⟩) neA).trans (keep1 hb9 y6), (set3_far (p := ⟨u6.heap.size + 1, 7, none⟩) neA).trans (keep1 hb9 y7)⟩
              | with_reducible exact ⟨(set3_far (p := ⟨u6.heap.size + 1, 0, none⟩) neB).trans (keep1 hb9 y0), (set3_far (p := ⟨u6.heap.size + 1, 1, none⟩) neB).trans (keep1 hb9 y1), (set3_far (p := ⟨u6.heap.size + 1, 2, none⟩) neB).trans (keep1 hb9 y2), (set3_far (p := ⟨u6.heap.size + 1, 3, none⟩) neB).trans (keep1 hb9 y3), (set3_far (p := ⟨u6.heap.size + 1, 4, none⟩) neB).trans (keep1 hb9 y4), (set3_far (p := ⟨u6.heap.size + 1, 5, none⟩) neB).trans (keep1 hb9 y5), (set3_far (p := ⟨u6.heap.size + 1, 6, none⟩) neB).trans (keep1 hb9 y6), (set3_far (p := ⟨u6.heap.size + 1, 7, none⟩) neB).trans (keep1 hb9 y7)⟩
              | (go_keep; done))
            (first
              | (go_at_call 13; refine (M8.out _ (HINL.out _ hb7.drew)).mono ?_; rintro e w8 ⟨g, E, rfl, hcE, hev, hb'⟩; have hb8 : Below W7.heap.size W7 w8 := below_undrew hb'; have neB : w8.heap.size ≠ u6.heap.size + 1 := by (have := hb8.size; omega))
              | (go_at_call 13; refine (M8.out _ (HINL.out _ (bthen hb7 (below_laid _)).drew)).mono ?_; rintro e w8 ⟨g, E, rfl, hcE, hev, hb'⟩; have hb0 : Below (W7.alloc (.cells #[.int .i64 0, .int .i64 0, .string ⟨#[]⟩] 25)).heap.size (W7.alloc (.cells #[.int .i64 0, .int .i64 0, .string ⟨#[]⟩] 25)) w8 := below_undrew hb'; have hb8 : Below W7.heap.size W7 w8 := bel1 hb0; have HZA := hide ((Box3.new W7 V3.z 25).keep hb0))
              | (go_at_call 12; refine (HEV.out _ g E hcE hev).mono ?_; rintro e w9 ⟨rfl, hb2⟩; have hb9 : Below W7.heap.size W7 w9 := bthen hb8 hb2; obtain ⟨⟨z0, z1, z2⟩, f0, f1, f2⟩ := HZA.out.keep hb2; simp only [V3.z] at z0 z1 z2)
              | (go_at_call 12; refine (HEV.out _ g E hcE hev).mono ?_; rintro e w9 ⟨rfl, hb2⟩; have hb9 : Below W7.heap.size W7 w9 := bthen hb8 hb2)
              | (go_at_call 12; refine (HEV.out _ g E (keep1 (below_laid _) hcE) (hev.keep (below_laid _))).mono ?_; rintro e w9 ⟨rfl, hb2⟩; have hb9 : Below W7.heap.size W7 w9 := bthen (bthen hb8 (below_laid _)) hb2; obtain ⟨⟨z0, z1, z2⟩, f0, f1, f2⟩ := (Box3.new w8 V3.z 25).keep hb2; simp only [V3.z] at z0 z1 z2))
          · obtain ⟨⟨v0, v1, v2⟩, -⟩ := HV7.out.keep hb9
            obtain ⟨⟨p0, p1, p2⟩, -⟩ := HU7.out.keep hb9
            have l1 := World.block_lt_of_cell? W7 _ HV7.out.1.1
            have l2 := World.block_lt_of_cell? W7 _ HU7.out.1.1
            simp only at l1 l2
            have l3 := hb9.size
            have l4 := HLW.out.size
            have HLB := hide (bthen HLW.out hb9)
            have l5 : u5.heap.size < w9.heap.size := by omega
            have l6 : u6.heap.size < w9.heap.size := by omega
            clear hb9 hb8 hb2 hb' hcE hev l3 l4
            go_wp2
            go_ret
            exact Ret.bool rfl (bthen HLB.out (below_laid _))
          · obtain ⟨⟨v0, v1, v2⟩, -⟩ := HV7.out.keep hb9
            obtain ⟨⟨p0, p1, p2⟩, -⟩ := HU7.out.keep hb9
            have l1 := World.block_lt_of_cell? W7 _ HV7.out.1.1
            have l2 := World.block_lt_of_cell? W7 _ HU7.out.1.1
            simp only at l1 l2
            have l3 := hb9.size
            have l4 := HLW.out.size
            have HLB := hide (bthen HLW.out hb9)
            have l7 := hb8.size
            have l5 : w8.heap.size ≠ u5.heap.size := by omega
            have l6 : w8.heap.size ≠ u6.heap.size := by omega
            have HL8 : Hid (w.heap.size ≤ w8.heap.size) := hide (by omega)
            clear hb9 hb8 hb2 hb' hcE hev l3 l4 l7
            go_wp2
            go_ret
            exact Ret.bool rfl (below_set3' HLB.out HL8.out _ _ _)
          · obtain ⟨⟨v0, v1, v2⟩, -⟩ := HV7.out.keep hb9
            obtain ⟨⟨p0, p1, p2⟩, -⟩ := HU7.out.keep hb9
            have l1 := World.block_lt_of_cell? W7 _ HV7.out.1.1
            have l2 := World.block_lt_of_cell? W7 _ HU7.out.1.1
            simp only at l1 l2
            have l3 := hb9.size
            have l4 := HLW.out.size
            have HLB := hide (bthen HLW.out hb9)
            have l5 : W7.heap.size ≠ u5.heap.size := by omega
            have l6 : W7.heap.size ≠ u6.heap.size := by omega
            have HL8 : Hid (w.heap.size ≤ W7.heap.size) := hide l4
            clear hb9 hb8 hb2 hb' hcE hev l3 l4 hb0
            go_wp2
            go_ret
            exact Ret.bool rfl (below_set3' HLB.out HL8.out _ _ _)
      · have tc : (c != 0) = true := bne_iff_ne.2 hc
        have tc2 : (c == c) = true := beq_iff_eq.2 rfl
        obtain ⟨⟨q0, q1, q2⟩, -⟩ := HR2.out.other
        have hwr := HRS.out o
        rw [HCC.out] at hwr
        have HC1 := hide (fun w => rcheck_any o.q o.n o.s w HHO.out)
        have HC2 := hide (fun w => rsuits_any k o.q o.n o.s w)
        rw [suits_same (q := o.q) HK.out] at HC2
        go_wp2_with fail
        refine (HC1.out _).mono ?_
        rintro e u7 ⟨rfl, hb⟩
        replace HR2 := hide (HR2.out.keep hb)
        clear q0 q1 q2
        obtain ⟨⟨q0, q1, q2⟩, -⟩ := HR2.out.other
        clear hb
        by_cases hck : checkC o.q o.n o.s.size = 0
        · have tq : (checkC o.q o.n o.s.size != 0) = false := bne_eq_false_iff_eq.2 hck
          have hsu : suitsB k o.q = false := by
            cases hs : suitsB k o.q
            · rfl
            · exfalso; apply hc; rw [hwr]; unfold wrE; rw [if_neg (by simp [hck]), if_pos hs]
          rw [hsu] at HC2
          clear hwr
          go_wp2_with fail
          refine (HC2.out _).mono ?_
          rintro e u8 ⟨rfl, hb⟩
          go_wp2
          go_ret
          exact Ret.bool rfl (bthen HR2.out.low hb)
        · have tq : (checkC o.q o.n o.s.size != 0) = true := bne_iff_ne.2 hck
          clear hwr
          go_wp2
          go_ret
          exact Ret.bool rfl HR2.out.low
end
end Go.Proofs.Ythngffceneemnaa
