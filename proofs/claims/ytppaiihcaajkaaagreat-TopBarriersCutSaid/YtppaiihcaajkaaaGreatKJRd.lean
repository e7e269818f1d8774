/- The job's read: written by genJRd.py. -/
import Derived.Test.YtppaiihcaajkaaaGreatKInsM
import Derived.Test.YtppaiihcaajkaaaGreatKReadM
namespace Go.Proofs.YtppaiihcaajkaaaGreat
open Go.RowKit
set_option linter.unusedVariables false
set_option linter.unusedSimpArgs false
/-- What a reader does: nothing, or it reads the next message. -/
def Rdd (L : Nat → List Msg) (J : Job) (i : Nat) (J' : Job) : Prop := (J.off i = (L i).length ∧ J' = J) ∨ ∃ h : J.off i < (L i).length, ∃ (l : List Itm) (y : Trk), TrkOK y ∧ l.length ≤ 2 ∧ (∀ x ∈ l, GoodI x) ∧ (SimA (i : Int) (J.trk i) (L i)[J.off i] → y = ⟨(J.trk i).next + 1, [], [], (J.trk i).mark⟩ ∧ l = [⟨0, (L i)[J.off i].e, 0⟩]) ∧ J' = readJ J i l y
theorem Rdd.step {L : Nat → List Msg} {J J' : Job} {i : Nat} (h : Rdd L J i J') : ReadStep (fun i => (L i).length) J i J' := by
  rcases h with h | ⟨h, l, y, h1, h2, h3, -, h5⟩
  · exact .inl h
  · exact .inr ⟨h, l, y, h1, h2, h3, h5⟩
def RetRJ (W0 : World) (L : Nat → List Msg) (b : Nat) (f : Nat → Value) (J : Job) (i : Nat) (w : World) (e : Ending) (w' : World) : Prop := ∃ J', Rdd L J i J' ∧ RetJ W0 L b f J' w e w'
section
variable {W0 w w' w1 : World} {L : Nat → List Msg} {b : Nat} {f f' : Nat → Value} {J J' : Job}
/-- A reader is stored. -/
theorem JobAt.rdput (h : JobAt W0 L w b f J) {i : Nat} (hi : i < 2) {A B : Option Addr} {a c o : Nat} {y : Trk} {Z : Nat → Prop} (hy : TrV w Z A a B c y) (hz : ∀ k, Z k → Sep w b f k) (hO : Off b 1 w w') (hB : JBlk w' b f')
    (h0 : f' (2 + i * 6) = .int .i64 (i : Int)) (h1 : f' (2 + i * 6 + 1) = .int .i64 ((o : Int) + 1)) (h2 : f' (2 + i * 6 + 2) = .int .i64 y.next) (h3 : f' (2 + i * 6 + 3) = .slice A y.beyond.length a) (h4 : f' (2 + i * 6 + 4) = .slice B y.points.length c) (h5 : f' (2 + i * 6 + 5) = .int .i64 y.mark)
    (hf : ∀ k, (k < 2 + i * 6 ∨ 2 + i * 6 + 6 ≤ k) → f' k = f k) : JobAt W0 L w' b f' { J with off := fset J.off i (o + 1), trk := fset J.trk i y } ∧ JTo b w f w' f' := by
  refine ⟨h.turn hO hB (fun k hk => hf _ (by omega)) (fun j hj => hf _ (by omega)) (fun _ _ => rfl) (fun k hk => ?_) ?_ (fun k hk => ?_) (fun k hk => by rw [hf _ (by omega)]; exact h.ins k hk) (by rw [hf _ (by omega)]; exact h.ok), jto_off hO fun j hj => hf _ (by omega)⟩
  · by_cases e : k = i
    · subst e
      refine ⟨A, a, B, c, h0, ?_, ?_, ?_, ?_, ?_, ?_⟩
      · simp only [fset_same]; rw [h1]; rfl
      all_goals simp only [fset_same]
      · exact h2
      · exact h3
      · exact h4
      · exact h5
      · exact hy.more hz
    · obtain ⟨A', a', B', c', g0, g1, g2, g3, g4, g5, g6⟩ := h.rd k hk
      refine ⟨A', a', B', c', ?_, ?_, ?_, ?_, ?_, ?_, ?_⟩ <;> (try rw [hf _ (by omega)]) <;> (try simp only [fset_ne e]) <;> assumption
  · obtain ⟨g, c, g0, g1⟩ := h.qu
    exact ⟨g, c, by rw [hf _ (by omega)]; exact g0, g1⟩
  · obtain ⟨g0, g1⟩ := h.al k hk
    exact ⟨by rw [hf _ (by omega)]; exact g0, by rw [hf _ (by omega)]; exact g1⟩
theorem JobAt.rdput6 (h : JobAt W0 L w b f J) {i : Nat} (hi : i < 2) {A B : Option Addr} {a c : Nat} {y : Trk} {Z : Nat → Prop} (o : Nat) (hy : TrV w Z A a B c y) (hz : ∀ k, Z k → Sep w b f k) : ∃ f', JobAt W0 L (((((((w.setCell ⟨b, 2 + i * 6, none⟩ (.int .i64 (i : Int))).setCell ⟨b, 2 + i * 6 + 1, none⟩ (.int .i64 ((o : Int) + 1))).setCell ⟨b, 2 + i * 6 + 2, none⟩ (.int .i64 y.next)).setCell ⟨b, 2 + i * 6 + 3, none⟩ (.slice A y.beyond.length a)).setCell ⟨b, 2 + i * 6 + 4, none⟩ (.slice B y.points.length c)).setCell ⟨b, 2 + i * 6 + 5, none⟩ (.int .i64 y.mark)).drew) b f' { J with off := fset J.off i (o + 1), trk := fset J.trk i y } ∧ JTo b w f (((((((w.setCell ⟨b, 2 + i * 6, none⟩ (.int .i64 (i : Int))).setCell ⟨b, 2 + i * 6 + 1, none⟩ (.int .i64 ((o : Int) + 1))).setCell ⟨b, 2 + i * 6 + 2, none⟩ (.int .i64 y.next)).setCell ⟨b, 2 + i * 6 + 3, none⟩ (.slice A y.beyond.length a)).setCell ⟨b, 2 + i * 6 + 4, none⟩ (.slice B y.points.length c)).setCell ⟨b, 2 + i * 6 + 5, none⟩ (.int .i64 y.mark)).drew) f' := by
  refine ⟨_, h.rdput hi hy hz (o := o) ?_ (((((((h.bl.put (k := 2 + i * 6) (by omega) _).put (k := 2 + i * 6 + 1) (by omega) _).put (k := 2 + i * 6 + 2) (by omega) _).put (k := 2 + i * 6 + 3) (by omega) _).put (k := 2 + i * 6 + 4) (by omega) _).put (k := 2 + i * 6 + 5) (by omega) _).keep (Below.refl _ _).drew) ?_ ?_ ?_ ?_ ?_ ?_ fun k hk => ?_⟩
  · refine Off.drew ?_
    repeat (first | refine Off.set ?_ (by constructor <;> simp) | with_reducible exact Off.refl)
  all_goals repeat (first | rw [fset_same] | rw [fset_ne (by omega)])
end
def readT (J : Job) (i : Nat) (l : List Itm) (y : Trk) (j : Nat) : Job := (l.take j).foldl (fun J x => sendJ J i x) { J with off := fset J.off i (J.off i + 1), trk := fset J.trk i y }
theorem readT_inv {N : Nat → Nat} {J : Job} {i j : Nat} {l : List Itm} {y : Trk} (h : JInv N sl0 J) (hi : i < 2) (hlt : J.off i < N i) (hy : TrkOK y) (hl : l.length ≤ 2) (hg : ∀ x ∈ l, GoodI x) : JInv N (slk i (2 - (l.take j).length)) (readT J i l y j) := fold_inv hi _ 2 _ (fun x hx => hg x (List.mem_of_mem_take hx)) (by rw [List.length_take]; omega) (begin_read h hi hlt hy)
theorem readT_succ {J : Job} {i : Nat} {l : List Itm} {y : Trk} {j : Nat} (h : j < l.length) : readT J i l y (j + 1) = sendJ (readT J i l y j) i l[j] := by
  unfold readT
  rw [List.take_succ_eq_append_getElem h, List.foldl_append]
  rfl
theorem readT_all {J : Job} {i : Nat} {l : List Itm} {y : Trk} : readT J i l y l.length = readJ J i l y := by
  unfold readT readJ
  rw [List.take_length]
section
variable (w : World)
set_option maxRecDepth 100000 in
set_option maxHeartbeats 32000000 in
theorem jread_any (W0 : World) (L : Nat → List Msg) (b : Nat) (f : Nat → Value) (J : Job) (hJ : JobAt W0 L w b f J) (hI : JInv (fun i => (L i).length) sl0 J) (i : Nat) (hi : i < 2) :
    Calls Tryz.prog 10 #[.pointer (some ⟨b, 0, none⟩), .int .i64 (i : Int)] w (RetRJ W0 L b f J i w) := by
  obtain ⟨A, a, B, c, r0, r1, r2, r3, r4, r5, hT⟩ := hJ.rd i hi
  have hl0 := hJ.log i hi
  obtain ⟨C, cc, rC⟩ := hl0.form
  rw [rC] at hl0
  have h8 := hI.n8 i hi
  have hoN := hI.off i hi
  have hok := hI.trk i hi
  obtain ⟨o, hoe⟩ : ∃ o, J.off i = o := ⟨_, rfl⟩
  obtain ⟨n, hne⟩ : ∃ n, (L i).length = n := ⟨_, rfl⟩
  rw [hoe, hne] at hoN
  rw [hne] at h8
  have hTB : ∀ w1, Below w.heap.size w w1 → TrV w1 (· < w1.heap.size) A a B c (J.trk i) := fun w1 hb => (hT.keep ((Kp.of_below hb).less fun k hk => hk.1)).more fun k hk => Nat.lt_of_lt_of_le hk.1 hb.size
  have hlB : ∀ w1, Below w.heap.size w w1 → Lst w1 (· < w1.heap.size) 9 (RMs W0) (.slice C (L i).length cc) (L i) := fun w1 hb => by
    have hww : Below W0.heap.size W0 w1 := hJ.hw.trans (hb.mono hJ.hw.size)
    exact (hl0.keep rd_Ms (Kp.of_below hww)).more rd_Ms fun k hk => Nat.lt_of_lt_of_le hk hww.size
  have HLF := hide (fun (w1 : World) (hb : Below w.heap.size w w1) => rleft_any w1 (i : Int) (o : Int) (J.trk i) A B C a c cc n (hTB w1 hb) (by omega) (by omega) (by omega) (by omega) hok (by omega))
  have HTY := hide (fun (w1 : World) => ttypes_any w1)
  have HRD := hide (fun (w1 : World) (hlt : o < (L i).length) (hb : Below w.heap.size w w1) (v : Value) (hTT : There RSc 2 w1 v TT) => rread_any w1 W0 (hJ.hw.trans (hb.mono hJ.hw.size)) v hTT (i : Int) (by omega) o (J.trk i) A B C a c cc (L i) (hTB w1 hb) hok (hlB w1 hb) (by omega) hlt)
  have k0 : w.cell? ⟨b, 2 + i * 6, none⟩ = some (.int .i64 (i : Int)) := by rw [← r0]; exact hJ.bl.c _ (by omega)
  have k1 : w.cell? ⟨b, 2 + i * 6 + 1, none⟩ = some (.int .i64 (o : Int)) := by rw [← hoe, ← r1]; exact hJ.bl.c _ (by omega)
  have k2 : w.cell? ⟨b, 2 + i * 6 + 2, none⟩ = some (.int .i64 (J.trk i).next) := by rw [← r2]; exact hJ.bl.c _ (by omega)
  have k3 : w.cell? ⟨b, 2 + i * 6 + 3, none⟩ = some (.slice A (J.trk i).beyond.length a) := by rw [← r3]; exact hJ.bl.c _ (by omega)
  have k4 : w.cell? ⟨b, 2 + i * 6 + 4, none⟩ = some (.slice B (J.trk i).points.length c) := by rw [← r4]; exact hJ.bl.c _ (by omega)
  have k5 : w.cell? ⟨b, 2 + i * 6 + 5, none⟩ = some (.int .i64 (J.trk i).mark) := by rw [← r5]; exact hJ.bl.c _ (by omega)
  have kl : w.cell? ⟨b, i, none⟩ = some (.slice C n cc) := by rw [← hne, ← rC]; exact hJ.bl.c _ (by omega)
  have hi0 : (0 : Int) ≤ (i : Int) := by omega
  have hi1 : (i : Int) < 2 := by omega
  have HJ := hide hJ
  have HI := hide hI
  have HO := hide hoe
  have HN := hide hne
  clear hTB hlB hT hl0 r0 r1 r2 r3 r4 r5 rC hok hJ hI hne
  go_enter Tryz.func10, Tryz.ntmps10
  go_upto_region 0 with (fail)
  go_region_held3 (fun w' => w'.cell? ⟨b, 2 + i * 6, none⟩ = some (.int .i64 (i : Int)) ∧ w'.cell? ⟨b, 2 + i * 6 + 1, none⟩ = some (.int .i64 (o : Int)) ∧ w'.cell? ⟨b, 2 + i * 6 + 2, none⟩ = some (.int .i64 (J.trk i).next) ∧ w'.cell? ⟨b, 2 + i * 6 + 3, none⟩ = some (.slice A (J.trk i).beyond.length a) ∧ w'.cell? ⟨b, 2 + i * 6 + 4, none⟩ = some (.slice B (J.trk i).points.length c) ∧ w'.cell? ⟨b, 2 + i * 6 + 5, none⟩ = some (.int .i64 (J.trk i).mark) ∧ w'.cell? ⟨b, i, none⟩ = some (.slice C n cc))
    (first | with_reducible exact ⟨keep1 hk9 k0, keep1 hk9 k1, keep1 hk9 k2, keep1 hk9 k3, keep1 hk9 k4, keep1 hk9 k5, keep1 hk9 kl⟩ | with_reducible exact ⟨keep1 (hold_alloc hk9 _) k0, keep1 (hold_alloc hk9 _) k1, keep1 (hold_alloc hk9 _) k2, keep1 (hold_alloc hk9 _) k3, keep1 (hold_alloc hk9 _) k4, keep1 (hold_alloc hk9 _) k5, keep1 (hold_alloc hk9 _) kl⟩ | (go_keep; done))
    ((go_at_call 21; refine (HLF.out _ (by first | exact (Below.refl _ _).drew | exact below_laid _ | exact (below_laid _).drew | exact bthen (Below.refl _ _).drew (below_laid _))).mono ?_; rintro e1 w1 ⟨rfl, hb1⟩; have hk9 : Below w.heap.size w w1 := (by first | exact below_undrew hb1 | exact hb1); have HK1 := hide hk9; clear hb1))
  all_goals
    have HB1 := hide hk9
    have HJ1 := hide (HJ.out.keep hk9)
    have K27 := hide (show w1.cell? ⟨b, 27, none⟩ = some (.bool true) by rw [← HJ1.out.ok]; exact HJ1.out.bl.c 27 (by omega))
    have F27 := hide (HJ1.out.bl.fz 27)
    have k27 := K27.out
    have f27 := F27.out
    clear hk9 HK1 HLF
    rcases Nat.lt_or_ge o n with hlt | hge
    · have td : ((n : Int) - (o : Int) == 0) = false := by simp; omega
      have HLT := hide (show o < (L i).length by rw [HN.out]; exact hlt)
      go_upto_region 3 with (fail)
      have k0 := keep1 HB1.out k0
      have k1 := keep1 HB1.out k1
      have k2 := keep1 HB1.out k2
      have k3 := keep1 HB1.out k3
      have k4 := keep1 HB1.out k4
      have k5 := keep1 HB1.out k5
      have kl := keep1 HB1.out kl
      obtain ⟨M, hM⟩ : ∃ M, (L i)[o]'HLT.out = M := ⟨_, rfl⟩
      have HMM := hide (show ∀ h : J.off i < (L i).length, (L i)[J.off i] = M from fun h => by rw [← hM]; simp only [HO.out])
      have hrd : ∀ (w5 : World) (v : Value), Below w1.heap.size w1 w5 → There RSc 2 w5 v TT → Calls Tryz.prog 22 #[v, .agg #[.int .i64 (i : Int), .int .i64 (o : Int), .int .i64 (J.trk i).next, .slice A (J.trk i).beyond.length a, .slice B (J.trk i).points.length c, .int .i64 (J.trk i).mark], .slice C n cc] w5 (RetRdr W0 (i : Int) o (J.trk i) M w5) := fun w5 v hb hT => by
        rw [← hM, ← HN.out]
        exact HRD.out w5 HLT.out (bthen HB1.out hb) v hT
      clear HRD
      have HRD := hide hrd
      clear td k27 f27 hrd hM
      have hlb1 := HJ1.out.bl.lt
      have hnb1 : w1.heap.size ≠ b := by omega
      go_cut [6, 7, 5] from 42 to 59 (fun p q s wx => ∃ (b6 : Nat) (y : Trk) (A1 B1 : Option Addr) (a1 b1 : Nat) (l : List Itm) (v9 : Value), p = .pointer (some ⟨b6, 0, none⟩) ∧ q = v9 ∧ s = .int .i64 0 ∧ Hid (w1.heap.size ≤ b6 ∧ Bl wx b6 [.int .i64 (i : Int), .int .i64 ((o : Int) + 1), .int .i64 y.next, .slice A1 y.beyond.length a1, .slice B1 y.points.length b1, .int .i64 y.mark] ∧ TrV wx (fun k => w1.heap.size ≤ k ∧ k < wx.heap.size) A1 a1 B1 b1 y ∧ Lst wx (fun k => w1.heap.size ≤ k ∧ k < wx.heap.size) 7 (RIt W0) v9 l ∧ Below w1.heap.size w1 wx) ∧ Hid (TrkOK y ∧ l.length ≤ 2 ∧ (∀ i ∈ l, GoodI i) ∧ (SimA (i : Int) (J.trk i) M → y = ⟨(J.trk i).next + 1, [], [], (J.trk i).mark⟩ ∧ l = [⟨0, M.e, 0⟩])))
      case first =>
        go_region_held3 (fun w' => w'.cell? ⟨b, 2 + i * 6, none⟩ = some (.int .i64 (i : Int)) ∧ w'.cell? ⟨b, 2 + i * 6 + 1, none⟩ = some (.int .i64 (o : Int)) ∧ w'.cell? ⟨b, 2 + i * 6 + 2, none⟩ = some (.int .i64 (J.trk i).next) ∧ w'.cell? ⟨b, 2 + i * 6 + 3, none⟩ = some (.slice A (J.trk i).beyond.length a) ∧ w'.cell? ⟨b, 2 + i * 6 + 4, none⟩ = some (.slice B (J.trk i).points.length c) ∧ w'.cell? ⟨b, 2 + i * 6 + 5, none⟩ = some (.int .i64 (J.trk i).mark) ∧ w'.cell? ⟨b, i, none⟩ = some (.slice C n cc))
          (first | with_reducible exact ⟨keep1 hk9 k0, keep1 hk9 k1, keep1 hk9 k2, keep1 hk9 k3, keep1 hk9 k4, keep1 hk9 k5, keep1 hk9 kl⟩ | with_reducible exact ⟨keep1 (hold_alloc hk9 _) k0, keep1 (hold_alloc hk9 _) k1, keep1 (hold_alloc hk9 _) k2, keep1 (hold_alloc hk9 _) k3, keep1 (hold_alloc hk9 _) k4, keep1 (hold_alloc hk9 _) k5, keep1 (hold_alloc hk9 _) kl⟩ | (go_keep; done))
          ((first | (go_at_call 23; refine (HTY.out _).mono ?_; rintro e5 w5 ⟨vT, rfl, hvT, hb5⟩; have hk9 : Below w1.heap.size w1 w5 := (by first | exact below_undrew hb5 | exact below_undrew (bthen (below_laid _) hb5) | exact bthen (below_laid _) (below_undrew hb5) | exact bthen (below_laid _) hb5); have HK5 := hide hk9; have HVT := hide hvT; have hz5 := hk9.size; have hnb5 : w5.heap.size ≠ b := (by omega); have hlb5 : b < w5.heap.size := (by omega); (try (have HBX : Hid (Bl w5 w1.heap.size [.int .i64 0, .int .i64 0, .int .i64 0, .slice none 0 0, .slice none 0 0, .int .i64 0]) := hide (by first | exact (Bl.new w1.drew [.int .i64 0, .int .i64 0, .int .i64 0, .slice none 0 0, .slice none 0 0, .int .i64 0] 35).keep hb5 | exact (Bl.new w1 [.int .i64 0, .int .i64 0, .int .i64 0, .slice none 0 0, .slice none 0 0, .int .i64 0] 35).drew.keep hb5 | exact (Bl.new w1 [.int .i64 0, .int .i64 0, .int .i64 0, .slice none 0 0, .slice none 0 0, .int .i64 0] 35).keep hb5); have hz5b : w1.heap.size < w5.heap.size := (by have := hb5.size; simp at this; omega))); clear hb5 hvT) | (go_at_call 22; refine (HRD.out _ vT (by first | exact HK5.out | exact bthen HK5.out (below_laid _)) (by first | exact HVT.out | exact There.keep rd_Sc HVT.out (below_laid _))).mono ?_; rintro e7 w7 ⟨y, A1, a1, B1, b1, l, v9, rfl, hy, hyo, hl, hl2, hg, hsim, hb7⟩; have hk9 : Below w1.heap.size w1 w7 := (by first | exact bthen HK5.out hb7 | exact bthen HK5.out (bthen (below_laid _) hb7)); have HY := hide hy; have HL := hide hl; have HP := hide (And.intro hyo (And.intro hl2 (And.intro hg hsim))); have hz7 := hk9.size; (try (have HBY : Hid (Bl w7 w1.heap.size [.int .i64 0, .int .i64 0, .int .i64 0, .slice none 0 0, .slice none 0 0, .int .i64 0]) := hide (HBX.out.keep hb7); have HYZ := hide (show TrV w7 (fun k => w1.heap.size < k ∧ k < w7.heap.size) A1 a1 B1 b1 y from HY.out.more (fun k hk => ⟨(by have := hk.1; (try simp at this); omega), hk.2⟩)); have HLZ := hide (show Lst w7 (fun k => w1.heap.size < k ∧ k < w7.heap.size) 7 (RIt W0) v9 l from HL.out.more rd_It (fun k hk => ⟨(by have := hk.1; (try simp at this); omega), hk.2⟩)); have z0 := HBY.out.c 0 _ rfl; have zf0 := HBY.out.f 0; have z1 := HBY.out.c 1 _ rfl; have zf1 := HBY.out.f 1; have z2 := HBY.out.c 2 _ rfl; have zf2 := HBY.out.f 2; have z3 := HBY.out.c 3 _ rfl; have zf3 := HBY.out.f 3; have z4 := HBY.out.c 4 _ rfl; have zf4 := HBY.out.f 4; have z5 := HBY.out.c 5 _ rfl; have zf5 := HBY.out.f 5)); (try (have HBY : Hid (Bl w7 w5.heap.size [.int .i64 0, .int .i64 0, .int .i64 0, .slice none 0 0, .slice none 0 0, .int .i64 0]) := hide ((Bl.new w5 [.int .i64 0, .int .i64 0, .int .i64 0, .slice none 0 0, .slice none 0 0, .int .i64 0] 35).keep hb7); have HYZ := hide (show TrV w7 (fun k => w5.heap.size < k ∧ k < w7.heap.size) A1 a1 B1 b1 y from HY.out.more (fun k hk => ⟨(by have := hk.1; (try simp at this); omega), hk.2⟩)); have HLZ := hide (show Lst w7 (fun k => w5.heap.size < k ∧ k < w7.heap.size) 7 (RIt W0) v9 l from HL.out.more rd_It (fun k hk => ⟨(by have := hk.1; (try simp at this); omega), hk.2⟩)); have z0 := HBY.out.c 0 _ rfl; have zf0 := HBY.out.f 0; have z1 := HBY.out.c 1 _ rfl; have zf1 := HBY.out.f 1; have z2 := HBY.out.c 2 _ rfl; have zf2 := HBY.out.f 2; have z3 := HBY.out.c 3 _ rfl; have zf3 := HBY.out.f 3; have z4 := HBY.out.c 4 _ rfl; have zf4 := HBY.out.f 4; have z5 := HBY.out.c 5 _ rfl; have zf5 := HBY.out.f 5)); clear hb7 hy hl hyo hl2 hg hsim)))
        all_goals
          go_wp2_with fail
          go_meet
          first
            | (have hway := HYZ; clear hway; exact ⟨_, y, A1, B1, a1, b1, l, v9, rfl, rfl, rfl, hide ⟨(by omega), HBY.out.put6 _ _ _ _ _ _, (HYZ.out.keep ((off_put6 _ _ _ _ _ _).kp (fun k hk => by omega))).more (fun k hk => ⟨by omega, by rw [(off_put6 _ _ _ _ _ _).size]; exact hk.2⟩), (HLZ.out.keep rd_It ((off_put6 _ _ _ _ _ _).kp (fun k hk => by omega))).more rd_It (fun k hk => ⟨by omega, by rw [(off_put6 _ _ _ _ _ _).size]; exact hk.2⟩), (off_put6 _ _ _ _ _ _).below hk9 (by omega)⟩, HP⟩)
            | exact ⟨w7.heap.size, y, A1, B1, a1, b1, l, v9, rfl, rfl, rfl, hide ⟨hz7, Bl.new w7 _ _, (HY.out.keep ((Kp.of_below (below_laid _)).less (fun k hk => hk.2))).more (fun k hk => ⟨Nat.le_trans hz5 hk.1, Nat.lt_of_lt_of_le hk.2 (below_laid _).size⟩), lst_laid rd_It HL.out (fun k hk => ⟨Nat.le_trans hz5 hk.1, hk.2⟩) _, hold_alloc hk9 _⟩, HP⟩
      case rest =>
        clear k0 k1 k2 k3 k4 k5 kl HTY HRD
        obtain ⟨b6, y, A1, B1, a1, b1, l, v9, rfl, hq, rfl, HH, HP⟩ := hcut
        have hh := HH.out
        obtain ⟨A9, c9, e9⟩ := hh.2.2.2.1.form
        obtain ⟨m, hm⟩ : ∃ m, l.length = m := ⟨_, rfl⟩
        rw [hm] at e9
        have hl8 := hh.2.2.2.1
        rw [e9] at hq hl8
        subst hq
        obtain ⟨W8, hW8⟩ : ∃ W8, wc = W8 := ⟨_, rfl⟩
        rw [hW8] at hh hl8 ⊢
        have HM := hide hm
        have hm2 : m ≤ 2 := by rw [← hm]; exact HP.out.2.1
        have HJ8 := hide (HJ1.out.keep hh.2.2.2.2)
        have HT8 := hide ((jto_below (b := b) (f := f) HB1.out).trans (jto_below hh.2.2.2.2))
        have HS8 := hide (show ∀ k, (w1.heap.size ≤ k ∧ k < W8.heap.size) → Sep W8 b f k from fun k hk => HJ1.out.new hk.1 hk.2)
        have HX8 := hide hh.2.1
        have HY8 := hide hh.2.2.1
        have HL8 := hide hl8
        have HB6 := hide (show w1.heap.size ≤ b6 ∧ b6 < W8.heap.size from ⟨hh.1, hh.2.1.lt⟩)
        have k27 : W8.cell? ⟨b, 27, none⟩ = some (.bool true) := by rw [← HJ8.out.ok]; exact HJ8.out.bl.c 27 (by omega)
        have f27 := HJ8.out.bl.fz 27
        have tle : decide ((m : Int) ≤ 2) = true := decide_eq_true (by omega)
        clear hh hl8 e9 HH hW8 hm
        go_upto_region 5 with (fail)
        have hop := HJ8.out.okput
        obtain ⟨W9, hW9⟩ : ∃ W9, W8.setCell ⟨b, 27, none⟩ (.bool true) = W9 := ⟨_, rfl⟩
        rw [hW9] at hop ⊢
        have HJ9 := hide hop.1
        have HT9 := hide (HT8.out.trans hop.2)
        have HX9 := hide (HX8.out.jto (HS8.out b6 HB6.out) hop.2)
        have HY9 := hide (HY8.out.keep (hop.2.kp.less HS8.out))
        have HL9 := hide (Lst.jto rd_It HL8.out HS8.out hop.2)
        have HS9 := hide (fun k hk => hop.2.sep k (HS8.out k hk))
        have hne6 : b6 ≠ b := by have := HB6.out.1; omega
        clear hop hW9 k27 f27 tle HJ8 HT8 HX8 HY8 HL8
        have x0 := HX9.out.c 0 _ rfl
        have x1 := HX9.out.c 1 _ rfl
        have x2 := HX9.out.c 2 _ rfl
        have x3 := HX9.out.c 3 _ rfl
        have x4 := HX9.out.c 4 _ rfl
        have x5 := HX9.out.c 5 _ rfl
        have r0 := HJ9.out.bl.c (2 + i * 6) (by omega)
        have g0 := HJ9.out.bl.fz (2 + i * 6)
        have r1 := HJ9.out.bl.c (2 + i * 6 + 1) (by omega)
        have g1 := HJ9.out.bl.fz (2 + i * 6 + 1)
        have r2 := HJ9.out.bl.c (2 + i * 6 + 2) (by omega)
        have g2 := HJ9.out.bl.fz (2 + i * 6 + 2)
        have r3 := HJ9.out.bl.c (2 + i * 6 + 3) (by omega)
        have g3 := HJ9.out.bl.fz (2 + i * 6 + 3)
        have r4 := HJ9.out.bl.c (2 + i * 6 + 4) (by omega)
        have g4 := HJ9.out.bl.fz (2 + i * 6 + 4)
        have r5 := HJ9.out.bl.c (2 + i * 6 + 5) (by omega)
        have g5 := HJ9.out.bl.fz (2 + i * 6 + 5)
        go_region
        obtain ⟨f10, hJ10, hT10⟩ := HJ9.out.rdput6 hi o HY9.out HS9.out
        obtain ⟨W10, hW10⟩ : ∃ W10, ((((((W9.setCell ⟨b, 2 + i * 6, none⟩ (.int .i64 (i : Int))).setCell ⟨b, 2 + i * 6 + 1, none⟩ (.int .i64 ((o : Int) + 1))).setCell ⟨b, 2 + i * 6 + 2, none⟩ (.int .i64 y.next)).setCell ⟨b, 2 + i * 6 + 3, none⟩ (.slice A1 y.beyond.length a1)).setCell ⟨b, 2 + i * 6 + 4, none⟩ (.slice B1 y.points.length b1)).setCell ⟨b, 2 + i * 6 + 5, none⟩ (.int .i64 y.mark)).drew = W10 := ⟨_, rfl⟩
        rw [hW10] at hJ10 hT10 ⊢
        have HJ10 := hide (show JobAt W0 L W10 b f10 (readT J i l y 0) from hJ10.of_eq (by unfold readT; rw [HO.out]; rfl))
        have HT10 := hide (HT9.out.trans hT10)
        have HL10 := hide (Lst.jto rd_It HL9.out HS9.out hT10)
        have HS10 := hide (fun k hk => hT10.sep k (HS9.out k hk))
        clear hJ10 hT10 hW10 HJ9 HT9 HX9 HY9 HL9 HS9 HS8 x0 x1 x2 x3 x4 x5 r0 r1 r2 r3 r4 r5 g0 g1 g2 g3 g4 g5
        go_wp2
        go_loopw [8] (fun ix wr => ∃ (j : Nat) (fr : Nat → Value), j ≤ m ∧ ix = .int .i64 j ∧ Hid (JobAt W0 L wr b fr (readT J i l y j)) ∧ Hid (JTo b W10 f10 wr fr)) (fun ix _ => m - (intOf ix).toNat)
        case atStart => exact ⟨0, f10, by omega, rfl, HJ10, hide JTo.refl⟩
        case round =>
          clear HJ10
          obtain ⟨j, fr, hj, rfl, HJR, HTR⟩ := hrel
          have k27 : wr.cell? ⟨b, 27, none⟩ = some (.bool true) := by rw [← HJR.out.ok]; exact HJR.out.bl.c 27 (by omega)
          by_cases hjm : j < m
          · have hu0 : (0 : Int) ≤ (j : Int) := by omega
            have hu1 : (j : Int) < (m : Int) := by omega
            have hjl : j < l.length := by rw [HM.out]; exact hjm
            have HLR := hide (Lst.jto rd_It HL10.out HS10.out HTR.out)
            obtain ⟨g6, off6, xs6, e6, hg6, hxl6, hc6, hR6⟩ := HLR.out.at_ hjl
            obtain ⟨x, hx⟩ : ∃ x, l[j] = x := ⟨_, rfl⟩
            have HXG := hide (show GoodI x by rw [← hx]; exact HP.out.2.2.1 _ (List.getElem_mem hjl))
            have HSU := hide (show readT J i l y (j + 1) = sendJ (readT J i l y j) i x by rw [readT_succ hjl, hx])
            rw [hx] at hR6
            obtain ⟨E6, ce6, rfl, hE6, hN6⟩ := hR6
            cases e6
            have hsd := send_inv wr W0 L b fr (readT J i l y j) HJR.out (readT_inv (j := j) HI.out hi (by rw [HO.out]; exact HLT.out) HP.out.1 HP.out.2.1 HP.out.2.2.1) i hi x E6 ce6 hE6 hN6 (.inl HXG.out)
            have HSD := hide hsd
            have k0 := hc6 0 _ rfl
            have k1 := hc6 1 _ rfl
            have k2 := hc6 2 _ rfl
            have k3 := hc6 3 _ rfl
            have k4 := hc6 4 _ rfl
            have k5 := hc6 5 _ rfl
            have k6 := hc6 6 _ rfl
            rw [Nat.add_zero] at k0
            clear hsd hc6 hE6 hN6 hx hxl6 hg6
            go_wp2_with fail
            refine HSD.out.mono ?_
            rintro e9 w9 ⟨rfl, f9, hJ9, hT9⟩
            have HJ9 := hide hJ9
            have HT9 := hide (HTR.out.trans hT9)
            clear hJ9 hT9 HSD k0 k1 k2 k3 k4 k5 k6 k27
            go_wp2
            go_roundw
            case rel => exact ⟨j + 1, f9, by omega, by go_num, hide (by rw [HSU.out]; exact HJ9.out), HT9⟩
            case measure => simp [intOf]; omega
          · obtain rfl : j = m := by omega
            go_wp2
            go_end0
            have hhl : J.off i < (L i).length := by rw [HO.out]; exact HLT.out
            exact ⟨readJ J i l y, .inr ⟨hhl, l, y, HP.out.1, HP.out.2.1, HP.out.2.2.1, fun hs => HP.out.2.2.2 (by rw [HMM.out hhl] at hs; exact hs) |>.imp id fun e => by rw [HMM.out hhl]; exact e, rfl⟩, rfl, fr, by rw [← readT_all, HM.out]; exact HJR.out, HT10.out.trans HTR.out⟩
    · obtain rfl : o = n := by omega
      have td : ((o : Int) - (o : Int) == 0) = true := by simp
      clear k0 k1 k2 k3 k4 k5 kl
      go_wp2
      go_end0
      have hop := HJ1.out.okput
      exact ⟨J, .inl ⟨by rw [HO.out, HN.out], rfl⟩, rfl, f, hop.1, (jto_below HB1.out).trans hop.2⟩
end
end Go.Proofs.YtppaiihcaajkaaaGreat
