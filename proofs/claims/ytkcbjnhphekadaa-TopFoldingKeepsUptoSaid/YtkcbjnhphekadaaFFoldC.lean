/- Fold of an expression. -/
import Derived.Test.YtkcbjnhphekadaaFReb
namespace Go.Proofs.Ytkcbjnhphekadaa
open Go.RowKit
set_option linter.unusedVariables false
set_option linter.unusedSimpArgs false
def foldE (t : Tr) : Tr := if checkE t ≠ 0 then constT V3.z else foldT t
/-- An expression of own memory, and a number. -/
def RetXE (w : World) (t : Tr) (c : Int) (e : Ending) (w' : World) : Prop := ∃ ys, e = .returned (.tuple #[.agg ys.toArray, .int .i64 c]) ∧ Tx w' ys t ∧ Below w.heap.size w w'
def FnN : World → Value → Prop := fun w v => ∃ mp, v = .func (.func 21) #[.agg #[.slice none 0 0, .int .i64 (-1), .int .i64 0, .int .i64 0, .int .i64 0, .int .i64 0, .slice none 0 0, .map (some mp)]] #[] ∧ Opz w mp
def EvZ : World → Value → Prop := fun w v => ∃ mp, v = .agg #[.slice none 0 0, .int .i64 (-1), .int .i64 0, .int .i64 0, .int .i64 0, .int .i64 0, .slice none 0 0, .map (some mp)] ∧ Opz w mp
set_option maxRecDepth 100000 in
set_option maxHeartbeats 8000000 in
theorem xFold_any (t : Tr) (hn : nodesT t ≤ 1000) (w : World) (xs : List Value) (h : Tx w xs t) : Calls Try.prog 8 #[.agg xs.toArray] w (RetXE w (foldE t) (checkE t)) := by
  have HC := hide (fun w' h' => xcheck_any t w' xs h' hn)
  have HRB := hide (fun (hg : GoodT t) w' mp h1 h2 => rebuilt_any t hg.ok w' mp xs h1 h2)
  have HG := hide (@check_good t)
  have HQ0 := hide (show foldE t = if checkE t ≠ 0 then constT V3.z else foldT t from rfl)
  obtain ⟨CE, hCE⟩ : ∃ c, checkE t = c := ⟨_, rfl⟩
  obtain ⟨R, hR⟩ : ∃ r, foldE t = r := ⟨_, rfl⟩
  obtain ⟨T, hT⟩ : ∃ r, foldT t = r := ⟨_, rfl⟩
  rw [hCE, hR, hT] at HQ0
  rw [hCE] at HC HG
  rw [hT] at HRB
  rw [hCE, hR]
  have HX := hide h
  obtain ⟨d, args⟩ := t
  obtain ⟨v0, rfl, hl, hd⟩ := RTx.out h
  obtain ⟨A, cap, rfl⟩ := hl.form
  obtain ⟨m, hmm⟩ : ∃ m, args.length = m := ⟨_, rfl⟩
  rw [hmm] at HC HRB HX ⊢
  clear h hl hd hmm hR hT hCE hn
  have hB1 := below_laid (w := w) (.cells ([.int .i64 d.op, .slice A m cap, .int .i64 d.var, .int .i64 d.field, .int .i64 d.kind, .int .i64 d.val.q, .int .i64 d.val.n, .string d.val.s]).toArray 30)
  have hB2 := bthen hB1 (below_laid (.cells ([.int .i64 0, .slice none 0 0, .int .i64 0, .int .i64 0, .int .i64 0, .int .i64 0, .int .i64 0, .string ⟨#[]⟩]).toArray 30))
  have HBX := hide ((Bl.new w ([.int .i64 d.op, .slice A m cap, .int .i64 d.var, .int .i64 d.field, .int .i64 d.kind, .int .i64 d.val.q, .int .i64 d.val.n, .string d.val.s]) 30).laid (.cells ([.int .i64 0, .slice none 0 0, .int .i64 0, .int .i64 0, .int .i64 0, .int .i64 0, .int .i64 0, .string ⟨#[]⟩]).toArray 30))
  have hr := Bl.new (w.alloc (.cells ([.int .i64 d.op, .slice A m cap, .int .i64 d.var, .int .i64 d.field, .int .i64 d.kind, .int .i64 d.val.q, .int .i64 d.val.n, .string d.val.s]).toArray 30)) ([.int .i64 0, .slice none 0 0, .int .i64 0, .int .i64 0, .int .i64 0, .int .i64 0, .int .i64 0, .string ⟨#[]⟩]) 30
  rw [World.size_alloc] at hr
  have HR := hide hr
  have HB := hide hB2
  replace HX := hide (HX.out.grow hB2)
  clear hB1 hB2 hr
  have a0 := HBX.out.c 0 _ rfl
  have a1 := HBX.out.c 1 _ rfl
  have a2 := HBX.out.c 2 _ rfl
  have a3 := HBX.out.c 3 _ rfl
  have a4 := HBX.out.c 4 _ rfl
  have a5 := HBX.out.c 5 _ rfl
  have a6 := HBX.out.c 6 _ rfl
  have a7 := HBX.out.c 7 _ rfl
  go_enter Try.func8, Try.ntmps8
  go_wp2_with fail
  refine (HC.out _ HX.out).mono ?_
  rintro e w1 ⟨rfl, hb⟩
  replace HB := hide (bthen HB.out hb)
  replace HBX := hide (HBX.out.keep hb)
  replace HR := hide (HR.out.keep hb)
  replace HX := hide (HX.out.grow hb)
  clear hb HC a0 a1 a2 a3 a4 a5 a6 a7
  by_cases hE0 : CE = 0
  · have tE : (CE != 0) = false := by rw [bne_eq_false_iff_eq]; exact hE0
    have HQ := hide (show R = T by rw [HQ0.out, if_neg (by simpa using hE0)])
    have HRC := hide (HRB.out (HG.out.1 hE0))
    have HE0 := hide hE0
    have HRL := hide HR.out.lt
    clear hE0 HG HRB HQ0
    go_wp2_with fail
    refine wp_region_grow 6 [11, 12, 13, 14, 15, 16] [Fix (.agg #[.int .i64 d.op, .slice A m cap, .int .i64 d.var, .int .i64 d.field, .int .i64 d.kind, .int .i64 d.val.q, .int .i64 d.val.n, .string d.val.s]), MapN, EvZ, EvZ, FnN, RetV w1.heap.size T] (by kernel_rfl) (by kernel_rfl) (by kernel_rfl) (by kernel_rfl) (by kernel_rfl) ?_ ?_ ?_
    · intro p hp
      simp only [List.mem_cons, List.not_mem_nil, or_false] at hp
      rcases hp with rfl | rfl | rfl | rfl | rfl | rfl
      all_goals first | exact (fun _ _ _ _ h => h) | exact (fun _ _ _ hb ⟨mp, e, h⟩ => ⟨mp, e, h.keep hb⟩) | exact (fun _ _ _ hb h => retV_below h hb)
    · intro j9 o9 hj9 ho x w5 hb hd
      have hjc : j9 = 0 ∨ j9 = 1 ∨ j9 = 2 ∨ j9 = 3 ∨ j9 = 4 ∨ j9 = 5 := by omega
      rcases hjc with rfl | rfl | rfl | rfl | rfl | rfl
      all_goals obtain rfl := Option.some.inj ho
      all_goals generalize hK : (fun (a' : Act) (w' : World) => _) = K
      all_goals simp only [puts]
      · have z0 := keep1 hb (HBX.out.c 0 _ rfl)
        have z1 := keep1 hb (HBX.out.c 1 _ rfl)
        have z2 := keep1 hb (HBX.out.c 2 _ rfl)
        have z3 := keep1 hb (HBX.out.c 3 _ rfl)
        have z4 := keep1 hb (HBX.out.c 4 _ rfl)
        have z5 := keep1 hb (HBX.out.c 5 _ rfl)
        have z6 := keep1 hb (HBX.out.c 6 _ rfl)
        have z7 := keep1 hb (HBX.out.c 7 _ rfl)
        go_simp
        rw [← hK]
        exact ⟨.agg #[.int .i64 d.op, .slice A m cap, .int .i64 d.var, .int .i64 d.field, .int .i64 d.kind, .int .i64 d.val.q, .int .i64 d.val.n, .string d.val.s], (by simp only [puts]; go_simp), Below.refl _ _, rfl⟩
      · go_simp
        go_at_call 20
        refine (opz_any _).mono ?_
        rintro en9 w9 ⟨mp, ⟨rfl, hbc⟩, hop⟩
        rw [← hK]
        exact ⟨.map (some mp), (by simp only [puts]; go_simp), hbc, mp, rfl, hop⟩
      · obtain ⟨mp, e3, hop⟩ : MapN w5 (x 12) := hd 1 (by kernel_rfl)
        have HOP := hide hop
        clear hop
        go_simp
        rw [← hK]
        exact ⟨.agg #[.slice none 0 0, .int .i64 (-1), .int .i64 0, .int .i64 0, .int .i64 0, .int .i64 0, .slice none 0 0, .map (some mp)], (by simp only [puts]; go_simp), Below.refl _ _, mp, rfl, HOP.out⟩
      · obtain ⟨mp, e3, hop⟩ : EvZ w5 (x 13) := hd 2 (by kernel_rfl)
        have HOP := hide hop
        clear hop
        go_simp
        rw [← hK]
        exact ⟨.agg #[.slice none 0 0, .int .i64 (-1), .int .i64 0, .int .i64 0, .int .i64 0, .int .i64 0, .slice none 0 0, .map (some mp)], (by simp only [puts]; go_simp), Below.refl _ _, mp, rfl, HOP.out⟩
      · obtain ⟨mp, e3, hop⟩ : EvZ w5 (x 14) := hd 3 (by kernel_rfl)
        have HOP := hide hop
        clear hop
        go_simp
        rw [← hK]
        exact ⟨.func (.func 21) #[.agg #[.slice none 0 0, .int .i64 (-1), .int .i64 0, .int .i64 0, .int .i64 0, .int .i64 0, .slice none 0 0, .map (some mp)]] #[], (by simp only [puts]; go_simp), Below.refl _ _, mp, rfl, HOP.out⟩
      · obtain ⟨mp, e3, hop⟩ : FnN w5 (x 15) := hd 4 (by kernel_rfl)
        have e : x 11 = .agg #[.int .i64 d.op, .slice A m cap, .int .i64 d.var, .int .i64 d.field, .int .i64 d.kind, .int .i64 d.val.q, .int .i64 d.val.n, .string d.val.s] := hd 0 (by kernel_rfl)
        have hz5 := hb.size
        have HCL := hide (HRC.out w5 mp hop (HX.out.grow hb))
        clear hop
        go_simp
        go_at_call 19
        refine HCL.out.mono ?_
        rintro en9 w9 ⟨ys, rfl, hT9, hbc⟩
        rw [← hK]
        exact ⟨.agg ys.toArray, (by simp only [puts]; go_simp), hbc, ys, rfl, RTx.more (fun b hb' => ⟨by omega, hb'.2⟩) hT9⟩
    · intro x w9 hb hP
      obtain ⟨ys, e, hT9⟩ : RetV w1.heap.size T w9 (x 16) := hP 5 (by decide)
      have HWF := hide (bthen HB.out hb)
      have HT9 := hide hT9
      have hz9 := hb.size
      obtain ⟨d9, l9⟩ := T
      obtain ⟨v9, rfl, hl9, -⟩ := RTx.out hT9
      obtain ⟨A9, cap9, rfl⟩ := hl9.form
      obtain ⟨n9, hn9⟩ : ∃ n, l9.length = n := ⟨_, rfl⟩
      rw [hn9] at HT9 e
      have e8 : cellsX d9 (.slice A9 n9 cap9) = [.int .i64 d9.op, .slice A9 n9 cap9, .int .i64 d9.var, .int .i64 d9.field, .int .i64 d9.kind, .int .i64 d9.val.q, .int .i64 d9.val.n, .string d9.val.s] := rfl
      rw [e8] at HT9 e
      replace HR := hide (HR.out.keep hb)
      have hrl := HR.out.lt
      have hrl1 := HRL.out
      clear hP hb hT9 hl9 hn9 e8
      have r0 := HR.out.c 0 _ rfl
      have r1 := HR.out.c 1 _ rfl
      have r2 := HR.out.c 2 _ rfl
      have r3 := HR.out.c 3 _ rfl
      have r4 := HR.out.c 4 _ rfl
      have r5 := HR.out.c 5 _ rfl
      have r6 := HR.out.c 6 _ rfl
      have r7 := HR.out.c 7 _ rfl
      have g0 := HR.out.f 0
      have g1 := HR.out.f 1
      have g2 := HR.out.f 2
      have g3 := HR.out.f 3
      have g4 := HR.out.f 4
      have g5 := HR.out.f 5
      have g6 := HR.out.f 6
      have g7 := HR.out.f 7
      simp only [puts, Act.put, List.setIfInBounds_toArray, List.set_cons_succ, List.set_cons_zero, List.drop]
      go_wp2
      refine bodyPost_ret (v := .tuple #[.agg #[.int .i64 d9.op, .slice A9 n9 cap9, .int .i64 d9.var, .int .i64 d9.field, .int .i64 d9.kind, .int .i64 d9.val.q, .int .i64 d9.val.n, .string d9.val.s], .int .i64 0]) (by rw [results_cell_tmp rfl]; go_simp) rfl ?_
      rw [HQ.out, HE0.out]
      refine ⟨_, rfl, ?_, below_set8 HWF.out (by omega) _ _ _ _ _ _ _ _⟩
      refine RTx.more (fun b hb => ?_) (HT9.out.keep ((((((((Kp.set ⟨w.heap.size + 1, 0, none⟩ _ (fun b hb => by show b ≠ w.heap.size + 1; omega)).trans (Kp.set ⟨w.heap.size + 1, 1, none⟩ _ (fun b hb => by show b ≠ w.heap.size + 1; omega))).trans (Kp.set ⟨w.heap.size + 1, 2, none⟩ _ (fun b hb => by show b ≠ w.heap.size + 1; omega))).trans (Kp.set ⟨w.heap.size + 1, 3, none⟩ _ (fun b hb => by show b ≠ w.heap.size + 1; omega))).trans (Kp.set ⟨w.heap.size + 1, 4, none⟩ _ (fun b hb => by show b ≠ w.heap.size + 1; omega))).trans (Kp.set ⟨w.heap.size + 1, 5, none⟩ _ (fun b hb => by show b ≠ w.heap.size + 1; omega))).trans (Kp.set ⟨w.heap.size + 1, 6, none⟩ _ (fun b hb => by show b ≠ w.heap.size + 1; omega))).trans (Kp.set ⟨w.heap.size + 1, 7, none⟩ _ (fun b hb => by show b ≠ w.heap.size + 1; omega))))
      have := hb.2
      simp only [World.setCell, Array.size_modify]
      exact this
  · have tE : (CE != 0) = true := by rw [bne_iff_ne]; exact hE0
    have HQ := hide (show R = constT V3.z by rw [HQ0.out, if_pos hE0])
    clear hE0 HG HRB HQ0
    have r0 := HR.out.c 0 _ rfl
    have r1 := HR.out.c 1 _ rfl
    have r2 := HR.out.c 2 _ rfl
    have r3 := HR.out.c 3 _ rfl
    have r4 := HR.out.c 4 _ rfl
    have r5 := HR.out.c 5 _ rfl
    have r6 := HR.out.c 6 _ rfl
    have r7 := HR.out.c 7 _ rfl
    have g0 := HR.out.f 0
    have g1 := HR.out.f 1
    have g2 := HR.out.f 2
    have g3 := HR.out.f 3
    have g4 := HR.out.f 4
    have g5 := HR.out.f 5
    have g6 := HR.out.f 6
    have g7 := HR.out.f 7
    go_wp2
    refine bodyPost_ret (v := .tuple #[.agg #[.int .i64 0, .slice none 0 0, .int .i64 0, .int .i64 0, .int .i64 0, .int .i64 0, .int .i64 0, .string ⟨#[]⟩], .int .i64 CE]) (by rw [results_cell_tmp rfl]; go_simp) rfl ?_
    rw [HQ.out]
    have hcz : ∀ (W : World) (Z : Nat → Prop), RTx W Z [.int .i64 0, .slice none 0 0, .int .i64 0, .int .i64 0, .int .i64 0, .int .i64 0, .int .i64 0, .string ⟨#[]⟩] (constT V3.z) := fun W Z => constT_tx (v := V3.z) ⟨by simp [inX, V3.z], by simp [inX, V3.z], Nat.zero_le _⟩
    exact ⟨_, rfl, hcz _ _, below_set8 HB.out (by omega) _ _ _ _ _ _ _ _⟩
end Go.Proofs.Ytkcbjnhphekadaa
