/- fold: what replaces a node. -/
import Derived.Test.YtkcbjnhphekadaaFFoldA
namespace Go.Proofs.Ytkcbjnhphekadaa
open Go.RowKit
set_option linter.unusedVariables false
set_option linter.unusedSimpArgs false
def set8 (W : World) (F : Nat) (v0 v1 v2 v3 v4 v5 v6 v7 : Value) : World := (((((((W.setCell ⟨F, 0, none⟩ v0).setCell ⟨F, 1, none⟩ v1).setCell ⟨F, 2, none⟩ v2).setCell ⟨F, 3, none⟩ v3).setCell ⟨F, 4, none⟩ v4).setCell ⟨F, 5, none⟩ v5).setCell ⟨F, 6, none⟩ v6).setCell ⟨F, 7, none⟩ v7
theorem below_set8 {a w : World} {F : Nat} (h : Below a.heap.size a w) (hF : a.heap.size ≤ F) (v0 v1 v2 v3 v4 v5 v6 v7 : Value) : Below a.heap.size a (set8 w F v0 v1 v2 v3 v4 v5 v6 v7) :=
  (((((((h.setCell (p := ⟨F, 0, none⟩) hF _).setCell (p := ⟨F, 1, none⟩) hF _).setCell (p := ⟨F, 2, none⟩) hF _).setCell (p := ⟨F, 3, none⟩) hF _).setCell (p := ⟨F, 4, none⟩) hF _).setCell (p := ⟨F, 5, none⟩) hF _).setCell (p := ⟨F, 6, none⟩) hF _).setCell (p := ⟨F, 7, none⟩) hF _
section
variable {w w1 : World} {Z : Nat → Prop} {ys : List Value} {t : Tr} {F : Nat}
/-- The result's box is written. -/
theorem fin8 (hB : Below w.heap.size w w1) (hT : ∀ w', Below w.heap.size w w' → RTx w' Z ys t) (hF : w.heap.size ≤ F) (v0 v1 v2 v3 v4 v5 v6 v7 : Value) : RetX w (fun _ => Z) t (.returned (.agg ys.toArray)) (set8 w1 F v0 v1 v2 v3 v4 v5 v6 v7) :=
  ⟨ys, rfl, hT _ (below_set8 hB hF _ _ _ _ _ _ _ _), below_set8 hB hF _ _ _ _ _ _ _ _⟩
theorem fin8a (hB : Below w.heap.size w w1) (hT : ∀ w', Below w.heap.size w w' → RTx w' Z ys t) (hF : w.heap.size ≤ F) (o : Obj) (v0 v1 v2 v3 v4 v5 v6 v7 : Value) : RetX w (fun _ => Z) t (.returned (.agg ys.toArray)) ((set8 w1 F v0 v1 v2 v3 v4 v5 v6 v7).alloc o) :=
  ⟨ys, rfl, hT _ (bthen (below_set8 hB hF _ _ _ _ _ _ _ _) (below_laid _)), bthen (below_set8 hB hF _ _ _ _ _ _ _ _) (below_laid _)⟩
end
section
variable (w : World)
set_option maxRecDepth 100000 in
set_option maxHeartbeats 8000000 in
theorem fold_known (d : Nd) (args : List Tr) (v : Value) (hok : OkT 16 8 (.mk d args)) (mp : Nat) (Z : Nat → Prop) (hZ : ∀ b, Z b → b < w.heap.size) (h2 : Opz w mp) (h : RTx w Z (cellsX d v) (.mk d args)) (hk : knownB2 d args = true) : Calls Try.prog 21 #[.agg ([.slice none 0 0, .int .i64 (-1), .int .i64 0, .int .i64 0, .int .i64 0, .int .i64 0, .slice none 0 0, .map (some mp)]).toArray, .agg (cellsX d v).toArray] w (RetX w (fun _ => Z) (fold1 d args)) := by
  have HF1 := hide (show fold1 d args = constT (resV d.op (vals args)) by unfold fold1; rw [if_pos hk])
  rw [HF1.out]
  have HK := hide hk
  clear hk
  have HKN := hide (fun w' hb => xknown_any w' d args v hok mp (h2.keep hb) (RTx.more (fun b hb' => Nat.lt_of_lt_of_le (hZ b hb') hb.size) (h.keep (Kp.lowBelow hb hZ))))
  have HKL := hide (known_law hok)
  have HOK := hide hok
  have HZ := hide hZ
  have HT := hide (fun (ys : List Value) (t : Tr) (h9 : RTx w Z ys t) w' (hb : Below w.heap.size w w') => h9.keep (Kp.lowBelow hb hZ))
  have HX := hide h
  obtain ⟨v0, hv0, hl, hd⟩ := RTx.out h
  have hv0 : v = v0 := by injection hv0 with _ h9; injection h9
  subst hv0
  have HL := hide hl
  obtain ⟨A, cap, rfl⟩ := hl.form
  obtain ⟨m, hmm⟩ : ∃ m, args.length = m := ⟨_, rfl⟩
  have HM := hide hmm
  rw [hmm] at HX HKN HL ⊢
  obtain ⟨KV, hKV⟩ : ∃ r, knV d args = r := ⟨_, rfl⟩
  obtain ⟨KB, hKB⟩ : ∃ r, knB d args = r := ⟨_, rfl⟩
  rw [hKV, hKB] at HKN HKL
  obtain ⟨kq, kn, ks⟩ := KV
  have hB1 := below_laid (w := w) (.cells ([.slice none 0 0, .int .i64 (-1), .int .i64 0, .int .i64 0, .int .i64 0, .int .i64 0, .slice none 0 0, .map (some mp)]).toArray 76)
  have hB2 := bthen hB1 (below_laid (.cells ([.int .i64 d.op, .slice A m cap, .int .i64 d.var, .int .i64 d.field, .int .i64 d.kind, .int .i64 d.val.q, .int .i64 d.val.n, .string d.val.s]).toArray 30))
  have hB3 := bthen hB2 (below_laid (.cells ([.int .i64 0, .slice none 0 0, .int .i64 0, .int .i64 0, .int .i64 0, .int .i64 0, .int .i64 0, .string ⟨#[]⟩]).toArray 30))
  have HBF := hide (((Bl.new w ([.slice none 0 0, .int .i64 (-1), .int .i64 0, .int .i64 0, .int .i64 0, .int .i64 0, .slice none 0 0, .map (some mp)]) 76).laid (.cells ([.int .i64 d.op, .slice A m cap, .int .i64 d.var, .int .i64 d.field, .int .i64 d.kind, .int .i64 d.val.q, .int .i64 d.val.n, .string d.val.s]).toArray 30)).laid (.cells ([.int .i64 0, .slice none 0 0, .int .i64 0, .int .i64 0, .int .i64 0, .int .i64 0, .int .i64 0, .string ⟨#[]⟩]).toArray 30))
  have hx := (Bl.new (w.alloc (.cells ([.slice none 0 0, .int .i64 (-1), .int .i64 0, .int .i64 0, .int .i64 0, .int .i64 0, .slice none 0 0, .map (some mp)]).toArray 76)) ([.int .i64 d.op, .slice A m cap, .int .i64 d.var, .int .i64 d.field, .int .i64 d.kind, .int .i64 d.val.q, .int .i64 d.val.n, .string d.val.s]) 30).laid (.cells ([.int .i64 0, .slice none 0 0, .int .i64 0, .int .i64 0, .int .i64 0, .int .i64 0, .int .i64 0, .string ⟨#[]⟩]).toArray 30)
  rw [World.size_alloc] at hx
  have HBX := hide hx
  have hr := Bl.new ((w.alloc (.cells ([.slice none 0 0, .int .i64 (-1), .int .i64 0, .int .i64 0, .int .i64 0, .int .i64 0, .slice none 0 0, .map (some mp)]).toArray 76)).alloc (.cells ([.int .i64 d.op, .slice A m cap, .int .i64 d.var, .int .i64 d.field, .int .i64 d.kind, .int .i64 d.val.q, .int .i64 d.val.n, .string d.val.s]).toArray 30)) ([.int .i64 0, .slice none 0 0, .int .i64 0, .int .i64 0, .int .i64 0, .int .i64 0, .int .i64 0, .string ⟨#[]⟩]) 30
  simp only [World.size_alloc] at hr
  have HR := hide hr
  have HB := hide hB3
  clear h h2 hl hd hmm hB1 hB2 hB3 hx hr hKV hKB hZ hok
  obtain rfl : KB = true := HKL.out.1.trans HK.out
  have HVV := hide (HKL.out.2 HK.out)
  rw [← HVV.out]
  have HCN := hide (fun w' => constant_any w' ⟨kq, kn, ks⟩ (by rw [HVV.out]; exact res_ok _ _) (fun _ => Z))
  have f0 := HBF.out.c 0 _ rfl
  have f1 := HBF.out.c 1 _ rfl
  have f2 := HBF.out.c 2 _ rfl
  have f3 := HBF.out.c 3 _ rfl
  have f4 := HBF.out.c 4 _ rfl
  have f5 := HBF.out.c 5 _ rfl
  have f6 := HBF.out.c 6 _ rfl
  have f7 := HBF.out.c 7 _ rfl
  have a0 := HBX.out.c 0 _ rfl
  have a1 := HBX.out.c 1 _ rfl
  have a2 := HBX.out.c 2 _ rfl
  have a3 := HBX.out.c 3 _ rfl
  have a4 := HBX.out.c 4 _ rfl
  have a5 := HBX.out.c 5 _ rfl
  have a6 := HBX.out.c 6 _ rfl
  have a7 := HBX.out.c 7 _ rfl
  go_enter Try.func21, Try.ntmps21
  go_wp2_with fail
  refine (HKN.out _ HB.out).mono ?_
  rintro e w1 ⟨rfl, hb⟩
  replace HB := hide (bthen HB.out hb)
  replace HBX := hide (HBX.out.keep hb)
  replace HR := hide (HR.out.keep hb)
  have hrl := HR.out.lt
  have hxl := HBX.out.lt
  clear hb HKN f0 f1 f2 f3 f4 f5 f6 f7 a0 a1 a2 a3 a4 a5 a6 a7 HBF
  have a0 := HBX.out.c 0 _ rfl
  have a1 := HBX.out.c 1 _ rfl
  have a2 := HBX.out.c 2 _ rfl
  have a3 := HBX.out.c 3 _ rfl
  have a4 := HBX.out.c 4 _ rfl
  have a5 := HBX.out.c 5 _ rfl
  have a6 := HBX.out.c 6 _ rfl
  have a7 := HBX.out.c 7 _ rfl
  have r0 := HR.out.c 0 _ rfl
  have r1 := HR.out.c 1 _ rfl
  have r2 := HR.out.c 2 _ rfl
  have r3 := HR.out.c 3 _ rfl
  have r4 := HR.out.c 4 _ rfl
  have r5 := HR.out.c 5 _ rfl
  have r6 := HR.out.c 6 _ rfl
  have r7 := HR.out.c 7 _ rfl
  have g0 := HR.out.f 0
  have g1 := HR.out.f 1
  have g2 := HR.out.f 2
  have g3 := HR.out.f 3
  have g4 := HR.out.f 4
  have g5 := HR.out.f 5
  have g6 := HR.out.f 6
  have g7 := HR.out.f 7
  have hc9 := cells_lit w1 [.int .i64 kq, .int .i64 kn, .string ks] 28
  have c0 := hc9 0 _ rfl
  have c1 := hc9 1 _ rfl
  have c2 := hc9 2 _ rfl
  clear hc9 a0 a1 a2 a3 a4 a5 a6 a7 r0 r1 r2 r3 r4 r5 r6 r7 g0 g1 g2 g3 g4 g5 g6 g7 HKL HVV
  go_wp2_with fail
  refine (HCN.out _).mono ?_
  rintro e w2 ⟨ys, rfl, hT9, hb⟩
  obtain ⟨v9, rfl, hl9, -⟩ := RTx.out hT9
  obtain ⟨A9, cap9, rfl⟩ := hl9.form
  have e9 : cellsX ⟨0, 0, 0, 0, ⟨kq, kn, ks⟩⟩ (.slice A9 ([] : List Tr).length cap9) = [.int .i64 0, .slice A9 0 cap9, .int .i64 0, .int .i64 0, .int .i64 0, .int .i64 kq, .int .i64 kn, .string ks] := rfl
  rw [e9] at hT9 ⊢
  have HBa := hide (bthen HB.out (bthen (below_laid _) hb))
  replace HR := hide ((HR.out.laid _).keep hb)
  have hrl := HR.out.lt
  have HT9 := hide hT9
  clear hb c0 c1 c2 HCN hT9
  have r0 := HR.out.c 0 _ rfl
  have r1 := HR.out.c 1 _ rfl
  have r2 := HR.out.c 2 _ rfl
  have r3 := HR.out.c 3 _ rfl
  have r4 := HR.out.c 4 _ rfl
  have r5 := HR.out.c 5 _ rfl
  have r6 := HR.out.c 6 _ rfl
  have r7 := HR.out.c 7 _ rfl
  have g0 := HR.out.f 0
  have g1 := HR.out.f 1
  have g2 := HR.out.f 2
  have g3 := HR.out.f 3
  have g4 := HR.out.f 4
  have g5 := HR.out.f 5
  have g6 := HR.out.f 6
  have g7 := HR.out.f 7
  go_wp2
  refine bodyPost_ret (v := .agg #[.int .i64 0, .slice A9 0 cap9, .int .i64 0, .int .i64 0, .int .i64 0, .int .i64 kq, .int .i64 kn, .string ks]) (by rw [results_c rfl]; go_simp) rfl ?_
  exact ⟨_, rfl, HT9.out.keep (((((((Kp.set ⟨w.heap.size + 1 + 1, 0, none⟩ _ (fun b hb => by have := HZ.out b hb; show b ≠ w.heap.size + 1 + 1; omega)).trans (Kp.set ⟨w.heap.size + 1 + 1, 1, none⟩ _ (fun b hb => by have := HZ.out b hb; show b ≠ w.heap.size + 1 + 1; omega))).trans (Kp.set ⟨w.heap.size + 1 + 1, 2, none⟩ _ (fun b hb => by have := HZ.out b hb; show b ≠ w.heap.size + 1 + 1; omega))).trans (Kp.set ⟨w.heap.size + 1 + 1, 3, none⟩ _ (fun b hb => by have := HZ.out b hb; show b ≠ w.heap.size + 1 + 1; omega))).trans (Kp.set ⟨w.heap.size + 1 + 1, 4, none⟩ _ (fun b hb => by have := HZ.out b hb; show b ≠ w.heap.size + 1 + 1; omega))).trans (Kp.set ⟨w.heap.size + 1 + 1, 5, none⟩ _ (fun b hb => by have := HZ.out b hb; show b ≠ w.heap.size + 1 + 1; omega))).trans (Kp.set ⟨w.heap.size + 1 + 1, 6, none⟩ _ (fun b hb => by have := HZ.out b hb; show b ≠ w.heap.size + 1 + 1; omega)) |>.trans (Kp.set ⟨w.heap.size + 1 + 1, 7, none⟩ _ (fun b hb => by have := HZ.out b hb; show b ≠ w.heap.size + 1 + 1; omega))), below_set8 HBa.out (by omega) _ _ _ _ _ _ _ _⟩
set_option maxRecDepth 100000 in
set_option maxHeartbeats 8000000 in
theorem fold_self (d : Nd) (args : List Tr) (v : Value) (hok : OkT 16 8 (.mk d args)) (mp : Nat) (Z : Nat → Prop) (hZ : ∀ b, Z b → b < w.heap.size) (h2 : Opz w mp) (h : RTx w Z (cellsX d v) (.mk d args)) (hk : knownB2 d args = false) (hno : d.op ≠ 12 ∧ d.op ≠ 10 ∧ d.op ≠ 11) : Calls Try.prog 21 #[.agg ([.slice none 0 0, .int .i64 (-1), .int .i64 0, .int .i64 0, .int .i64 0, .int .i64 0, .slice none 0 0, .map (some mp)]).toArray, .agg (cellsX d v).toArray] w (RetX w (fun _ => Z) (fold1 d args)) := by
  have HF1 := hide (show fold1 d args = .mk d args by unfold fold1; rw [if_neg (by rw [hk]; simp), if_neg (fun h => hno.1 h.1), if_pos hno.2])
  rw [HF1.out]
  have t12 : (d.op == 12) = false := by rw [beq_eq_false_iff_ne]; exact hno.1
  have t10 : (d.op != 10) = true := by rw [bne_iff_ne]; exact hno.2.1
  have t11 : (d.op != 11) = true := by rw [bne_iff_ne]; exact hno.2.2
  clear hno
  have HK := hide hk
  clear hk
  have HKN := hide (fun w' hb => xknown_any w' d args v hok mp (h2.keep hb) (RTx.more (fun b hb' => Nat.lt_of_lt_of_le (hZ b hb') hb.size) (h.keep (Kp.lowBelow hb hZ))))
  have HKL := hide (known_law hok)
  have HOK := hide hok
  have HZ := hide hZ
  have HT := hide (fun (ys : List Value) (t : Tr) (h9 : RTx w Z ys t) w' (hb : Below w.heap.size w w') => h9.keep (Kp.lowBelow hb hZ))
  have HX := hide h
  obtain ⟨v0, hv0, hl, hd⟩ := RTx.out h
  have hv0 : v = v0 := by injection hv0 with _ h9; injection h9
  subst hv0
  have HL := hide hl
  obtain ⟨A, cap, rfl⟩ := hl.form
  obtain ⟨m, hmm⟩ : ∃ m, args.length = m := ⟨_, rfl⟩
  have HM := hide hmm
  rw [hmm] at HX HKN HL ⊢
  obtain ⟨KV, hKV⟩ : ∃ r, knV d args = r := ⟨_, rfl⟩
  obtain ⟨KB, hKB⟩ : ∃ r, knB d args = r := ⟨_, rfl⟩
  rw [hKV, hKB] at HKN HKL
  obtain ⟨kq, kn, ks⟩ := KV
  have hB1 := below_laid (w := w) (.cells ([.slice none 0 0, .int .i64 (-1), .int .i64 0, .int .i64 0, .int .i64 0, .int .i64 0, .slice none 0 0, .map (some mp)]).toArray 76)
  have hB2 := bthen hB1 (below_laid (.cells ([.int .i64 d.op, .slice A m cap, .int .i64 d.var, .int .i64 d.field, .int .i64 d.kind, .int .i64 d.val.q, .int .i64 d.val.n, .string d.val.s]).toArray 30))
  have hB3 := bthen hB2 (below_laid (.cells ([.int .i64 0, .slice none 0 0, .int .i64 0, .int .i64 0, .int .i64 0, .int .i64 0, .int .i64 0, .string ⟨#[]⟩]).toArray 30))
  have HBF := hide (((Bl.new w ([.slice none 0 0, .int .i64 (-1), .int .i64 0, .int .i64 0, .int .i64 0, .int .i64 0, .slice none 0 0, .map (some mp)]) 76).laid (.cells ([.int .i64 d.op, .slice A m cap, .int .i64 d.var, .int .i64 d.field, .int .i64 d.kind, .int .i64 d.val.q, .int .i64 d.val.n, .string d.val.s]).toArray 30)).laid (.cells ([.int .i64 0, .slice none 0 0, .int .i64 0, .int .i64 0, .int .i64 0, .int .i64 0, .int .i64 0, .string ⟨#[]⟩]).toArray 30))
  have hx := (Bl.new (w.alloc (.cells ([.slice none 0 0, .int .i64 (-1), .int .i64 0, .int .i64 0, .int .i64 0, .int .i64 0, .slice none 0 0, .map (some mp)]).toArray 76)) ([.int .i64 d.op, .slice A m cap, .int .i64 d.var, .int .i64 d.field, .int .i64 d.kind, .int .i64 d.val.q, .int .i64 d.val.n, .string d.val.s]) 30).laid (.cells ([.int .i64 0, .slice none 0 0, .int .i64 0, .int .i64 0, .int .i64 0, .int .i64 0, .int .i64 0, .string ⟨#[]⟩]).toArray 30)
  rw [World.size_alloc] at hx
  have HBX := hide hx
  have hr := Bl.new ((w.alloc (.cells ([.slice none 0 0, .int .i64 (-1), .int .i64 0, .int .i64 0, .int .i64 0, .int .i64 0, .slice none 0 0, .map (some mp)]).toArray 76)).alloc (.cells ([.int .i64 d.op, .slice A m cap, .int .i64 d.var, .int .i64 d.field, .int .i64 d.kind, .int .i64 d.val.q, .int .i64 d.val.n, .string d.val.s]).toArray 30)) ([.int .i64 0, .slice none 0 0, .int .i64 0, .int .i64 0, .int .i64 0, .int .i64 0, .int .i64 0, .string ⟨#[]⟩]) 30
  simp only [World.size_alloc] at hr
  have HR := hide hr
  have HB := hide hB3
  clear h h2 hl hd hmm hB1 hB2 hB3 hx hr hKV hKB hZ hok
  obtain rfl : KB = false := HKL.out.1.trans HK.out
  have f0 := HBF.out.c 0 _ rfl
  have f1 := HBF.out.c 1 _ rfl
  have f2 := HBF.out.c 2 _ rfl
  have f3 := HBF.out.c 3 _ rfl
  have f4 := HBF.out.c 4 _ rfl
  have f5 := HBF.out.c 5 _ rfl
  have f6 := HBF.out.c 6 _ rfl
  have f7 := HBF.out.c 7 _ rfl
  have a0 := HBX.out.c 0 _ rfl
  have a1 := HBX.out.c 1 _ rfl
  have a2 := HBX.out.c 2 _ rfl
  have a3 := HBX.out.c 3 _ rfl
  have a4 := HBX.out.c 4 _ rfl
  have a5 := HBX.out.c 5 _ rfl
  have a6 := HBX.out.c 6 _ rfl
  have a7 := HBX.out.c 7 _ rfl
  go_enter Try.func21, Try.ntmps21
  go_wp2_with fail
  refine (HKN.out _ HB.out).mono ?_
  rintro e w1 ⟨rfl, hb⟩
  replace HB := hide (bthen HB.out hb)
  replace HBX := hide (HBX.out.keep hb)
  replace HR := hide (HR.out.keep hb)
  have hrl := HR.out.lt
  have hxl := HBX.out.lt
  clear hb HKN f0 f1 f2 f3 f4 f5 f6 f7 a0 a1 a2 a3 a4 a5 a6 a7 HBF
  have a0 := HBX.out.c 0 _ rfl
  have a1 := HBX.out.c 1 _ rfl
  have a2 := HBX.out.c 2 _ rfl
  have a3 := HBX.out.c 3 _ rfl
  have a4 := HBX.out.c 4 _ rfl
  have a5 := HBX.out.c 5 _ rfl
  have a6 := HBX.out.c 6 _ rfl
  have a7 := HBX.out.c 7 _ rfl
  have r0 := HR.out.c 0 _ rfl
  have r1 := HR.out.c 1 _ rfl
  have r2 := HR.out.c 2 _ rfl
  have r3 := HR.out.c 3 _ rfl
  have r4 := HR.out.c 4 _ rfl
  have r5 := HR.out.c 5 _ rfl
  have r6 := HR.out.c 6 _ rfl
  have r7 := HR.out.c 7 _ rfl
  have g0 := HR.out.f 0
  have g1 := HR.out.f 1
  have g2 := HR.out.f 2
  have g3 := HR.out.f 3
  have g4 := HR.out.f 4
  have g5 := HR.out.f 5
  have g6 := HR.out.f 6
  have g7 := HR.out.f 7
  clear HKL
  go_wp2
  refine bodyPost_ret (v := .agg #[.int .i64 d.op, .slice A m cap, .int .i64 d.var, .int .i64 d.field, .int .i64 d.kind, .int .i64 d.val.q, .int .i64 d.val.n, .string d.val.s]) (by rw [results_c rfl]; go_simp) rfl ?_
  first
    | exact fin8a HB.out (HT.out _ _ HX.out) (by omega) _ _ _ _ _ _ _ _ _
    | exact fin8 HB.out (HT.out _ _ HX.out) (by omega) _ _ _ _ _ _ _ _
set_option maxRecDepth 100000 in
set_option maxHeartbeats 8000000 in
theorem fold_not1 (d : Nd) (args : List Tr) (v : Value) (hok : OkT 16 8 (.mk d args)) (mp : Nat) (Z : Nat → Prop) (hZ : ∀ b, Z b → b < w.heap.size) (h2 : Opz w mp) (h : RTx w Z (cellsX d v) (.mk d args)) (hk : knownB2 d args = false) (a : Tr) (ha : args = [a]) (h12 : d.op = 12) (hno : a.d.op ≠ 12) : Calls Try.prog 21 #[.agg ([.slice none 0 0, .int .i64 (-1), .int .i64 0, .int .i64 0, .int .i64 0, .int .i64 0, .slice none 0 0, .map (some mp)]).toArray, .agg (cellsX d v).toArray] w (RetX w (fun _ => Z) (fold1 d args)) := by
  subst ha
  have HF1 := hide (show fold1 d [a] = .mk d [a] by unfold fold1; rw [if_neg (by rw [hk]; simp), if_neg (fun h => hno h.2), if_pos (by omega)])
  rw [HF1.out]
  have t12 : (d.op == 12) = true := by rw [beq_iff_eq]; exact h12
  have t10 : (d.op != 10) = true := by rw [bne_iff_ne]; omega
  have t11 : (d.op != 11) = true := by rw [bne_iff_ne]; omega
  have HNO := hide hno
  clear hno h12
  have HK := hide hk
  clear hk
  have HKN := hide (fun w' hb => xknown_any w' d [a] v hok mp (h2.keep hb) (RTx.more (fun b hb' => Nat.lt_of_lt_of_le (hZ b hb') hb.size) (h.keep (Kp.lowBelow hb hZ))))
  have HKL := hide (known_law hok)
  have HOK := hide hok
  have HZ := hide hZ
  have HT := hide (fun (ys : List Value) (t : Tr) (h9 : RTx w Z ys t) w' (hb : Below w.heap.size w w') => h9.keep (Kp.lowBelow hb hZ))
  have HX := hide h
  obtain ⟨v0, hv0, hl, hd⟩ := RTx.out h
  have hv0 : v = v0 := by injection hv0 with _ h9; injection h9
  subst hv0
  have HL := hide hl
  obtain ⟨A, cap, rfl⟩ := hl.form
  obtain ⟨m, hmm⟩ : ∃ m, [a].length = m := ⟨_, rfl⟩
  have HM := hide hmm
  rw [hmm] at HX HKN HL ⊢
  obtain ⟨KV, hKV⟩ : ∃ r, knV d [a] = r := ⟨_, rfl⟩
  obtain ⟨KB, hKB⟩ : ∃ r, knB d [a] = r := ⟨_, rfl⟩
  rw [hKV, hKB] at HKN HKL
  obtain ⟨kq, kn, ks⟩ := KV
  have hB1 := below_laid (w := w) (.cells ([.slice none 0 0, .int .i64 (-1), .int .i64 0, .int .i64 0, .int .i64 0, .int .i64 0, .slice none 0 0, .map (some mp)]).toArray 76)
  have hB2 := bthen hB1 (below_laid (.cells ([.int .i64 d.op, .slice A m cap, .int .i64 d.var, .int .i64 d.field, .int .i64 d.kind, .int .i64 d.val.q, .int .i64 d.val.n, .string d.val.s]).toArray 30))
  have hB3 := bthen hB2 (below_laid (.cells ([.int .i64 0, .slice none 0 0, .int .i64 0, .int .i64 0, .int .i64 0, .int .i64 0, .int .i64 0, .string ⟨#[]⟩]).toArray 30))
  have HBF := hide (((Bl.new w ([.slice none 0 0, .int .i64 (-1), .int .i64 0, .int .i64 0, .int .i64 0, .int .i64 0, .slice none 0 0, .map (some mp)]) 76).laid (.cells ([.int .i64 d.op, .slice A m cap, .int .i64 d.var, .int .i64 d.field, .int .i64 d.kind, .int .i64 d.val.q, .int .i64 d.val.n, .string d.val.s]).toArray 30)).laid (.cells ([.int .i64 0, .slice none 0 0, .int .i64 0, .int .i64 0, .int .i64 0, .int .i64 0, .int .i64 0, .string ⟨#[]⟩]).toArray 30))
  have hx := (Bl.new (w.alloc (.cells ([.slice none 0 0, .int .i64 (-1), .int .i64 0, .int .i64 0, .int .i64 0, .int .i64 0, .slice none 0 0, .map (some mp)]).toArray 76)) ([.int .i64 d.op, .slice A m cap, .int .i64 d.var, .int .i64 d.field, .int .i64 d.kind, .int .i64 d.val.q, .int .i64 d.val.n, .string d.val.s]) 30).laid (.cells ([.int .i64 0, .slice none 0 0, .int .i64 0, .int .i64 0, .int .i64 0, .int .i64 0, .int .i64 0, .string ⟨#[]⟩]).toArray 30)
  rw [World.size_alloc] at hx
  have HBX := hide hx
  have hr := Bl.new ((w.alloc (.cells ([.slice none 0 0, .int .i64 (-1), .int .i64 0, .int .i64 0, .int .i64 0, .int .i64 0, .slice none 0 0, .map (some mp)]).toArray 76)).alloc (.cells ([.int .i64 d.op, .slice A m cap, .int .i64 d.var, .int .i64 d.field, .int .i64 d.kind, .int .i64 d.val.q, .int .i64 d.val.n, .string d.val.s]).toArray 30)) ([.int .i64 0, .slice none 0 0, .int .i64 0, .int .i64 0, .int .i64 0, .int .i64 0, .int .i64 0, .string ⟨#[]⟩]) 30
  simp only [World.size_alloc] at hr
  have HR := hide hr
  have HB := hide hB3
  clear h h2 hl hd hmm hB1 hB2 hB3 hx hr hKV hKB hZ hok
  obtain rfl : KB = false := HKL.out.1.trans HK.out
  obtain rfl : m = 1 := HM.out.symm
  obtain ⟨ga, oa, xa, ea, hga, hya, hca, hra⟩ := Lst.at_ (j := 0) HL.out (by simp)
  subst ea
  have hgw : ga < w.heap.size := HZ.out _ hga
  obtain ⟨d2, l2⟩ := a
  have hra' : RTx w Z xa (.mk d2 l2) := hra
  obtain ⟨v2, rfl, hl2, hd2⟩ := RTx.out hra'
  have hca0 := hca 0 _ rfl
  have tn : (d2.op == 12) = false := by rw [beq_eq_false_iff_ne]; exact HNO.out
  simp only [Nat.zero_mul, Nat.add_zero] at hca0
  clear hca hya hra hra' hl2 hd2
  have f0 := HBF.out.c 0 _ rfl
  have f1 := HBF.out.c 1 _ rfl
  have f2 := HBF.out.c 2 _ rfl
  have f3 := HBF.out.c 3 _ rfl
  have f4 := HBF.out.c 4 _ rfl
  have f5 := HBF.out.c 5 _ rfl
  have f6 := HBF.out.c 6 _ rfl
  have f7 := HBF.out.c 7 _ rfl
  have a0 := HBX.out.c 0 _ rfl
  have a1 := HBX.out.c 1 _ rfl
  have a2 := HBX.out.c 2 _ rfl
  have a3 := HBX.out.c 3 _ rfl
  have a4 := HBX.out.c 4 _ rfl
  have a5 := HBX.out.c 5 _ rfl
  have a6 := HBX.out.c 6 _ rfl
  have a7 := HBX.out.c 7 _ rfl
  go_enter Try.func21, Try.ntmps21
  go_wp2_with fail
  refine (HKN.out _ HB.out).mono ?_
  rintro e w1 ⟨rfl, hb⟩
  replace HB := hide (bthen HB.out hb)
  replace HBX := hide (HBX.out.keep hb)
  replace HR := hide (HR.out.keep hb)
  have hrl := HR.out.lt
  have hxl := HBX.out.lt
  clear hb HKN f0 f1 f2 f3 f4 f5 f6 f7 a0 a1 a2 a3 a4 a5 a6 a7 HBF
  have a0 := HBX.out.c 0 _ rfl
  have a1 := HBX.out.c 1 _ rfl
  have a2 := HBX.out.c 2 _ rfl
  have a3 := HBX.out.c 3 _ rfl
  have a4 := HBX.out.c 4 _ rfl
  have a5 := HBX.out.c 5 _ rfl
  have a6 := HBX.out.c 6 _ rfl
  have a7 := HBX.out.c 7 _ rfl
  have r0 := HR.out.c 0 _ rfl
  have r1 := HR.out.c 1 _ rfl
  have r2 := HR.out.c 2 _ rfl
  have r3 := HR.out.c 3 _ rfl
  have r4 := HR.out.c 4 _ rfl
  have r5 := HR.out.c 5 _ rfl
  have r6 := HR.out.c 6 _ rfl
  have r7 := HR.out.c 7 _ rfl
  have g0 := HR.out.f 0
  have g1 := HR.out.f 1
  have g2 := HR.out.f 2
  have g3 := HR.out.f 3
  have g4 := HR.out.f 4
  have g5 := HR.out.f 5
  have g6 := HR.out.f 6
  have g7 := HR.out.f 7
  have hgw1 : ga < w1.heap.size := by omega
  have ha0 := keep1 HB.out hca0
  clear HKL hca0
  go_wp2
  refine bodyPost_ret (v := .agg #[.int .i64 d.op, .slice (some ⟨ga, oa, none⟩) 1 cap, .int .i64 d.var, .int .i64 d.field, .int .i64 d.kind, .int .i64 d.val.q, .int .i64 d.val.n, .string d.val.s]) (by rw [results_c rfl]; go_simp) rfl ?_
  first
    | exact fin8a HB.out (HT.out _ _ HX.out) (by omega) _ _ _ _ _ _ _ _ _
    | exact fin8 HB.out (HT.out _ _ HX.out) (by omega) _ _ _ _ _ _ _ _
set_option maxRecDepth 100000 in
set_option maxHeartbeats 8000000 in
theorem fold_not2 (d : Nd) (args : List Tr) (v : Value) (hok : OkT 16 8 (.mk d args)) (mp : Nat) (Z : Nat → Prop) (hZ : ∀ b, Z b → b < w.heap.size) (h2 : Opz w mp) (h : RTx w Z (cellsX d v) (.mk d args)) (hk : knownB2 d args = false) (d2 : Nd) (t : Tr) (ha : args = [.mk d2 [t]]) (h12 : d.op = 12) (h122 : d2.op = 12) : Calls Try.prog 21 #[.agg ([.slice none 0 0, .int .i64 (-1), .int .i64 0, .int .i64 0, .int .i64 0, .int .i64 0, .slice none 0 0, .map (some mp)]).toArray, .agg (cellsX d v).toArray] w (RetX w (fun _ => Z) (fold1 d args)) := by
  subst ha
  have HF1 := hide (show fold1 d [.mk d2 [t]] = t by unfold fold1; rw [if_neg (by rw [hk]; simp), if_pos ⟨h12, h122⟩]; rfl)
  rw [HF1.out]
  have t12 : (d.op == 12) = true := by rw [beq_iff_eq]; exact h12
  have tn : (d2.op == 12) = true := by rw [beq_iff_eq]; exact h122
  clear h122 h12
  have HK := hide hk
  clear hk
  have HKN := hide (fun w' hb => xknown_any w' d [Tr.mk d2 [t]] v hok mp (h2.keep hb) (RTx.more (fun b hb' => Nat.lt_of_lt_of_le (hZ b hb') hb.size) (h.keep (Kp.lowBelow hb hZ))))
  have HKL := hide (known_law hok)
  have HOK := hide hok
  have HZ := hide hZ
  have HT := hide (fun (ys : List Value) (t : Tr) (h9 : RTx w Z ys t) w' (hb : Below w.heap.size w w') => h9.keep (Kp.lowBelow hb hZ))
  have HX := hide h
  obtain ⟨v0, hv0, hl, hd⟩ := RTx.out h
  have hv0 : v = v0 := by injection hv0 with _ h9; injection h9
  subst hv0
  have HL := hide hl
  obtain ⟨A, cap, rfl⟩ := hl.form
  obtain ⟨m, hmm⟩ : ∃ m, [Tr.mk d2 [t]].length = m := ⟨_, rfl⟩
  have HM := hide hmm
  rw [hmm] at HX HKN HL ⊢
  obtain ⟨KV, hKV⟩ : ∃ r, knV d [Tr.mk d2 [t]] = r := ⟨_, rfl⟩
  obtain ⟨KB, hKB⟩ : ∃ r, knB d [Tr.mk d2 [t]] = r := ⟨_, rfl⟩
  rw [hKV, hKB] at HKN HKL
  obtain ⟨kq, kn, ks⟩ := KV
  have hB1 := below_laid (w := w) (.cells ([.slice none 0 0, .int .i64 (-1), .int .i64 0, .int .i64 0, .int .i64 0, .int .i64 0, .slice none 0 0, .map (some mp)]).toArray 76)
  have hB2 := bthen hB1 (below_laid (.cells ([.int .i64 d.op, .slice A m cap, .int .i64 d.var, .int .i64 d.field, .int .i64 d.kind, .int .i64 d.val.q, .int .i64 d.val.n, .string d.val.s]).toArray 30))
  have hB3 := bthen hB2 (below_laid (.cells ([.int .i64 0, .slice none 0 0, .int .i64 0, .int .i64 0, .int .i64 0, .int .i64 0, .int .i64 0, .string ⟨#[]⟩]).toArray 30))
  have HBF := hide (((Bl.new w ([.slice none 0 0, .int .i64 (-1), .int .i64 0, .int .i64 0, .int .i64 0, .int .i64 0, .slice none 0 0, .map (some mp)]) 76).laid (.cells ([.int .i64 d.op, .slice A m cap, .int .i64 d.var, .int .i64 d.field, .int .i64 d.kind, .int .i64 d.val.q, .int .i64 d.val.n, .string d.val.s]).toArray 30)).laid (.cells ([.int .i64 0, .slice none 0 0, .int .i64 0, .int .i64 0, .int .i64 0, .int .i64 0, .int .i64 0, .string ⟨#[]⟩]).toArray 30))
  have hx := (Bl.new (w.alloc (.cells ([.slice none 0 0, .int .i64 (-1), .int .i64 0, .int .i64 0, .int .i64 0, .int .i64 0, .slice none 0 0, .map (some mp)]).toArray 76)) ([.int .i64 d.op, .slice A m cap, .int .i64 d.var, .int .i64 d.field, .int .i64 d.kind, .int .i64 d.val.q, .int .i64 d.val.n, .string d.val.s]) 30).laid (.cells ([.int .i64 0, .slice none 0 0, .int .i64 0, .int .i64 0, .int .i64 0, .int .i64 0, .int .i64 0, .string ⟨#[]⟩]).toArray 30)
  rw [World.size_alloc] at hx
  have HBX := hide hx
  have hr := Bl.new ((w.alloc (.cells ([.slice none 0 0, .int .i64 (-1), .int .i64 0, .int .i64 0, .int .i64 0, .int .i64 0, .slice none 0 0, .map (some mp)]).toArray 76)).alloc (.cells ([.int .i64 d.op, .slice A m cap, .int .i64 d.var, .int .i64 d.field, .int .i64 d.kind, .int .i64 d.val.q, .int .i64 d.val.n, .string d.val.s]).toArray 30)) ([.int .i64 0, .slice none 0 0, .int .i64 0, .int .i64 0, .int .i64 0, .int .i64 0, .int .i64 0, .string ⟨#[]⟩]) 30
  simp only [World.size_alloc] at hr
  have HR := hide hr
  have HB := hide hB3
  clear h h2 hl hd hmm hB1 hB2 hB3 hx hr hKV hKB hZ hok
  obtain rfl : KB = false := HKL.out.1.trans HK.out
  obtain rfl : m = 1 := HM.out.symm
  obtain ⟨ga, oa, xa, ea, hga, hya, hca, hra⟩ := Lst.at_ (j := 0) HL.out (by simp)
  subst ea
  have hgw : ga < w.heap.size := HZ.out _ hga
  have hra' : RTx w Z xa (.mk d2 [t]) := hra
  obtain ⟨v2, rfl, hl2, hd2⟩ := RTx.out hra'
  obtain ⟨A5, cap5, rfl⟩ := hl2.form
  have hca0 := hca 0 _ rfl
  have hca1 := hca 1 _ rfl
  simp only [Nat.zero_mul, Nat.add_zero, List.length_singleton] at hca0 hca1
  obtain ⟨gb, ob, xb, eb, hgb, hyb, hcb, hrb⟩ := Lst.at_ (j := 0) hl2 (by simp)
  subst eb
  have hgbw : gb < w.heap.size := HZ.out _ hgb
  have hrb' : RTx w Z xb t := hrb
  have HRB := hide hrb'
  obtain ⟨d3, l3⟩ := t
  obtain ⟨v3, rfl, hl3, hd3⟩ := RTx.out hrb'
  obtain ⟨A6, cap6, rfl⟩ := hl3.form
  obtain ⟨n6, hn6⟩ : ∃ n, l3.length = n := ⟨_, rfl⟩
  rw [hn6] at hcb HRB
  have hcb0 := hcb 0 _ rfl
  have hcb1 := hcb 1 _ rfl
  have hcb2 := hcb 2 _ rfl
  have hcb3 := hcb 3 _ rfl
  have hcb4 := hcb 4 _ rfl
  have hcb5 := hcb 5 _ rfl
  have hcb6 := hcb 6 _ rfl
  have hcb7 := hcb 7 _ rfl
  simp only [Nat.zero_mul, Nat.add_zero] at hcb0 hcb1 hcb2 hcb3 hcb4 hcb5 hcb6 hcb7
  clear hca hya hra hra' hl2 hd2 hcb hyb hrb hrb' hl3 hd3
  have f0 := HBF.out.c 0 _ rfl
  have f1 := HBF.out.c 1 _ rfl
  have f2 := HBF.out.c 2 _ rfl
  have f3 := HBF.out.c 3 _ rfl
  have f4 := HBF.out.c 4 _ rfl
  have f5 := HBF.out.c 5 _ rfl
  have f6 := HBF.out.c 6 _ rfl
  have f7 := HBF.out.c 7 _ rfl
  have a0 := HBX.out.c 0 _ rfl
  have a1 := HBX.out.c 1 _ rfl
  have a2 := HBX.out.c 2 _ rfl
  have a3 := HBX.out.c 3 _ rfl
  have a4 := HBX.out.c 4 _ rfl
  have a5 := HBX.out.c 5 _ rfl
  have a6 := HBX.out.c 6 _ rfl
  have a7 := HBX.out.c 7 _ rfl
  go_enter Try.func21, Try.ntmps21
  go_wp2_with fail
  refine (HKN.out _ HB.out).mono ?_
  rintro e w1 ⟨rfl, hb⟩
  replace HB := hide (bthen HB.out hb)
  replace HBX := hide (HBX.out.keep hb)
  replace HR := hide (HR.out.keep hb)
  have hrl := HR.out.lt
  have hxl := HBX.out.lt
  clear hb HKN f0 f1 f2 f3 f4 f5 f6 f7 a0 a1 a2 a3 a4 a5 a6 a7 HBF
  have a0 := HBX.out.c 0 _ rfl
  have a1 := HBX.out.c 1 _ rfl
  have a2 := HBX.out.c 2 _ rfl
  have a3 := HBX.out.c 3 _ rfl
  have a4 := HBX.out.c 4 _ rfl
  have a5 := HBX.out.c 5 _ rfl
  have a6 := HBX.out.c 6 _ rfl
  have a7 := HBX.out.c 7 _ rfl
  have r0 := HR.out.c 0 _ rfl
  have r1 := HR.out.c 1 _ rfl
  have r2 := HR.out.c 2 _ rfl
  have r3 := HR.out.c 3 _ rfl
  have r4 := HR.out.c 4 _ rfl
  have r5 := HR.out.c 5 _ rfl
  have r6 := HR.out.c 6 _ rfl
  have r7 := HR.out.c 7 _ rfl
  have g0 := HR.out.f 0
  have g1 := HR.out.f 1
  have g2 := HR.out.f 2
  have g3 := HR.out.f 3
  have g4 := HR.out.f 4
  have g5 := HR.out.f 5
  have g6 := HR.out.f 6
  have g7 := HR.out.f 7
  have hgw1 : ga < w1.heap.size := by omega
  have ha0 := keep1 HB.out hca0
  have ha1 := keep1 HB.out hca1
  have hgb1 : gb < w1.heap.size := by omega
  have hb0 := keep1 HB.out hcb0
  have hb1 := keep1 HB.out hcb1
  have hb2 := keep1 HB.out hcb2
  have hb3 := keep1 HB.out hcb3
  have hb4 := keep1 HB.out hcb4
  have hb5 := keep1 HB.out hcb5
  have hb6 := keep1 HB.out hcb6
  have hb7 := keep1 HB.out hcb7
  clear HKL hca0 hca1 hcb0 hcb1 hcb2 hcb3 hcb4 hcb5 hcb6 hcb7
  go_wp2
  refine bodyPost_ret (v := .agg #[.int .i64 d3.op, .slice A6 n6 cap6, .int .i64 d3.var, .int .i64 d3.field, .int .i64 d3.kind, .int .i64 d3.val.q, .int .i64 d3.val.n, .string d3.val.s]) (by rw [results_c rfl]; go_simp) rfl ?_
  first
    | exact fin8a HB.out (HT.out _ _ HRB.out) (by omega) _ _ _ _ _ _ _ _ _
    | exact fin8 HB.out (HT.out _ _ HRB.out) (by omega) _ _ _ _ _ _ _ _
end
end Go.Proofs.Ytkcbjnhphekadaa
