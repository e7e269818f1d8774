/- fold, of conjunctions and disjunctions. -/
import Derived.Test.YtkcbjnhphekadaaFFold3
namespace Go.Proofs.Ytkcbjnhphekadaa
open Go.RowKit
set_option linter.unusedVariables false
set_option linter.unusedSimpArgs false
section
variable (w : World)
set_option maxRecDepth 100000 in
set_option maxHeartbeats 16000000 in
theorem fold_and (d : Nd) (args : List Tr) (v : Value) (hok : OkT 16 8 (.mk d args)) (mp : Nat) (Z : Nat → Prop) (hZ : ∀ b, Z b → b < w.heap.size) (h2 : Opz w mp) (h : RTx w Z (cellsX d v) (.mk d args)) (hk : knownB2 d args = false) (a b : Tr) (hab : args = [a, b]) (hop : d.op = 10) : Calls Try.prog 21 #[.agg ([.slice none 0 0, .int .i64 (-1), .int .i64 0, .int .i64 0, .int .i64 0, .int .i64 0, .slice none 0 0, .map (some mp)]).toArray, .agg (cellsX d v).toArray] w (RetX w (fun _ => Z) (fold1 d args)) := by
  subst hab
  have HF1 := hide (show fold1 d [a, b] = if isQ a true = true then b else if isQ b true = true then a else if (isQ a false || isQ b false) = true then constT (flagQ false) else .mk d [a, b] by
    unfold fold1
    rw [if_neg (by rw [hk]; simp), if_neg (fun h => by have := h.1; omega), if_neg (by omega)]
    simp only [hop]
    rfl)
  have t12 : (d.op == 12) = false := by rw [beq_eq_false_iff_ne]; omega
  have t10 : (d.op != 10) = false := by simp [hop]
  have t11 : (d.op != 11) = true := by simp [hop]
  have t10' : (d.op == 10) = true := by simp [hop]
  clear hop
  have HK := hide hk
  clear hk
  have HKN := hide (fun w' hb => xknown_any w' d [a, b] v hok mp (h2.keep hb) (RTx.more (fun b hb' => Nat.lt_of_lt_of_le (hZ b hb') hb.size) (h.keep (Kp.lowBelow hb hZ))))
  have HKL := hide (known_law hok)
  have HOK := hide hok
  have HZ := hide hZ
  have HT := hide (fun (ys : List Value) (t : Tr) (h9 : RTx w Z ys t) w' (hb : Below w.heap.size w w') => h9.keep (Kp.lowBelow hb hZ))
  have HX := hide h
  obtain ⟨v0, hv0, hl, hd⟩ := RTx.out h
  have hv0 : v = v0 := by injection hv0 with _ h9; injection h9
  subst hv0
  have HL := hide hl
  obtain ⟨A, cap, rfl⟩ := hl.form
  obtain ⟨m, hmm⟩ : ∃ m, [a, b].length = m := ⟨_, rfl⟩
  have HM := hide hmm
  rw [hmm] at HX HKN HL ⊢
  obtain ⟨KV, hKV⟩ : ∃ r, knV d [a, b] = r := ⟨_, rfl⟩
  obtain ⟨KB, hKB⟩ : ∃ r, knB d [a, b] = r := ⟨_, rfl⟩
  rw [hKV, hKB] at HKN HKL
  obtain ⟨kq, kn, ks⟩ := KV
  have hB1 := below_laid (w := w) (.cells ([.slice none 0 0, .int .i64 (-1), .int .i64 0, .int .i64 0, .int .i64 0, .int .i64 0, .slice none 0 0, .map (some mp)]).toArray 76)
  have hB2 := bthen hB1 (below_laid (.cells ([.int .i64 d.op, .slice A m cap, .int .i64 d.var, .int .i64 d.field, .int .i64 d.kind, .int .i64 d.val.q, .int .i64 d.val.n, .string d.val.s]).toArray 30))
  have hB3 := bthen hB2 (below_laid (.cells ([.int .i64 0, .slice none 0 0, .int .i64 0, .int .i64 0, .int .i64 0, .int .i64 0, .int .i64 0, .string ⟨#[]⟩]).toArray 30))
  have HBF := hide (((Bl.new w ([.slice none 0 0, .int .i64 (-1), .int .i64 0, .int .i64 0, .int .i64 0, .int .i64 0, .slice none 0 0, .map (some mp)]) 76).laid (.cells ([.int .i64 d.op, .slice A m cap, .int .i64 d.var, .int .i64 d.field, .int .i64 d.kind, .int .i64 d.val.q, .int .i64 d.val.n, .string d.val.s]).toArray 30)).laid (.cells ([.int .i64 0, .slice none 0 0, .int .i64 0, .int .i64 0, .int .i64 0, .int .i64 0, .int .i64 0, .string ⟨#[]⟩]).toArray 30))
  have hx := (Bl.new (w.alloc (.cells ([.slice none 0 0, .int .i64 (-1), .int .i64 0, .int .i64 0, .int .i64 0, .int .i64 0, .slice none 0 0, .map (some mp)]).toArray 76)) ([.int .i64 d.op, .slice A m cap, .int .i64 d.var, .int .i64 d.field, .int .i64 d.kind, .int .i64 d.val.q, .int .i64 d.val.n, .string d.val.s]) 30).laid (.cells ([.int .i64 0, .slice none 0 0, .int .i64 0, .int .i64 0, .int .i64 0, .int .i64 0, .int .i64 0, .string ⟨#[]⟩]).toArray 30)
  rw [World.size_alloc] at hx
  have HBX := hide hx
  have hr := Bl.new ((w.alloc (.cells ([.slice none 0 0, .int .i64 (-1), .int .i64 0, .int .i64 0, .int .i64 0, .int .i64 0, .slice none 0 0, .map (some mp)]).toArray 76)).alloc (.cells ([.int .i64 d.op, .slice A m cap, .int .i64 d.var, .int .i64 d.field, .int .i64 d.kind, .int .i64 d.val.q, .int .i64 d.val.n, .string d.val.s]).toArray 30)) ([.int .i64 0, .slice none 0 0, .int .i64 0, .int .i64 0, .int .i64 0, .int .i64 0, .int .i64 0, .string ⟨#[]⟩]) 30
  simp only [World.size_alloc] at hr
  have HR := hide hr
  have HB := hide hB3
  clear h h2 hl hd hmm hB1 hB2 hB3 hx hr hKV hKB hZ hok
  obtain rfl : KB = false := HKL.out.1.trans HK.out
  obtain rfl : m = 2 := HM.out.symm
  obtain ⟨R, hR⟩ : ∃ r, fold1 d [a, b] = r := ⟨_, rfl⟩
  rw [hR] at HF1 ⊢
  clear hR
  obtain ⟨ga, oa, xa, ea, hga, hya, hca, hra⟩ := Lst.at_ (j := 0) HL.out (by simp)
  obtain ⟨gb, ob, xb, eb, hgb, hyb, hcb, hrb⟩ := Lst.at_ (j := 1) HL.out (by simp)
  subst ea
  injection eb with eb
  injection eb with e1 e2 _
  subst e1
  subst e2
  have HGW := hide (HZ.out _ hga)
  have HRA := hide (show RTx w Z xa a from hra)
  have HRB := hide (show RTx w Z xb b from hrb)
  obtain ⟨da, la⟩ := a
  obtain ⟨va, rfl, hla, hda⟩ := RTx.out HRA.out
  obtain ⟨Aa, ca, rfl⟩ := hla.form
  obtain ⟨na, hna⟩ : ∃ n, la.length = n := ⟨_, rfl⟩
  obtain ⟨db, lb⟩ := b
  obtain ⟨vb, rfl, hlb, hdb⟩ := RTx.out HRB.out
  obtain ⟨Ab, cb, rfl⟩ := hlb.form
  obtain ⟨nb, hnb⟩ : ∃ n, lb.length = n := ⟨_, rfl⟩
  rw [hna] at hca HRA
  rw [hnb] at hcb HRB
  simp only [Nat.zero_mul, Nat.add_zero, Nat.one_mul] at hca hcb
  have HA0 := hide (show w.cell? ⟨ga, oa, none⟩ = some (.int .i64 da.op) from hca 0 _ rfl)
  have HA1 := hide (show w.cell? ⟨ga, oa + 1, none⟩ = some (.slice Aa na ca) from hca 1 _ rfl)
  have HA2 := hide (show w.cell? ⟨ga, oa + 2, none⟩ = some (.int .i64 da.var) from hca 2 _ rfl)
  have HA3 := hide (show w.cell? ⟨ga, oa + 3, none⟩ = some (.int .i64 da.field) from hca 3 _ rfl)
  have HA4 := hide (show w.cell? ⟨ga, oa + 4, none⟩ = some (.int .i64 da.kind) from hca 4 _ rfl)
  have HA5 := hide (show w.cell? ⟨ga, oa + 5, none⟩ = some (.int .i64 da.val.q) from hca 5 _ rfl)
  have HA6 := hide (show w.cell? ⟨ga, oa + 6, none⟩ = some (.int .i64 da.val.n) from hca 6 _ rfl)
  have HA7 := hide (show w.cell? ⟨ga, oa + 7, none⟩ = some (.string da.val.s) from hca 7 _ rfl)
  have HC0 := hide (show w.cell? ⟨ga, oa + 8, none⟩ = some (.int .i64 db.op) from hcb 0 _ rfl)
  have HC1 := hide (show w.cell? ⟨ga, oa + 8 + 1, none⟩ = some (.slice Ab nb cb) from hcb 1 _ rfl)
  have HC2 := hide (show w.cell? ⟨ga, oa + 8 + 2, none⟩ = some (.int .i64 db.var) from hcb 2 _ rfl)
  have HC3 := hide (show w.cell? ⟨ga, oa + 8 + 3, none⟩ = some (.int .i64 db.field) from hcb 3 _ rfl)
  have HC4 := hide (show w.cell? ⟨ga, oa + 8 + 4, none⟩ = some (.int .i64 db.kind) from hcb 4 _ rfl)
  have HC5 := hide (show w.cell? ⟨ga, oa + 8 + 5, none⟩ = some (.int .i64 db.val.q) from hcb 5 _ rfl)
  have HC6 := hide (show w.cell? ⟨ga, oa + 8 + 6, none⟩ = some (.int .i64 db.val.n) from hcb 6 _ rfl)
  have HC7 := hide (show w.cell? ⟨ga, oa + 8 + 7, none⟩ = some (.string db.val.s) from hcb 7 _ rfl)
  have HI1 := hide (fun w' => is_any w' da (.slice Aa na ca) la true)
  have HI2 := hide (fun w' => is_any w' db (.slice Ab nb cb) lb true)
  have HI3 := hide (fun w' => is_any w' da (.slice Aa na ca) la false)
  have HI4 := hide (fun w' => is_any w' db (.slice Ab nb cb) lb false)
  obtain ⟨i1, hi1⟩ : ∃ r, isQ (.mk da la) true = r := ⟨_, rfl⟩
  obtain ⟨i2, hi2⟩ : ∃ r, isQ (.mk db lb) true = r := ⟨_, rfl⟩
  obtain ⟨i3, hi3⟩ : ∃ r, isQ (.mk da la) false = r := ⟨_, rfl⟩
  obtain ⟨i4, hi4⟩ : ∃ r, isQ (.mk db lb) false = r := ⟨_, rfl⟩
  rw [hi1, hi2, hi3, hi4] at HF1
  rw [hi1] at HI1
  rw [hi2] at HI2
  rw [hi3] at HI3
  rw [hi4] at HI4
  clear hca hcb hla hlb hda hdb hra hrb hya hyb hga hgb hna hnb hi1 hi2 hi3 hi4
  have f0 := HBF.out.c 0 _ rfl
  have f1 := HBF.out.c 1 _ rfl
  have f2 := HBF.out.c 2 _ rfl
  have f3 := HBF.out.c 3 _ rfl
  have f4 := HBF.out.c 4 _ rfl
  have f5 := HBF.out.c 5 _ rfl
  have f6 := HBF.out.c 6 _ rfl
  have f7 := HBF.out.c 7 _ rfl
  have a0 := HBX.out.c 0 _ rfl
  have a1 := HBX.out.c 1 _ rfl
  have a2 := HBX.out.c 2 _ rfl
  have a3 := HBX.out.c 3 _ rfl
  have a4 := HBX.out.c 4 _ rfl
  have a5 := HBX.out.c 5 _ rfl
  have a6 := HBX.out.c 6 _ rfl
  have a7 := HBX.out.c 7 _ rfl
  go_enter Try.func21, Try.ntmps21
  go_wp2_with fail
  refine (HKN.out _ HB.out).mono ?_
  rintro e w1 ⟨rfl, hb⟩
  replace HB := hide (bthen HB.out hb)
  replace HBX := hide (HBX.out.keep hb)
  replace HR := hide (HR.out.keep hb)
  clear hb HKN f0 f1 f2 f3 f4 f5 f6 f7 a0 a1 a2 a3 a4 a5 a6 a7 HBF
  clear HKL
  have a0 := HBX.out.c 0 _ rfl
  have a1 := HBX.out.c 1 _ rfl
  have a2 := HBX.out.c 2 _ rfl
  have a3 := HBX.out.c 3 _ rfl
  have a4 := HBX.out.c 4 _ rfl
  have a5 := HBX.out.c 5 _ rfl
  have a6 := HBX.out.c 6 _ rfl
  have a7 := HBX.out.c 7 _ rfl
  have hrl := HR.out.lt
  have hxl := HBX.out.lt
  have hgl := Nat.lt_of_lt_of_le HGW.out HB.out.size
  have ka0 := keep1 HB.out HA0.out
  have ka1 := keep1 HB.out HA1.out
  have ka2 := keep1 HB.out HA2.out
  have ka3 := keep1 HB.out HA3.out
  have ka4 := keep1 HB.out HA4.out
  have ka5 := keep1 HB.out HA5.out
  have ka6 := keep1 HB.out HA6.out
  have ka7 := keep1 HB.out HA7.out
  have kb0 := keep1 HB.out HC0.out
  have kb1 := keep1 HB.out HC1.out
  have kb2 := keep1 HB.out HC2.out
  have kb3 := keep1 HB.out HC3.out
  have kb4 := keep1 HB.out HC4.out
  have kb5 := keep1 HB.out HC5.out
  have kb6 := keep1 HB.out HC6.out
  have kb7 := keep1 HB.out HC7.out
  go_wp2_with fail
  refine (HI1.out _).mono ?_
  rintro e w2 ⟨rfl, hb⟩
  clear hrl hxl hgl a0 a1 a2 a3 a4 a5 a6 a7 ka0 ka1 ka2 ka3 ka4 ka5 ka6 ka7 kb0 kb1 kb2 kb3 kb4 kb5 kb6 kb7
  have hb9 := bthen (below_laid _) hb
  replace HB := hide (bthen HB.out hb9)
  replace HBX := hide (HBX.out.keep hb9)
  replace HR := hide (HR.out.keep hb9)
  clear hb hb9
  have a0 := HBX.out.c 0 _ rfl
  have a1 := HBX.out.c 1 _ rfl
  have a2 := HBX.out.c 2 _ rfl
  have a3 := HBX.out.c 3 _ rfl
  have a4 := HBX.out.c 4 _ rfl
  have a5 := HBX.out.c 5 _ rfl
  have a6 := HBX.out.c 6 _ rfl
  have a7 := HBX.out.c 7 _ rfl
  have hrl := HR.out.lt
  have hxl := HBX.out.lt
  have hgl := Nat.lt_of_lt_of_le HGW.out HB.out.size
  have ka0 := keep1 HB.out HA0.out
  have ka1 := keep1 HB.out HA1.out
  have ka2 := keep1 HB.out HA2.out
  have ka3 := keep1 HB.out HA3.out
  have ka4 := keep1 HB.out HA4.out
  have ka5 := keep1 HB.out HA5.out
  have ka6 := keep1 HB.out HA6.out
  have ka7 := keep1 HB.out HA7.out
  have kb0 := keep1 HB.out HC0.out
  have kb1 := keep1 HB.out HC1.out
  have kb2 := keep1 HB.out HC2.out
  have kb3 := keep1 HB.out HC3.out
  have kb4 := keep1 HB.out HC4.out
  have kb5 := keep1 HB.out HC5.out
  have kb6 := keep1 HB.out HC6.out
  have kb7 := keep1 HB.out HC7.out
  cases i1
  · go_wp2_with fail
    refine (HI2.out _).mono ?_
    rintro e w3 ⟨rfl, hb⟩
    clear hrl hxl hgl a0 a1 a2 a3 a4 a5 a6 a7 ka0 ka1 ka2 ka3 ka4 ka5 ka6 ka7 kb0 kb1 kb2 kb3 kb4 kb5 kb6 kb7
    replace HB := hide (bthen HB.out hb)
    replace HBX := hide (HBX.out.keep hb)
    replace HR := hide (HR.out.keep hb)
    clear hb
    have a0 := HBX.out.c 0 _ rfl
    have a1 := HBX.out.c 1 _ rfl
    have a2 := HBX.out.c 2 _ rfl
    have a3 := HBX.out.c 3 _ rfl
    have a4 := HBX.out.c 4 _ rfl
    have a5 := HBX.out.c 5 _ rfl
    have a6 := HBX.out.c 6 _ rfl
    have a7 := HBX.out.c 7 _ rfl
    have hrl := HR.out.lt
    have hxl := HBX.out.lt
    have hgl := Nat.lt_of_lt_of_le HGW.out HB.out.size
    have ka0 := keep1 HB.out HA0.out
    have ka1 := keep1 HB.out HA1.out
    have ka2 := keep1 HB.out HA2.out
    have ka3 := keep1 HB.out HA3.out
    have ka4 := keep1 HB.out HA4.out
    have ka5 := keep1 HB.out HA5.out
    have ka6 := keep1 HB.out HA6.out
    have ka7 := keep1 HB.out HA7.out
    have kb0 := keep1 HB.out HC0.out
    have kb1 := keep1 HB.out HC1.out
    have kb2 := keep1 HB.out HC2.out
    have kb3 := keep1 HB.out HC3.out
    have kb4 := keep1 HB.out HC4.out
    have kb5 := keep1 HB.out HC5.out
    have kb6 := keep1 HB.out HC6.out
    have kb7 := keep1 HB.out HC7.out
    cases i2
    · go_wp2_with fail
      refine (HI3.out _).mono ?_
      rintro e w4 ⟨rfl, hb⟩
      clear hrl hxl hgl a0 a1 a2 a3 a4 a5 a6 a7 ka0 ka1 ka2 ka3 ka4 ka5 ka6 ka7 kb0 kb1 kb2 kb3 kb4 kb5 kb6 kb7
      replace HB := hide (bthen HB.out hb)
      replace HBX := hide (HBX.out.keep hb)
      replace HR := hide (HR.out.keep hb)
      clear hb
      have a0 := HBX.out.c 0 _ rfl
      have a1 := HBX.out.c 1 _ rfl
      have a2 := HBX.out.c 2 _ rfl
      have a3 := HBX.out.c 3 _ rfl
      have a4 := HBX.out.c 4 _ rfl
      have a5 := HBX.out.c 5 _ rfl
      have a6 := HBX.out.c 6 _ rfl
      have a7 := HBX.out.c 7 _ rfl
      have hrl := HR.out.lt
      have hxl := HBX.out.lt
      have hgl := Nat.lt_of_lt_of_le HGW.out HB.out.size
      have ka0 := keep1 HB.out HA0.out
      have ka1 := keep1 HB.out HA1.out
      have ka2 := keep1 HB.out HA2.out
      have ka3 := keep1 HB.out HA3.out
      have ka4 := keep1 HB.out HA4.out
      have ka5 := keep1 HB.out HA5.out
      have ka6 := keep1 HB.out HA6.out
      have ka7 := keep1 HB.out HA7.out
      have kb0 := keep1 HB.out HC0.out
      have kb1 := keep1 HB.out HC1.out
      have kb2 := keep1 HB.out HC2.out
      have kb3 := keep1 HB.out HC3.out
      have kb4 := keep1 HB.out HC4.out
      have kb5 := keep1 HB.out HC5.out
      have kb6 := keep1 HB.out HC6.out
      have kb7 := keep1 HB.out HC7.out
      cases i3
      · go_wp2_with fail
        refine (HI4.out _).mono ?_
        rintro e w5 ⟨rfl, hb⟩
        clear hrl hxl hgl a0 a1 a2 a3 a4 a5 a6 a7 ka0 ka1 ka2 ka3 ka4 ka5 ka6 ka7 kb0 kb1 kb2 kb3 kb4 kb5 kb6 kb7
        replace HB := hide (bthen HB.out hb)
        replace HBX := hide (HBX.out.keep hb)
        replace HR := hide (HR.out.keep hb)
        clear hb
        have a0 := HBX.out.c 0 _ rfl
        have a1 := HBX.out.c 1 _ rfl
        have a2 := HBX.out.c 2 _ rfl
        have a3 := HBX.out.c 3 _ rfl
        have a4 := HBX.out.c 4 _ rfl
        have a5 := HBX.out.c 5 _ rfl
        have a6 := HBX.out.c 6 _ rfl
        have a7 := HBX.out.c 7 _ rfl
        have hrl := HR.out.lt
        have hxl := HBX.out.lt
        have hgl := Nat.lt_of_lt_of_le HGW.out HB.out.size
        have ka0 := keep1 HB.out HA0.out
        have ka1 := keep1 HB.out HA1.out
        have ka2 := keep1 HB.out HA2.out
        have ka3 := keep1 HB.out HA3.out
        have ka4 := keep1 HB.out HA4.out
        have ka5 := keep1 HB.out HA5.out
        have ka6 := keep1 HB.out HA6.out
        have ka7 := keep1 HB.out HA7.out
        have kb0 := keep1 HB.out HC0.out
        have kb1 := keep1 HB.out HC1.out
        have kb2 := keep1 HB.out HC2.out
        have kb3 := keep1 HB.out HC3.out
        have kb4 := keep1 HB.out HC4.out
        have kb5 := keep1 HB.out HC5.out
        have kb6 := keep1 HB.out HC6.out
        have kb7 := keep1 HB.out HC7.out
        cases i4
        · have HQ := hide (show R = .mk d [.mk da la, .mk db lb] by rw [HF1.out]; rfl)
          have r0 := HR.out.c 0 _ rfl
          have r1 := HR.out.c 1 _ rfl
          have r2 := HR.out.c 2 _ rfl
          have r3 := HR.out.c 3 _ rfl
          have r4 := HR.out.c 4 _ rfl
          have r5 := HR.out.c 5 _ rfl
          have r6 := HR.out.c 6 _ rfl
          have r7 := HR.out.c 7 _ rfl
          have g0 := HR.out.f 0
          have g1 := HR.out.f 1
          have g2 := HR.out.f 2
          have g3 := HR.out.f 3
          have g4 := HR.out.f 4
          have g5 := HR.out.f 5
          have g6 := HR.out.f 6
          have g7 := HR.out.f 7
          go_wp2
          refine bodyPost_ret (v := .agg #[.int .i64 d.op, .slice (some ⟨ga, oa, none⟩) 2 cap, .int .i64 d.var, .int .i64 d.field, .int .i64 d.kind, .int .i64 d.val.q, .int .i64 d.val.n, .string d.val.s]) (by rw [results_c rfl]; go_simp) rfl ?_
          rw [HQ.out]
          exact fin8 HB.out (HT.out _ _ HX.out) (by omega) _ _ _ _ _ _ _ _
        · have HQ := hide (show R = constT (flagQ false) by rw [HF1.out]; rfl)
          have HFL := hide (fun w => flag_any w false)
          have HCN := hide (fun w' => constant_any w' (flagQ false) (flag_ok _) (fun _ => Z))
          go_wp2_with fail
          refine (HFL.out _).mono ?_
          rintro e w7 ⟨rfl, hb⟩
          clear hrl hxl hgl a0 a1 a2 a3 a4 a5 a6 a7 ka0 ka1 ka2 ka3 ka4 ka5 ka6 ka7 kb0 kb1 kb2 kb3 kb4 kb5 kb6 kb7
          replace HB := hide (bthen HB.out hb)
          replace HR := hide (HR.out.keep hb)
          clear hb HFL
          go_wp2_with fail
          refine (HCN.out _).mono ?_
          rintro e w8 ⟨ys, rfl, hT9, hb⟩
          obtain ⟨v9, rfl, hl9, -⟩ := RTx.out hT9
          obtain ⟨A9, cap9, rfl⟩ := hl9.form
          have e9 : cellsX ⟨0, 0, 0, 0, flagQ false⟩ (.slice A9 ([] : List Tr).length cap9) = [.int .i64 0, .slice A9 0 cap9, .int .i64 0, .int .i64 0, .int .i64 0, .int .i64 1, .int .i64 0, .string ⟨#[]⟩] := rfl
          rw [e9] at hT9 ⊢
          replace HB := hide (bthen HB.out hb)
          replace HR := hide (HR.out.keep hb)
          have HT9 := hide hT9
          clear hb HCN hT9 hl9 e9
          have hrl := HR.out.lt
          have r0 := HR.out.c 0 _ rfl
          have r1 := HR.out.c 1 _ rfl
          have r2 := HR.out.c 2 _ rfl
          have r3 := HR.out.c 3 _ rfl
          have r4 := HR.out.c 4 _ rfl
          have r5 := HR.out.c 5 _ rfl
          have r6 := HR.out.c 6 _ rfl
          have r7 := HR.out.c 7 _ rfl
          have g0 := HR.out.f 0
          have g1 := HR.out.f 1
          have g2 := HR.out.f 2
          have g3 := HR.out.f 3
          have g4 := HR.out.f 4
          have g5 := HR.out.f 5
          have g6 := HR.out.f 6
          have g7 := HR.out.f 7
          go_wp2
          refine bodyPost_ret (v := .agg #[.int .i64 0, .slice A9 0 cap9, .int .i64 0, .int .i64 0, .int .i64 0, .int .i64 1, .int .i64 0, .string ⟨#[]⟩]) (by rw [results_c rfl]; go_simp) rfl ?_
          rw [HQ.out]
          exact ⟨_, rfl, HT9.out.keep ((((((((Kp.set ⟨w.heap.size + 1 + 1, 0, none⟩ _ (fun b hb => by have := HZ.out b hb; show b ≠ w.heap.size + 1 + 1; omega)).trans (Kp.set ⟨w.heap.size + 1 + 1, 1, none⟩ _ (fun b hb => by have := HZ.out b hb; show b ≠ w.heap.size + 1 + 1; omega))).trans (Kp.set ⟨w.heap.size + 1 + 1, 2, none⟩ _ (fun b hb => by have := HZ.out b hb; show b ≠ w.heap.size + 1 + 1; omega))).trans (Kp.set ⟨w.heap.size + 1 + 1, 3, none⟩ _ (fun b hb => by have := HZ.out b hb; show b ≠ w.heap.size + 1 + 1; omega))).trans (Kp.set ⟨w.heap.size + 1 + 1, 4, none⟩ _ (fun b hb => by have := HZ.out b hb; show b ≠ w.heap.size + 1 + 1; omega))).trans (Kp.set ⟨w.heap.size + 1 + 1, 5, none⟩ _ (fun b hb => by have := HZ.out b hb; show b ≠ w.heap.size + 1 + 1; omega))).trans (Kp.set ⟨w.heap.size + 1 + 1, 6, none⟩ _ (fun b hb => by have := HZ.out b hb; show b ≠ w.heap.size + 1 + 1; omega))).trans (Kp.set ⟨w.heap.size + 1 + 1, 7, none⟩ _ (fun b hb => by have := HZ.out b hb; show b ≠ w.heap.size + 1 + 1; omega))) , below_set8 HB.out (by omega) _ _ _ _ _ _ _ _⟩
      · have HQ := hide (show R = constT (flagQ false) by rw [HF1.out]; rfl)
        have HFL := hide (fun w => flag_any w false)
        have HCN := hide (fun w' => constant_any w' (flagQ false) (flag_ok _) (fun _ => Z))
        go_wp2_with fail
        refine (HFL.out _).mono ?_
        rintro e w7 ⟨rfl, hb⟩
        clear hrl hxl hgl a0 a1 a2 a3 a4 a5 a6 a7 ka0 ka1 ka2 ka3 ka4 ka5 ka6 ka7 kb0 kb1 kb2 kb3 kb4 kb5 kb6 kb7
        replace HB := hide (bthen HB.out hb)
        replace HR := hide (HR.out.keep hb)
        clear hb HFL
        go_wp2_with fail
        refine (HCN.out _).mono ?_
        rintro e w8 ⟨ys, rfl, hT9, hb⟩
        obtain ⟨v9, rfl, hl9, -⟩ := RTx.out hT9
        obtain ⟨A9, cap9, rfl⟩ := hl9.form
        have e9 : cellsX ⟨0, 0, 0, 0, flagQ false⟩ (.slice A9 ([] : List Tr).length cap9) = [.int .i64 0, .slice A9 0 cap9, .int .i64 0, .int .i64 0, .int .i64 0, .int .i64 1, .int .i64 0, .string ⟨#[]⟩] := rfl
        rw [e9] at hT9 ⊢
        replace HB := hide (bthen HB.out hb)
        replace HR := hide (HR.out.keep hb)
        have HT9 := hide hT9
        clear hb HCN hT9 hl9 e9
        have hrl := HR.out.lt
        have r0 := HR.out.c 0 _ rfl
        have r1 := HR.out.c 1 _ rfl
        have r2 := HR.out.c 2 _ rfl
        have r3 := HR.out.c 3 _ rfl
        have r4 := HR.out.c 4 _ rfl
        have r5 := HR.out.c 5 _ rfl
        have r6 := HR.out.c 6 _ rfl
        have r7 := HR.out.c 7 _ rfl
        have g0 := HR.out.f 0
        have g1 := HR.out.f 1
        have g2 := HR.out.f 2
        have g3 := HR.out.f 3
        have g4 := HR.out.f 4
        have g5 := HR.out.f 5
        have g6 := HR.out.f 6
        have g7 := HR.out.f 7
        go_wp2
        refine bodyPost_ret (v := .agg #[.int .i64 0, .slice A9 0 cap9, .int .i64 0, .int .i64 0, .int .i64 0, .int .i64 1, .int .i64 0, .string ⟨#[]⟩]) (by rw [results_c rfl]; go_simp) rfl ?_
        rw [HQ.out]
        exact ⟨_, rfl, HT9.out.keep ((((((((Kp.set ⟨w.heap.size + 1 + 1, 0, none⟩ _ (fun b hb => by have := HZ.out b hb; show b ≠ w.heap.size + 1 + 1; omega)).trans (Kp.set ⟨w.heap.size + 1 + 1, 1, none⟩ _ (fun b hb => by have := HZ.out b hb; show b ≠ w.heap.size + 1 + 1; omega))).trans (Kp.set ⟨w.heap.size + 1 + 1, 2, none⟩ _ (fun b hb => by have := HZ.out b hb; show b ≠ w.heap.size + 1 + 1; omega))).trans (Kp.set ⟨w.heap.size + 1 + 1, 3, none⟩ _ (fun b hb => by have := HZ.out b hb; show b ≠ w.heap.size + 1 + 1; omega))).trans (Kp.set ⟨w.heap.size + 1 + 1, 4, none⟩ _ (fun b hb => by have := HZ.out b hb; show b ≠ w.heap.size + 1 + 1; omega))).trans (Kp.set ⟨w.heap.size + 1 + 1, 5, none⟩ _ (fun b hb => by have := HZ.out b hb; show b ≠ w.heap.size + 1 + 1; omega))).trans (Kp.set ⟨w.heap.size + 1 + 1, 6, none⟩ _ (fun b hb => by have := HZ.out b hb; show b ≠ w.heap.size + 1 + 1; omega))).trans (Kp.set ⟨w.heap.size + 1 + 1, 7, none⟩ _ (fun b hb => by have := HZ.out b hb; show b ≠ w.heap.size + 1 + 1; omega))) , below_set8 HB.out (by omega) _ _ _ _ _ _ _ _⟩
    · have HQ := hide (show R = .mk da la by rw [HF1.out]; rfl)
      have r0 := HR.out.c 0 _ rfl
      have r1 := HR.out.c 1 _ rfl
      have r2 := HR.out.c 2 _ rfl
      have r3 := HR.out.c 3 _ rfl
      have r4 := HR.out.c 4 _ rfl
      have r5 := HR.out.c 5 _ rfl
      have r6 := HR.out.c 6 _ rfl
      have r7 := HR.out.c 7 _ rfl
      have g0 := HR.out.f 0
      have g1 := HR.out.f 1
      have g2 := HR.out.f 2
      have g3 := HR.out.f 3
      have g4 := HR.out.f 4
      have g5 := HR.out.f 5
      have g6 := HR.out.f 6
      have g7 := HR.out.f 7
      go_wp2
      refine bodyPost_ret (v := .agg #[.int .i64 da.op, .slice Aa na ca, .int .i64 da.var, .int .i64 da.field, .int .i64 da.kind, .int .i64 da.val.q, .int .i64 da.val.n, .string da.val.s]) (by rw [results_c rfl]; go_simp) rfl ?_
      rw [HQ.out]
      exact fin8 HB.out (HT.out _ _ HRA.out) (by omega) _ _ _ _ _ _ _ _
  · have HQ := hide (show R = .mk db lb by rw [HF1.out]; rfl)
    have r0 := HR.out.c 0 _ rfl
    have r1 := HR.out.c 1 _ rfl
    have r2 := HR.out.c 2 _ rfl
    have r3 := HR.out.c 3 _ rfl
    have r4 := HR.out.c 4 _ rfl
    have r5 := HR.out.c 5 _ rfl
    have r6 := HR.out.c 6 _ rfl
    have r7 := HR.out.c 7 _ rfl
    have g0 := HR.out.f 0
    have g1 := HR.out.f 1
    have g2 := HR.out.f 2
    have g3 := HR.out.f 3
    have g4 := HR.out.f 4
    have g5 := HR.out.f 5
    have g6 := HR.out.f 6
    have g7 := HR.out.f 7
    go_wp2
    refine bodyPost_ret (v := .agg #[.int .i64 db.op, .slice Ab nb cb, .int .i64 db.var, .int .i64 db.field, .int .i64 db.kind, .int .i64 db.val.q, .int .i64 db.val.n, .string db.val.s]) (by rw [results_c rfl]; go_simp) rfl ?_
    rw [HQ.out]
    exact fin8 HB.out (HT.out _ _ HRB.out) (by omega) _ _ _ _ _ _ _ _
set_option maxRecDepth 100000 in
set_option maxHeartbeats 16000000 in
theorem fold_or (d : Nd) (args : List Tr) (v : Value) (hok : OkT 16 8 (.mk d args)) (mp : Nat) (Z : Nat → Prop) (hZ : ∀ b, Z b → b < w.heap.size) (h2 : Opz w mp) (h : RTx w Z (cellsX d v) (.mk d args)) (hk : knownB2 d args = false) (a b : Tr) (hab : args = [a, b]) (hop : d.op = 11) : Calls Try.prog 21 #[.agg ([.slice none 0 0, .int .i64 (-1), .int .i64 0, .int .i64 0, .int .i64 0, .int .i64 0, .slice none 0 0, .map (some mp)]).toArray, .agg (cellsX d v).toArray] w (RetX w (fun _ => Z) (fold1 d args)) := by
  subst hab
  have HF1 := hide (show fold1 d [a, b] = if isQ a false = true then b else if isQ b false = true then a else if (isQ a true || isQ b true) = true then constT (flagQ true) else .mk d [a, b] by
    unfold fold1
    rw [if_neg (by rw [hk]; simp), if_neg (fun h => by have := h.1; omega), if_neg (by omega)]
    simp only [hop]
    rfl)
  have t12 : (d.op == 12) = false := by rw [beq_eq_false_iff_ne]; omega
  have t10 : (d.op != 10) = true := by simp [hop]
  have t11 : (d.op != 11) = false := by simp [hop]
  have t10' : (d.op == 10) = false := by simp [hop]
  clear hop
  have HK := hide hk
  clear hk
  have HKN := hide (fun w' hb => xknown_any w' d [a, b] v hok mp (h2.keep hb) (RTx.more (fun b hb' => Nat.lt_of_lt_of_le (hZ b hb') hb.size) (h.keep (Kp.lowBelow hb hZ))))
  have HKL := hide (known_law hok)
  have HOK := hide hok
  have HZ := hide hZ
  have HT := hide (fun (ys : List Value) (t : Tr) (h9 : RTx w Z ys t) w' (hb : Below w.heap.size w w') => h9.keep (Kp.lowBelow hb hZ))
  have HX := hide h
  obtain ⟨v0, hv0, hl, hd⟩ := RTx.out h
  have hv0 : v = v0 := by injection hv0 with _ h9; injection h9
  subst hv0
  have HL := hide hl
  obtain ⟨A, cap, rfl⟩ := hl.form
  obtain ⟨m, hmm⟩ : ∃ m, [a, b].length = m := ⟨_, rfl⟩
  have HM := hide hmm
  rw [hmm] at HX HKN HL ⊢
  obtain ⟨KV, hKV⟩ : ∃ r, knV d [a, b] = r := ⟨_, rfl⟩
  obtain ⟨KB, hKB⟩ : ∃ r, knB d [a, b] = r := ⟨_, rfl⟩
  rw [hKV, hKB] at HKN HKL
  obtain ⟨kq, kn, ks⟩ := KV
  have hB1 := below_laid (w := w) (.cells ([.slice none 0 0, .int .i64 (-1), .int .i64 0, .int .i64 0, .int .i64 0, .int .i64 0, .slice none 0 0, .map (some mp)]).toArray 76)
  have hB2 := bthen hB1 (below_laid (.cells ([.int .i64 d.op, .slice A m cap, .int .i64 d.var, .int .i64 d.field, .int .i64 d.kind, .int .i64 d.val.q, .int .i64 d.val.n, .string d.val.s]).toArray 30))
  have hB3 := bthen hB2 (below_laid (.cells ([.int .i64 0, .slice none 0 0, .int .i64 0, .int .i64 0, .int .i64 0, .int .i64 0, .int .i64 0, .string ⟨#[]⟩]).toArray 30))
  have HBF := hide (((Bl.new w ([.slice none 0 0, .int .i64 (-1), .int .i64 0, .int .i64 0, .int .i64 0, .int .i64 0, .slice none 0 0, .map (some mp)]) 76).laid (.cells ([.int .i64 d.op, .slice A m cap, .int .i64 d.var, .int .i64 d.field, .int .i64 d.kind, .int .i64 d.val.q, .int .i64 d.val.n, .string d.val.s]).toArray 30)).laid (.cells ([.int .i64 0, .slice none 0 0, .int .i64 0, .int .i64 0, .int .i64 0, .int .i64 0, .int .i64 0, .string ⟨#[]⟩]).toArray 30))
  have hx := (Bl.new (w.alloc (.cells ([.slice none 0 0, .int .i64 (-1), .int .i64 0, .int .i64 0, .int .i64 0, .int .i64 0, .slice none 0 0, .map (some mp)]).toArray 76)) ([.int .i64 d.op, .slice A m cap, .int .i64 d.var, .int .i64 d.field, .int .i64 d.kind, .int .i64 d.val.q, .int .i64 d.val.n, .string d.val.s]) 30).laid (.cells ([.int .i64 0, .slice none 0 0, .int .i64 0, .int .i64 0, .int .i64 0, .int .i64 0, .int .i64 0, .string ⟨#[]⟩]).toArray 30)
  rw [World.size_alloc] at hx
  have HBX := hide hx
  have hr := Bl.new ((w.alloc (.cells ([.slice none 0 0, .int .i64 (-1), .int .i64 0, .int .i64 0, .int .i64 0, .int .i64 0, .slice none 0 0, .map (some mp)]).toArray 76)).alloc (.cells ([.int .i64 d.op, .slice A m cap, .int .i64 d.var, .int .i64 d.field, .int .i64 d.kind, .int .i64 d.val.q, .int .i64 d.val.n, .string d.val.s]).toArray 30)) ([.int .i64 0, .slice none 0 0, .int .i64 0, .int .i64 0, .int .i64 0, .int .i64 0, .int .i64 0, .string ⟨#[]⟩]) 30
  simp only [World.size_alloc] at hr
  have HR := hide hr
  have HB := hide hB3
  clear h h2 hl hd hmm hB1 hB2 hB3 hx hr hKV hKB hZ hok
  obtain rfl : KB = false := HKL.out.1.trans HK.out
  obtain rfl : m = 2 := HM.out.symm
  obtain ⟨R, hR⟩ : ∃ r, fold1 d [a, b] = r := ⟨_, rfl⟩
  rw [hR] at HF1 ⊢
  clear hR
  obtain ⟨ga, oa, xa, ea, hga, hya, hca, hra⟩ := Lst.at_ (j := 0) HL.out (by simp)
  obtain ⟨gb, ob, xb, eb, hgb, hyb, hcb, hrb⟩ := Lst.at_ (j := 1) HL.out (by simp)
  subst ea
  injection eb with eb
  injection eb with e1 e2 _
  subst e1
  subst e2
  have HGW := hide (HZ.out _ hga)
  have HRA := hide (show RTx w Z xa a from hra)
  have HRB := hide (show RTx w Z xb b from hrb)
  obtain ⟨da, la⟩ := a
  obtain ⟨va, rfl, hla, hda⟩ := RTx.out HRA.out
  obtain ⟨Aa, ca, rfl⟩ := hla.form
  obtain ⟨na, hna⟩ : ∃ n, la.length = n := ⟨_, rfl⟩
  obtain ⟨db, lb⟩ := b
  obtain ⟨vb, rfl, hlb, hdb⟩ := RTx.out HRB.out
  obtain ⟨Ab, cb, rfl⟩ := hlb.form
  obtain ⟨nb, hnb⟩ : ∃ n, lb.length = n := ⟨_, rfl⟩
  rw [hna] at hca HRA
  rw [hnb] at hcb HRB
  simp only [Nat.zero_mul, Nat.add_zero, Nat.one_mul] at hca hcb
  have HA0 := hide (show w.cell? ⟨ga, oa, none⟩ = some (.int .i64 da.op) from hca 0 _ rfl)
  have HA1 := hide (show w.cell? ⟨ga, oa + 1, none⟩ = some (.slice Aa na ca) from hca 1 _ rfl)
  have HA2 := hide (show w.cell? ⟨ga, oa + 2, none⟩ = some (.int .i64 da.var) from hca 2 _ rfl)
  have HA3 := hide (show w.cell? ⟨ga, oa + 3, none⟩ = some (.int .i64 da.field) from hca 3 _ rfl)
  have HA4 := hide (show w.cell? ⟨ga, oa + 4, none⟩ = some (.int .i64 da.kind) from hca 4 _ rfl)
  have HA5 := hide (show w.cell? ⟨ga, oa + 5, none⟩ = some (.int .i64 da.val.q) from hca 5 _ rfl)
  have HA6 := hide (show w.cell? ⟨ga, oa + 6, none⟩ = some (.int .i64 da.val.n) from hca 6 _ rfl)
  have HA7 := hide (show w.cell? ⟨ga, oa + 7, none⟩ = some (.string da.val.s) from hca 7 _ rfl)
  have HC0 := hide (show w.cell? ⟨ga, oa + 8, none⟩ = some (.int .i64 db.op) from hcb 0 _ rfl)
  have HC1 := hide (show w.cell? ⟨ga, oa + 8 + 1, none⟩ = some (.slice Ab nb cb) from hcb 1 _ rfl)
  have HC2 := hide (show w.cell? ⟨ga, oa + 8 + 2, none⟩ = some (.int .i64 db.var) from hcb 2 _ rfl)
  have HC3 := hide (show w.cell? ⟨ga, oa + 8 + 3, none⟩ = some (.int .i64 db.field) from hcb 3 _ rfl)
  have HC4 := hide (show w.cell? ⟨ga, oa + 8 + 4, none⟩ = some (.int .i64 db.kind) from hcb 4 _ rfl)
  have HC5 := hide (show w.cell? ⟨ga, oa + 8 + 5, none⟩ = some (.int .i64 db.val.q) from hcb 5 _ rfl)
  have HC6 := hide (show w.cell? ⟨ga, oa + 8 + 6, none⟩ = some (.int .i64 db.val.n) from hcb 6 _ rfl)
  have HC7 := hide (show w.cell? ⟨ga, oa + 8 + 7, none⟩ = some (.string db.val.s) from hcb 7 _ rfl)
  have HI1 := hide (fun w' => is_any w' da (.slice Aa na ca) la false)
  have HI2 := hide (fun w' => is_any w' db (.slice Ab nb cb) lb false)
  have HI3 := hide (fun w' => is_any w' da (.slice Aa na ca) la true)
  have HI4 := hide (fun w' => is_any w' db (.slice Ab nb cb) lb true)
  obtain ⟨i1, hi1⟩ : ∃ r, isQ (.mk da la) false = r := ⟨_, rfl⟩
  obtain ⟨i2, hi2⟩ : ∃ r, isQ (.mk db lb) false = r := ⟨_, rfl⟩
  obtain ⟨i3, hi3⟩ : ∃ r, isQ (.mk da la) true = r := ⟨_, rfl⟩
  obtain ⟨i4, hi4⟩ : ∃ r, isQ (.mk db lb) true = r := ⟨_, rfl⟩
  rw [hi1, hi2, hi3, hi4] at HF1
  rw [hi1] at HI1
  rw [hi2] at HI2
  rw [hi3] at HI3
  rw [hi4] at HI4
  clear hca hcb hla hlb hda hdb hra hrb hya hyb hga hgb hna hnb hi1 hi2 hi3 hi4
  have f0 := HBF.out.c 0 _ rfl
  have f1 := HBF.out.c 1 _ rfl
  have f2 := HBF.out.c 2 _ rfl
  have f3 := HBF.out.c 3 _ rfl
  have f4 := HBF.out.c 4 _ rfl
  have f5 := HBF.out.c 5 _ rfl
  have f6 := HBF.out.c 6 _ rfl
  have f7 := HBF.out.c 7 _ rfl
  have a0 := HBX.out.c 0 _ rfl
  have a1 := HBX.out.c 1 _ rfl
  have a2 := HBX.out.c 2 _ rfl
  have a3 := HBX.out.c 3 _ rfl
  have a4 := HBX.out.c 4 _ rfl
  have a5 := HBX.out.c 5 _ rfl
  have a6 := HBX.out.c 6 _ rfl
  have a7 := HBX.out.c 7 _ rfl
  go_enter Try.func21, Try.ntmps21
  go_wp2_with fail
  refine (HKN.out _ HB.out).mono ?_
  rintro e w1 ⟨rfl, hb⟩
  replace HB := hide (bthen HB.out hb)
  replace HBX := hide (HBX.out.keep hb)
  replace HR := hide (HR.out.keep hb)
  clear hb HKN f0 f1 f2 f3 f4 f5 f6 f7 a0 a1 a2 a3 a4 a5 a6 a7 HBF
  clear HKL
  have a0 := HBX.out.c 0 _ rfl
  have a1 := HBX.out.c 1 _ rfl
  have a2 := HBX.out.c 2 _ rfl
  have a3 := HBX.out.c 3 _ rfl
  have a4 := HBX.out.c 4 _ rfl
  have a5 := HBX.out.c 5 _ rfl
  have a6 := HBX.out.c 6 _ rfl
  have a7 := HBX.out.c 7 _ rfl
  have hrl := HR.out.lt
  have hxl := HBX.out.lt
  have hgl := Nat.lt_of_lt_of_le HGW.out HB.out.size
  have ka0 := keep1 HB.out HA0.out
  have ka1 := keep1 HB.out HA1.out
  have ka2 := keep1 HB.out HA2.out
  have ka3 := keep1 HB.out HA3.out
  have ka4 := keep1 HB.out HA4.out
  have ka5 := keep1 HB.out HA5.out
  have ka6 := keep1 HB.out HA6.out
  have ka7 := keep1 HB.out HA7.out
  have kb0 := keep1 HB.out HC0.out
  have kb1 := keep1 HB.out HC1.out
  have kb2 := keep1 HB.out HC2.out
  have kb3 := keep1 HB.out HC3.out
  have kb4 := keep1 HB.out HC4.out
  have kb5 := keep1 HB.out HC5.out
  have kb6 := keep1 HB.out HC6.out
  have kb7 := keep1 HB.out HC7.out
  go_wp2_with fail
  refine (HI1.out _).mono ?_
  rintro e w2 ⟨rfl, hb⟩
  clear hrl hxl hgl a0 a1 a2 a3 a4 a5 a6 a7 ka0 ka1 ka2 ka3 ka4 ka5 ka6 ka7 kb0 kb1 kb2 kb3 kb4 kb5 kb6 kb7
  have hb9 := bthen (below_laid _) hb
  replace HB := hide (bthen HB.out hb9)
  replace HBX := hide (HBX.out.keep hb9)
  replace HR := hide (HR.out.keep hb9)
  clear hb hb9
  have a0 := HBX.out.c 0 _ rfl
  have a1 := HBX.out.c 1 _ rfl
  have a2 := HBX.out.c 2 _ rfl
  have a3 := HBX.out.c 3 _ rfl
  have a4 := HBX.out.c 4 _ rfl
  have a5 := HBX.out.c 5 _ rfl
  have a6 := HBX.out.c 6 _ rfl
  have a7 := HBX.out.c 7 _ rfl
  have hrl := HR.out.lt
  have hxl := HBX.out.lt
  have hgl := Nat.lt_of_lt_of_le HGW.out HB.out.size
  have ka0 := keep1 HB.out HA0.out
  have ka1 := keep1 HB.out HA1.out
  have ka2 := keep1 HB.out HA2.out
  have ka3 := keep1 HB.out HA3.out
  have ka4 := keep1 HB.out HA4.out
  have ka5 := keep1 HB.out HA5.out
  have ka6 := keep1 HB.out HA6.out
  have ka7 := keep1 HB.out HA7.out
  have kb0 := keep1 HB.out HC0.out
  have kb1 := keep1 HB.out HC1.out
  have kb2 := keep1 HB.out HC2.out
  have kb3 := keep1 HB.out HC3.out
  have kb4 := keep1 HB.out HC4.out
  have kb5 := keep1 HB.out HC5.out
  have kb6 := keep1 HB.out HC6.out
  have kb7 := keep1 HB.out HC7.out
  cases i1
  · go_wp2_with fail
    refine (HI2.out _).mono ?_
    rintro e w3 ⟨rfl, hb⟩
    clear hrl hxl hgl a0 a1 a2 a3 a4 a5 a6 a7 ka0 ka1 ka2 ka3 ka4 ka5 ka6 ka7 kb0 kb1 kb2 kb3 kb4 kb5 kb6 kb7
    replace HB := hide (bthen HB.out hb)
    replace HBX := hide (HBX.out.keep hb)
    replace HR := hide (HR.out.keep hb)
    clear hb
    have a0 := HBX.out.c 0 _ rfl
    have a1 := HBX.out.c 1 _ rfl
    have a2 := HBX.out.c 2 _ rfl
    have a3 := HBX.out.c 3 _ rfl
    have a4 := HBX.out.c 4 _ rfl
    have a5 := HBX.out.c 5 _ rfl
    have a6 := HBX.out.c 6 _ rfl
    have a7 := HBX.out.c 7 _ rfl
    have hrl := HR.out.lt
    have hxl := HBX.out.lt
    have hgl := Nat.lt_of_lt_of_le HGW.out HB.out.size
    have ka0 := keep1 HB.out HA0.out
    have ka1 := keep1 HB.out HA1.out
    have ka2 := keep1 HB.out HA2.out
    have ka3 := keep1 HB.out HA3.out
    have ka4 := keep1 HB.out HA4.out
    have ka5 := keep1 HB.out HA5.out
    have ka6 := keep1 HB.out HA6.out
    have ka7 := keep1 HB.out HA7.out
    have kb0 := keep1 HB.out HC0.out
    have kb1 := keep1 HB.out HC1.out
    have kb2 := keep1 HB.out HC2.out
    have kb3 := keep1 HB.out HC3.out
    have kb4 := keep1 HB.out HC4.out
    have kb5 := keep1 HB.out HC5.out
    have kb6 := keep1 HB.out HC6.out
    have kb7 := keep1 HB.out HC7.out
    cases i2
    · go_wp2_with fail
      refine (HI3.out _).mono ?_
      rintro e w4 ⟨rfl, hb⟩
      clear hrl hxl hgl a0 a1 a2 a3 a4 a5 a6 a7 ka0 ka1 ka2 ka3 ka4 ka5 ka6 ka7 kb0 kb1 kb2 kb3 kb4 kb5 kb6 kb7
      replace HB := hide (bthen HB.out hb)
      replace HBX := hide (HBX.out.keep hb)
      replace HR := hide (HR.out.keep hb)
      clear hb
      have a0 := HBX.out.c 0 _ rfl
      have a1 := HBX.out.c 1 _ rfl
      have a2 := HBX.out.c 2 _ rfl
      have a3 := HBX.out.c 3 _ rfl
      have a4 := HBX.out.c 4 _ rfl
      have a5 := HBX.out.c 5 _ rfl
      have a6 := HBX.out.c 6 _ rfl
      have a7 := HBX.out.c 7 _ rfl
      have hrl := HR.out.lt
      have hxl := HBX.out.lt
      have hgl := Nat.lt_of_lt_of_le HGW.out HB.out.size
      have ka0 := keep1 HB.out HA0.out
      have ka1 := keep1 HB.out HA1.out
      have ka2 := keep1 HB.out HA2.out
      have ka3 := keep1 HB.out HA3.out
      have ka4 := keep1 HB.out HA4.out
      have ka5 := keep1 HB.out HA5.out
      have ka6 := keep1 HB.out HA6.out
      have ka7 := keep1 HB.out HA7.out
      have kb0 := keep1 HB.out HC0.out
      have kb1 := keep1 HB.out HC1.out
      have kb2 := keep1 HB.out HC2.out
      have kb3 := keep1 HB.out HC3.out
      have kb4 := keep1 HB.out HC4.out
      have kb5 := keep1 HB.out HC5.out
      have kb6 := keep1 HB.out HC6.out
      have kb7 := keep1 HB.out HC7.out
      cases i3
      · go_wp2_with fail
        refine (HI4.out _).mono ?_
        rintro e w5 ⟨rfl, hb⟩
        clear hrl hxl hgl a0 a1 a2 a3 a4 a5 a6 a7 ka0 ka1 ka2 ka3 ka4 ka5 ka6 ka7 kb0 kb1 kb2 kb3 kb4 kb5 kb6 kb7
        replace HB := hide (bthen HB.out hb)
        replace HBX := hide (HBX.out.keep hb)
        replace HR := hide (HR.out.keep hb)
        clear hb
        have a0 := HBX.out.c 0 _ rfl
        have a1 := HBX.out.c 1 _ rfl
        have a2 := HBX.out.c 2 _ rfl
        have a3 := HBX.out.c 3 _ rfl
        have a4 := HBX.out.c 4 _ rfl
        have a5 := HBX.out.c 5 _ rfl
        have a6 := HBX.out.c 6 _ rfl
        have a7 := HBX.out.c 7 _ rfl
        have hrl := HR.out.lt
        have hxl := HBX.out.lt
        have hgl := Nat.lt_of_lt_of_le HGW.out HB.out.size
        have ka0 := keep1 HB.out HA0.out
        have ka1 := keep1 HB.out HA1.out
        have ka2 := keep1 HB.out HA2.out
        have ka3 := keep1 HB.out HA3.out
        have ka4 := keep1 HB.out HA4.out
        have ka5 := keep1 HB.out HA5.out
        have ka6 := keep1 HB.out HA6.out
        have ka7 := keep1 HB.out HA7.out
        have kb0 := keep1 HB.out HC0.out
        have kb1 := keep1 HB.out HC1.out
        have kb2 := keep1 HB.out HC2.out
        have kb3 := keep1 HB.out HC3.out
        have kb4 := keep1 HB.out HC4.out
        have kb5 := keep1 HB.out HC5.out
        have kb6 := keep1 HB.out HC6.out
        have kb7 := keep1 HB.out HC7.out
        cases i4
        · have HQ := hide (show R = .mk d [.mk da la, .mk db lb] by rw [HF1.out]; rfl)
          have r0 := HR.out.c 0 _ rfl
          have r1 := HR.out.c 1 _ rfl
          have r2 := HR.out.c 2 _ rfl
          have r3 := HR.out.c 3 _ rfl
          have r4 := HR.out.c 4 _ rfl
          have r5 := HR.out.c 5 _ rfl
          have r6 := HR.out.c 6 _ rfl
          have r7 := HR.out.c 7 _ rfl
          have g0 := HR.out.f 0
          have g1 := HR.out.f 1
          have g2 := HR.out.f 2
          have g3 := HR.out.f 3
          have g4 := HR.out.f 4
          have g5 := HR.out.f 5
          have g6 := HR.out.f 6
          have g7 := HR.out.f 7
          go_wp2
          refine bodyPost_ret (v := .agg #[.int .i64 d.op, .slice (some ⟨ga, oa, none⟩) 2 cap, .int .i64 d.var, .int .i64 d.field, .int .i64 d.kind, .int .i64 d.val.q, .int .i64 d.val.n, .string d.val.s]) (by rw [results_c rfl]; go_simp) rfl ?_
          rw [HQ.out]
          exact fin8 HB.out (HT.out _ _ HX.out) (by omega) _ _ _ _ _ _ _ _
        · have HQ := hide (show R = constT (flagQ true) by rw [HF1.out]; rfl)
          have HFL := hide (fun w => flag_any w true)
          have HCN := hide (fun w' => constant_any w' (flagQ true) (flag_ok _) (fun _ => Z))
          go_wp2_with fail
          refine (HFL.out _).mono ?_
          rintro e w7 ⟨rfl, hb⟩
          clear hrl hxl hgl a0 a1 a2 a3 a4 a5 a6 a7 ka0 ka1 ka2 ka3 ka4 ka5 ka6 ka7 kb0 kb1 kb2 kb3 kb4 kb5 kb6 kb7
          replace HB := hide (bthen HB.out hb)
          replace HR := hide (HR.out.keep hb)
          clear hb HFL
          go_wp2_with fail
          refine (HCN.out _).mono ?_
          rintro e w8 ⟨ys, rfl, hT9, hb⟩
          obtain ⟨v9, rfl, hl9, -⟩ := RTx.out hT9
          obtain ⟨A9, cap9, rfl⟩ := hl9.form
          have e9 : cellsX ⟨0, 0, 0, 0, flagQ true⟩ (.slice A9 ([] : List Tr).length cap9) = [.int .i64 0, .slice A9 0 cap9, .int .i64 0, .int .i64 0, .int .i64 0, .int .i64 1, .int .i64 1, .string ⟨#[]⟩] := rfl
          rw [e9] at hT9 ⊢
          replace HB := hide (bthen HB.out hb)
          replace HR := hide (HR.out.keep hb)
          have HT9 := hide hT9
          clear hb HCN hT9 hl9 e9
          have hrl := HR.out.lt
          have r0 := HR.out.c 0 _ rfl
          have r1 := HR.out.c 1 _ rfl
          have r2 := HR.out.c 2 _ rfl
          have r3 := HR.out.c 3 _ rfl
          have r4 := HR.out.c 4 _ rfl
          have r5 := HR.out.c 5 _ rfl
          have r6 := HR.out.c 6 _ rfl
          have r7 := HR.out.c 7 _ rfl
          have g0 := HR.out.f 0
          have g1 := HR.out.f 1
          have g2 := HR.out.f 2
          have g3 := HR.out.f 3
          have g4 := HR.out.f 4
          have g5 := HR.out.f 5
          have g6 := HR.out.f 6
          have g7 := HR.out.f 7
          go_wp2
          refine bodyPost_ret (v := .agg #[.int .i64 0, .slice A9 0 cap9, .int .i64 0, .int .i64 0, .int .i64 0, .int .i64 1, .int .i64 1, .string ⟨#[]⟩]) (by rw [results_c rfl]; go_simp) rfl ?_
          rw [HQ.out]
          exact ⟨_, rfl, HT9.out.keep ((((((((Kp.set ⟨w.heap.size + 1 + 1, 0, none⟩ _ (fun b hb => by have := HZ.out b hb; show b ≠ w.heap.size + 1 + 1; omega)).trans (Kp.set ⟨w.heap.size + 1 + 1, 1, none⟩ _ (fun b hb => by have := HZ.out b hb; show b ≠ w.heap.size + 1 + 1; omega))).trans (Kp.set ⟨w.heap.size + 1 + 1, 2, none⟩ _ (fun b hb => by have := HZ.out b hb; show b ≠ w.heap.size + 1 + 1; omega))).trans (Kp.set ⟨w.heap.size + 1 + 1, 3, none⟩ _ (fun b hb => by have := HZ.out b hb; show b ≠ w.heap.size + 1 + 1; omega))).trans (Kp.set ⟨w.heap.size + 1 + 1, 4, none⟩ _ (fun b hb => by have := HZ.out b hb; show b ≠ w.heap.size + 1 + 1; omega))).trans (Kp.set ⟨w.heap.size + 1 + 1, 5, none⟩ _ (fun b hb => by have := HZ.out b hb; show b ≠ w.heap.size + 1 + 1; omega))).trans (Kp.set ⟨w.heap.size + 1 + 1, 6, none⟩ _ (fun b hb => by have := HZ.out b hb; show b ≠ w.heap.size + 1 + 1; omega))).trans (Kp.set ⟨w.heap.size + 1 + 1, 7, none⟩ _ (fun b hb => by have := HZ.out b hb; show b ≠ w.heap.size + 1 + 1; omega))) , below_set8 HB.out (by omega) _ _ _ _ _ _ _ _⟩
      · have HQ := hide (show R = constT (flagQ true) by rw [HF1.out]; rfl)
        have HFL := hide (fun w => flag_any w true)
        have HCN := hide (fun w' => constant_any w' (flagQ true) (flag_ok _) (fun _ => Z))
        go_wp2_with fail
        refine (HFL.out _).mono ?_
        rintro e w7 ⟨rfl, hb⟩
        clear hrl hxl hgl a0 a1 a2 a3 a4 a5 a6 a7 ka0 ka1 ka2 ka3 ka4 ka5 ka6 ka7 kb0 kb1 kb2 kb3 kb4 kb5 kb6 kb7
        replace HB := hide (bthen HB.out hb)
        replace HR := hide (HR.out.keep hb)
        clear hb HFL
        go_wp2_with fail
        refine (HCN.out _).mono ?_
        rintro e w8 ⟨ys, rfl, hT9, hb⟩
        obtain ⟨v9, rfl, hl9, -⟩ := RTx.out hT9
        obtain ⟨A9, cap9, rfl⟩ := hl9.form
        have e9 : cellsX ⟨0, 0, 0, 0, flagQ true⟩ (.slice A9 ([] : List Tr).length cap9) = [.int .i64 0, .slice A9 0 cap9, .int .i64 0, .int .i64 0, .int .i64 0, .int .i64 1, .int .i64 1, .string ⟨#[]⟩] := rfl
        rw [e9] at hT9 ⊢
        replace HB := hide (bthen HB.out hb)
        replace HR := hide (HR.out.keep hb)
        have HT9 := hide hT9
        clear hb HCN hT9 hl9 e9
        have hrl := HR.out.lt
        have r0 := HR.out.c 0 _ rfl
        have r1 := HR.out.c 1 _ rfl
        have r2 := HR.out.c 2 _ rfl
        have r3 := HR.out.c 3 _ rfl
        have r4 := HR.out.c 4 _ rfl
        have r5 := HR.out.c 5 _ rfl
        have r6 := HR.out.c 6 _ rfl
        have r7 := HR.out.c 7 _ rfl
        have g0 := HR.out.f 0
        have g1 := HR.out.f 1
        have g2 := HR.out.f 2
        have g3 := HR.out.f 3
        have g4 := HR.out.f 4
        have g5 := HR.out.f 5
        have g6 := HR.out.f 6
        have g7 := HR.out.f 7
        go_wp2
        refine bodyPost_ret (v := .agg #[.int .i64 0, .slice A9 0 cap9, .int .i64 0, .int .i64 0, .int .i64 0, .int .i64 1, .int .i64 1, .string ⟨#[]⟩]) (by rw [results_c rfl]; go_simp) rfl ?_
        rw [HQ.out]
        exact ⟨_, rfl, HT9.out.keep ((((((((Kp.set ⟨w.heap.size + 1 + 1, 0, none⟩ _ (fun b hb => by have := HZ.out b hb; show b ≠ w.heap.size + 1 + 1; omega)).trans (Kp.set ⟨w.heap.size + 1 + 1, 1, none⟩ _ (fun b hb => by have := HZ.out b hb; show b ≠ w.heap.size + 1 + 1; omega))).trans (Kp.set ⟨w.heap.size + 1 + 1, 2, none⟩ _ (fun b hb => by have := HZ.out b hb; show b ≠ w.heap.size + 1 + 1; omega))).trans (Kp.set ⟨w.heap.size + 1 + 1, 3, none⟩ _ (fun b hb => by have := HZ.out b hb; show b ≠ w.heap.size + 1 + 1; omega))).trans (Kp.set ⟨w.heap.size + 1 + 1, 4, none⟩ _ (fun b hb => by have := HZ.out b hb; show b ≠ w.heap.size + 1 + 1; omega))).trans (Kp.set ⟨w.heap.size + 1 + 1, 5, none⟩ _ (fun b hb => by have := HZ.out b hb; show b ≠ w.heap.size + 1 + 1; omega))).trans (Kp.set ⟨w.heap.size + 1 + 1, 6, none⟩ _ (fun b hb => by have := HZ.out b hb; show b ≠ w.heap.size + 1 + 1; omega))).trans (Kp.set ⟨w.heap.size + 1 + 1, 7, none⟩ _ (fun b hb => by have := HZ.out b hb; show b ≠ w.heap.size + 1 + 1; omega))) , below_set8 HB.out (by omega) _ _ _ _ _ _ _ _⟩
    · have HQ := hide (show R = .mk da la by rw [HF1.out]; rfl)
      have r0 := HR.out.c 0 _ rfl
      have r1 := HR.out.c 1 _ rfl
      have r2 := HR.out.c 2 _ rfl
      have r3 := HR.out.c 3 _ rfl
      have r4 := HR.out.c 4 _ rfl
      have r5 := HR.out.c 5 _ rfl
      have r6 := HR.out.c 6 _ rfl
      have r7 := HR.out.c 7 _ rfl
      have g0 := HR.out.f 0
      have g1 := HR.out.f 1
      have g2 := HR.out.f 2
      have g3 := HR.out.f 3
      have g4 := HR.out.f 4
      have g5 := HR.out.f 5
      have g6 := HR.out.f 6
      have g7 := HR.out.f 7
      go_wp2
      refine bodyPost_ret (v := .agg #[.int .i64 da.op, .slice Aa na ca, .int .i64 da.var, .int .i64 da.field, .int .i64 da.kind, .int .i64 da.val.q, .int .i64 da.val.n, .string da.val.s]) (by rw [results_c rfl]; go_simp) rfl ?_
      rw [HQ.out]
      exact fin8 HB.out (HT.out _ _ HRA.out) (by omega) _ _ _ _ _ _ _ _
  · have HQ := hide (show R = .mk db lb by rw [HF1.out]; rfl)
    have r0 := HR.out.c 0 _ rfl
    have r1 := HR.out.c 1 _ rfl
    have r2 := HR.out.c 2 _ rfl
    have r3 := HR.out.c 3 _ rfl
    have r4 := HR.out.c 4 _ rfl
    have r5 := HR.out.c 5 _ rfl
    have r6 := HR.out.c 6 _ rfl
    have r7 := HR.out.c 7 _ rfl
    have g0 := HR.out.f 0
    have g1 := HR.out.f 1
    have g2 := HR.out.f 2
    have g3 := HR.out.f 3
    have g4 := HR.out.f 4
    have g5 := HR.out.f 5
    have g6 := HR.out.f 6
    have g7 := HR.out.f 7
    go_wp2
    refine bodyPost_ret (v := .agg #[.int .i64 db.op, .slice Ab nb cb, .int .i64 db.var, .int .i64 db.field, .int .i64 db.kind, .int .i64 db.val.q, .int .i64 db.val.n, .string db.val.s]) (by rw [results_c rfl]; go_simp) rfl ?_
    rw [HQ.out]
    exact fin8 HB.out (HT.out _ _ HRB.out) (by omega) _ _ _ _ _ _ _ _
theorem fold_any (d : Nd) (args : List Tr) (v : Value) (hok : OkT 16 8 (.mk d args)) (mp : Nat) (Z : Nat → Prop) (hZ : ∀ b, Z b → b < w.heap.size) (h2 : Opz w mp) (h : RTx w Z (cellsX d v) (.mk d args)) :
    Calls Try.prog 21 #[.agg ([.slice none 0 0, .int .i64 (-1), .int .i64 0, .int .i64 0, .int .i64 0, .int .i64 0, .slice none 0 0, .map (some mp)]).toArray, .agg (cellsX d v).toArray] w (RetX w (fun _ => Z) (fold1 d args)) := by
  cases hk : knownB2 d args with
  | true => exact fold_known w d args v hok mp Z hZ h2 h hk
  | false =>
    rcases ok_cases hok with ⟨rfl, h5⟩ | ⟨a, rfl, h12, ha⟩ | ⟨a, b, rfl, h5, h9, ha, hb⟩
    · exact fold_self w d _ v hok mp Z hZ h2 h hk ⟨by omega, by omega, by omega⟩
    · by_cases h122 : a.d.op = 12
      · obtain ⟨d2, l2⟩ := a
        have h122' : d2.op = 12 := h122
        rcases ok_cases ha with ⟨rfl, h5⟩ | ⟨x, rfl, -, hx⟩ | ⟨x, y, rfl, h5, h9, hx, hy⟩
        · omega
        · exact fold_not2 w d _ v hok mp Z hZ h2 h hk d2 x rfl h12 h122'
        · omega
      · exact fold_not1 w d _ v hok mp Z hZ h2 h hk a rfl h12 h122
    · by_cases h10 : d.op = 10
      · exact fold_and w d _ v hok mp Z hZ h2 h hk a b rfl h10
      · by_cases h11 : d.op = 11
        · exact fold_or w d _ v hok mp Z hZ h2 h hk a b rfl h11
        · exact fold_self w d _ v hok mp Z hZ h2 h hk ⟨by omega, h10, h11⟩
end
end Go.Proofs.Ytkcbjnhphekadaa
