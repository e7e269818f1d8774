/- Of, of the program. -/
import Derived.Test.YtkcbjnhphekadaaAOf2
namespace Go.Proofs.Ytkcbjnhphekadaa
open Go.RowKit
set_option linter.unusedVariables false
set_option linter.unusedSimpArgs false
def ofE (k : Int) (L : List V3) (o : V3) : Int := if knownB k = false then 1 else if 4096 < L.length then 5 else if fE k L ≠ 0 then fE k L else rsE (fld k L) o
def ofV (k : Int) (L : List V3) (o : V3) : V3 := if knownB k = false then V3.z else if 4096 < L.length then V3.z else if fE k L ≠ 0 then V3.z else rs (fld k L) o
theorem of_unknown {k : Int} {L : List V3} {o : V3} (h : knownB k = false) : ofE k L o = 1 ∧ ofV k L o = V3.z := ⟨if_pos h, if_pos h⟩
theorem of_many {k : Int} {L : List V3} {o : V3} (h : knownB k = true) (h2 : 4096 < L.length) : ofE k L o = 5 ∧ ofV k L o = V3.z := by simp [ofE, ofV, h, h2]
theorem of_bad {k : Int} {L : List V3} {o : V3} (h : knownB k = true) (h2 : L.length ≤ 4096) (h3 : ¬ fE k L = 0) : ofE k L o = fE k L ∧ ofV k L o = V3.z := by simp [ofE, ofV, h, Nat.not_lt.2 h2, h3]
theorem of_ok {k : Int} {L : List V3} {o : V3} (h : knownB k = true) (h2 : L.length ≤ 4096) (h3 : fE k L = 0) : ofE k L o = rsE (fld k L) o ∧ ofV k L o = rs (fld k L) o := by simp [ofE, ofV, h, Nat.not_lt.2 h2, h3]
theorem of_mk {k : Int} {L : List V3} {o r : V3} {x : Int} (h : ofE k L o = x ∧ ofV k L o = r) {w w' : World} (hb : Below w.heap.size w w') :
    Ret (.tuple #[V3.v (ofV k L o), .int .i64 (ofE k L o)]) w (.returned (.tuple #[V3.v r, .int .i64 x])) w' := by
  refine ⟨?_, hb⟩
  rw [h.1, h.2]

/-- A box of a value that may be written. -/
def Box3 (w : World) (F : Nat) (a : V3) : Prop :=
  (w.cell? ⟨F, 0, none⟩ = some (.int .i64 a.q) ∧ w.cell? ⟨F, 1, none⟩ = some (.int .i64 a.n) ∧ w.cell? ⟨F, 2, none⟩ = some (.string a.s)) ∧
  (w.frozen? ⟨F, 0, none⟩ = false ∧ w.frozen? ⟨F, 1, none⟩ = false ∧ w.frozen? ⟨F, 2, none⟩ = false)
theorem Box3.keep {w w' : World} {F : Nat} {a : V3} (h : Box3 w F a) (hb : Below w.heap.size w w') : Box3 w' F a := by
  obtain ⟨⟨a0, a1, a2⟩, g0, g1, g2⟩ := h
  have hl := World.block_lt_of_cell? w _ a0
  exact ⟨⟨keep1 hb a0, keep1 hb a1, keep1 hb a2⟩, keepf hb hl g0, keepf hb hl g1, keepf hb hl g2⟩
theorem Box3.new (w : World) (a : V3) (t : TypeId) : Box3 (w.alloc (.cells #[.int .i64 a.q, .int .i64 a.n, .string a.s] t)) w.heap.size a := by
  refine ⟨⟨?_, ?_, ?_⟩, ?_, ?_, ?_⟩ <;> go_simp

section
variable (k : Int) (L : List V3) (o : V3) (w : World)
set_option maxRecDepth 100000 in
set_option maxHeartbeats 4000000 in
theorem of_no (v : Value) (hno : knownB k = false ∨ 4096 < L.length) (hm : L.length ≤ 9223372036854775807) (hv : ∃ A cap, v = .slice A L.length cap) :
    Calls Try.prog 13 #[.int .i64 k, v, .agg #[.int .i64 o.q, .int .i64 o.n, .string o.s]] w (Ret (.tuple #[V3.v (ofV k L o), .int .i64 (ofE k L o)]) w) := by
  obtain ⟨A, cap, rfl⟩ := hv
  cases hk : knownB k
  · have HE := hide (of_unknown (L := L) (o := o) hk)
    have HK := hide (known_any k)
    rw [hk] at HK
    clear hk hno
    go_enter Try.func13, Try.ntmps13
    go_wp2_with fail
    refine (HK.out _).mono ?_
    rintro e w1 ⟨rfl, rfl⟩
    go_wp2
    refine bodyPost_ret (v := .tuple #[V3.v V3.z, .int .i64 1]) (by simp only [V3.z]; rw [results_cell_tmp rfl]; go_simp) rfl ?_; exact of_mk HE.out (((below_laid _).alloc (by simp) _).alloc (by simp; omega) _)
  · have h4 : 4096 < L.length := by
      rcases hno with h | h
      · rw [h] at hk; cases hk
      · exact h
    have HE := hide (of_many (o := o) hk h4)
    have HK := hide (known_any k)
    rw [hk] at HK
    have t1 : decide ((4096 : Int) < (L.length : Int)) = true := decide_eq_true (by omega)
    clear hk hno
    go_enter Try.func13, Try.ntmps13
    go_wp2_with fail
    refine (HK.out _).mono ?_
    rintro e w1 ⟨rfl, rfl⟩
    go_wp2
    refine bodyPost_ret (v := .tuple #[V3.v V3.z, .int .i64 5]) (by simp only [V3.z]; rw [results_cell_tmp rfl]; go_simp) rfl ?_; exact of_mk HE.out (((below_laid _).alloc (by simp) _).alloc (by simp; omega) _)

/-- What the first loop of Of leaves. -/
def OfInv (k : Int) (o : V3) (w wr : World) : Prop := wr.cell? ⟨w.heap.size, 0, none⟩ = some (.int .i64 k) ∧ Box3 wr (w.heap.size + 1) o ∧ Box3 wr (w.heap.size + 1 + 1) V3.z ∧ Below w.heap.size w wr
theorem OfInv.keep {k : Int} {o : V3} {w a b : World} (h : OfInv k o w a) (hb : Below a.heap.size a b) : OfInv k o w b :=
  ⟨keep1 hb h.1, h.2.1.keep hb, h.2.2.1.keep hb, bthen h.2.2.2 hb⟩

set_option maxRecDepth 100000 in
set_option maxHeartbeats 4000000 in
theorem of_yes (v : Value) (hk : knownB k = true) (hl : L.length ≤ 4096) (ho : o.s.size ≤ maxLen) (hsz : ∀ x ∈ L, x.s.size ≤ maxLen) (hv : Row w w.heap.size 3 v L.length (flat L)) :
    Calls Try.prog 13 #[.int .i64 k, v, .agg #[.int .i64 o.q, .int .i64 o.n, .string o.s]] w (Ret (.tuple #[V3.v (ofV k L o), .int .i64 (ofE k L o)]) w) := by
  have HKN := hide (known_any k)
  rw [hk] at HKN
  have HBAD := hide (@of_bad k L o hk hl)
  have HOK := hide (@of_ok k L o hk hl)
  have HFG := hide (fun h => (fld_good hk L h hl).1)
  have HV := hide hv
  obtain ⟨A, cap, rfl⟩ := hv.form
  have HFLD := hide (fun (w' : World) (C : Nat) hC hr hv => folded_any k L w' C (.slice A L.length cap) hC hk hr hl hv)
  obtain ⟨m, hm⟩ : ∃ m, L.length = m := ⟨_, rfl⟩
  rw [hm] at hv hl HV HFLD ⊢
  have HM := hide hm
  have HK := hide hk
  have HSZ := hide hsz
  have HO := hide ho
  have t1 : decide ((4096 : Int) < (m : Int)) = false := decide_eq_false (by omega)
  clear hm hk hsz ho hv
  obtain ⟨oq, on, os⟩ := o
  go_enter Try.func13, Try.ntmps13
  go_wp2_with fail
  refine (HKN.out _).mono ?_
  rintro e w1 ⟨rfl, rfl⟩
  go_wp2_with fail
  go_loopw [24] (fun i wr => ∃ j : Nat, j ≤ m ∧ i = .int .i64 j ∧ Hid (fE k (L.drop j) = fE k L) ∧ Hid (OfInv k ⟨oq, on, os⟩ w wr)) (fun i _ => m - (intOf i).toNat)
  case atStart =>
    refine ⟨0, by omega, rfl, hide (by simp), hide ⟨?_, ?_, ?_, ((below_laid _).alloc (by simp) _).alloc (by simp; omega) _⟩⟩
    · go_simp
    · have := (Box3.new (w.alloc (.cells #[.int .i64 k] 3)) ⟨oq, on, os⟩ 28).keep (below_laid (.cells #[.int .i64 0, .int .i64 0, .string ⟨#[]⟩] 28))
      rw [World.size_alloc] at this
      exact this
    · have := Box3.new ((w.alloc (.cells #[.int .i64 k] 3)).alloc (.cells #[.int .i64 oq, .int .i64 on, .string os] 28)) V3.z 28
      simp only [World.size_alloc] at this
      exact this
  case round =>
    obtain ⟨j, hj, rfl, HF, HI⟩ := hrel
    by_cases hlt : j < m
    · have hjl : j < L.length := by rw [HM.out]; exact hlt
      obtain ⟨g, off, cap', e', hg, -, hcell⟩ := HV.out.at_ (by omega)
      cases e'
      obtain ⟨f1, f2, f3⟩ := flat_at L j hjl
      have hB := HI.out.2.2.2
      have e0 := (hB.cell (p := ⟨g, off + j * 3, none⟩) hg).trans (hcell _ _ f1)
      have e1 := (hB.cell (p := ⟨g, off + j * 3 + 1, none⟩) hg).trans (hcell _ _ f2)
      have e2 := (hB.cell (p := ⟨g, off + j * 3 + 2, none⟩) hg).trans (hcell _ _ f3)
      have c0 := HI.out.1
      have hxs := HSZ.out L[j] (List.getElem_mem hjl)
      by_cases hx : wrE k L[j].q L[j].n L[j].s.size = 0
      · have HN : Hid (fE k (L.drop (j + 1)) = fE k L) := hide ((fE_drop hjl hx).symm.trans HF.out)
        obtain ⟨x, hxe⟩ : ∃ x, L[j] = x := ⟨_, rfl⟩
        rw [hxe] at e0 e1 e2 hx hxs
        clear hxe f1 f2 f3 hB hcell
        obtain ⟨p, mm, t⟩ := x
        simp only at e0 e1 e2 hx hxs
        have HW := hide (fun w => wrong_any k p mm t w hxs)
        rw [hx] at HW
        clear hx hxs
        have c1 := keep1 (@below_laid wr (.cells #[.int .i64 p, .int .i64 mm, .string t] 28)) c0
        go_wp2_with fail
        refine (HW.out _).mono ?_
        rintro e w3 ⟨rfl, hb⟩
        have HI3 := hide (HI.out.keep (bel1 hb))
        clear hb e0 e1 e2 c0 c1
        go_wp2
        go_roundw
        case rel => exact ⟨j + 1, by omega, by go_num, HN, HI3⟩
        case measure => simp [intOf]; omega
      · have hE := fE_hit hjl hx
        rw [HF.out] at hE
        have HE := hide (HBAD.out (by rw [hE]; exact hx))
        rw [hE] at HE
        have t2 : (wrE k L[j].q L[j].n L[j].s.size != 0) = true := by rw [bne_iff_ne]; exact hx
        obtain ⟨x, hxe⟩ : ∃ x, L[j] = x := ⟨_, rfl⟩
        rw [hxe] at e0 e1 e2 hxs t2 HE
        clear hxe f1 f2 f3 hB hcell hx hE
        obtain ⟨p, mm, t⟩ := x
        simp only at e0 e1 e2 hxs t2 HE
        have HW := hide (fun w => wrong_any k p mm t w hxs)
        clear hxs
        generalize wrE k p mm t.size = er at *
        have c1 := keep1 (@below_laid wr (.cells #[.int .i64 p, .int .i64 mm, .string t] 28)) c0
        go_wp2_with fail
        refine (HW.out _).mono ?_
        rintro e w3 ⟨rfl, hb⟩
        have hI := HI.out.keep (bel1 hb)
        obtain ⟨-, -, ⟨⟨r0, r1, r2⟩, g0, g1, g2⟩, hB3⟩ := hI
        simp only [V3.z] at r0 r1 r2
        have HB3 := hide hB3
        clear hb e0 e1 e2 c0 c1 hB3
        go_wp2
        refine bodyPost_ret (v := .tuple #[V3.v V3.z, .int .i64 er]) (by simp only [V3.z]; rw [results_cell_tmp rfl]; go_simp) rfl ?_
        exact of_mk HE.out (below_set3' HB3.out (by omega) _ _ _)
    · obtain rfl : j = m := by omega
      have hE := HF.out
      rw [fE_end (by rw [HM.out]; exact Nat.le_refl _)] at hE
      have HE := hide (HOK.out hE.symm)
      have hrt := (fE_right k L).1 hE.symm
      have hgl := good_len (HFG.out hrt)
      have c0 := HI.out.1
      have HFO := hide (HFLD.out wr w.heap.size c0 hrt (HV.out.grow HI.out.2.2.2))
      clear hE hrt HFLD
      obtain ⟨fa, hfa⟩ : ∃ fa, fld k L = fa := ⟨_, rfl⟩
      rw [hfa] at HFO HE hgl
      clear hfa
      go_wp2_with fail
      refine HFO.out.mono ?_
      rintro e w3 ⟨rfl, hb⟩
      have HI3 := hide (HI.out.keep hb)
      obtain ⟨fk, fc, fq, fn, fs⟩ := fa
      obtain ⟨-, ⟨⟨q0, q1, q2⟩, -⟩, -⟩ := HI3.out.keep (@below_laid w3 (.cells #[.int .i64 fk, .int .i64 fc, .int .i64 fq, .int .i64 fn, .string fs] 57))
      simp only at q0 q1 q2 hgl
      have HRS := hide (fun w => result_any w ⟨fk, fc, fq, fn, fs⟩ ⟨oq, on, os⟩ (by show fs.size ≤ maxLen; unfold maxLen; omega) HO.out)
      generalize rsE ⟨fk, fc, fq, fn, fs⟩ ⟨oq, on, os⟩ = re at *
      generalize rs ⟨fk, fc, fq, fn, fs⟩ ⟨oq, on, os⟩ = rv at *
      clear hb c0
      go_wp2_with fail
      refine (HRS.out _).mono ?_
      rintro e w4 ⟨rfl, hb⟩
      obtain ⟨rq, rn, rss⟩ := rv
      obtain ⟨-, -, ⟨⟨r0, r1, r2⟩, g0, g1, g2⟩, hB3⟩ := HI3.out.keep (bel1 hb)
      simp only [V3.z] at r0 r1 r2
      have HB3 := hide hB3
      clear hb q0 q1 q2 hB3
      go_wp2
      refine bodyPost_ret (v := .tuple #[V3.v ⟨rq, rn, rss⟩, .int .i64 re]) (by rw [results_cell_tmp rfl]; go_simp) rfl ?_
      exact of_mk HE.out (below_set3' HB3.out (by omega) _ _ _)
end
end Go.Proofs.Ytkcbjnhphekadaa
