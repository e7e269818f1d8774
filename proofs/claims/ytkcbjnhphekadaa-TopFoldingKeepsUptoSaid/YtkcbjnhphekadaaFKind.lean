/- The kind of a node: leaf, kind, of a typer. -/
import Derived.Test.YtkcbjnhphekadaaFOpd
import Derived.Test.YtkcbjnhphekadaaFNodeA
import Derived.Test.YtkcbjnhphekadaaFEnv
namespace Go.Proofs.Ytkcbjnhphekadaa
open Go.RowKit
set_option linter.unusedVariables false
set_option linter.unusedSimpArgs false
/-- An event type; its fields; a variable. -/
structure Fdx where
  name : ByteArray
  kind : Int
structure Scx where
  name : ByteArray
  fields : List Fdx
structure Vrx where
  name : ByteArray
  typ : Int
instance : Inhabited Fdx := ⟨⟨⟨#[]⟩, 0⟩⟩
instance : Inhabited Scx := ⟨⟨⟨#[]⟩, []⟩⟩
instance : Inhabited Vrx := ⟨⟨⟨#[]⟩, 0⟩⟩
def RFd (_ : World) (_ : Nat → Prop) (xs : List Value) (f : Fdx) : Prop := xs = [.string f.name, .int .i64 f.kind] ∧ f.name.size ≤ maxLen
theorem rd_Fd : Rd RFd := ⟨fun _ h => h, fun _ h => h⟩
def RSc (w : World) (Z : Nat → Prop) (xs : List Value) (s : Scx) : Prop := ∃ v, xs = [.string s.name, v] ∧ s.name.size ≤ maxLen ∧ Lst w Z 2 RFd v s.fields
theorem rd_Sc : Rd RSc := ⟨fun hk ⟨v, e, hs, h⟩ => ⟨v, e, hs, h.keep rd_Fd hk⟩, fun hs ⟨v, e, h1, h⟩ => ⟨v, e, h1, h.more rd_Fd hs⟩⟩
def RVr (_ : World) (_ : Nat → Prop) (xs : List Value) (x : Vrx) : Prop := xs = [.string x.name, .int .i64 x.typ]
theorem rd_Vr : Rd RVr := ⟨fun _ h => h, fun _ h => h⟩
def fieldsQ (T : List Scx) (V : List Vrx) (v : Int) : List Fdx := (T.getD (V.getD v.toNat default).typ.toNat default).fields
def leafK (T : List Scx) (V : List Vrx) (d : Nd) : Int × Int :=
  if d.op = 0 then (d.val.q, 0) else if (V.length : Int) ≤ d.var then (0, 6) else if d.op = 2 ∨ d.op = 3 then (0, 0)
  else if ((fieldsQ T V d.var).length : Int) ≤ d.field then (0, 6)
  else if d.op = 4 ∧ (((fieldsQ T V d.var).getD d.field.toNat default).kind ≠ d.val.q ∨ ¬ (((fieldsQ T V d.var).getD d.field.toNat default).kind = 0 ∨ d.kind = 4 ∨ d.kind = 5)) then (0, 9)
  else (((fieldsQ T V d.var).getD d.field.toNat default).kind, 0)
theorem node_rng {d : Nd} {n : Nat} (h : nodeE 16 8 d n = 0) : 0 ≤ d.var ∧ 0 ≤ d.field := by
  unfold nodeE at h
  split at h
  · omega
  · split at h
    · omega
    · split at h
      · omega
      · rename_i h1
        split at h
        · omega
        · split at h
          · rename_i h2; exact absurd h h2.2
          · split at h
            · omega
            · rename_i h3
              cases hv : usesV d.op <;> cases hf : usesF d.op <;> simp only [hv, hf] at h1 h3 <;> constructor <;> simp at h1 h3 <;> omega
section
variable (T : List Scx) (V : List Vrx) (w : World)
set_option maxRecDepth 100000 in
set_option maxHeartbeats 8000000 in
theorem kleaf_any (v1 v2 : Value) (d : Nd) (A : Option Addr) (n cap : Nat) (h1 : There RSc 2 w v1 T) (h2 : There RVr 2 w v2 V) (hv : 0 ≤ d.var) (hk : 0 ≤ d.field) (hr : ∀ x ∈ V, 0 ≤ x.typ ∧ x.typ < T.length) :
    Calls Try.prog 36 #[.agg #[v1, v2], .agg ([.int .i64 d.op, .slice A n cap, .int .i64 d.var, .int .i64 d.field, .int .i64 d.kind, .int .i64 d.val.q, .int .i64 d.val.n, .string d.val.s]).toArray] w (Ret (.tuple #[.int .i64 (leafK T V d).1, .int .i64 (leafK T V d).2]) w) := by
  obtain ⟨A1, cap1, rfl⟩ := h1.form
  obtain ⟨A2, cap2, rfl⟩ := h2.form
  obtain ⟨m1, hm1⟩ : ∃ k, T.length = k := ⟨_, rfl⟩
  obtain ⟨m2, hm2⟩ : ∃ k, V.length = k := ⟨_, rfl⟩
  have hl1 := h1.len
  have hl2 := h2.len
  unfold maxLen at hl1 hl2
  obtain ⟨R, hR⟩ : ∃ r, leafK T V d = r := ⟨_, rfl⟩
  have HRR := hide hR
  rw [hR]
  rw [hm1] at h1 hl1 hr ⊢
  rw [hm2] at h2 hl2 ⊢
  have hX := (Bxs.new w [.slice A1 m1 cap1, .slice A2 m2 cap2] 67).keep (below_laid (.cells ([.int .i64 d.op, .slice A n cap, .int .i64 d.var, .int .i64 d.field, .int .i64 d.kind, .int .i64 d.val.q, .int .i64 d.val.n, .string d.val.s]).toArray 30))
  have hY := Bxs.new (w.alloc (.cells #[.slice A1 m1 cap1, .slice A2 m2 cap2] 67)) ([.int .i64 d.op, .slice A n cap, .int .i64 d.var, .int .i64 d.field, .int .i64 d.kind, .int .i64 d.val.q, .int .i64 d.val.n, .string d.val.s]) 30
  rw [World.size_alloc] at hY
  have hB := bthen (below_laid (w := w) (.cells #[.slice A1 m1 cap1, .slice A2 m2 cap2] 67)) (below_laid (.cells ([.int .i64 d.op, .slice A n cap, .int .i64 d.var, .int .i64 d.field, .int .i64 d.kind, .int .i64 d.val.q, .int .i64 d.val.n, .string d.val.s]).toArray 30))
  have H1 := hide (h1.keep rd_Sc hB)
  have H2 := hide (h2.keep rd_Vr hB)
  have HB := hide hB
  have HM1 := hide hm1
  have HM2 := hide hm2
  have x0 := hX 0 _ rfl
  have x1 := hX 1 _ rfl
  have y0 := hY 0 _ rfl
  have y1 := hY 1 _ rfl
  have y2 := hY 2 _ rfl
  have y3 := hY 3 _ rfl
  have y4 := hY 4 _ rfl
  have y5 := hY 5 _ rfl
  have y6 := hY 6 _ rfl
  have y7 := hY 7 _ rfl
  have HRG := hide hr
  clear h1 h2 hX hY hB hm1 hm2 hR hr
  by_cases h0 : d.op = 0
  · have t0 : (d.op == 0) = true := by rw [beq_iff_eq]; exact h0
    have HQ := hide (show R = (d.val.q, 0) by rw [← HRR.out]; unfold leafK; rw [if_pos h0])
    rw [HQ.out]
    clear h0 HRR
    go_enter Try.func36, Try.ntmps36
    go_wp2
    go_ret2
    exact Ret.mk rfl HB.out
  · have t0 : (d.op == 0) = false := by rw [beq_eq_false_iff_ne]; exact h0
    by_cases hvm : (m2 : Int) ≤ d.var
    · have tv : decide ((m2 : Int) ≤ d.var) = true := decide_eq_true hvm
      have HQ := hide (show R = (0, 6) by rw [← HRR.out]; unfold leafK; rw [if_neg h0, if_pos (by rw [HM2.out]; exact hvm)])
      rw [HQ.out]
      clear h0 HRR hvm
      go_enter Try.func36, Try.ntmps36
      go_wp2
      go_ret2
      exact Ret.mk rfl HB.out
    · have tv : decide ((m2 : Int) ≤ d.var) = false := decide_eq_false hvm
      by_cases h23 : d.op = 2 ∨ d.op = 3
      · have HQ := hide (show R = (0, 0) by rw [← HRR.out]; unfold leafK; rw [if_neg h0, if_neg (by rw [HM2.out]; exact hvm), if_pos h23])
        rw [HQ.out]
        rcases h23 with h2 | h3
        · have t2 : (d.op == 2) = true := by rw [beq_iff_eq]; exact h2
          clear h0 HRR hvm h2
          go_enter Try.func36, Try.ntmps36
          go_wp2
          go_ret2
          exact Ret.mk rfl HB.out
        · have t2 : (d.op == 2) = false := by rw [beq_eq_false_iff_ne]; omega
          have t3 : (d.op == 3) = true := by rw [beq_iff_eq]; exact h3
          clear h0 HRR hvm h3
          go_enter Try.func36, Try.ntmps36
          go_wp2
          go_ret2
          exact Ret.mk rfl HB.out
      · have t2 : (d.op == 2) = false := by rw [beq_eq_false_iff_ne]; omega
        have t3 : (d.op == 3) = false := by rw [beq_eq_false_iff_ne]; omega
        obtain ⟨i, hi⟩ : ∃ i : Nat, d.var = i := ⟨d.var.toNat, by omega⟩
        obtain ⟨j, hj⟩ : ∃ j : Nat, d.field = j := ⟨d.field.toNat, by omega⟩
        have hiV : i < V.length := by rw [HM2.out]; omega
        obtain ⟨g2, o2, ys2, e2, hg2, hyl2, hc2, rfl⟩ := Lst.at_ H2.out hiV
        subst e2
        have hty := HRG.out V[i] (List.getElem_mem hiV)
        obtain ⟨t, ht⟩ : ∃ t : Nat, (V[i]).typ = t := ⟨(V[i]).typ.toNat, by omega⟩
        have htT : t < T.length := by rw [HM1.out]; omega
        obtain ⟨g1, o1, ys1, e1, hg1, hyl1, hc1, ⟨u, rfl, -, hl⟩⟩ := Lst.at_ H1.out htT
        subst e1
        have hF : fieldsQ T V d.var = (T[t]).fields := by
          unfold fieldsQ
          rw [hi]
          simp [hiV, ht, htT]
        obtain ⟨F, hFF⟩ : ∃ F, (T[t]).fields = F := ⟨_, rfl⟩
        rw [hFF] at hF hl
        obtain ⟨A3, cap3, rfl⟩ := hl.form
        have hl3 := hl.len
        unfold maxLen at hl3
        obtain ⟨m3, hm3⟩ : ∃ k, F.length = k := ⟨_, rfl⟩
        rw [hm3] at hl hc1 hl3
        have k21 := hc2 1 _ rfl
        have k11 := hc1 1 _ rfl
        rw [ht] at k21
        have HRQ := hide (show R = if (m3 : Int) ≤ (j : Int) then (0, 6) else if d.op = 4 ∧ ((F.getD j default).kind ≠ d.val.q ∨ ¬ ((F.getD j default).kind = 0 ∨ d.kind = 4 ∨ d.kind = 5)) then (0, 9) else ((F.getD j default).kind, 0) by
          rw [← HRR.out]; unfold leafK; rw [if_neg h0, if_neg (by rw [HM2.out]; exact hvm), if_neg h23, hF, hm3, hj]; simp)
        have HL := hide hl
        have HM3 := hide hm3
        have a1 : (0 : Int) ≤ (i : Int) := by omega
        have a2 : (i : Int) < (m2 : Int) := by omega
        have a3 : (0 : Int) ≤ (t : Int) := by omega
        have a4 : (t : Int) < (m1 : Int) := by omega
        simp only [hi, hj] at x0 x1 y0 y1 y2 y3 y4 y5 y6 y7 tv HB H1 H2 HL k21 k11 ⊢
        clear h0 hvm h23 hc1 hc2 hyl1 hyl2 hty ht htT hF hFF hm3 hl HRR HRG hi
        have tn : decide (m2 ≤ i) = false := decide_eq_false (by omega)
        by_cases hf3 : m3 ≤ j
        · have tf : decide (m3 ≤ j) = true := decide_eq_true hf3
          have HQ := hide (show R = (0, 6) by rw [HRQ.out, if_pos (by omega)])
          rw [HQ.out]
          clear HRQ hf3
          go_enter Try.func36, Try.ntmps36
          go_wp2_with fail
          go_region
          go_wp2
          go_ret2
          exact Ret.mk rfl HB.out.drew
        · have tf : decide (m3 ≤ j) = false := decide_eq_false hf3
          have hjF : j < F.length := by rw [HM3.out]; omega
          obtain ⟨g3, o3, ys3, e3, hg3, hyl3, hc3, ⟨rfl, -⟩⟩ := Lst.at_ HL.out hjF
          subst e3
          have k31 := hc3 1 _ rfl
          obtain ⟨kk, hkk⟩ : ∃ k, (F[j]).kind = k := ⟨_, rfl⟩
          have HQ := hide (show R = if d.op = 4 ∧ (kk ≠ d.val.q ∨ ¬ (kk = 0 ∨ d.kind = 4 ∨ d.kind = 5)) then (0, 9) else (kk, 0) by
            rw [HRQ.out, if_neg (by omega), show F.getD j default = F[j] by simp [hjF], hkk])
          rw [hkk] at k31
          have a5 : (0 : Int) ≤ (j : Int) := by omega
          have a6 : (j : Int) < (m3 : Int) := by omega
          clear HRQ hf3 hc3 hyl3 hkk
          by_cases h4 : d.op = 4
          · have t4 : (d.op == 4) = true := by rw [beq_iff_eq]; exact h4
            by_cases hq : kk = d.val.q
            · have tq : (kk != d.val.q) = false := by rw [bne_eq_false_iff_eq]; exact hq
              have HS := hide (fun w => xsuits_any w d.kind ⟨kk, 0, ⟨#[]⟩⟩)
              simp only at HS
              have HQ2 := hide (show R = if ((kk == 0) || (d.kind == 4) || (d.kind == 5)) = true then (kk, 0) else (0, 9) by
                rw [HQ.out]
                by_cases hz : ((kk == 0) || (d.kind == 4) || (d.kind == 5)) = true
                · rw [if_pos hz, if_neg]
                  rintro ⟨-, h | h⟩
                  · exact h hq
                  · refine h ?_
                    simp only [Bool.or_eq_true, beq_iff_eq] at hz
                    omega
                · rw [if_neg hz]; refine if_pos ⟨h4, .inr ?_⟩
                  intro h
                  refine hz ?_
                  simp only [Bool.or_eq_true, beq_iff_eq] <;> omega)
              obtain ⟨z, hz⟩ : ∃ z, ((kk == 0) || (d.kind == 4) || (d.kind == 5)) = z := ⟨_, rfl⟩
              rw [hz] at HS HQ2
              clear HQ h4 hq hz
              cases z
              · have HQ3 := hide (show R = (0, 9) by rw [HQ2.out, if_neg (by simp)])
                rw [HQ3.out]
                clear HQ2
                go_enter Try.func36, Try.ntmps36
                go_wp2_with fail
                go_region
                go_wp2_with fail
                refine (HS.out _).mono ?_
                rintro e w3 ⟨rfl, hb⟩
                have HW := hide (bthen HB.out.drew hb)
                clear hb
                go_wp2
                go_ret2
                exact Ret.mk rfl HW.out
              · have HQ3 := hide (show R = (kk, 0) by rw [HQ2.out, if_pos rfl])
                rw [HQ3.out]
                clear HQ2
                go_enter Try.func36, Try.ntmps36
                go_wp2_with fail
                go_region
                go_wp2_with fail
                refine (HS.out _).mono ?_
                rintro e w3 ⟨rfl, hb⟩
                have HW := hide (bthen HB.out.drew hb)
                clear hb
                go_wp2
                go_ret2
                exact Ret.mk rfl HW.out
            · have tq : (kk != d.val.q) = true := by rw [bne_iff_ne]; exact hq
              have HQ2 := hide (show R = (0, 9) by rw [HQ.out, if_pos ⟨h4, .inl hq⟩])
              rw [HQ2.out]
              clear h4 hq HQ
              go_enter Try.func36, Try.ntmps36
              go_wp2_with fail
              go_region
              go_wp2
              go_ret2
              exact Ret.mk rfl HB.out.drew
          · have t4 : (d.op == 4) = false := by rw [beq_eq_false_iff_ne]; exact h4
            have HQ2 := hide (show R = (kk, 0) by rw [HQ.out, if_neg (fun h => h4 h.1)])
            rw [HQ2.out]
            clear h4 HQ
            go_enter Try.func36, Try.ntmps36
            go_wp2_with fail
            go_region
            go_wp2
            go_ret2
            exact Ret.mk rfl HB.out.drew
end
end Go.Proofs.Ytkcbjnhphekadaa
