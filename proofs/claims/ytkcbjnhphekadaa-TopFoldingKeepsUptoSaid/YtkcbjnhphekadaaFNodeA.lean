/- What a node by itself is checked for. What the value of a node is checked for. A node by itself. visit with node, and Check, of expressions. -/
import Derived.Test.YtkcbjnhphekadaaFTreeA
import Derived.Deep.Cut
import Derived.Deep.CutRange
namespace Go.Proofs.Ytkcbjnhphekadaa
open Go.RowKit
set_option linter.unusedVariables false
set_option linter.unusedSimpArgs false
def arA (op : Int) : Int := if op < 0 ∨ 12 < op then 0 else (arQ op : Int)
def okA (op : Int) : Bool := decide (0 ≤ op) && decide (op ≤ 12)
section
variable (w : World)
set_option maxHeartbeats 1000000 in
theorem xarity_any (op : Int) : Calls Try.prog 50 #[.int .i64 op] w (Ret (.tuple #[.int .i64 (arA op), .bool (okA op)]) w) := by
  by_cases h1 : op < 0
  · have t1 : decide (op < 0) = true := decide_eq_true h1
    have e1 : arA op = 0 := if_pos (.inl h1)
    have e2 : okA op = false := by unfold okA; rw [decide_eq_false (by omega)]; rfl
    rw [e1, e2]
    go_enter Try.func50, Try.ntmps50
    go_wp2
    go_ret2
    exact ⟨by simp [e1], Below.refl _ _⟩
  have t1 : decide (op < 0) = false := decide_eq_false h1
  by_cases h2 : 12 < op
  · have t2 : decide (12 < op) = true := decide_eq_true h2
    have e1 : arA op = 0 := if_pos (.inr h2)
    have e2 : okA op = false := by unfold okA; rw [decide_eq_false (p := op ≤ 12) (by omega), Bool.and_false]
    rw [e1, e2]
    go_enter Try.func50, Try.ntmps50
    go_wp2
    go_ret2
    exact ⟨by simp [e1], Below.refl _ _⟩
  have t2 : decide (12 < op) = false := decide_eq_false h2
  have e2 : okA op = true := by unfold okA; rw [decide_eq_true (by omega), decide_eq_true (by omega)]; rfl
  have e0 : arA op = (arQ op : Int) := if_neg (by omega)
  rw [e2, e0]
  unfold arQ
  by_cases h3 : op < 5
  · have t3 : decide (op < 5) = true := decide_eq_true h3
    rw [if_pos h3]
    go_enter Try.func50, Try.ntmps50
    go_wp2
    go_ret2
    exact ⟨by simp [e0], Below.refl _ _⟩
  have t3 : decide (op < 5) = false := decide_eq_false h3
  rw [if_neg h3]
  by_cases h4 : op = 12
  · have t4 : (op == 12) = true := by rw [beq_iff_eq]; exact h4
    rw [if_pos h4]
    clear h4 e0
    go_enter Try.func50, Try.ntmps50
    go_wp2
    go_ret2
    exact ⟨by simp [e2], Below.refl _ _⟩
  · have t4 : (op == 12) = false := by rw [beq_eq_false_iff_ne]; exact h4
    rw [if_neg h4]
    go_enter Try.func50, Try.ntmps50
    go_wp2
    go_ret2
    exact ⟨by simp [e2], Below.refl _ _⟩
set_option maxHeartbeats 1000000 in
theorem xuses_any (op : Int) : Calls Try.prog 51 #[.int .i64 op] w (Ret (.tuple #[.bool (usesV op), .bool (usesF op)]) w) := by
  have hv : usesV op = ((op == 1) || (op == 2) || (op == 3) || (op == 4)) := rfl
  have hf : usesF op = ((op == 1) || (op == 4)) := rfl
  rw [hv, hf]
  clear hv hf
  cases t1 : (op == 1) <;> cases t2 : (op == 2) <;> cases t3 : (op == 3) <;> cases t4 : (op == 4)
  all_goals first | (exfalso; simp only [beq_iff_eq] at *; omega) | skip
  all_goals
    go_enter Try.func51, Try.ntmps51
    go_wp2
    go_ret2
    exact ⟨by simp [t1], Below.refl _ _⟩
set_option maxHeartbeats 1000000 in
theorem xsuits_any (k : Int) (x : V3) : Calls Try.prog 59 #[.int .i64 k, .agg #[.int .i64 x.q, .int .i64 x.n, .string x.s]] w (Ret (.bool ((x.q == 0) || (k == 4) || (k == 5))) w) := by
  cases t1 : (x.q == 0) <;> cases t2 : (k == 4) <;> cases t3 : (k == 5)
  all_goals
    go_enter Try.func59, Try.ntmps59
    go_wp2
    go_ret
    exact Ret.bool rfl (below_laid _)
end
end Go.Proofs.Ytkcbjnhphekadaa

namespace Go.Proofs.Ytkcbjnhphekadaa
open Go.RowKit
set_option linter.unusedVariables false
set_option linter.unusedSimpArgs false
section
variable (w : World)
set_option maxRecDepth 100000 in
set_option maxHeartbeats 4000000 in
theorem xconst_any (d : Nd) (A : Option Addr) (n cap : Nat) (hs : d.val.s.size ≤ maxLen) : Calls Try.prog 52 #[.agg #[.int .i64 d.op, .slice A n cap, .int .i64 d.var, .int .i64 d.field, .int .i64 d.kind, .int .i64 d.val.q, .int .i64 d.val.n, .string d.val.s]] w (Ret (.int .i64 (constE d)) w) := by
  have HC := hide (fun w => check_any d.val.q d.val.n d.val.s w hs)
  have HS := hide (fun w => xsuits_any w d.kind d.val)
  obtain ⟨E, hE⟩ : ∃ E, checkC d.val.q d.val.n d.val.s.size = E := ⟨_, rfl⟩
  have hF : constE d = if E ≠ 0 then E else if d.op = 4 ∧ (¬ (d.val.q = 0 ∨ d.kind = 4 ∨ d.kind = 5) ∨ (d.kind = 1 ∧ zQ d.val = false)) then 9 else 0 := by unfold constE; rw [hE]
  obtain ⟨R, hR⟩ : ∃ R, constE d = R := ⟨_, rfl⟩
  rw [hR] at hF ⊢
  have HF := hide hF
  rw [hE] at HC
  clear hF hR hE hs
  go_enter Try.func52, Try.ntmps52
  go_wp2_with fail
  refine (HC.out _).mono ?_
  rintro e w1 ⟨rfl, hb⟩
  have HW := hide (bthen (below_laid _) hb)
  obtain ⟨-, hz1, hx⟩ := step_box [.int .i64 d.op, .slice A n cap, .int .i64 d.var, .int .i64 d.field, .int .i64 d.kind, .int .i64 d.val.q, .int .i64 d.val.n, .string d.val.s] hb
  have HX := hide hx
  clear hb hx hz1
  by_cases h0 : E = 0
  · have t0 : (E != 0) = false := by rw [bne_eq_false_iff_eq]; exact h0
    have a0 := HX.out 0 _ rfl
    have a4 := HX.out 4 _ rfl
    have a5 := HX.out 5 _ rfl
    have a6 := HX.out 6 _ rfl
    have a7 := HX.out 7 _ rfl
    by_cases h4 : d.op = 4
    · have t4 : (d.op == 4) = true := by rw [beq_iff_eq]; exact h4
      clear HC
      go_wp2_with fail
      refine (HS.out _).mono ?_
      rintro e w2 ⟨rfl, hb⟩
      have HW2 := hide (bthen HW.out hb)
      have b4 := keep1 hb a4
      have b5 := keep1 hb a5
      have b6 := keep1 hb a6
      have b7 := keep1 hb a7
      clear a0 a4 a5 a6 a7 hb HS
      cases hsu : ((d.val.q == 0) || (d.kind == 4) || (d.kind == 5))
      · have hn : ¬ (d.val.q = 0 ∨ d.kind = 4 ∨ d.kind = 5) := by
          simp only [Bool.or_eq_false_iff, beq_eq_false_iff_ne] at hsu
          obtain ⟨⟨h1, h2⟩, h3⟩ := hsu
          rintro (h | h | h)
          · exact h1 h
          · exact h2 h
          · exact h3 h
        have HR : Hid (R = 9) := hide (by rw [HF.out, if_neg (by omega), if_pos ⟨h4, .inl hn⟩])
        clear hn
        go_wp2
        go_ret
        exact Ret.int (by rw [HR.out]) HW2.out
      · by_cases h1 : d.kind = 1
        · have t1 : (d.kind == 1) = true := by rw [beq_iff_eq]; exact h1
          have hs : (d.val.s.toList = []) ↔ (d.val.s.size = 0) := by rw [← List.isEmpty_iff, isEmpty_size]; simp
          have HS9 := hide hs
          have HR : Hid (R = if zQ d.val = false then 9 else 0) := hide (by
            rw [HF.out, if_neg (by omega)]
            by_cases hz : zQ d.val = false
            · rw [if_pos hz, if_pos ⟨h4, .inr ⟨h1, hz⟩⟩]
            · rw [if_neg hz, if_neg]
              rintro ⟨-, h | h⟩
              · refine h ?_
                simp only [Bool.or_eq_true, beq_iff_eq] at hsu
                omega
              · exact hz h.2)
          clear hs
          go_wp2
          all_goals
            go_ret
            refine Ret.int ?_ HW2.out
            rw [HR.out]
            have hs := HS9.out
            clear HS9 HR HF
            simp_all [zQ]
        · have t1 : (d.kind == 1) = false := by rw [beq_eq_false_iff_ne]; exact h1
          have HR : Hid (R = 0) := hide (by
            rw [HF.out, if_neg (by omega), if_neg]
            rintro ⟨-, h | h⟩
            · refine h ?_
              simp only [Bool.or_eq_true, beq_iff_eq] at hsu
              omega
            · exact h1 h.1)
          go_wp2
          go_ret
          exact Ret.int (by rw [HR.out]) HW2.out
    · have t4 : (d.op == 4) = false := by rw [beq_eq_false_iff_ne]; exact h4
      have HR : Hid (R = 0) := hide (by rw [HF.out, if_neg (by omega), if_neg (fun h => h4 h.1)])
      go_wp2
      go_ret
      exact Ret.int (by rw [HR.out]) HW.out
  · have t0 : (E != 0) = true := by rw [bne_iff_ne]; exact h0
    have HR : Hid (R = E) := hide (by rw [HF.out, if_pos h0])
    go_wp2
    go_ret
    exact Ret.int (by rw [HR.out]) HW.out
end
end Go.Proofs.Ytkcbjnhphekadaa

namespace Go.Proofs.Ytkcbjnhphekadaa
open Go.RowKit
set_option linter.unusedVariables false
set_option linter.unusedSimpArgs false
theorem nodeE_ok {mv mf : Int} {d : Nd} {n : Nat} (h1 : okA d.op = true) (h2 : n = arQ d.op) : nodeE mv mf d n =
  if (usesV d.op = true ∧ (d.var < 0 ∨ mv ≤ d.var)) ∨ (usesF d.op = true ∧ (d.field < 0 ∨ mf ≤ d.field)) then 2
  else if d.op = 4 ∧ (d.kind < 1 ∨ 5 < d.kind) then 1
  else if (d.op = 4 ∨ d.op = 0) ∧ constE d ≠ 0 then constE d
  else if (usesV d.op = false ∧ d.var ≠ 0) ∨ (usesF d.op = false ∧ d.field ≠ 0) ∨ (d.op ≠ 4 ∧ d.kind ≠ 0) ∨ (¬ (d.op = 4 ∨ d.op = 0) ∧ zQ d.val = false) then 3 else 0 := by
  unfold okA at h1
  simp only [Bool.and_eq_true, decide_eq_true_eq] at h1
  unfold nodeE
  rw [if_neg (by omega), if_neg (by omega)]
def rgB (d : Nd) : Bool := (usesV d.op && (decide (d.var < 0) || decide (16 ≤ d.var))) || (usesF d.op && (decide (d.field < 0) || decide (8 ≤ d.field)))
def fmB (d : Nd) : Bool := (!usesV d.op && !decide (d.var = 0)) || (!usesF d.op && !decide (d.field = 0)) || (!decide (d.op = 4) && !decide (d.kind = 0)) || (!(decide (d.op = 4) || decide (d.op = 0)) && !zQ d.val)
theorem node_rg {d : Nd} : ((usesV d.op = true ∧ (d.var < 0 ∨ 16 ≤ d.var)) ∨ (usesF d.op = true ∧ (d.field < 0 ∨ 8 ≤ d.field))) ↔ rgB d = true := by
  unfold rgB; simp
theorem node_fm {d : Nd} : ((usesV d.op = false ∧ d.var ≠ 0) ∨ (usesF d.op = false ∧ d.field ≠ 0) ∨ (d.op ≠ 4 ∧ d.kind ≠ 0) ∨ (¬ (d.op = 4 ∨ d.op = 0) ∧ zQ d.val = false)) ↔ fmB d = true := by
  unfold fmB; simp [or_assoc]
theorem zq_q {x : V3} (h : (x.q == 0) = false) : (!zQ x) = true := by
  have : x.q ≠ 0 := by simpa using h
  simp [zQ, this]
theorem zq_n {x : V3} (h : (x.n == 0) = false) : (!zQ x) = true := by
  have : x.n ≠ 0 := by simpa using h
  simp [zQ, this]
theorem zq_t {x : V3} (h : ¬ x.s.size = 0) : (!zQ x) = true := by simp [zQ, h]
theorem zq_s {x : V3} (h : (x.q == 0) = true) (h' : (x.n == 0) = true) (hs : x.s.size = 0) : false = (!zQ x) := by
  have h1 : x.q = 0 := by simpa using h
  have h2 : x.n = 0 := by simpa using h'
  simp [zQ, h1, h2, hs]
theorem form4 {d : Nd} {bV bF fm : Bool} (h : d.op = 4) (hV : usesV d.op = bV) (hF : usesF d.op = bF) (hm : fmB d = fm) : bV = true ∧ bF = true ∧ fm = false := by
  obtain ⟨op, var, field, kind, val⟩ := d
  simp only at h
  subst h
  refine ⟨hV.symm, hF.symm, ?_⟩
  rw [← hm]
  simp [fmB, usesV, usesF]
theorem form0 {d : Nd} {bV bF fm : Bool} (h : d.op = 0) (hV : usesV d.op = bV) (hF : usesF d.op = bF) (hm : fmB d = fm) : bV = false ∧ bF = false ∧ fm = ((d.var != 0) || (d.field != 0) || (d.kind != 0)) := by
  obtain ⟨op, var, field, kind, val⟩ := d
  simp only at h
  subst h
  refine ⟨hV.symm, hF.symm, ?_⟩
  rw [← hm]
  simp only [fmB, usesV, usesF]
  cases h1 : decide (var = 0) <;> cases h2 : decide (field = 0) <;> cases h3 : decide (kind = 0) <;> simp_all
theorem formE {d : Nd} {bV bF : Bool} (h4 : ¬ d.op = 4) (h0 : ¬ d.op = 0) (hV : usesV d.op = bV) (hF : usesF d.op = bF) : fmB d = ((!bV && (d.var != 0)) || (!bF && (d.field != 0)) || (d.kind != 0) || !zQ d.val) := by
  unfold fmB
  rw [hV, hF]
  have hb : ∀ a : Int, (a != 0) = !decide (a = 0) := fun a => by by_cases h : a = 0 <;> simp [h]
  rw [hb, hb, hb]
  simp [h4, h0]
section
variable (w : World)
set_option maxRecDepth 100000 in
set_option maxHeartbeats 8000000 in
theorem xnode_any (d : Nd) (A : Option Addr) (n cap : Nat) (hs : d.val.s.size ≤ maxLen) (hn : n ≤ maxLen) : Calls Try.prog 25 #[.agg ([.int .i64 d.op, .slice A n cap, .int .i64 d.var, .int .i64 d.field, .int .i64 d.kind, .int .i64 d.val.q, .int .i64 d.val.n, .string d.val.s]).toArray] w (Ret (.int .i64 (nodeE 16 8 d n)) w) := by
  unfold maxLen at hn
  have HC := hide (fun w => xconst_any w d A n cap hs)
  have HA := hide (fun w => xarity_any w d.op)
  have HU := hide (fun w => xuses_any w d.op)
  have hsz : (d.val.s.toList = []) ↔ (d.val.s.size = 0) := by rw [← List.isEmpty_iff, isEmpty_size]; simp
  have HSZ := hide hsz
  clear hs hsz
  by_cases ho : okA d.op = true
  · have ha : arA d.op = (arQ d.op : Int) := by
      unfold okA at ho
      simp only [Bool.and_eq_true, decide_eq_true_eq] at ho
      exact if_neg (by omega)
    rw [ho, ha] at HA
    by_cases hl : n = arQ d.op
    · have HR := hide (nodeE_ok (mv := 16) (mf := 8) ho hl)
      obtain ⟨R, hR⟩ : ∃ R, nodeE 16 8 d n = R := ⟨_, rfl⟩
      obtain ⟨ar, har⟩ : ∃ a, arQ d.op = a := ⟨_, rfl⟩
      rw [har] at HA hl
      rw [hR] at HR ⊢
      subst hl
      have t1 : ((n : Int) != (n : Int)) = false := by simp
      clear hR har ho ha
      obtain ⟨E, hE⟩ : ∃ E, constE d = E := ⟨_, rfl⟩
      rw [hE] at HC HR
      clear hE
      go_enter Try.func25, Try.ntmps25
      go_wp2_with fail
      refine (HA.out _).mono ?_
      rintro e w1 ⟨rfl, hb⟩
      obtain ⟨-, -, hx⟩ := step_box ([.int .i64 d.op, .slice A n cap, .int .i64 d.var, .int .i64 d.field, .int .i64 d.kind, .int .i64 d.val.q, .int .i64 d.val.n, .string d.val.s]) hb
      have HW := hide (bthen (below_laid _) hb)
      have HX := hide hx
      have a0 := hx 0 _ rfl
      have a1 := hx 1 _ rfl
      clear hb hx HA
      go_wp2_with fail
      refine (HU.out _).mono ?_
      rintro e w2 ⟨rfl, hb⟩
      have HW2 := hide (bthen HW.out hb)
      have HX2 := hide (fun c u h => keep1 hb (HX.out c u h))
      clear hb HU HX HW a0 a1
      have a0 := HX2.out 0 _ rfl
      have a1 := HX2.out 1 _ rfl
      have a2 := HX2.out 2 _ rfl
      have a3 := HX2.out 3 _ rfl
      have a4 := HX2.out 4 _ rfl
      have a5 := HX2.out 5 _ rfl
      have a6 := HX2.out 6 _ rfl
      have a7 := HX2.out 7 _ rfl
      obtain ⟨rg, hrg⟩ : ∃ b, rgB d = b := ⟨_, rfl⟩
      have HRG := hide hrg
      have HR2 := HR.out
      simp only [node_rg, node_fm] at HR2
      rw [hrg] at HR2
      replace HR := hide HR2
      clear HR2 hrg
      obtain ⟨bV, hV⟩ : ∃ b, usesV d.op = b := ⟨_, rfl⟩
      obtain ⟨bF, hF⟩ : ∃ b, usesF d.op = b := ⟨_, rfl⟩
      rw [hV, hF]
      have HV := hide hV
      have HF := hide hF
      clear hV hF
      go_upto_region 7 with (fail)
      go_cut [52] from 29 to 52 (fun p wx => p = .bool rg ∧ wx = w2)
      case first =>
        have h9 := HRG.out
        unfold rgB at h9
        clear HR HC HSZ HRG
        rw [HV.out, HF.out] at h9
        clear HV HF
        have H9 := hide h9
        clear h9
        cases bV <;> cases bF
        all_goals go_wp2
        all_goals
          go_meet
          have h9 := H9.out
          clear H9
          refine ⟨?_, rfl⟩
          simp_all
      case rest =>
        obtain ⟨rfl, hw9⟩ := hcut
        subst hw9
        obtain ⟨fm, hfm⟩ : ∃ b, fmB d = b := ⟨_, rfl⟩
        have HFM := hide hfm
        have HR2 := HR.out
        rw [hfm] at HR2
        replace HR := hide HR2
        clear HR2 hfm
        cases rg
        case true =>
          have HR3 : Hid (R = 2) := hide (by have h := HR.out; simpa using h)
          go_wp2
          go_ret
          exact Ret.int (by rw [HR3.out]) HW2.out
        case false =>
          by_cases h4 : d.op = 4
          · have t4 : (d.op == (4:Int)) = true := by simp [h4]
            have H4 := hide h4
            clear h4
            by_cases hk : d.kind < 1 ∨ 5 < d.kind
            · have HR3 : Hid (R = 1) := hide (by have h := HR.out; simpa [H4.out, hk] using h)
              clear HR HFM HRG HC
              go_upto_region 10 with (fail)
              go_cut [66] from 56 to 66 (fun p wx => p = .bool true ∧ wx = wc)
              case first =>
                go_wp2
                all_goals
                  go_meet
                  refine ⟨?_, rfl⟩
                  simp_all
                all_goals omega
              case rest =>
                obtain ⟨rfl, hw8⟩ := hcut
                subst hw8
                go_wp2
                go_ret
                exact Ret.int (by rw [HR3.out]) HW2.out
            · have k1 : decide (d.kind < 1) = false := by simp; omega
              have k2 : decide (5 < d.kind) = false := by simp; omega
              go_wp2_with fail
              refine (HC.out _).mono ?_
              rintro e w3 ⟨rfl, hb⟩
              have HW3 := hide (bthen HW2.out hb)
              have HX3 := hide (fun c u h => keep1 hb (HX2.out c u h))
              clear hb HX2 a0 a1 a2 a3 a4 a5 a6 a7
              have a0 := HX3.out 0 _ rfl
              have a1 := HX3.out 1 _ rfl
              have a2 := HX3.out 2 _ rfl
              have a3 := HX3.out 3 _ rfl
              have a4 := HX3.out 4 _ rfl
              have a5 := HX3.out 5 _ rfl
              have a6 := HX3.out 6 _ rfl
              have a7 := HX3.out 7 _ rfl
              by_cases hE : E = 0
              · have tE : (E != 0) = false := by simp [hE]
                clear HRG
                go_upto_region 17 with (fail)
                go_cut [113] from 79 to 113 (fun p wx => p = .bool fm ∧ wx = w3)
                case first =>
                  obtain ⟨rfl, rfl, rfl⟩ := form4 H4.out HV.out HF.out HFM.out
                  clear HR HC HFM HV HF HSZ
                  go_wp2
                  all_goals
                    go_meet
                    exact ⟨rfl, rfl⟩
                case rest =>
                  obtain ⟨rfl, hw8⟩ := hcut
                  subst hw8
                  cases fm
                  · have HR3 : Hid (R = 0) := hide (by have h := HR.out; simpa [H4.out, hk, hE] using h)
                    go_wp2
                    go_ret
                    exact Ret.int (by rw [HR3.out]) HW3.out
                  · have HR3 : Hid (R = 3) := hide (by have h := HR.out; simpa [H4.out, hk, hE] using h)
                    go_wp2
                    go_ret
                    exact Ret.int (by rw [HR3.out]) HW3.out
              · have tE : (E != 0) = true := by simp [hE]
                have HR3 : Hid (R = E) := hide (by have h := HR.out; simpa [H4.out, hk, hE] using h)
                go_wp2
                go_ret
                exact Ret.int (by rw [HR3.out]) HW3.out
          · have t4 : (d.op == (4:Int)) = false := by simp [h4]
            have H4 := hide h4
            clear h4
            by_cases h0 : d.op = 0
            · have t0 : (d.op == (0:Int)) = true := by simp [h0]
              have H0 := hide h0
              clear h0
              go_wp2_with fail
              refine (HC.out _).mono ?_
              rintro e w3 ⟨rfl, hb⟩
              have HW3 := hide (bthen HW2.out hb)
              have HX3 := hide (fun c u h => keep1 hb (HX2.out c u h))
              clear hb HX2 a0 a1 a2 a3 a4 a5 a6 a7
              have a0 := HX3.out 0 _ rfl
              have a1 := HX3.out 1 _ rfl
              have a2 := HX3.out 2 _ rfl
              have a3 := HX3.out 3 _ rfl
              have a4 := HX3.out 4 _ rfl
              have a5 := HX3.out 5 _ rfl
              have a6 := HX3.out 6 _ rfl
              have a7 := HX3.out 7 _ rfl
              by_cases hE : E = 0
              · have tE : (E != 0) = false := by simp [hE]
                clear HRG
                go_upto_region 17 with (fail)
                go_cut [113] from 79 to 113 (fun p wx => p = .bool fm ∧ wx = w3)
                case first =>
                  obtain ⟨rfl, rfl, H9⟩ := form0 H0.out HV.out HF.out HFM.out
                  clear HR HC HFM HV HF HSZ
                  cases v0 : (d.var != 0) <;> cases f0 : (d.field != 0) <;> cases k0 : (d.kind != 0)
                  all_goals
                    rw [v0, f0, k0] at H9
                    go_wp2
                    go_meet
                    exact ⟨by rw [H9]; rfl, rfl⟩
                case rest =>
                  obtain ⟨rfl, hw8⟩ := hcut
                  subst hw8
                  cases fm
                  · have HR3 : Hid (R = 0) := hide (by have h := HR.out; simpa [H0.out, H4.out, hE] using h)
                    go_wp2
                    go_ret
                    exact Ret.int (by rw [HR3.out]) HW3.out
                  · have HR3 : Hid (R = 3) := hide (by have h := HR.out; simpa [H0.out, H4.out, hE] using h)
                    go_wp2
                    go_ret
                    exact Ret.int (by rw [HR3.out]) HW3.out
              · have tE : (E != 0) = true := by simp [hE]
                have HR3 : Hid (R = E) := hide (by have h := HR.out; simpa [H0.out, H4.out, hE] using h)
                go_wp2
                go_ret
                exact Ret.int (by rw [HR3.out]) HW3.out
            · have t0 : (d.op == (0:Int)) = false := by simp [h0]
              have H0 := hide h0
              clear h0
              clear HRG
              go_upto_region 17 with (fail)
              go_cut [113] from 79 to 113 (fun p wx => p = .bool fm ∧ wx = wc)
              case first =>
                have h9 := HFM.out
                rw [formE H4.out H0.out HV.out HF.out] at h9
                have H9 := hide h9
                clear HR HC HFM HV HF h9
                cases bV
                case false =>
                  cases v0 : (d.var != 0)
                  case true =>
                    go_wp2
                    all_goals
                      go_meet
                      refine ⟨?_, rfl⟩
                      have h9 := H9.out
                      clear H9
                      rw [← h9]
                      congr 1
                      (try simp only [*, Bool.not_true, Bool.not_false, Bool.false_and, Bool.true_and, Bool.and_false, Bool.and_true, Bool.true_or, Bool.or_true, Bool.false_or, Bool.or_false])
                    all_goals have hsz := HSZ.out
                    all_goals first | done | exact (zq_q q0).symm | exact (zq_n n0).symm | exact zq_s q0 n0 (hsz.1 (by assumption)) | exact (zq_t fun h => (by assumption : ¬ _) (hsz.2 h)).symm
                  case false =>
                    cases bF
                    case true =>
                      cases k0 : (d.kind != 0)
                      case true =>
                        go_wp2
                        all_goals
                          go_meet
                          refine ⟨?_, rfl⟩
                          have h9 := H9.out
                          clear H9
                          rw [← h9]
                          congr 1
                          (try simp only [*, Bool.not_true, Bool.not_false, Bool.false_and, Bool.true_and, Bool.and_false, Bool.and_true, Bool.true_or, Bool.or_true, Bool.false_or, Bool.or_false])
                        all_goals have hsz := HSZ.out
                        all_goals first | done | exact (zq_q q0).symm | exact (zq_n n0).symm | exact zq_s q0 n0 (hsz.1 (by assumption)) | exact (zq_t fun h => (by assumption : ¬ _) (hsz.2 h)).symm
                      case false =>
                        cases q0 : (d.val.q == 0) <;> cases n0 : (d.val.n == 0)
                        all_goals
                          go_wp2
                          all_goals
                            go_meet
                            refine ⟨?_, rfl⟩
                            have h9 := H9.out
                            clear H9
                            rw [← h9]
                            congr 1
                            (try simp only [*, Bool.not_true, Bool.not_false, Bool.false_and, Bool.true_and, Bool.and_false, Bool.and_true, Bool.true_or, Bool.or_true, Bool.false_or, Bool.or_false])
                          all_goals have hsz := HSZ.out
                          all_goals first | done | exact (zq_q q0).symm | exact (zq_n n0).symm | exact zq_s q0 n0 (hsz.1 (by assumption)) | exact (zq_t fun h => (by assumption : ¬ _) (hsz.2 h)).symm
                    case false =>
                      cases f0 : (d.field != 0)
                      case true =>
                        go_wp2
                        all_goals
                          go_meet
                          refine ⟨?_, rfl⟩
                          have h9 := H9.out
                          clear H9
                          rw [← h9]
                          congr 1
                          (try simp only [*, Bool.not_true, Bool.not_false, Bool.false_and, Bool.true_and, Bool.and_false, Bool.and_true, Bool.true_or, Bool.or_true, Bool.false_or, Bool.or_false])
                        all_goals have hsz := HSZ.out
                        all_goals first | done | exact (zq_q q0).symm | exact (zq_n n0).symm | exact zq_s q0 n0 (hsz.1 (by assumption)) | exact (zq_t fun h => (by assumption : ¬ _) (hsz.2 h)).symm
                      case false =>
                        cases k0 : (d.kind != 0)
                        case true =>
                          go_wp2
                          all_goals
                            go_meet
                            refine ⟨?_, rfl⟩
                            have h9 := H9.out
                            clear H9
                            rw [← h9]
                            congr 1
                            (try simp only [*, Bool.not_true, Bool.not_false, Bool.false_and, Bool.true_and, Bool.and_false, Bool.and_true, Bool.true_or, Bool.or_true, Bool.false_or, Bool.or_false])
                          all_goals have hsz := HSZ.out
                          all_goals first | done | exact (zq_q q0).symm | exact (zq_n n0).symm | exact zq_s q0 n0 (hsz.1 (by assumption)) | exact (zq_t fun h => (by assumption : ¬ _) (hsz.2 h)).symm
                        case false =>
                          cases q0 : (d.val.q == 0) <;> cases n0 : (d.val.n == 0)
                          all_goals
                            go_wp2
                            all_goals
                              go_meet
                              refine ⟨?_, rfl⟩
                              have h9 := H9.out
                              clear H9
                              rw [← h9]
                              congr 1
                              (try simp only [*, Bool.not_true, Bool.not_false, Bool.false_and, Bool.true_and, Bool.and_false, Bool.and_true, Bool.true_or, Bool.or_true, Bool.false_or, Bool.or_false])
                            all_goals have hsz := HSZ.out
                            all_goals first | done | exact (zq_q q0).symm | exact (zq_n n0).symm | exact zq_s q0 n0 (hsz.1 (by assumption)) | exact (zq_t fun h => (by assumption : ¬ _) (hsz.2 h)).symm
                case true =>
                  cases bF
                  case true =>
                    cases k0 : (d.kind != 0)
                    case true =>
                      go_wp2
                      all_goals
                        go_meet
                        refine ⟨?_, rfl⟩
                        have h9 := H9.out
                        clear H9
                        rw [← h9]
                        congr 1
                        (try simp only [*, Bool.not_true, Bool.not_false, Bool.false_and, Bool.true_and, Bool.and_false, Bool.and_true, Bool.true_or, Bool.or_true, Bool.false_or, Bool.or_false])
                      all_goals have hsz := HSZ.out
                      all_goals first | done | exact (zq_q q0).symm | exact (zq_n n0).symm | exact zq_s q0 n0 (hsz.1 (by assumption)) | exact (zq_t fun h => (by assumption : ¬ _) (hsz.2 h)).symm
                    case false =>
                      cases q0 : (d.val.q == 0) <;> cases n0 : (d.val.n == 0)
                      all_goals
                        go_wp2
                        all_goals
                          go_meet
                          refine ⟨?_, rfl⟩
                          have h9 := H9.out
                          clear H9
                          rw [← h9]
                          congr 1
                          (try simp only [*, Bool.not_true, Bool.not_false, Bool.false_and, Bool.true_and, Bool.and_false, Bool.and_true, Bool.true_or, Bool.or_true, Bool.false_or, Bool.or_false])
                        all_goals have hsz := HSZ.out
                        all_goals first | done | exact (zq_q q0).symm | exact (zq_n n0).symm | exact zq_s q0 n0 (hsz.1 (by assumption)) | exact (zq_t fun h => (by assumption : ¬ _) (hsz.2 h)).symm
                  case false =>
                    cases f0 : (d.field != 0)
                    case true =>
                      go_wp2
                      all_goals
                        go_meet
                        refine ⟨?_, rfl⟩
                        have h9 := H9.out
                        clear H9
                        rw [← h9]
                        congr 1
                        (try simp only [*, Bool.not_true, Bool.not_false, Bool.false_and, Bool.true_and, Bool.and_false, Bool.and_true, Bool.true_or, Bool.or_true, Bool.false_or, Bool.or_false])
                      all_goals have hsz := HSZ.out
                      all_goals first | done | exact (zq_q q0).symm | exact (zq_n n0).symm | exact zq_s q0 n0 (hsz.1 (by assumption)) | exact (zq_t fun h => (by assumption : ¬ _) (hsz.2 h)).symm
                    case false =>
                      cases k0 : (d.kind != 0)
                      case true =>
                        go_wp2
                        all_goals
                          go_meet
                          refine ⟨?_, rfl⟩
                          have h9 := H9.out
                          clear H9
                          rw [← h9]
                          congr 1
                          (try simp only [*, Bool.not_true, Bool.not_false, Bool.false_and, Bool.true_and, Bool.and_false, Bool.and_true, Bool.true_or, Bool.or_true, Bool.false_or, Bool.or_false])
                        all_goals have hsz := HSZ.out
                        all_goals first | done | exact (zq_q q0).symm | exact (zq_n n0).symm | exact zq_s q0 n0 (hsz.1 (by assumption)) | exact (zq_t fun h => (by assumption : ¬ _) (hsz.2 h)).symm
                      case false =>
                        cases q0 : (d.val.q == 0) <;> cases n0 : (d.val.n == 0)
                        all_goals
                          go_wp2
                          all_goals
                            go_meet
                            refine ⟨?_, rfl⟩
                            have h9 := H9.out
                            clear H9
                            rw [← h9]
                            congr 1
                            (try simp only [*, Bool.not_true, Bool.not_false, Bool.false_and, Bool.true_and, Bool.and_false, Bool.and_true, Bool.true_or, Bool.or_true, Bool.false_or, Bool.or_false])
                          all_goals have hsz := HSZ.out
                          all_goals first | done | exact (zq_q q0).symm | exact (zq_n n0).symm | exact zq_s q0 n0 (hsz.1 (by assumption)) | exact (zq_t fun h => (by assumption : ¬ _) (hsz.2 h)).symm
              case rest =>
                obtain ⟨rfl, hw8⟩ := hcut
                subst hw8
                cases fm
                · have HR3 : Hid (R = 0) := hide (by have h := HR.out; simpa [H4.out, H0.out] using h)
                  go_wp2
                  go_ret
                  exact Ret.int (by rw [HR3.out]) HW2.out
                · have HR3 : Hid (R = 3) := hide (by have h := HR.out; simpa [H4.out, H0.out] using h)
                  go_wp2
                  go_ret
                  exact Ret.int (by rw [HR3.out]) HW2.out
    · have HR : Hid (nodeE 16 8 d n = 15) := hide (by
        unfold okA at ho
        simp only [Bool.and_eq_true, decide_eq_true_eq] at ho
        unfold nodeE
        rw [if_neg (by omega), if_pos hl])
      rw [HR.out]
      obtain ⟨ar, har⟩ : ∃ a, arQ d.op = a := ⟨_, rfl⟩
      rw [har] at HA hl
      have t1 : ((n : Int) != (ar : Int)) = true := by rw [bne_iff_ne]; omega
      clear har
      go_enter Try.func25, Try.ntmps25
      go_wp2_with fail
      refine (HA.out _).mono ?_
      rintro e w1 ⟨rfl, hb⟩
      obtain ⟨-, -, hx⟩ := step_box ([.int .i64 d.op, .slice A n cap, .int .i64 d.var, .int .i64 d.field, .int .i64 d.kind, .int .i64 d.val.q, .int .i64 d.val.n, .string d.val.s]) hb
      have HW := hide (bthen (below_laid _) hb)
      have a1 := hx 1 _ rfl
      clear hb hx
      go_wp2
      go_ret
      exact Ret.int rfl HW.out
  · have ho' : okA d.op = false := by cases h : okA d.op <;> simp_all
    have HR : Hid (nodeE 16 8 d n = 1) := hide (by
      unfold nodeE
      rw [if_pos]
      unfold okA at ho
      simp only [Bool.and_eq_true, decide_eq_true_eq] at ho
      omega)
    rw [HR.out]
    rw [ho'] at HA
    go_enter Try.func25, Try.ntmps25
    go_wp2_with fail
    refine (HA.out _).mono ?_
    rintro e w1 ⟨rfl, hb⟩
    have HW := hide (bthen (below_laid _) hb)
    clear hb
    go_wp2
    go_ret
    exact Ret.int rfl HW.out
end
end Go.Proofs.Ytkcbjnhphekadaa

namespace Go.Proofs.Ytkcbjnhphekadaa
open Go.RowKit
set_option linter.unusedVariables false
set_option linter.unusedSimpArgs false
mutual
/-- The error of the first node with one. -/
def firstE : Tr → Int
  | .mk d args => if nodeE 16 8 d args.length ≠ 0 then nodeE 16 8 d args.length else firstL args
def firstL : List Tr → Int
  | [] => 0
  | t :: l => if firstE t ≠ 0 then firstE t else firstL l
end
theorem firstL_drop {l : List Tr} {j : Nat} (h : j < l.length) : firstL (l.drop j) = if firstE l[j] ≠ 0 then firstE l[j] else firstL (l.drop (j + 1)) := by
  rw [List.drop_eq_getElem_cons h, firstL]
theorem firstL_ok {l : List Tr} (ih : ∀ a ∈ l, firstE a = 0 ↔ OkT 16 8 a) : firstL l = 0 ↔ ∀ a ∈ l, OkT 16 8 a := by
  induction l with
  | nil => simp [firstL]
  | cons t l ihl =>
    have h1 := ih t (by simp)
    have h2 := ihl fun a ha => ih a (by simp [ha])
    rw [firstL]
    by_cases h : firstE t = 0
    · rw [if_neg (by simpa using h), h2]
      simp [h1.1 h]
    · rw [if_pos h]
      constructor
      · intro h'; exact absurd h' h
      · intro h'; exact absurd (h1.2 (h' t (by simp))) h
theorem first_ok : ∀ t : Tr, firstE t = 0 ↔ OkT 16 8 t := by
  refine tr_ind fun d args ih => ?_
  rw [firstE]
  have h := firstL_ok ih
  by_cases hn : nodeE 16 8 d args.length = 0
  · rw [if_neg (by simpa using hn), h]
    exact ⟨fun h' => .mk hn h', fun h' => by cases h' with | mk _ ha => exact ha⟩
  · rw [if_pos hn]
    exact ⟨fun h' => absurd h' hn, fun h' => by cases h' with | mk h'' _ => exact absurd h'' hn⟩
def checkE (t : Tr) : Int := if 64 < nodesT t then 5 else if 12 < depthT t then 12 else firstE t
/-- An expression that is well-formed. -/
structure GoodT (t : Tr) : Prop where
  ok : OkT 16 8 t
  nd : nodesT t ≤ 64
  dp : depthT t ≤ 12
theorem check_good {t : Tr} : checkE t = 0 ↔ GoodT t := by
  unfold checkE
  split
  · exact ⟨fun h => by omega, fun h => by have := h.nd; omega⟩
  · split
    · exact ⟨fun h => by omega, fun h => by have := h.dp; omega⟩
    · exact ⟨fun h => ⟨(first_ok t).1 h, by omega, by omega⟩, fun h => (first_ok t).2 h.ok⟩
set_option maxRecDepth 100000 in
set_option maxHeartbeats 8000000 in
theorem xvisit_any : ∀ (t : Tr) (w : World) (xs : List Value), Tx w xs t → Calls Try.prog 24 #[.agg xs.toArray, .func (.func 25) #[] #[]] w (Ret (.int .i64 (firstE t)) w) := by
  refine tr_ind fun d args ih => ?_
  intro w xs h
  obtain ⟨v, rfl, hl, hd⟩ := RTx.out h
  obtain ⟨A, cap, rfl⟩ := hl.form
  have HN := hide (fun w => xnode_any w d A args.length cap hd.2.2.2.2.2.2 hl.len)
  have HL := hide hl
  have HIH := hide ih
  have hm := hl.len
  unfold maxLen at hm
  have hF : firstE (.mk d args) = if nodeE 16 8 d args.length ≠ 0 then nodeE 16 8 d args.length else firstL args := by rw [firstE]
  obtain ⟨m, hmm⟩ : ∃ m, args.length = m := ⟨_, rfl⟩
  have HM := hide hmm
  rw [hmm] at HL HN hm hF ⊢
  obtain ⟨R, hR⟩ : ∃ R, firstE (.mk d args) = R := ⟨_, rfl⟩
  rw [hR] at hF ⊢
  have HF := hide hF
  obtain ⟨E, hE⟩ : ∃ E, nodeE 16 8 d m = E := ⟨_, rfl⟩
  rw [hE] at HN HF
  clear h hl hd ih hmm hF hE hR
  go_enter Try.func24, Try.ntmps24
  go_wp2_with fail
  refine (HN.out _).mono ?_
  rintro e w1 ⟨rfl, hb⟩
  have HB := hide (bthen (below_laid _) hb)
  obtain ⟨-, hz1, hx⟩ := step_box ([.int .i64 d.op, .slice A m cap, .int .i64 d.var, .int .i64 d.field, .int .i64 d.kind, .int .i64 d.val.q, .int .i64 d.val.n, .string d.val.s]) hb
  have a1 := hx 1 _ rfl
  clear hb hx hz1 HN
  by_cases hE : E = 0
  · have tE : (E != 0) = false := by rw [bne_eq_false_iff_eq]; exact hE
    have HF2 := hide (show R = firstL args by rw [HF.out, if_neg (by simpa using hE)])
    clear hE HF
    go_wp2_with fail
    go_loopw [18] (fun i wr => ∃ j : Nat, j ≤ m ∧ i = .int .i64 j ∧ Hid (R = firstL (args.drop j)) ∧ Hid (Below w.heap.size w wr)) (fun i _ => m - (intOf i).toNat)
    case atStart => exact ⟨0, Nat.zero_le _, rfl, hide (by simpa using HF2.out), HB⟩
    case round =>
      obtain ⟨j, hj, rfl, HR, HW⟩ := hrel
      clear HB HF2
      by_cases hlt : j < m
      · have hja : j < args.length := by rw [HM.out]; exact hlt
        obtain ⟨g, off, ys, e2, hg, hyl, hc, hr⟩ := Lst.at_ HL.out hja
        subst e2
        have hgw : g < w.heap.size := hg
        have HC := hide (HIH.out args[j] (List.getElem_mem hja))
        have HD := hide (HR.out.trans (firstL_drop hja))
        obtain ⟨t, ht⟩ : ∃ t, args[j] = t := ⟨_, rfl⟩
        rw [ht] at hr HC HD
        clear ht
        obtain ⟨d2, l2⟩ := t
        obtain ⟨v2, rfl, hl2, hd2⟩ := RTx.out hr
        obtain ⟨A2, cap2, rfl⟩ := hl2.form
        have k0 := keep1 HW.out (hc 0 _ rfl)
        have k1 := keep1 HW.out (hc 1 _ rfl)
        have k2 := keep1 HW.out (hc 2 _ rfl)
        have k3 := keep1 HW.out (hc 3 _ rfl)
        have k4 := keep1 HW.out (hc 4 _ rfl)
        have k5 := keep1 HW.out (hc 5 _ rfl)
        have k6 := keep1 HW.out (hc 6 _ rfl)
        have k7 := keep1 HW.out (hc 7 _ rfl)
        rw [Nat.add_zero] at k0
        have hu0 : (0 : Int) ≤ (j : Int) := by omega
        have hu1 : (j : Int) < (m : Int) := by omega
        have HTX : Hid (Tx w (cellsX d2 (.slice A2 l2.length cap2)) (.mk d2 l2)) := hide hr
        obtain ⟨n2, hn2⟩ : ∃ n, l2.length = n := ⟨_, rfl⟩
        rw [hn2] at k1 HTX
        obtain ⟨F, hFF⟩ : ∃ F, firstE (.mk d2 l2) = F := ⟨_, rfl⟩
        rw [hFF] at HD HC
        have HBX := hide (below_laid (w := wr) (.cells #[.int .i64 d2.op, .slice A2 n2 cap2, .int .i64 d2.var, .int .i64 d2.field, .int .i64 d2.kind, .int .i64 d2.val.q, .int .i64 d2.val.n, .string d2.val.s] 30))
        have HCC := hide (HC.out _ _ (HTX.out.grow (bthen HW.out HBX.out)))
        have HWX := hide (bthen HW.out HBX.out)
        clear hc hyl hr hl2 hd2 hg hn2 HC HTX HBX hFF HR
        go_wp2_with fail
        refine HCC.out.mono ?_
        rintro r w3 ⟨rfl, hb3⟩
        have HW3 := hide (bthen HWX.out hb3)
        clear k0 k1 k2 k3 k4 k5 k6 k7 hb3 HCC HWX
        by_cases hF0 : F = 0
        · have tF : (F != 0) = false := by rw [bne_eq_false_iff_eq]; exact hF0
          have HR2 := hide (show R = firstL (args.drop (j + 1)) by rw [HD.out, if_neg (by simpa using hF0)])
          clear HD hF0
          go_wp2
          go_roundw
          case rel => exact ⟨j + 1, by omega, by go_num, HR2, HW3⟩
          case measure => simp [intOf]; omega
        · have tF : (F != 0) = true := by rw [bne_iff_ne]; exact hF0
          have HR2 := hide (show R = F by rw [HD.out, if_pos hF0])
          clear HD hF0
          go_wp2
          go_ret
          exact Ret.int HR2.out.symm HW3.out
      · obtain rfl : m = j := by omega
        have hta : args.drop m = [] := List.drop_of_length_le (by rw [HM.out]; exact Nat.le_refl _)
        have HR2 := hide (show R = 0 by rw [HR.out, hta, firstL])
        clear hta HR
        go_wp2
        go_ret
        exact Ret.int HR2.out.symm HW.out
  · have tE : (E != 0) = true := by rw [bne_iff_ne]; exact hE
    have HF2 := hide (show R = E by rw [HF.out, if_pos hE])
    clear hE HF
    go_wp2
    go_ret
    exact Ret.int HF2.out.symm HB.out
set_option maxRecDepth 100000 in
set_option maxHeartbeats 8000000 in
theorem xcheck_any (t : Tr) (w : World) (xs : List Value) (h : Tx w xs t) (hn : nodesT t ≤ 1000) : Calls Try.prog 10 #[.agg xs.toArray] w (Ret (.int .i64 (checkE t)) w) := by
  have HS := hide (fun w' h' => xsize_any t w' xs h' hn)
  have HV := hide (fun w' h' => xvisit_any t w' xs h')
  have HT := hide h
  have HDN := depth_nodes t
  have HC : Hid (checkE t = if 64 < nodesT t then 5 else if 12 < depthT t then 12 else firstE t) := hide rfl
  obtain ⟨d, args⟩ := t
  obtain ⟨v, rfl, hl, hd⟩ := RTx.out h
  obtain ⟨A, cap, rfl⟩ := hl.form
  obtain ⟨m, hmm⟩ : ∃ m, args.length = m := ⟨_, rfl⟩
  rw [hmm] at HS HV HT ⊢
  obtain ⟨R, hR⟩ : ∃ R, checkE (.mk d args) = R := ⟨_, rfl⟩
  obtain ⟨N, hN⟩ : ∃ R, nodesT (.mk d args) = R := ⟨_, rfl⟩
  obtain ⟨D, hD⟩ : ∃ R, depthT (.mk d args) = R := ⟨_, rfl⟩
  obtain ⟨F, hF⟩ : ∃ R, firstE (.mk d args) = R := ⟨_, rfl⟩
  rw [hR] at HC ⊢
  rw [hN] at HC HS HDN hn
  rw [hD] at HC HS HDN
  rw [hF] at HC HV
  clear h hl hd hmm hR hN hD hF
  have HB := hide (below_laid (w := w) (.cells #[.int .i64 d.op, .slice A m cap, .int .i64 d.var, .int .i64 d.field, .int .i64 d.kind, .int .i64 d.val.q, .int .i64 d.val.n, .string d.val.s] 30))
  go_enter Try.func10, Try.ntmps10
  go_wp2_with fail
  refine (HS.out _ (HT.out.grow HB.out)).mono ?_
  rintro e w1 ⟨rfl, hb⟩
  have HW := hide (bthen (below_laid _) hb)
  obtain ⟨-, hz1, hx⟩ := step_box ([.int .i64 d.op, .slice A m cap, .int .i64 d.var, .int .i64 d.field, .int .i64 d.kind, .int .i64 d.val.q, .int .i64 d.val.n, .string d.val.s]) hb
  have a0 := hx 0 _ rfl
  have a1 := hx 1 _ rfl
  have a2 := hx 2 _ rfl
  have a3 := hx 3 _ rfl
  have a4 := hx 4 _ rfl
  have a5 := hx 5 _ rfl
  have a6 := hx 6 _ rfl
  have a7 := hx 7 _ rfl
  have HV1 := hide (HV.out _ (HT.out.grow HW.out))
  clear hb hx hz1 HS HB HV
  by_cases h1 : 64 < N
  · have t1 : decide ((64 : Int) < (N : Int)) = true := decide_eq_true (by omega)
    have HR := hide (show R = 5 by rw [HC.out, if_pos h1])
    clear HC
    go_wp2
    go_ret
    exact Ret.int HR.out.symm HW.out
  · have t1 : decide ((64 : Int) < (N : Int)) = false := decide_eq_false (by omega)
    by_cases h2 : 12 < D
    · have t2 : decide ((12 : Int) < (D : Int)) = true := decide_eq_true (by omega)
      have HR := hide (show R = 12 by rw [HC.out, if_neg h1, if_pos h2])
      clear HC
      go_wp2
      go_ret
      exact Ret.int HR.out.symm HW.out
    · have t2 : decide ((12 : Int) < (D : Int)) = false := decide_eq_false (by omega)
      have HR := hide (show R = F by rw [HC.out, if_neg h1, if_neg h2])
      clear HC
      go_wp2_with fail
      refine HV1.out.mono ?_
      rintro e w2 ⟨rfl, hb⟩
      have HW2 := hide (bthen HW.out hb)
      clear hb a0 a1 a2 a3 a4 a5 a6 a7
      go_wp2
      go_ret
      exact Ret.int HR.out.symm HW2.out
end Go.Proofs.Ytkcbjnhphekadaa
