/- Few, and the reference's check of a message: that they return. copy into a row, of elements of any size. -/
import Derived.Test.YtppaiihcaajkaaaGreatKBaseM
import Derived.Deep.RegionWith
import Derived.Deep.RegionHeld3
import Derived.Laws.CopyRow
import Derived.Lib.AppendZerosOnto
import Derived.Lib.Overlaps
import Derived.Deep.RegionLaw
namespace Go.Proofs.YtppaiihcaajkaaaGreat
open Go.RowKit
set_option linter.unusedVariables false
set_option linter.unusedSimpArgs false
def RetB (w : World) (e : Ending) (w' : World) : Prop := ∃ b, e = .returned (.bool b) ∧ Below w.heap.size w w'
def RetBS (w0 : World) (_ : World) (e : Ending) (w' : World) : Prop := ∃ b, e = .returned (.bool b) ∧ w' = w0
def RetN (w : World) (e : Ending) (w' : World) : Prop := ∃ n, e = .returned (.int .i64 n) ∧ Below w.heap.size w w'
section
variable (w : World)
set_option maxRecDepth 100000 in
set_option maxHeartbeats 4000000 in
theorem few1_any (v : Value) (l : List V3) {Z : Nat → Prop} (hv : Lst w Z 3 RV0 v l) : Calls Tryz.prog 25 #[v] w (RetB w) := by
  obtain ⟨A, cap, rfl⟩ := hv.form
  have HV := hide hv
  have hlen := hv.len
  unfold maxLen at hlen
  obtain ⟨m, hm⟩ : ∃ m, l.length = m := ⟨_, rfl⟩
  rw [hm] at HV hlen ⊢
  have HM := hide hm
  clear hv hm
  go_enter Tryz.func25, Tryz.ntmps25
  go_wp2
  go_loop [3] (fun i => ∃ j : Nat, j ≤ m ∧ j ≤ 40 ∧ i = .int .i64 j) (fun i => m - (intOf i).toNat)
  case atStart => exact ⟨0, by omega, by omega, rfl⟩
  case round =>
    obtain ⟨j, hj, hj4, rfl⟩ := hrel
    by_cases hlt : j < m ∧ j < 40
    · have hjl : j < l.length := by rw [HM.out]; exact hlt.1
      obtain ⟨g, off, xs, e2, hg, hxl, hc, hR⟩ := HV.out.at_ hjl
      cases e2
      obtain ⟨x, hx⟩ : ∃ x, l[j] = x := ⟨_, rfl⟩
      rw [hx] at hR
      obtain ⟨rfl, -, hsz⟩ := hR
      have k2 := hc 2 _ rfl
      have hu0 : (0 : Int) ≤ (j : Int) := by omega
      have hu1 : (j : Int) < (m : Int) := by omega
      have hu2 : (j : Int) < 40 := by omega
      unfold maxLen at hsz
      clear hx hc hxl
      by_cases hs : x.s.size ≤ 128
      · have t1 : decide ((128 : Int) < (x.s.size : Int)) = false := decide_eq_false (by omega)
        go_wp2
        go_round
        case rel => exact ⟨j + 1, by omega, by omega, by go_num⟩
        case measure => simp [intOf]; omega
      · have t1 : decide ((128 : Int) < (x.s.size : Int)) = true := decide_eq_true (by omega)
        go_wp2
        go_ret
        exact ⟨_, rfl, Below.refl _ _⟩
    · rcases (by omega : j = m ∨ (j < m ∧ j = 40)) with rfl | ⟨h5, rfl⟩
      · go_wp2
        all_goals (go_ret; exact ⟨_, rfl, Below.refl _ _⟩)
      · have hu1 : (40 : Int) < (m : Int) := by omega
        go_wp2
        all_goals (go_ret; exact ⟨_, rfl, Below.refl _ _⟩)
set_option maxHeartbeats 4000000 in
theorem few4_any (x : Evt) (A : Option Addr) (c : Nat) {Z : Nat → Prop} (hv : Lst w Z 3 RV0 (.slice A x.vs.length c) x.vs) : Calls Tryz.prog 13 #[.agg #[.int .i64 x.a, .int .i64 x.b, .int .i64 x.c, .int .i64 x.d, .slice A x.vs.length c]] w (RetB w) := by
  obtain ⟨a, b, c', d, vs⟩ := x
  simp only at hv ⊢
  have HV := hide (fun (w' : World) (hb : Below w.heap.size w w') => few1_any w' _ _ (hv.keep rd_V0 (Kp.of_below hb)))
  clear hv
  go_enter Tryz.func13, Tryz.ntmps13
  go_wp2_with (go_at_call 25; refine (HV.out _ (below_laid _)).mono ?_; rintro e w' ⟨b, rfl, hb⟩)
  go_ret
  exact ⟨_, rfl, bthen (below_laid _) hb⟩
set_option maxHeartbeats 4000000 in
theorem rwithin_any (n m : Int) : Calls Tryz.prog 26 #[.int .i64 n, .int .i64 m] w (RetBS w w) := by
  go_enter Tryz.func26, Tryz.ntmps26
  go_wp2
  all_goals go_ret
  all_goals exact ⟨_, rfl, rfl⟩
set_option maxHeartbeats 4000000 in
theorem rvalid_any (q t : Int) : Calls Tryz.prog 27 #[.agg #[.int .i64 q, .int .i64 t]] w (RetBS (w.alloc (.cells #[.int .i64 q, .int .i64 t] 84)) w) := by
  go_enter Tryz.func27, Tryz.ntmps27
  go_wp2
  all_goals go_ret
  all_goals exact ⟨_, rfl, rfl⟩
set_option maxRecDepth 100000 in
set_option maxHeartbeats 16000000 in
theorem rcheckm_any (x : Msg) (A : Option Addr) (c : Nat) : Calls Tryz.prog 14 #[.agg #[.int .i64 x.k, .int .i64 x.e.a, .int .i64 x.e.b, .int .i64 x.e.c, .int .i64 x.e.d, .slice A x.e.vs.length c, .int .i64 x.s, .int .i64 x.q, .int .i64 x.t]] w (RetN w) := by
  obtain ⟨k, ⟨a, b, c', d, vs⟩, s, q, t⟩ := x
  simp only
  have HW := hide (fun w' n m => rwithin_any w' n m)
  have HV := hide (fun w' q t => rvalid_any w' q t)
  go_enter Tryz.func14, Tryz.ntmps14
  go_wp2_with (first | (go_at_call 26; refine (HW.out _ _ _).mono ?_; rintro e1 w1 ⟨b1, rfl, rfl⟩) | (go_at_call 27; refine (HV.out _ _ _).mono ?_; rintro e1 w1 ⟨b1, rfl, rfl⟩))
  all_goals go_ret
  all_goals refine ⟨_, rfl, ?_⟩
  all_goals first | exact ((below_laid _).alloc (by simp) _) | exact (((below_laid _).alloc (by simp) _).alloc (by simp <;> omega) _)
set_option maxHeartbeats 4000000 in
theorem rsource_any (x : Msg) (A : Option Addr) (c : Nat) : Calls Tryz.prog 15 #[.agg #[.int .i64 x.k, .int .i64 x.e.a, .int .i64 x.e.b, .int .i64 x.e.c, .int .i64 x.e.d, .slice A x.e.vs.length c, .int .i64 x.s, .int .i64 x.q, .int .i64 x.t]] w (RetN w) := by
  obtain ⟨k, ⟨a, b, c', d, vs⟩, s, q, t⟩ := x
  go_enter Tryz.func15, Tryz.ntmps15
  go_wp2
  all_goals go_ret
  all_goals exact ⟨_, rfl, below_laid _⟩
set_option maxHeartbeats 4000000 in
theorem origin_any (x : Msg) (A : Option Addr) (c : Nat) : Calls Tryz.prog 68 #[.agg #[.int .i64 x.k, .int .i64 x.e.a, .int .i64 x.e.b, .int .i64 x.e.c, .int .i64 x.e.d, .slice A x.e.vs.length c, .int .i64 x.s, .int .i64 x.q, .int .i64 x.t]] w (Ret (.int .i64 (if x.k = 0 then x.e.a else x.s)) w) := by
  obtain ⟨k, ⟨a, b, c', d, vs⟩, s, q, t⟩ := x
  simp only
  go_enter Tryz.func68, Tryz.ntmps68
  go_wp2
  all_goals go_ret
  all_goals refine Ret.int ?_ (below_laid _)
  all_goals (try simp only [isEmpty_size, bne_iff_ne, ne_eq, bne_eq_false_iff_eq, beq_iff_eq, beq_eq_false_iff_ne, Bool.not_eq_true', Bool.not_eq_false', decide_eq_true_eq, decide_eq_false_iff_not] at *)
  all_goals (repeat' split) <;> first | rfl | omega
end
end Go.Proofs.YtppaiihcaajkaaaGreat

namespace Go.Proofs.YtppaiihcaajkaaaGreat
open Go.RowKit
set_option linter.unusedVariables false
set_option linter.unusedSimpArgs false
section
variable {P : Program}
/-- Cells laid over a row. -/
def over (L : List Value) (o : Nat) (cs : List Value) : List Value := L.take o ++ (cs ++ L.drop (o + cs.length))
theorem over_len {L : List Value} {o : Nat} {cs : List Value} (h : o + cs.length ≤ L.length) : (over L o cs).length = L.length := by simp [over]; omega
theorem run_copy_rowN (w : World) (dT sT ty elem : TypeId) (sz g o dLen dCap : Nat) (a : Addr) (sLen sCap : Nat) (cur : Array Value) (t : TypeId) (cs : List Value)
    (hu : P.underlying dT = some (.slice elem)) (hs : (P.info? elem).map (·.size) = some sz)
    (hg : w.heap[g]? = some (.cells cur t (0, 0))) (hn : cs.length = Nat.min sLen dLen * sz)
    (hsrc : ∀ j v, cs[j]? = some v → w.cell? (a.add j) = some v) (hfit : o + cs.length ≤ cur.size) (h1 : ∀ v ∈ cs, v.oneCell' = true) :
    (Builtin.copy_ #[dT, sT] ty #[.slice (some ⟨g, o, none⟩) dLen dCap, .slice (some a) sLen sCap]).run P w =
      .ok (goInt (Nat.min sLen dLen)) (w.setRow g (over cur.toList o cs).toArray) := by
  have hl := run_loadCells_list (P := P) w a cs hsrc
  have hst := run_storeCells_at P g o t cs 0 cur w hg (by simpa using hfit) h1
  cases hq : P.info? elem with
  | none => simp [hq] at hs
  | some i =>
    have hi : i.size = sz := by simpa [hq] using hs
    simp [Builtin.copy_, run_underlying hu, Builtin.lenOf, Builtin.firstCells, sizeOf, typeInfo, hq, hi, ← hn, hl, hst, over]
theorem wpList_copy_rowN {w : World} {ops : Array Oper} {rest : List Oper} {o : Oper} {a : Act} {Q : Exit → Act → World → Prop} (hgd : o.guard = none) (d s : Operand) (dT sT : TypeId)
    (ho : o.op = .call { callee := .builtin .copy, args := #[d, s], argTypes := #[dT, sT] }) (elem : TypeId) (sz : Nat) (hu : P.underlying dT = some (.slice elem)) (hsz : (P.info? elem).map (·.size) = some sz)
    (g off dLen dCap : Nat) (ad : Addr) (sLen sCap : Nat) (hd : a.eval d = .slice (some ⟨g, off, none⟩) dLen dCap) (hs : a.eval s = .slice (some ad) sLen sCap)
    (cur : List Value) (t : TypeId) (hg : w.heap[g]? = some (.cells cur.toArray t (0, 0))) (cs : List Value) (hn : cs.length = Nat.min sLen dLen * sz)
    (hsrc : ∀ j v, cs[j]? = some v → w.cell? (ad.add j) = some v) (hfit : off + cs.length ≤ cur.length) (h1 : ∀ v ∈ cs, v.oneCell' = true)
    (h : ∀ w' u, w'.heap[g]? = some (.cells (over cur off cs).toArray t (0, 0)) → w.grownBy w' (some g) → wpList P ops Q rest (a.put o.dst u) w') : wpList P ops Q (o :: rest) a w := by
  refine wpList_plain hgd fun K hK => ?_
  have hrun := run_copy_rowN (P := P) w dT sT o.type elem sz g off dLen dCap ad sLen sCap cur.toArray t cs hu hsz hg hn hsrc (by simpa using hfit) h1
  unfold Oper.wp
  simp [execOp, ho, resolve, invoke, builtin, hd, hs, hrun, Result.andThen]
  exact hK _ _ (h _ _ (by simpa using setRow_heap w g _ _ t _ hg) ⟨rfl, rfl, rfl, by simp [World.setRow], fun k hk hne => setRow_other w g k _ (fun e => hne (by rw [e]))⟩)
theorem step_copy_rowN {w : World} {ops : Array Oper} {o : Oper} {a : Act} {K : Act → World → Prop} {Q : Exit → Act → World → Prop} {E : Prop} (hgd : o.guard = none) (d s : Operand) (dT sT : TypeId)
    (ho : o.op = .call { callee := .builtin .copy, args := #[d, s], argTypes := #[dT, sT] }) (elem : TypeId) (sz : Nat) (hu : P.underlying dT = some (.slice elem)) (hsz : (P.info? elem).map (·.size) = some sz)
    (g off dLen dCap : Nat) (ad : Addr) (sLen sCap : Nat) (hd : a.eval d = .slice (some ⟨g, off, none⟩) dLen dCap) (hs : a.eval s = .slice (some ad) sLen sCap)
    (cur : List Value) (t : TypeId) (hg : w.heap[g]? = some (.cells cur.toArray t (0, 0))) (cs : List Value) (hn : cs.length = Nat.min sLen dLen * sz)
    (hsrc : ∀ j v, cs[j]? = some v → w.cell? (ad.add j) = some v) (hfit : off + cs.length ≤ cur.length) (h1 : ∀ v ∈ cs, v.oneCell' = true)
    (h : ∀ w' u, w'.heap[g]? = some (.cells (over cur off cs).toArray t (0, 0)) → w.grownBy w' (some g) → K (a.put o.dst u) w') : if Region.wanted o (yielded ops a.tmps) = true then Oper.wp P o a w K Q else E := by
  have hw : Region.wanted o (yielded ops a.tmps) = true := by simp [Region.wanted, hgd]
  rw [if_pos hw]
  have hrun := run_copy_rowN (P := P) w dT sT o.type elem sz g off dLen dCap ad sLen sCap cur.toArray t cs hu hsz hg hn hsrc (by simpa using hfit) h1
  unfold Oper.wp
  simp [execOp, ho, resolve, invoke, builtin, hd, hs, hrun, Result.andThen]
  exact h _ _ (by simpa using setRow_heap w g _ _ t _ hg) ⟨rfl, rfl, rfl, by simp [World.setRow], fun k hk hne => setRow_other w g k _ (fun e => hne (by rw [e]))⟩
/-- A row with one element more at a place. -/
def insL (xs : List Value) (o : Nat) (ys : List Value) : List Value := xs.take o ++ ys ++ xs.drop o
theorem over_room {cur xs ys : List Value} {o : Nat} (ho : o ≤ xs.length) (hx : cur.take xs.length = xs) (hfit : xs.length + ys.length ≤ cur.length) :
    (over (over cur (o + ys.length) (xs.drop o)) o ys).take (xs.length + ys.length) = insL xs o ys := by
  have hc : ∃ r, cur = xs ++ r ∧ ys.length ≤ r.length := ⟨cur.drop xs.length, by conv => lhs; rw [← List.take_append_drop xs.length cur, hx], by rw [List.length_drop]; omega⟩
  obtain ⟨r, rfl, hr⟩ := hc
  apply List.ext_getElem?
  intro i
  simp only [over, insL, List.getElem?_take, List.getElem?_append, List.getElem?_drop, List.length_append, List.length_take, List.length_drop]
  repeat' split
  all_goals first | rfl | omega | (congr 1; omega) | (rw [List.getElem?_eq_none]; omega) | skip
theorem over_new {xs ys z : List Value} {o : Nat} (ho : o ≤ xs.length) (hfit : xs.length + ys.length ≤ o + z.length) :
    (over (over (xs.take o ++ z) o ys) (o + ys.length) (xs.drop o)).take (xs.length + ys.length) = insL xs o ys := by
  apply List.ext_getElem?
  intro i
  simp only [over, insL, List.getElem?_take, List.getElem?_append, List.getElem?_drop, List.length_append, List.length_take, List.length_drop]
  repeat' split
  all_goals first | rfl | omega | (congr 1; omega) | (rw [List.getElem?_eq_none]; omega) | skip
end
end Go.Proofs.YtppaiihcaajkaaaGreat
