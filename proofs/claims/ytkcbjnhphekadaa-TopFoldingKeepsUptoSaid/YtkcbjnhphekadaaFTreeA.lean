/- Expressions as trees, plainly: their kinds, their values, what folding leaves. Expressions in memory: trees of structs. The numbers of nodes and the depth of an expression. -/
import Derived.Test.YtkcbjnhphekadaaAFolds
import Derived.Test.YtkcbjnhphekadaaShp
namespace Go.Proofs.Ytkcbjnhphekadaa
open Go.RowKit
set_option linter.unusedVariables false
set_option linter.unusedSimpArgs false
/-- A node by itself; an expression. -/
structure Nd where
  op : Int
  var : Int
  field : Int
  kind : Int
  val : V3
inductive Tr where
  | mk (d : Nd) (args : List Tr)
def Tr.d : Tr → Nd
  | .mk d _ => d
def Tr.args : Tr → List Tr
  | .mk _ l => l
instance : Inhabited Tr := ⟨.mk ⟨0, 0, 0, 0, V3.z⟩ []⟩
theorem tr_ind {P : Tr → Prop} (h : ∀ d args, (∀ a ∈ args, P a) → P (.mk d args)) : ∀ t, P t := by
  intro t
  induction hn : SizeOf.sizeOf t using Nat.strongRecOn generalizing t with
  | _ n ih =>
    obtain ⟨d, args⟩ := t
    refine h d args fun a ha => ih (SizeOf.sizeOf a) ?_ a rfl
    have := List.sizeOf_lt_of_mem ha
    subst hn
    simp
    omega
def flagQ (b : Bool) : V3 := ⟨1, if b then 1 else 0, ⟨#[]⟩⟩
/-- The error of an operation on arguments of kinds. -/
def opsE (op : Int) (ks : List Int) : Int :=
  if op = 5 ∨ op = 6 ∨ op = 7 ∨ op = 8 then (if ks.all (fun k => decide (k = 0)) then 0 else 9)
  else if op = 10 ∨ op = 11 ∨ op = 12 then (if ks.all (fun k => decide (k = 1)) then 0 else 9)
  else if op = 9 then (if ks.all (fun k => decide (k = ks.headD 0)) then 0 else 9) else 0
def resK (op : Int) : Int := if op = 5 ∨ op = 6 then 0 else 1
def appQ (op a b : Int) : V3 :=
  if op = 5 then ⟨0, wrap64 (a + b), ⟨#[]⟩⟩ else if op = 6 then ⟨0, wrap64 (a - b), ⟨#[]⟩⟩ else if op = 7 then flagQ (decide (a < b)) else if op = 8 then flagQ (decide (a ≤ b))
  else if op = 10 then flagQ (decide (a = 1) && decide (b = 1)) else if op = 11 then flagQ (decide (a = 1) || decide (b = 1)) else flagQ (!decide (a = 1))
def eqQ (x y : V3) : Bool := decide (x.q = y.q) && decide (x.n = y.n) && decide (x.s = y.s)
def resV (op : Int) (vs : List V3) : V3 := if op = 9 then flagQ (eqQ (vs.headD V3.z) (vs.getD 1 V3.z)) else appQ op (vs.headD V3.z).n (vs.getLastD V3.z).n
section
variable (LK : Nd → Int × Int) (LV : Nd → V3 × Int)
mutual
def kindT : Tr → Int × Int
  | .mk d args => if args = [] then LK d else match kindL args with
    | .inl e => (0, e)
    | .inr ks => if opsE d.op ks ≠ 0 then (0, opsE d.op ks) else (resK d.op, 0)
def kindL : List Tr → Int ⊕ List Int
  | [] => .inr []
  | t :: l => if (kindT t).2 ≠ 0 then .inl (kindT t).2 else match kindL l with
    | .inl e => .inl e
    | .inr ks => .inr ((kindT t).1 :: ks)
end
mutual
def evalT : Tr → V3 × Int
  | .mk d args => if args = [] then LV d else match evalL args with
    | .inl e => (V3.z, e)
    | .inr vs => if opsE d.op (vs.map (·.q)) ≠ 0 then (V3.z, opsE d.op (vs.map (·.q))) else (resV d.op vs, 0)
def evalL : List Tr → Int ⊕ List V3
  | [] => .inr []
  | t :: l => if (evalT t).2 ≠ 0 then .inl (evalT t).2 else match evalL l with
    | .inl e => .inl e
    | .inr vs => .inr ((evalT t).1 :: vs)
end
end
def arQ (op : Int) : Nat := if op < 5 then 0 else if op = 12 then 1 else 2
def usesV (op : Int) : Bool := decide (op = 1) || decide (op = 2) || decide (op = 3) || decide (op = 4)
def usesF (op : Int) : Bool := decide (op = 1) || decide (op = 4)
def zQ (x : V3) : Bool := decide (x.q = 0) && decide (x.n = 0) && decide (x.s.size = 0)
def constE (d : Nd) : Int := if checkC d.val.q d.val.n d.val.s.size ≠ 0 then checkC d.val.q d.val.n d.val.s.size else if d.op = 4 ∧ (¬ (d.val.q = 0 ∨ d.kind = 4 ∨ d.kind = 5) ∨ (d.kind = 1 ∧ zQ d.val = false)) then 9 else 0
def nodeE (mv mf : Int) (d : Nd) (n : Nat) : Int :=
  if d.op < 0 ∨ 12 < d.op then 1 else if n ≠ arQ d.op then 15
  else if (usesV d.op = true ∧ (d.var < 0 ∨ mv ≤ d.var)) ∨ (usesF d.op = true ∧ (d.field < 0 ∨ mf ≤ d.field)) then 2
  else if d.op = 4 ∧ (d.kind < 1 ∨ 5 < d.kind) then 1
  else if (d.op = 4 ∨ d.op = 0) ∧ constE d ≠ 0 then constE d
  else if (usesV d.op = false ∧ d.var ≠ 0) ∨ (usesF d.op = false ∧ d.field ≠ 0) ∨ (d.op ≠ 4 ∧ d.kind ≠ 0) ∨ (¬ (d.op = 4 ∨ d.op = 0) ∧ zQ d.val = false) then 3 else 0
inductive OkT (mv mf : Int) : Tr → Prop where
  | mk {d : Nd} {args : List Tr} : nodeE mv mf d args.length = 0 → (∀ a ∈ args, OkT mv mf a) → OkT mv mf (.mk d args)
theorem node_ar {mv mf : Int} {d : Nd} {n : Nat} (h : nodeE mv mf d n = 0) : 0 ≤ d.op ∧ d.op ≤ 12 ∧ n = arQ d.op := by
  unfold nodeE at h
  split at h
  · omega
  · split at h
    · omega
    · rename_i h1 h2
      exact ⟨by omega, by omega, by omega⟩
theorem node_const {mv mf : Int} {d : Nd} {n : Nat} (h : nodeE mv mf d n = 0) (h0 : d.op = 0) : checkC d.val.q d.val.n d.val.s.size = 0 := by
  unfold nodeE at h
  repeat' (split at h; (first | omega | skip))
  · rename_i h5 _
    have hc : constE d = 0 := by
      by_cases hc : constE d = 0
      · exact hc
      · exact absurd ⟨.inr h0, hc⟩ h5
    unfold constE at hc
    split at hc
    · omega
    · rename_i h9; omega
def constT (v : V3) : Tr := .mk ⟨0, 0, 0, 0, v⟩ []
theorem const_ok {mv mf : Int} {v : V3} (h : checkC v.q v.n v.s.size = 0) : OkT mv mf (constT v) := by
  refine .mk ?_ (fun a ha => by cases ha)
  unfold nodeE arQ usesV usesF constE
  simp [h]
def isQ (a : Tr) (b : Bool) : Bool := decide (a.d.op = 0) && eqQ a.d.val (flagQ b)
def vals (args : List Tr) : List V3 := args.map fun a => a.d.val
def knownB2 (d : Nd) (args : List Tr) : Bool := decide (args.length ≠ 0) && args.all (fun a => decide (a.d.op = 0)) && decide (opsE d.op ((vals args).map (·.q)) = 0) && decide (checkC (resV d.op (vals args)).q (resV d.op (vals args)).n (resV d.op (vals args)).s.size = 0)
def fold1 (d : Nd) (args : List Tr) : Tr :=
  if knownB2 d args = true then constT (resV d.op (vals args))
  else if d.op = 12 ∧ (args.headD default).d.op = 12 then (args.headD default).args.headD default
  else if d.op ≠ 10 ∧ d.op ≠ 11 then .mk d args
  else if isQ (args.headD default) (decide (d.op = 10)) = true then args.getD 1 default
  else if isQ (args.getD 1 default) (decide (d.op = 10)) = true then args.headD default
  else if (isQ (args.headD default) (!decide (d.op = 10)) || isQ (args.getD 1 default) (!decide (d.op = 10))) = true then constT (flagQ (!decide (d.op = 10))) else .mk d args
mutual
def foldT : Tr → Tr
  | .mk d args => fold1 d (foldL args)
def foldL : List Tr → List Tr
  | [] => []
  | t :: l => foldT t :: foldL l
end
mutual
def nodesT : Tr → Nat
  | .mk _ args => nodesL args + 1
def nodesL : List Tr → Nat
  | [] => 0
  | t :: l => nodesT t + nodesL l
end
mutual
def depthT : Tr → Nat
  | .mk _ args => depthL args + 1
def depthL : List Tr → Nat
  | [] => 0
  | t :: l => max (depthT t) (depthL l)
end
theorem nodes_0 (d : Nd) : nodesT (.mk d []) = 1 := by rw [nodesT, nodesL]
theorem nodes_1 (d : Nd) (a : Tr) : nodesT (.mk d [a]) = nodesT a + 1 := by rw [nodesT, nodesL, nodesL]; (try rfl)
theorem nodes_2 (d : Nd) (a b : Tr) : nodesT (.mk d [a, b]) = nodesT a + nodesT b + 1 := by rw [nodesT, nodesL, nodesL, nodesL]; (try rfl)
theorem depth_0 (d : Nd) : depthT (.mk d []) = 1 := by rw [depthT, depthL]
theorem depth_1 (d : Nd) (a : Tr) : depthT (.mk d [a]) = depthT a + 1 := by rw [depthT, depthL, depthL]; (try omega)
theorem depth_2 (d : Nd) (a b : Tr) : depthT (.mk d [a, b]) = max (depthT a) (depthT b) + 1 := by rw [depthT, depthL, depthL, depthL]; (try omega)
theorem nodes_pos (t : Tr) : 1 ≤ nodesT t := by obtain ⟨d, l⟩ := t; rw [nodesT]; omega
theorem depth_pos (t : Tr) : 1 ≤ depthT t := by obtain ⟨d, l⟩ := t; rw [depthT]; omega
theorem eqQ_eq {x y : V3} (h : eqQ x y = true) : x = y := by
  unfold eqQ at h
  simp only [Bool.and_eq_true, decide_eq_true_eq] at h
  cases x; cases y
  simp_all
theorem eqQ_refl (x : V3) : eqQ x x = true := by simp [eqQ]
theorem isQ_eq {a : Tr} {b : Bool} (h : isQ a b = true) : a.d.op = 0 ∧ a.d.val = flagQ b := by
  unfold isQ at h
  simp only [Bool.and_eq_true, decide_eq_true_eq] at h
  exact ⟨h.1, eqQ_eq h.2⟩
theorem canon_check {v : V3} (h : checkC v.q v.n v.s.size = 0) (hq : v.q = 1) : ∃ b, v = flagQ b := by
  obtain ⟨q, n, s⟩ := v
  simp only at hq
  subst hq
  unfold checkC sizeC at h
  simp only at h
  have hs : s.size = 0 := by
    by_cases e : s.size = 0
    · exact e
    · simp [e] at h
  have hs' : s = ⟨#[]⟩ := by
    cases s with
    | mk a => have : a.size = 0 := hs; simp at this; rw [this]
  rw [hs] at h
  subst hs'
  by_cases h0 : n = 0
  · exact ⟨false, by rw [h0]; rfl⟩
  · by_cases h1 : n = 1
    · exact ⟨true, by rw [h1]; rfl⟩
    · simp [h0, h1] at h
theorem res_canon {op : Int} {vs : List V3} (h : (resV op vs).q = 1) : ∃ b, resV op vs = flagQ b := by
  unfold resV appQ at h ⊢
  repeat' split
  all_goals first | exact ⟨_, rfl⟩ | (exfalso; simp_all)
section
variable {LK : Nd → Int × Int} {LV : Nd → V3 × Int} {mv mf : Int}
theorem kind_0 (d : Nd) : kindT LK (.mk d []) = LK d := by unfold kindT; rfl
theorem kind_1 (d : Nd) (a : Tr) : kindT LK (.mk d [a]) = if (kindT LK a).2 ≠ 0 then (0, (kindT LK a).2) else if opsE d.op [(kindT LK a).1] ≠ 0 then (0, opsE d.op [(kindT LK a).1]) else (resK d.op, 0) := by
  rw [kindT, if_neg (by simp), kindL, kindL]
  by_cases h : (kindT LK a).2 = 0 <;> simp [h]
theorem kind_2 (d : Nd) (a b : Tr) : kindT LK (.mk d [a, b]) = if (kindT LK a).2 ≠ 0 then (0, (kindT LK a).2) else if (kindT LK b).2 ≠ 0 then (0, (kindT LK b).2) else if opsE d.op [(kindT LK a).1, (kindT LK b).1] ≠ 0 then (0, opsE d.op [(kindT LK a).1, (kindT LK b).1]) else (resK d.op, 0) := by
  rw [kindT, if_neg (by simp), kindL, kindL, kindL]
  by_cases h : (kindT LK a).2 = 0 <;> by_cases h2 : (kindT LK b).2 = 0 <;> simp [h, h2]
theorem eval_0 (d : Nd) : evalT LV (.mk d []) = LV d := by unfold evalT; rfl
theorem eval_1 (d : Nd) (a : Tr) : evalT LV (.mk d [a]) = if (evalT LV a).2 ≠ 0 then (V3.z, (evalT LV a).2) else if opsE d.op [(evalT LV a).1.q] ≠ 0 then (V3.z, opsE d.op [(evalT LV a).1.q]) else (resV d.op [(evalT LV a).1], 0) := by
  rw [evalT, if_neg (by simp), evalL, evalL]
  by_cases h : (evalT LV a).2 = 0 <;> simp [h]
theorem eval_2 (d : Nd) (a b : Tr) : evalT LV (.mk d [a, b]) = if (evalT LV a).2 ≠ 0 then (V3.z, (evalT LV a).2) else if (evalT LV b).2 ≠ 0 then (V3.z, (evalT LV b).2) else if opsE d.op [(evalT LV a).1.q, (evalT LV b).1.q] ≠ 0 then (V3.z, opsE d.op [(evalT LV a).1.q, (evalT LV b).1.q]) else (resV d.op [(evalT LV a).1, (evalT LV b).1], 0) := by
  rw [evalT, if_neg (by simp), evalL, evalL, evalL]
  by_cases h : (evalT LV a).2 = 0 <;> by_cases h2 : (evalT LV b).2 = 0 <;> simp [h, h2]
/-- The number of arguments tells the operations. -/
theorem ok_cases {d : Nd} {args : List Tr} (h : OkT mv mf (.mk d args)) : (args = [] ∧ d.op < 5) ∨ (∃ a, args = [a] ∧ d.op = 12 ∧ OkT mv mf a) ∨ ∃ a b, args = [a, b] ∧ 5 ≤ d.op ∧ d.op < 12 ∧ OkT mv mf a ∧ OkT mv mf b := by
  cases h with
  | mk hn ha =>
    obtain ⟨h0, h1, h2⟩ := node_ar hn
    unfold arQ at h2
    match args, h2, ha with
    | [], h2, _ => left; refine ⟨rfl, ?_⟩; simp at h2; split at h2 <;> (try split at h2) <;> omega
    | [a], h2, ha => right; left; refine ⟨a, rfl, ?_, ha a (by simp)⟩; simp at h2; split at h2 <;> (try split at h2) <;> omega
    | [a, b], h2, ha => right; right; refine ⟨a, b, rfl, ?_, ?_, ha a (by simp), ha b (by simp)⟩ <;> (simp at h2; split at h2 <;> (try split at h2) <;> omega)
    | a :: b :: c :: l, h2, _ => exfalso; simp at h2; split at h2 <;> (try split at h2) <;> omega
theorem ok_const {t : Tr} (h : OkT mv mf t) (h0 : t.d.op = 0) : t.args = [] ∧ checkC t.d.val.q t.d.val.n t.d.val.s.size = 0 := by
  obtain ⟨d, args⟩ := t
  have hd : d.op = 0 := h0
  rcases ok_cases h with ⟨rfl, -⟩ | ⟨a, rfl, h1, -⟩ | ⟨a, b, rfl, h1, -⟩
  · cases h with
    | mk hn _ => exact ⟨rfl, node_const hn hd⟩
  · omega
  · omega
end
section
variable {LK : Nd → Int × Int} {LV : Nd → V3 × Int} {mv mf : Int}
/-- What the leaves are: constants have their values, booleans are one of two. -/
structure Leafs (LK : Nd → Int × Int) (LV : Nd → V3 × Int) (mv mf : Int) : Prop where
  kc : ∀ d : Nd, d.op = 0 → LK d = (d.val.q, 0)
  vc : ∀ d : Nd, d.op = 0 → LV d = (d.val, 0)
  can : ∀ d : Nd, nodeE mv mf d 0 = 0 → (LV d).2 = 0 → (LV d).1.q = 1 → ∃ b, (LV d).1 = flagQ b
theorem eval_canon (hL : Leafs LK LV mv mf) {t : Tr} (h : OkT mv mf t) (he : (evalT LV t).2 = 0) (hq : (evalT LV t).1.q = 1) : ∃ b, (evalT LV t).1 = flagQ b := by
  obtain ⟨d, args⟩ := t
  rcases ok_cases h with ⟨rfl, -⟩ | ⟨a, rfl, -, -⟩ | ⟨a, b, rfl, -, -, -, -⟩
  · rw [eval_0] at he hq ⊢
    cases h with
    | mk hn _ => exact hL.can d hn he hq
  · rw [eval_1] at he hq ⊢
    split at he
    · rename_i h1; rw [if_pos h1] at hq; exact absurd he h1
    · rename_i h1
      rw [if_neg h1] at hq ⊢
      split at he
      · rename_i h2; rw [if_pos h2] at hq; exact absurd he h2
      · rename_i h2
        rw [if_neg h2] at hq ⊢
        exact res_canon hq
  · rw [eval_2] at he hq ⊢
    split at he
    · rename_i h1; exact absurd he h1
    · rename_i h1
      rw [if_neg h1] at hq ⊢
      split at he
      · rename_i h2; exact absurd he h2
      · rename_i h2
        rw [if_neg h2] at hq ⊢
        split at he
        · rename_i h3; exact absurd he h3
        · rename_i h3
          rw [if_neg h3] at hq ⊢
          exact res_canon hq
theorem kind_const (hL : Leafs LK LV mv mf) {t : Tr} (h : OkT mv mf t) (h0 : t.d.op = 0) : kindT LK t = (t.d.val.q, 0) := by
  have ha := (ok_const h h0).1
  obtain ⟨d, args⟩ := t
  obtain rfl : args = [] := ha
  rw [kind_0]
  exact hL.kc d h0
theorem eval_const (hL : Leafs LK LV mv mf) {t : Tr} (h : OkT mv mf t) (h0 : t.d.op = 0) : evalT LV t = (t.d.val, 0) := by
  have ha := (ok_const h h0).1
  obtain ⟨d, args⟩ := t
  obtain rfl : args = [] := ha
  rw [eval_0]
  exact hL.vc d h0
theorem resV_kind {op : Int} {vs : List V3} (h5 : 5 ≤ op) (h12 : op ≤ 12) : (resV op vs).q = resK op := by
  unfold resV resK appQ
  repeat' split
  all_goals first | rfl | omega
/-- What an operation's value says of its arguments. -/
theorem eval1_ok {d : Nd} {a : Tr} (h : (evalT LV (.mk d [a])).2 = 0) : (evalT LV a).2 = 0 ∧ opsE d.op [(evalT LV a).1.q] = 0 ∧ evalT LV (.mk d [a]) = (resV d.op [(evalT LV a).1], 0) := by
  rw [eval_1] at h ⊢
  split at h
  · rename_i h1; exact absurd h h1
  · rename_i h1
    split at h
    · rename_i h2; exact absurd h h2
    · rename_i h2
      rw [if_neg h1, if_neg h2]
      exact ⟨by omega, by omega, rfl⟩
theorem eval2_ok {d : Nd} {a b : Tr} (h : (evalT LV (.mk d [a, b])).2 = 0) : (evalT LV a).2 = 0 ∧ (evalT LV b).2 = 0 ∧ opsE d.op [(evalT LV a).1.q, (evalT LV b).1.q] = 0 ∧ evalT LV (.mk d [a, b]) = (resV d.op [(evalT LV a).1, (evalT LV b).1], 0) := by
  rw [eval_2] at h ⊢
  split at h
  · rename_i h1; exact absurd h h1
  · rename_i h1
    split at h
    · rename_i h2; exact absurd h h2
    · rename_i h2
      split at h
      · rename_i h3; exact absurd h h3
      · rename_i h3
        rw [if_neg h1, if_neg h2, if_neg h3]
        exact ⟨by omega, by omega, by omega, rfl⟩
theorem kind1_ok {d : Nd} {a : Tr} (h : (kindT LK (.mk d [a])).2 = 0) : (kindT LK a).2 = 0 ∧ opsE d.op [(kindT LK a).1] = 0 ∧ kindT LK (.mk d [a]) = (resK d.op, 0) := by
  rw [kind_1] at h ⊢
  split at h
  · rename_i h1; exact absurd h h1
  · rename_i h1
    split at h
    · rename_i h2; exact absurd h h2
    · rename_i h2
      rw [if_neg h1, if_neg h2]
      exact ⟨by omega, by omega, rfl⟩
theorem kind2_ok {d : Nd} {a b : Tr} (h : (kindT LK (.mk d [a, b])).2 = 0) : (kindT LK a).2 = 0 ∧ (kindT LK b).2 = 0 ∧ opsE d.op [(kindT LK a).1, (kindT LK b).1] = 0 ∧ kindT LK (.mk d [a, b]) = (resK d.op, 0) := by
  rw [kind_2] at h ⊢
  split at h
  · rename_i h1; exact absurd h h1
  · rename_i h1
    split at h
    · rename_i h2; exact absurd h h2
    · rename_i h2
      split at h
      · rename_i h3; exact absurd h h3
      · rename_i h3
        rw [if_neg h1, if_neg h2, if_neg h3]
        exact ⟨by omega, by omega, by omega, rfl⟩
theorem ops_bool1 {op k : Int} (h : op = 10 ∨ op = 11 ∨ op = 12) (h0 : opsE op [k] = 0) : k = 1 := by
  unfold opsE at h0
  rw [if_neg (by omega), if_pos h] at h0
  by_cases e : k = 1
  · exact e
  · simp [e] at h0
theorem ops_bool2 {op k l : Int} (h : op = 10 ∨ op = 11 ∨ op = 12) (h0 : opsE op [k, l] = 0) : k = 1 ∧ l = 1 := by
  unfold opsE at h0
  rw [if_neg (by omega), if_pos h] at h0
  by_cases e : k = 1 <;> by_cases e2 : l = 1
  · exact ⟨e, e2⟩
  all_goals simp [e, e2] at h0
/-- What folding leaves, of a node whose arguments are folded. -/
structure Fo (LK : Nd → Int × Int) (LV : Nd → V3 × Int) (mv mf : Int) (t u : Tr) : Prop where
  ok : OkT mv mf u
  kd : kindT LK u = kindT LK t
  ev : (evalT LV t).2 = 0 → evalT LV u = evalT LV t
  nd : nodesT u ≤ nodesT t
  dp : depthT u ≤ depthT t
end
section
variable {LK : Nd → Int × Int} {LV : Nd → V3 × Int} {mv mf : Int}
theorem Fo.refl {t : Tr} (h : OkT mv mf t) : Fo LK LV mv mf t t := ⟨h, rfl, fun _ => rfl, Nat.le_refl _, Nat.le_refl _⟩
theorem Fo.trans {t u v : Tr} (h : Fo LK LV mv mf t u) (h' : Fo LK LV mv mf u v) : Fo LK LV mv mf t v :=
  ⟨h'.ok, h'.kd.trans h.kd, fun he => (h'.ev (by rw [h.ev he]; exact he)).trans (h.ev he), Nat.le_trans h'.nd h.nd, Nat.le_trans h'.dp h.dp⟩
theorem flag_check (b : Bool) : checkC (flagQ b).q (flagQ b).n (flagQ b).s.size = 0 := by cases b <;> rfl
theorem not_not (b : Bool) : resV 12 [resV 12 [flagQ b]] = flagQ b := by cases b <;> rfl
theorem neu_l (op : Int) (h : op = 10 ∨ op = 11) (b : Bool) : resV op [flagQ (decide (op = 10)), flagQ b] = flagQ b := by rcases h with rfl | rfl <;> cases b <;> rfl
theorem neu_r (op : Int) (h : op = 10 ∨ op = 11) (b : Bool) : resV op [flagQ b, flagQ (decide (op = 10))] = flagQ b := by rcases h with rfl | rfl <;> cases b <;> rfl
theorem abs_l (op : Int) (h : op = 10 ∨ op = 11) (b : Bool) : resV op [flagQ (!decide (op = 10)), flagQ b] = flagQ (!decide (op = 10)) := by rcases h with rfl | rfl <;> cases b <;> rfl
theorem abs_r (op : Int) (h : op = 10 ∨ op = 11) (b : Bool) : resV op [flagQ b, flagQ (!decide (op = 10))] = flagQ (!decide (op = 10)) := by rcases h with rfl | rfl <;> cases b <;> rfl
theorem kind_constT (hL : Leafs LK LV mv mf) (v : V3) : kindT LK (constT v) = (v.q, 0) := by unfold constT; rw [kind_0]; exact hL.kc _ rfl
theorem eval_constT (hL : Leafs LK LV mv mf) (v : V3) : evalT LV (constT v) = (v, 0) := by unfold constT; rw [eval_0]; exact hL.vc _ rfl
theorem fold1_law (hL : Leafs LK LV mv mf) {d : Nd} {args : List Tr} (h : OkT mv mf (.mk d args)) (hk : (kindT LK (.mk d args)).2 = 0) : Fo LK LV mv mf (.mk d args) (fold1 d args) := by
  unfold fold1
  split
  · rename_i hb
    simp only [knownB2, Bool.and_eq_true, decide_eq_true_eq, List.all_eq_true] at hb
    obtain ⟨⟨⟨hn, hall⟩, ho⟩, hc⟩ := hb
    refine ⟨const_ok hc, ?_, fun he => ?_, nodes_pos _, depth_pos _⟩
    · rw [kind_constT hL]
      rcases ok_cases h with ⟨rfl, -⟩ | ⟨a, rfl, h12, ha⟩ | ⟨a, b, rfl, h5, h12, ha, hb⟩
      · exact absurd rfl hn
      · rw [(kind1_ok hk).2.2, resV_kind (by omega) (by omega)]
      · rw [(kind2_ok hk).2.2.2, resV_kind (by omega) (by omega)]
    · rw [eval_constT hL]
      rcases ok_cases h with ⟨rfl, -⟩ | ⟨a, rfl, h12, ha⟩ | ⟨a, b, rfl, h5, h12, ha, hb⟩
      · exact absurd rfl hn
      · rw [(eval1_ok he).2.2, eval_const hL ha (hall a (by simp))]; rfl
      · rw [(eval2_ok he).2.2.2, eval_const hL ha (hall a (by simp)), eval_const hL hb (hall b (by simp))]; rfl
  · split
    · rename_i h12
      rcases ok_cases h with ⟨rfl, h5⟩ | ⟨a, rfl, -, ha⟩ | ⟨a, b, rfl, h5, h9, ha, hb⟩
      · omega
      · have h2 : a.d.op = 12 := h12.2
        obtain ⟨d', args'⟩ := a
        have h2' : d'.op = 12 := h2
        rcases ok_cases ha with ⟨rfl, h5⟩ | ⟨x, rfl, -, hx⟩ | ⟨x, y, rfl, h5, h9, hx, hy⟩
        · omega
        · show Fo LK LV mv mf _ x
          obtain ⟨k1, k2, k3⟩ := kind1_ok hk
          obtain ⟨k4, k5, k6⟩ := kind1_ok k1
          rw [h2'] at k5
          have kx := ops_bool1 (.inr (.inr rfl)) k5
          refine ⟨hx, ?_, fun he => ?_, by rw [nodes_1, nodes_1]; omega, by rw [depth_1, depth_1]; omega⟩
          · rw [k3, h12.1]
            exact Prod.ext kx k4
          · obtain ⟨e1, e2, e3⟩ := eval1_ok he
            obtain ⟨e4, e5, e6⟩ := eval1_ok e1
            rw [h2'] at e5
            obtain ⟨b, hb⟩ := eval_canon hL hx e4 (ops_bool1 (.inr (.inr rfl)) e5)
            rw [e3, e6, h12.1, h2', hb]
            exact Prod.ext (by rw [hb]; exact (not_not b).symm) e4
        · omega
      · omega
    · split
      · exact Fo.refl h
      · rename_i hno
        have hop : d.op = 10 ∨ d.op = 11 := by omega
        rcases ok_cases h with ⟨rfl, h5⟩ | ⟨a, rfl, h9, ha⟩ | ⟨a, b, rfl, h5, h9, ha, hb⟩
        · omega
        · omega
        · obtain ⟨k1, k2, k3, k4⟩ := kind2_ok hk
          obtain ⟨ka, kb⟩ := ops_bool2 (by omega) k3
          have kr : resK d.op = 1 := by unfold resK; rw [if_neg (by omega)]
          rw [kr] at k4
          have hE : (evalT LV (.mk d [a, b])).2 = 0 → ∃ x y, evalT LV a = (flagQ x, 0) ∧ evalT LV b = (flagQ y, 0) ∧ evalT LV (.mk d [a, b]) = (resV d.op [flagQ x, flagQ y], 0) := by
            intro he
            obtain ⟨e1, e2, e3, e4⟩ := eval2_ok he
            obtain ⟨qa, qb⟩ := ops_bool2 (by omega) e3
            obtain ⟨x, hx⟩ := eval_canon hL ha e1 qa
            obtain ⟨y, hy⟩ := eval_canon hL hb e2 qb
            exact ⟨x, y, Prod.ext hx e1, Prod.ext hy e2, by rw [e4, hx, hy]⟩
          have hc : ∀ {u : Tr} {z : Bool}, OkT mv mf u → isQ u z = true → evalT LV u = (flagQ z, 0) := fun hu hz => by
            obtain ⟨z0, z1⟩ := isQ_eq hz
            rw [eval_const hL hu z0, z1]
          show Fo LK LV mv mf _ (if isQ a (decide (d.op = 10)) = true then b else if isQ b (decide (d.op = 10)) = true then a else if (isQ a (!decide (d.op = 10)) || isQ b (!decide (d.op = 10))) = true then constT (flagQ (!decide (d.op = 10))) else .mk d [a, b])
          split
          · rename_i hi
            refine ⟨hb, by rw [k4]; exact Prod.ext kb k2, fun he => ?_, by rw [nodes_2]; omega, by rw [depth_2]; omega⟩
            obtain ⟨x, y, ex, ey, er⟩ := hE he
            rw [hc ha hi] at ex
            rw [er, ← (Prod.mk.inj ex).1, neu_l d.op hop, ey]
          · split
            · rename_i hi
              refine ⟨ha, by rw [k4]; exact Prod.ext ka k1, fun he => ?_, by rw [nodes_2]; omega, by rw [depth_2]; omega⟩
              obtain ⟨x, y, ex, ey, er⟩ := hE he
              rw [hc hb hi] at ey
              rw [er, ← (Prod.mk.inj ey).1, neu_r d.op hop, ex]
            · split
              · rename_i hi
                refine ⟨const_ok (flag_check _), by rw [k4, kind_constT hL]; rfl, fun he => ?_, nodes_pos _, depth_pos _⟩
                obtain ⟨x, y, ex, ey, er⟩ := hE he
                rw [eval_constT hL, er]
                rcases Bool.or_eq_true_iff.1 hi with hi | hi
                · rw [hc ha hi] at ex
                  rw [← (Prod.mk.inj ex).1, abs_l d.op hop]
                · rw [hc hb hi] at ey
                  rw [← (Prod.mk.inj ey).1, abs_r d.op hop]
              · exact Fo.refl h
theorem fold_law (hL : Leafs LK LV mv mf) : ∀ t : Tr, OkT mv mf t → (kindT LK t).2 = 0 → Fo LK LV mv mf t (foldT t) := by
  refine tr_ind fun d args ih h hk => ?_
  rw [foldT]
  rcases ok_cases h with ⟨rfl, h5⟩ | ⟨a, rfl, h12, ha⟩ | ⟨a, b, rfl, h5, h12, ha, hb⟩
  · rw [foldL]; exact fold1_law hL h hk
  · rw [foldL, foldL]
    obtain ⟨k1, k2, k3⟩ := kind1_ok hk
    have ia := ih a (by simp) ha k1
    have hn : nodeE mv mf d 1 = 0 := by cases h with | mk hn _ => exact hn
    have h1 : Fo LK LV mv mf (.mk d [a]) (.mk d [foldT a]) := by
      refine ⟨.mk hn (by intro x hx; simp at hx; subst hx; exact ia.ok), ?_, fun he => ?_, by rw [nodes_1, nodes_1]; have := ia.nd; omega, by rw [depth_1, depth_1]; have := ia.dp; omega⟩
      · rw [kind_1, kind_1, ia.kd]
      · obtain ⟨e1, -, -⟩ := eval1_ok he
        rw [eval_1, eval_1, ia.ev e1]
    exact h1.trans (fold1_law hL h1.ok (by rw [h1.kd]; exact hk))
  · rw [foldL, foldL, foldL]
    obtain ⟨k1, k2, k3, k4⟩ := kind2_ok hk
    have ia := ih a (by simp) ha k1
    have ib := ih b (by simp) hb k2
    have hn : nodeE mv mf d 2 = 0 := by cases h with | mk hn _ => exact hn
    have h1 : Fo LK LV mv mf (.mk d [a, b]) (.mk d [foldT a, foldT b]) := by
      refine ⟨.mk hn (by intro x hx; simp at hx; rcases hx with rfl | rfl <;> first | exact ia.ok | exact ib.ok), ?_, fun he => ?_, by rw [nodes_2, nodes_2]; have := ia.nd; have := ib.nd; omega, by rw [depth_2, depth_2]; have := ia.dp; have := ib.dp; omega⟩
      · rw [kind_2, kind_2, ia.kd, ib.kd]
      · obtain ⟨e1, e2, -, -⟩ := eval2_ok he
        rw [eval_2, eval_2, ia.ev e1, ib.ev e2]
    exact h1.trans (fold1_law hL h1.ok (by rw [h1.kd]; exact hk))
end
end Go.Proofs.Ytkcbjnhphekadaa

namespace Go.Proofs.Ytkcbjnhphekadaa
open Go.RowKit Go.Deep
set_option linter.unusedVariables false
set_option linter.unusedSimpArgs false
def inX (n : Int) : Prop := -9223372036854775808 ≤ n ∧ n ≤ 9223372036854775807
def ndX (d : Nd) : Prop := inX d.op ∧ inX d.var ∧ inX d.field ∧ inX d.kind ∧ inX d.val.q ∧ inX d.val.n ∧ d.val.s.size ≤ maxLen
/-- The cells of an expression, whose list of arguments is v. -/
@[reducible] def cellsX (d : Nd) (v : Value) : List Value := [.int .i64 d.op, v, .int .i64 d.var, .int .i64 d.field, .int .i64 d.kind, .int .i64 d.val.q, .int .i64 d.val.n, .string d.val.s]
inductive RTx (w : World) (Z : Nat → Prop) : List Value → Tr → Prop where
  | mk {d : Nd} {args : List Tr} {A : Option Addr} {cap : Nat} (X : Nat → List Value) (hc : args.length ≤ cap) (hm : args.length ≤ maxLen) (hd : ndX d)
      (hx : ∀ j, j < args.length → ∃ g off, A = some ⟨g, off, none⟩ ∧ Z g ∧ (X j).length = 8 ∧ ∀ c u, (X j)[c]? = some u → w.cell? ⟨g, off + j * 8 + c, none⟩ = some u)
      (hr : ∀ j (h : j < args.length), RTx w Z (X j) args[j]) : RTx w Z (cellsX d (.slice A args.length cap)) (.mk d args)
theorem RTx.out {w : World} {Z : Nat → Prop} {xs : List Value} {d : Nd} {args : List Tr} (h : RTx w Z xs (.mk d args)) : ∃ v, xs = cellsX d v ∧ Lst w Z 8 RTx v args ∧ ndX d := by
  cases h with
  | mk X hc hm hd hx hr =>
    refine ⟨_, rfl, ⟨⟨_, _, rfl, hc, hm⟩, fun j hj => ?_⟩, hd⟩
    obtain ⟨g, off, rfl, hz, hl, hcl⟩ := hx j hj
    exact ⟨g, off, _, X j, rfl, hz, hl, hcl, hr j hj⟩
theorem RTx.of {w : World} {Z : Nat → Prop} {v : Value} {d : Nd} {args : List Tr} (h : Lst w Z 8 RTx v args) (hd : ndX d) : RTx w Z (cellsX d v) (.mk d args) := by
  obtain ⟨⟨A, cap, rfl, hc, hm⟩, hx⟩ := h
  have hx' : ∀ j, j < args.length → ∃ xs : List Value, (∃ g off, A = some ⟨g, off, none⟩ ∧ Z g ∧ xs.length = 8 ∧ ∀ c u, xs[c]? = some u → w.cell? ⟨g, off + j * 8 + c, none⟩ = some u) ∧ ∀ h : j < args.length, RTx w Z xs args[j] := by
    intro j hj
    obtain ⟨g, off, cap', xs, e, hz, hl, hcl, hr⟩ := hx j hj
    cases e
    exact ⟨xs, ⟨g, off, rfl, hz, hl, hcl⟩, fun _ => hr⟩
  obtain ⟨X, hX⟩ := choose_lt hx'
  exact .mk X hc hm hd (fun j hj => (hX j hj).1) (fun j hj => (hX j hj).2 hj)
theorem RTx.keep {Z : Nat → Prop} {w w' : World} {xs : List Value} {t : Tr} (hk : Kp Z w w') (h : RTx w Z xs t) : RTx w' Z xs t := by
  induction h with
  | mk X hc hm hd hx hr ih =>
    refine .mk X hc hm hd (fun j hj => ?_) ih
    obtain ⟨g, off, e, hz, hl, hcl⟩ := hx j hj
    exact ⟨g, off, e, hz, hl, fun c u hu => hk.cell (p := ⟨g, _, none⟩) hz (hcl c u hu)⟩
theorem RTx.more {Z Y : Nat → Prop} {w : World} {xs : List Value} {t : Tr} (hs : ∀ b, Z b → Y b) (h : RTx w Z xs t) : RTx w Y xs t := by
  induction h with
  | mk X hc hm hd hx hr ih =>
    refine .mk X hc hm hd (fun j hj => ?_) ih
    obtain ⟨g, off, e, hz, hl, hcl⟩ := hx j hj
    exact ⟨g, off, e, hs _ hz, hl, hcl⟩
theorem rd_Tx : Rd RTx := ⟨fun hk h => h.keep hk, fun hs h => h.more hs⟩
/-- An expression in memory that there is. -/
def Tx (w : World) (xs : List Value) (t : Tr) : Prop := RTx w (· < w.heap.size) xs t
theorem Tx.grow {w w' : World} {xs : List Value} {t : Tr} (h : Tx w xs t) (hb : Below w.heap.size w w') : Tx w' xs t :=
  RTx.more (fun _ hz => Nat.lt_of_lt_of_le hz hb.size) (RTx.keep (Kp.of_below hb) h)
theorem nodesL_take {l : List Tr} {j : Nat} (h : j < l.length) : nodesL (l.take (j + 1)) = nodesL (l.take j) + nodesT l[j] := by
  induction l generalizing j with
  | nil => cases h
  | cons t l ih =>
    cases j with
    | zero => simp [nodesL]
    | succ j =>
      have := ih (j := j) (by simpa using h)
      simp only [List.take_succ_cons, nodesL, List.getElem_cons_succ]
      omega
theorem depthL_take {l : List Tr} {j : Nat} (h : j < l.length) : depthL (l.take (j + 1)) = max (depthL (l.take j)) (depthT l[j]) := by
  induction l generalizing j with
  | nil => cases h
  | cons t l ih =>
    cases j with
    | zero => simp [depthL]
    | succ j =>
      have := ih (j := j) (by simpa using h)
      simp only [List.take_succ_cons, depthL, List.getElem_cons_succ]
      omega
theorem nodesL_le {l : List Tr} {j : Nat} : nodesL (l.take j) ≤ nodesL l := by
  induction l generalizing j with
  | nil => simp
  | cons t l ih =>
    cases j with
    | zero => simp [nodesL]
    | succ j =>
      have := ih (j := j)
      simp only [List.take_succ_cons, nodesL]
      omega
theorem depth_nodes : ∀ t : Tr, depthT t ≤ nodesT t := by
  refine tr_ind fun d args ih => ?_
  rw [depthT, nodesT]
  have : ∀ l : List Tr, (∀ a ∈ l, depthT a ≤ nodesT a) → depthL l ≤ nodesL l := by
    intro l
    induction l with
    | nil => intro _; simp [depthL, nodesL]
    | cons t l ihl =>
      intro h
      have h1 := h t (by simp)
      have h2 := ihl fun a ha => h a (by simp [ha])
      rw [depthL, nodesL]
      omega
  have := this args ih
  omega
end Go.Proofs.Ytkcbjnhphekadaa

namespace Go.Proofs.Ytkcbjnhphekadaa
open Go.RowKit
set_option linter.unusedVariables false
set_option linter.unusedSimpArgs false
set_option maxRecDepth 100000 in
set_option maxHeartbeats 8000000 in
theorem xsize_any : ∀ (t : Tr) (w : World) (xs : List Value), Tx w xs t → nodesT t ≤ 1000 → Calls Try.prog 23 #[.agg xs.toArray] w (Ret (.tuple #[.int .i64 (nodesT t : Int), .int .i64 (depthT t : Int)]) w) := by
  refine tr_ind fun d args ih => ?_
  intro w xs h hn
  obtain ⟨v, rfl, hl, hd⟩ := RTx.out h
  obtain ⟨A, cap, rfl⟩ := hl.form
  have hN : nodesT (.mk d args) = nodesL args + 1 := by rw [nodesT]
  have hD : depthT (.mk d args) = depthL args + 1 := by rw [depthT]
  have hdn := depth_nodes (.mk d args)
  rw [hN] at hn hdn
  rw [hD] at hdn
  rw [hN, hD]
  have HL := hide hl
  have HIH := hide ih
  have hm := hl.len
  unfold maxLen at hm
  obtain ⟨m, hmm⟩ : ∃ m, args.length = m := ⟨_, rfl⟩
  have HM := hide hmm
  rw [hmm] at HL hm ⊢
  obtain ⟨N, hNN⟩ : ∃ n, nodesL args = n := ⟨_, rfl⟩
  obtain ⟨D, hDD⟩ : ∃ n, depthL args = n := ⟨_, rfl⟩
  have HND := hide (And.intro hNN hDD)
  rw [hNN] at hn hdn ⊢
  rw [hDD] at hdn ⊢
  have HB := hide (below_laid (w := w) (.cells #[.int .i64 d.op, .slice A m cap, .int .i64 d.var, .int .i64 d.field, .int .i64 d.kind, .int .i64 d.val.q, .int .i64 d.val.n, .string d.val.s] 30))
  clear h hl hd ih hmm hNN hDD hN hD
  go_enter Try.func23, Try.ntmps23
  go_wp2_with fail
  go_loopw [4, 5, 13] (fun a b i wr => ∃ j : Nat, j ≤ m ∧ i = .int .i64 j ∧ a = .int .i64 ((nodesL (args.take j) + 1 : Nat) : Int) ∧ b = .int .i64 (depthL (args.take j) : Int) ∧ Hid (Below w.heap.size w wr)) (fun _ _ i _ => m - (intOf i).toNat)
  case atStart => exact ⟨0, Nat.zero_le _, rfl, by simp [nodesL], by simp [depthL], HB⟩
  case round =>
    obtain ⟨j, hj, rfl, rfl, rfl, HW⟩ := hrel
    by_cases hlt : j < m
    · have hja : j < args.length := by rw [HM.out]; exact hlt
      obtain ⟨g, off, ys, e2, hg, hyl, hc, hr⟩ := Lst.at_ HL.out hja
      subst e2
      have hgw : g < w.heap.size := hg
      have HC := hide (HIH.out args[j] (List.getElem_mem hja))
      have HNT := hide (nodesL_take hja)
      have HDT := hide (depthL_take hja)
      have hle := nodesL_le (l := args) (j := j + 1)
      have hde := depth_nodes args[j]
      rw [HNT.out, HND.out.1] at hle
      obtain ⟨t, ht⟩ : ∃ t, args[j] = t := ⟨_, rfl⟩
      rw [ht] at hr HC HNT HDT hle hde
      clear ht
      obtain ⟨d2, l2⟩ := t
      obtain ⟨v2, rfl, hl2, hd2⟩ := RTx.out hr
      obtain ⟨A2, cap2, rfl⟩ := hl2.form
      have k0 := keep1 HW.out (hc 0 _ rfl)
      have k1 := keep1 HW.out (hc 1 _ rfl)
      have k2 := keep1 HW.out (hc 2 _ rfl)
      have k3 := keep1 HW.out (hc 3 _ rfl)
      have k4 := keep1 HW.out (hc 4 _ rfl)
      have k5 := keep1 HW.out (hc 5 _ rfl)
      have k6 := keep1 HW.out (hc 6 _ rfl)
      have k7 := keep1 HW.out (hc 7 _ rfl)
      rw [Nat.add_zero] at k0
      have hu0 : (0 : Int) ≤ (j : Int) := by omega
      have hu1 : (j : Int) < (m : Int) := by omega
      have HTX : Hid (Tx w (cellsX d2 (.slice A2 l2.length cap2)) (.mk d2 l2)) := hide hr
      obtain ⟨n2, hn2⟩ : ∃ n, l2.length = n := ⟨_, rfl⟩
      rw [hn2] at k1 HTX
      obtain ⟨a, ha⟩ : ∃ a, nodesL (args.take j) = a := ⟨_, rfl⟩
      obtain ⟨b, hb⟩ : ∃ b, depthL (args.take j) = b := ⟨_, rfl⟩
      obtain ⟨p, hp⟩ : ∃ p, nodesT (.mk d2 l2) = p := ⟨_, rfl⟩
      obtain ⟨q, hq⟩ : ∃ q, depthT (.mk d2 l2) = q := ⟨_, rfl⟩
      rw [ha] at HNT hle ⊢
      rw [hb] at HDT ⊢
      rw [hp] at HNT hle hde HC
      rw [hq] at HDT hde HC
      have HBX := hide (below_laid (w := wr) (.cells #[.int .i64 d2.op, .slice A2 n2 cap2, .int .i64 d2.var, .int .i64 d2.field, .int .i64 d2.kind, .int .i64 d2.val.q, .int .i64 d2.val.n, .string d2.val.s] 30))
      have HCC := hide (HC.out _ _ (HTX.out.grow (bthen HW.out HBX.out)) (by omega))
      have HWX := hide (bthen HW.out HBX.out)
      clear hc hyl hr hl2 hd2 hg hn2 ha hb hp hq HC HTX HBX
      go_wp2_with fail
      refine HCC.out.mono ?_
      rintro r w3 ⟨rfl, hb3⟩
      have HW3 := hide (bthen HWX.out hb3)
      clear k0 k1 k2 k3 k4 k5 k6 k7 hb3 HCC HWX
      by_cases hm3 : b < q
      · have t5 : decide ((b : Int) < (q : Int)) = true := decide_eq_true (by omega)
        have t6 : decide (b < q) = true := decide_eq_true hm3
        go_wp2
        go_roundw
        case rel => exact ⟨j + 1, by omega, by go_num, by rw [HNT.out]; go_num, by rw [HDT.out, Nat.max_eq_right (by omega)], HW3⟩
        case measure => simp [intOf]; omega
      · have t5 : decide ((b : Int) < (q : Int)) = false := decide_eq_false (by omega)
        have t6 : decide (b < q) = false := decide_eq_false hm3
        go_wp2
        go_roundw
        case rel => exact ⟨j + 1, by omega, by go_num, by rw [HNT.out]; go_num, by rw [HDT.out, Nat.max_eq_left (by omega)], HW3⟩
        case measure => simp [intOf]; omega
    · obtain rfl : m = j := by omega
      have hta : args.take m = args := List.take_of_length_le (by rw [HM.out]; exact Nat.le_refl _)
      rw [hta, HND.out.1, HND.out.2]
      clear hta
      go_wp2
      go_ret2
      exact ⟨rfl, HW.out⟩
end Go.Proofs.Ytkcbjnhphekadaa
