/- Coordinators as plain data: what each function computes. -/
import Derived.Test.YtihbonndinnohaaShp
namespace Go.Proofs.Ytihbonndinnohaa
open Go.RowKit
set_option linter.unusedVariables false
set_option linter.unusedSimpArgs false
/-- A reader, by source and offset; a keyed engine, by query and key; an operator; an attempt; a coordinator. -/
structure Rq where
  src : Int
  off : Int
structure Kq where
  q : Int
  k : Int
  n : Int
  s : ByteArray
structure Oq where
  marks : List Int
  engs : List Kq
structure Aq where
  num : Int
  rds : List Rq
  ops : List Oq
  hv : List Bool
structure Cq where
  next : Int
  atts : List Aq
  dur : Int
def Oq.z : Oq := ⟨[], []⟩
def Aq.z : Aq := ⟨0, [], [], []⟩
def Cq.z : Cq := ⟨0, [], 0⟩
instance : Inhabited Rq := ⟨⟨0, 0⟩⟩
instance : Inhabited Kq := ⟨⟨0, 0, 0, .empty⟩⟩
instance : Inhabited Oq := ⟨Oq.z⟩
instance : Inhabited Aq := ⟨Aq.z⟩
def inQ (n : Int) : Prop := -9223372036854775808 ≤ n ∧ n ≤ 9223372036854775807

/-- Each element of each list as it lies in memory; lists are bounded as any machine bounds them. -/
def RIq (_ : World) (_ : Nat → Prop) (xs : List Value) (n : Int) : Prop := xs = [.int .i64 n]
def RBq (_ : World) (_ : Nat → Prop) (xs : List Value) (b : Bool) : Prop := xs = [.bool b]
def RRq (_ : World) (_ : Nat → Prop) (xs : List Value) (r : Rq) : Prop := ∃ (m t : Int) (A D : Option Addr) (n c k e : Nat), xs = [.int .i64 r.src, .int .i64 r.off, .int .i64 m, .slice A n c, .slice D k e, .int .i64 t]
def RKq (_ : World) (_ : Nat → Prop) (xs : List Value) (x : Kq) : Prop := ∃ (m : Int) (A D E : Option Addr) (n c k e i j : Nat), xs = [.int .i64 x.q, .int .i64 x.k, .int .i64 x.n, .string x.s, .int .i64 m, .slice A n c, .slice D k e, .slice E i j]
def ROq (w : World) (Z : Nat → Prop) (xs : List Value) (o : Oq) : Prop := ∃ v u, xs = [v, u] ∧ Lst w Z 1 RIq v o.marks ∧ Lst w Z 8 RKq u o.engs ∧ o.marks.length ≤ 140737488351232 ∧ o.engs.length ≤ 140737488351232
def RAq (w : World) (Z : Nat → Prop) (xs : List Value) (a : Aq) : Prop := ∃ v u t, xs = [.int .i64 a.num, v, u, t] ∧ Lst w Z 6 RRq v a.rds ∧ Lst w Z 2 ROq u a.ops ∧ Lst w Z 1 RBq t a.hv ∧ inQ a.num
theorem rd_Iq : Rd RIq := ⟨fun _ h => h, fun _ h => h⟩
theorem rd_Bq : Rd RBq := ⟨fun _ h => h, fun _ h => h⟩
theorem rd_Rq : Rd RRq := ⟨fun _ h => h, fun _ h => h⟩
theorem rd_Kq : Rd RKq := ⟨fun _ h => h, fun _ h => h⟩
theorem rd_Oq : Rd ROq := ⟨fun hk ⟨v, u, e, h1, h2, h3⟩ => ⟨v, u, e, h1.keep rd_Iq hk, h2.keep rd_Kq hk, h3⟩, fun hs ⟨v, u, e, h1, h2, h3⟩ => ⟨v, u, e, h1.more rd_Iq hs, h2.more rd_Kq hs, h3⟩⟩
theorem rd_Aq : Rd RAq := ⟨fun hk ⟨v, u, t, e, h1, h2, h3, h4⟩ => ⟨v, u, t, e, h1.keep rd_Rq hk, h2.keep rd_Oq hk, h3.keep rd_Bq hk, h4⟩, fun hs ⟨v, u, t, e, h1, h2, h3, h4⟩ => ⟨v, u, t, e, h1.more rd_Rq hs, h2.more rd_Oq hs, h3.more rd_Bq hs, h4⟩⟩
/-- A list in memory that there is. -/
def Lq {α : Type} (w : World) (sz : Nat) (R : World → (Nat → Prop) → List Value → α → Prop) (v : Value) (l : List α) : Prop := Lst w (· < w.heap.size) sz R v l
/-- A coordinator, as a value. -/
def CoV (w : World) (v : Value) (c : Cq) : Prop := ∃ u, v = .agg #[.int .i64 c.next, u, .int .i64 c.dur] ∧ Lq w 4 RAq u c.atts ∧ inQ c.next ∧ inQ c.dur
section
variable {α : Type} {R : World → (Nat → Prop) → List Value → α → Prop} {w w' : World} {sz : Nat} {v : Value} {l : List α} {c : Cq}
theorem Lq.grow (hR : Rd R) (h : Lq w sz R v l) (hb : Below w.heap.size w w') : Lq w' sz R v l :=
  (Lst.keep hR (Kp.of_below hb) h).more hR fun _ hz => Nat.lt_of_lt_of_le hz hb.size
theorem Lq.laid (hR : Rd R) (h : Lq w sz R v l) (o : Obj) : Lq (w.alloc o) sz R v l := h.grow hR (below_laid o)
theorem CoV.grow (h : CoV w v c) (hb : Below w.heap.size w w') : CoV w' v c := by
  obtain ⟨u, e, hl, h1, h2⟩ := h
  exact ⟨u, e, hl.grow rd_Aq hb, h1, h2⟩
theorem CoV.laid (h : CoV w v c) (o : Obj) : CoV (w.alloc o) v c := h.grow (below_laid o)
theorem CoV.zero : CoV w (.agg #[.int .i64 0, .slice none 0 0, .int .i64 0]) Cq.z := ⟨_, rfl, Lst.nil, by unfold Cq.z inQ; exact ⟨by decide, by decide⟩, by unfold Cq.z inQ; exact ⟨by decide, by decide⟩⟩
end

/-- The first error of E 0, E 1, .. E (n - 1); 0 if there is none. -/
def firstE (E : Nat → Int) : Nat → Nat → Int
  | _, 0 => 0
  | k, n + 1 => if E k ≠ 0 then E k else firstE E (k + 1) n
theorem firstE_all {E : Nat → Int} : ∀ {n k : Nat}, (∀ i, k ≤ i → i < k + n → E i = 0) → firstE E k n = 0
  | 0, _, _ => rfl
  | n + 1, k, h => by
    rw [firstE, if_neg (by have := h k (Nat.le_refl _) (by omega); simp [this])]
    exact firstE_all fun i h1 h2 => h i (by omega) (by omega)
theorem firstE_hit {E : Nat → Int} : ∀ {n k j : Nat}, k ≤ j → j < k + n → (∀ i, k ≤ i → i < j → E i = 0) → E j ≠ 0 → firstE E k n = E j
  | 0, _, _, h, h', _, _ => by omega
  | n + 1, k, j, h, h', hz, hj => by
    rw [firstE]
    by_cases e : j = k
    · subst e; rw [if_pos hj]
    · rw [if_neg (by have := hz k (Nat.le_refl _) (by omega); simp [this])]
      exact firstE_hit (by omega) (by omega) (fun i h1 h2 => hz i (by omega) h2) hj
theorem firstE_zero {E : Nat → Int} : ∀ {n k : Nat}, firstE E k n = 0 → ∀ i, k ≤ i → i < k + n → E i = 0
  | 0, _, _, i, h1, h2 => by omega
  | n + 1, k, h, i, h1, h2 => by
    rw [firstE] at h
    by_cases hk : E k = 0
    · rw [if_neg (by simp [hk])] at h
      by_cases e : i = k
      · subst e; exact hk
      · exact firstE_zero h i (by omega) (by omega)
    · rw [if_pos hk] at h; exact absurd h hk

def bareQ (o : Oq) : Bool := decide (o.marks.length = 0) && decide (o.engs.length = 0)
def attQ (c : Cq) (i : Nat) : Aq := c.atts.getD i Aq.z
/-- The five conditions of an attempt. -/
def leastQ (c : Cq) (i : Nat) : Int := if i = 0 then c.dur else (attQ c (i - 1)).num
def ok1 (c : Cq) (i : Nat) : Bool := decide (leastQ c i < (attQ c i).num) && decide ((attQ c i).num < c.next)
def ok2 (c : Cq) (i : Nat) : Bool := decide (1 ≤ (attQ c i).rds.length) && decide ((attQ c i).rds.length ≤ 8) && decide ((attQ c i).rds.length = (attQ c 0).rds.length)
def ok3 (c : Cq) (i : Nat) : Bool := decide (1 ≤ (attQ c i).hv.length) && decide ((attQ c i).hv.length ≤ 8) && decide ((attQ c i).hv.length = (attQ c 0).hv.length) && decide ((attQ c i).ops.length = (attQ c i).hv.length)
def ok4 (c : Cq) (i : Nat) : Bool := (List.range (attQ c i).hv.length).all fun k => (attQ c i).hv.getD k true || bareQ ((attQ c i).ops.getD k Oq.z)
def ok5 (c : Cq) (i : Nat) : Bool := decide (i = 0) || (List.range (attQ c i).hv.length).all fun k => !(attQ c i).hv.getD k false || (attQ c (i - 1)).hv.getD k true
def errQ (c : Cq) (i : Nat) : Int := if ok1 c i = false then 14 else if (ok2 c i && ok3 c i) = false then 15 else if ok4 c i = false then 3 else if ok5 c i = false then 21 else 0
def numsOk (c : Cq) : Bool := decide (1 ≤ c.next) && decide (c.next ≤ 1099511627776) && decide (0 ≤ c.dur) && decide (c.dur < c.next)
def chkQ (c : Cq) : Int := if numsOk c = false then 2 else if 256 < c.atts.length then 5 else firstE (errQ c) 0 c.atts.length

/-- What Trigger, Report, Ready, Finish, Cancel, Resume return. -/
def fitQ (c : Cq) (nr : Nat) (n : Int) : Int :=
  if nr < 1 ∨ 8 < nr ∨ n < 1 ∨ 8 < n then 5
  else if 0 < c.atts.length ∧ ((attQ c 0).rds.length ≠ nr ∨ ((attQ c 0).hv.length : Int) ≠ n) then 15
  else if c.atts.length = 256 then 27 else if c.next = 1099511627776 then 17 else 0
def trigE (c : Cq) (nr : Nat) (n : Int) : Int := if chkQ c ≠ 0 then chkQ c else fitQ c nr n
def newA (c : Cq) (rds : List Rq) (n : Nat) : Aq := ⟨c.next, rds, List.replicate n Oq.z, List.replicate n false⟩
def trigC (c : Cq) (rds : List Rq) (n : Int) : Cq := if trigE c rds.length n = 0 then ⟨c.next + 1, c.atts ++ [newA c rds n.toNat], c.dur⟩ else Cq.z
def trigN (c : Cq) (nr : Nat) (n : Int) : Int := if trigE c nr n = 0 then c.next else 0
/-- The index of the attempt with a number; the number of attempts if there is none. -/
def findQ (num : Int) : List Aq → Nat
  | [] => 0
  | a :: l => if a.num = num then 0 else findQ num l + 1
def repE (c : Cq) (num wk : Int) : Int :=
  if chkQ c ≠ 0 then chkQ c else if findQ num c.atts = c.atts.length then 6
  else if wk < 0 ∨ ((attQ c (findQ num c.atts)).hv.length : Int) ≤ wk then 2
  else if (attQ c (findQ num c.atts)).hv.getD wk.toNat false = true then 31
  else if 0 < findQ num c.atts ∧ (attQ c (findQ num c.atts - 1)).hv.getD wk.toNat true = false then 14 else 0
def repA (a : Aq) (k : Nat) (o : Oq) : Aq := ⟨a.num, a.rds, a.ops.set k o, a.hv.set k true⟩
def repC (c : Cq) (num wk : Int) (o : Oq) : Cq := if repE c num wk = 0 then ⟨c.next, c.atts.set (findQ num c.atts) (repA (attQ c (findQ num c.atts)) wk.toNat o), c.dur⟩ else Cq.z
def compQ (a : Aq) : Bool := a.hv.all id
def rdyB (c : Cq) : Bool := decide (chkQ c = 0) && decide (0 < c.atts.length) && compQ (attQ c 0)
def finE (c : Cq) (num : Int) : Int :=
  if chkQ c ≠ 0 then chkQ c else if findQ num c.atts = c.atts.length then 6 else if 0 < findQ num c.atts then 14 else if compQ (attQ c 0) = false then 21 else 0
def finC (c : Cq) (num : Int) : Cq := if finE c num = 0 then ⟨c.next, c.atts.drop 1, num⟩ else Cq.z
def canC (c : Cq) : Cq := if chkQ c = 0 then ⟨c.dur + 1, [], c.dur⟩ else Cq.z
def resE (c : Cq) (num : Int) : Int := if chkQ c ≠ 0 then chkQ c else if num < 0 ∨ 1099511627776 ≤ num then 2 else 0
def resC (c : Cq) (num : Int) : Cq := if resE c num = 0 then ⟨num + 1, [], num⟩ else Cq.z

theorem findQ_le (num : Int) : ∀ l : List Aq, findQ num l ≤ l.length
  | [] => Nat.le_refl _
  | a :: l => by
    rw [findQ]; split
    · exact Nat.zero_le _
    · have := findQ_le num l; simp; omega
theorem findQ_hit {num : Int} : ∀ {l : List Aq} {i : Nat} (h : i < l.length), (∀ j (hj : j < i), (l[j]'(by omega)).num ≠ num) → l[i].num = num → findQ num l = i
  | [], _, h, _, _ => absurd h (Nat.not_lt_zero _)
  | a :: l, 0, _, _, he => by
    have h0 : a.num = num := he
    rw [findQ, if_pos h0]
  | a :: l, i + 1, h, hn, he => by
    have h0 : ¬ a.num = num := hn 0 (by omega)
    rw [findQ, if_neg h0, findQ_hit (l := l) (i := i) (by simpa using h) (fun j hj => hn (j + 1) (by omega)) (by simpa using he)]
theorem findQ_none {num : Int} : ∀ {l : List Aq}, (∀ j (hj : j < l.length), l[j].num ≠ num) → findQ num l = l.length
  | [], _ => rfl
  | a :: l, h => by
    have h0 : ¬ a.num = num := h 0 (by simp)
    rw [findQ, if_neg h0, findQ_none (l := l) (fun j hj => h (j + 1) (by simpa using hj))]; simp
theorem attQ_get {c : Cq} {i : Nat} (h : i < c.atts.length) : attQ c i = c.atts[i] := by simp [attQ, h]
end Go.Proofs.Ytihbonndinnohaa
