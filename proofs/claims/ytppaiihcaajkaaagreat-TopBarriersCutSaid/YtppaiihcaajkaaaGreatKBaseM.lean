/- Items, messages, queues, trackers: as data and in memory. Lists as bare cells. slices.Clone, of lists of bare cells. Lists under way: rows of own memory in blocks of Y, whose elements read in blocks of Y beside the row's own; append of one element; a store into a row. -/
import Derived.Test.YtppaiihcaajkaaaGreatCPlain
import Derived.Deep.Slices
namespace Go.Proofs.YtppaiihcaajkaaaGreat
open Go.RowKit
set_option linter.unusedVariables false
set_option linter.unusedSimpArgs false
def RV0 (_ : World) (_ : Nat → Prop) (xs : List Value) (x : V3) : Prop := xs = [.int .i64 x.q, .int .i64 x.n, .string x.s] ∧ gV x ∧ x.s.size ≤ maxLen
theorem rd_V0 : Rd RV0 := ⟨fun _ h => h, fun _ h => h⟩
theorem Lst.turn {α : Type} {R R' : World → (Nat → Prop) → List Value → α → Prop} {w : World} {Z : Nat → Prop} {sz : Nat} {v : Value} {l : List α} (h : Lst w Z sz R v l) (ht : ∀ x ∈ l, ∀ xs, R w Z xs x → R' w Z xs x) : Lst w Z sz R' v l := by
  refine ⟨h.1, fun j hj => ?_⟩
  obtain ⟨g, off, cap, xs, e, hz, hl, hc, hr⟩ := h.2 j hj
  exact ⟨g, off, cap, xs, e, hz, hl, hc, ht _ (List.getElem_mem hj) _ hr⟩
theorem Lst.below {α : Type} {R : World → (Nat → Prop) → List Value → α → Prop} (hR : Rd R) {w w' : World} {sz : Nat} {v : Value} {l : List α} (h : Lst w (· < w.heap.size) sz R v l) (hb : Below w.heap.size w w') : Lst w' (· < w'.heap.size) sz R v l :=
  (h.keep hR (Kp.of_below hb)).more hR fun b h => Nat.lt_of_lt_of_le h hb.size
structure Itm where
  k : Int
  e : Evt
  n : Int
structure Msg where
  k : Int
  e : Evt
  s : Int
  q : Int
  t : Int
structure Que where
  f : Int
  t : Int
  l : List Itm
structure Trk where
  next : Int
  beyond : List Int
  points : List Pnt
  mark : Int
/-- The numbers of an event are integers. -/
structure NumE (x : Evt) : Prop where
  a : inI x.a
  b : inI x.b
  c : inI x.c
  d : inI x.d
structure NumI (x : Itm) : Prop where
  k : inI x.k
  e : NumE x.e
  n : inI x.n
structure NumM (x : Msg) : Prop where
  k : inI x.k
  e : NumE x.e
  s : inI x.s
  q : inI x.q
  t : inI x.t
/-- The values of an event, as they lie in the world W0. -/
def VsE (W0 : World) (A : Option Addr) (c : Nat) (x : Evt) : Prop := Lst W0 (· < W0.heap.size) 3 RV0 (.slice A x.vs.length c) x.vs
def RIt (W0 : World) (_ : World) (_ : Nat → Prop) (xs : List Value) (x : Itm) : Prop := ∃ A c, xs = [.int .i64 x.k, .int .i64 x.e.a, .int .i64 x.e.b, .int .i64 x.e.c, .int .i64 x.e.d, .slice A x.e.vs.length c, .int .i64 x.n] ∧ VsE W0 A c x.e ∧ NumI x
def RMs (W0 : World) (_ : World) (_ : Nat → Prop) (xs : List Value) (x : Msg) : Prop := ∃ A c, xs = [.int .i64 x.k, .int .i64 x.e.a, .int .i64 x.e.b, .int .i64 x.e.c, .int .i64 x.e.d, .slice A x.e.vs.length c, .int .i64 x.s, .int .i64 x.q, .int .i64 x.t] ∧ VsE W0 A c x.e ∧ NumM x
def RQu (W0 : World) (w : World) (Z : Nat → Prop) (xs : List Value) (x : Que) : Prop := ∃ v, xs = [.int .i64 x.f, .int .i64 x.t, v] ∧ Lst w Z 7 (RIt W0) v x.l ∧ inI x.f ∧ inI x.t
def RIn (_ : World) (_ : Nat → Prop) (xs : List Value) (n : Int) : Prop := xs = [.int .i64 n] ∧ inI n
def RBo (_ : World) (_ : Nat → Prop) (xs : List Value) (b : Bool) : Prop := xs = [.bool b]
def RPn (_ : World) (_ : Nat → Prop) (xs : List Value) (x : Pnt) : Prop := xs = [.int .i64 x.s, .int .i64 x.t] ∧ inI x.s ∧ inI x.t
def RTr (w : World) (Z : Nat → Prop) (xs : List Value) (x : Trk) : Prop := ∃ u v, xs = [.int .i64 x.next, u, v, .int .i64 x.mark] ∧ Lst w Z 1 RIn u x.beyond ∧ Lst w Z 2 RPn v x.points ∧ inI x.next ∧ inI x.mark
theorem rd_It {W0 : World} : Rd (RIt W0) := ⟨fun _ h => h, fun _ h => h⟩
theorem rd_Ms {W0 : World} : Rd (RMs W0) := ⟨fun _ h => h, fun _ h => h⟩
theorem rd_Qu {W0 : World} : Rd (RQu W0) := ⟨fun hk ⟨v, e, h, hg⟩ => ⟨v, e, h.keep rd_It hk, hg⟩, fun hs ⟨v, e, h, hg⟩ => ⟨v, e, h.more rd_It hs, hg⟩⟩
theorem rd_In : Rd RIn := ⟨fun _ h => h, fun _ h => h⟩
theorem rd_Bo : Rd RBo := ⟨fun _ h => h, fun _ h => h⟩
theorem rd_Pn : Rd RPn := ⟨fun _ h => h, fun _ h => h⟩
theorem rd_Tr : Rd RTr := ⟨fun hk ⟨u, v, e, h, h', hg⟩ => ⟨u, v, e, h.keep rd_In hk, h'.keep rd_Pn hk, hg⟩, fun hs ⟨u, v, e, h, h', hg⟩ => ⟨u, v, e, h.more rd_In hs, h'.more rd_Pn hs, hg⟩⟩
/-- A tracker as a value. -/
structure TrV (w : World) (Z : Nat → Prop) (A : Option Addr) (a : Nat) (B : Option Addr) (b : Nat) (x : Trk) : Prop where
  u : Lst w Z 1 RIn (.slice A x.beyond.length a) x.beyond
  v : Lst w Z 2 RPn (.slice B x.points.length b) x.points
  n : inI x.next
  m : inI x.mark
theorem TrV.keep {w w' : World} {Z : Nat → Prop} {A : Option Addr} {a : Nat} {B : Option Addr} {b : Nat} {x : Trk} (hk : Kp Z w w') (h : TrV w Z A a B b x) : TrV w' Z A a B b x := ⟨h.u.keep rd_In hk, h.v.keep rd_Pn hk, h.n, h.m⟩
theorem TrV.below {w w' : World} {A : Option Addr} {a : Nat} {B : Option Addr} {b : Nat} {x : Trk} (h : TrV w (· < w.heap.size) A a B b x) (hb : Below w.heap.size w w') : TrV w' (· < w'.heap.size) A a B b x := ⟨h.u.below rd_In hb, h.v.below rd_Pn hb, h.n, h.m⟩
theorem iq_item : (Tryz.prog.info? 58).map (fun i => (i.zero, i.size, i.bytes)) = some (some (.agg #[.int .i64 0, .int .i64 0, .int .i64 0, .int .i64 0, .int .i64 0, .slice none 0 0, .int .i64 0]), 7, 72) := by kernel_rfl
theorem iq_queue : (Tryz.prog.info? 88).map (fun i => (i.zero, i.size, i.bytes)) = some (some (.agg #[.int .i64 0, .int .i64 0, .slice none 0 0]), 3, 40) := by kernel_rfl
theorem iq_tracker : (Tryz.prog.info? 33).map (fun i => (i.zero, i.size, i.bytes)) = some (some (.agg #[.int .i64 0, .slice none 0 0, .slice none 0 0, .int .i64 0]), 4, 64) := by kernel_rfl
theorem iq_point : (Tryz.prog.info? 84).map (fun i => (i.zero, i.size, i.bytes)) = some (some (.agg #[.int .i64 0, .int .i64 0]), 2, 16) := by kernel_rfl
theorem iq_int : (Tryz.prog.info? 3).map (fun i => (i.zero, i.size, i.bytes)) = some (some (.int .i64 0), 1, 8) := by kernel_rfl
theorem iq_bool : (Tryz.prog.info? 4).map (fun i => (i.zero, i.size, i.bytes)) = some (some (.bool false), 1, 1) := by kernel_rfl
end Go.Proofs.YtppaiihcaajkaaaGreat

namespace Go.Proofs.YtppaiihcaajkaaaGreat
open Go.RowKit Go.Deep
set_option linter.unusedVariables false
set_option linter.unusedSimpArgs false
/-- The bare cells of an element. -/
def RWq (_ : World) (_ : Nat → Prop) (xs c : List Value) : Prop := xs = c ∧ ∀ u ∈ xs, u.oneCell' = true
theorem rd_Wq : Rd RWq := ⟨fun _ h => h, fun _ h => h⟩
/-- Each cell of an element is one cell. -/
def One {α : Type} (R : World → (Nat → Prop) → List Value → α → Prop) : Prop := ∀ {w Z xs x}, R w Z xs x → ∀ u ∈ xs, u.oneCell' = true
section
variable {α : Type} {R : World → (Nat → Prop) → List Value → α → Prop} {w w' : World} {Z : Nat → Prop} {sz : Nat} {v v' : Value} {l : List α}
theorem flat_get {sz : Nat} (hsz : 0 < sz) : ∀ {cells : List (List Value)} {j : Nat} {u : Value}, (∀ c ∈ cells, c.length = sz) → cells.flatten[j]? = some u → ∃ c, cells[j / sz]? = some c ∧ c[j % sz]? = some u
  | [], j, u, _, h => by simp at h
  | c :: cells, j, u, hc, h => by
    have hl := hc c (List.mem_cons_self ..)
    rw [List.flatten_cons] at h
    by_cases hj : j < sz
    · rw [List.getElem?_append_left (by omega)] at h
      exact ⟨c, by rw [Nat.div_eq_of_lt hj]; rfl, by rw [Nat.mod_eq_of_lt hj]; exact h⟩
    · rw [List.getElem?_append_right (by omega), hl] at h
      obtain ⟨d, h1, h2⟩ := flat_get hsz (fun c hx => hc c (List.mem_cons_of_mem _ hx)) h
      refine ⟨d, ?_, ?_⟩
      · rw [show j / sz = (j - sz) / sz + 1 by rw [← Nat.sub_add_cancel (show sz ≤ j by omega), Nat.add_div_right _ hsz, Nat.add_sub_cancel]]
        simpa using h1
      · rw [show j % sz = (j - sz) % sz by rw [Nat.mod_eq_sub_mod (by omega)]]
        exact h2
/-- The cells of a list. -/
theorem lst_raw (hO : One R) (h : Lst w Z sz R v l) : ∃ cells : List (List Value), Lst w Z sz RWq v cells ∧ cells.length = l.length ∧ ∀ j (hj : j < l.length), ∃ xs, cells[j]? = some xs ∧ xs.length = sz ∧ R w Z xs l[j] := by
  have hX : ∀ j, j < l.length → ∃ xs : List Value, ∃ hj : j < l.length, ∃ g off cap, v = .slice (some ⟨g, off, none⟩) l.length cap ∧ Z g ∧ xs.length = sz ∧ (∀ c u, xs[c]? = some u → w.cell? ⟨g, off + j * sz + c, none⟩ = some u) ∧ R w Z xs l[j] := by
    intro j hj
    obtain ⟨g, off, cap, xs, e, hz, hl, hc, hr⟩ := h.2 j hj
    exact ⟨xs, hj, g, off, cap, e, hz, hl, hc, hr⟩
  obtain ⟨X, hX⟩ := choose_lt hX
  refine ⟨(List.range l.length).map X, ⟨?_, fun j hj => ?_⟩, by simp, fun j hj => ?_⟩
  · obtain ⟨A, cap, e, h1, h2⟩ := h.1
    exact ⟨A, cap, by simpa using e, by simpa using h1, by simpa using h2⟩
  · have hj' : j < l.length := by simpa using hj
    obtain ⟨_, g, off, cap, e, hz, hl, hc, hr⟩ := hX j hj'
    exact ⟨g, off, cap, X j, by simpa using e, hz, hl, hc, by simp [RWq]; exact hO hr⟩
  · obtain ⟨_, g, off, cap, e, hz, hl, hc, hr⟩ := hX j hj
    exact ⟨X j, by simp [hj], hl, hr⟩
theorem raw_len_all {l : List (List Value)} (h : Lst w Z sz RWq v l) : ∀ c ∈ l, c.length = sz := by
  intro c hc
  obtain ⟨j, hj, rfl⟩ := List.getElem_of_mem hc
  obtain ⟨_, _, _, xs, _, _, hl, _, hr⟩ := h.2 j hj
  rw [← hr.1]; exact hl
theorem raw_one {l : List (List Value)} (h : Lst w Z sz RWq v l) : ∀ u ∈ l.flatten, u.oneCell' = true := by
  intro u hu
  obtain ⟨c, hc, hu⟩ := List.mem_flatten.1 hu
  obtain ⟨j, hj, rfl⟩ := List.getElem_of_mem hc
  obtain ⟨_, _, _, xs, _, _, _, _, hr⟩ := h.2 j hj
  exact hr.2 u (by rw [hr.1]; exact hu)
theorem raw_cells {l : List (List Value)} {A : Option Addr} {n cap : Nat} (hsz : 0 < sz) (h : Lst w Z sz RWq (.slice A n cap) l) {ad : Addr} (hA : A = some ad) : ∀ j u, l.flatten[j]? = some u → w.cell? (ad.add j) = some u := by
  intro j u hu
  obtain ⟨c, h1, h2⟩ := flat_get hsz (raw_len_all h) hu
  have hj := (List.getElem?_eq_some_iff.1 h1).1
  obtain ⟨g, off, cap', xs, e, hz, hl, hc, hr⟩ := h.2 (j / sz) hj
  have e1 : A = some ⟨g, off, none⟩ := by injection e
  rw [hA] at e1
  injection e1 with e1
  subst e1
  have e2 : xs = c := by rw [hr.1]; exact (List.getElem?_eq_some_iff.1 h1).2
  subst e2
  have h3 := hc (j % sz) u h2
  rw [show (⟨g, off, none⟩ : Addr).add j = ⟨g, off + j / sz * sz + j % sz, none⟩ by
    have := Nat.div_add_mod' j sz
    unfold Addr.add; split <;> simp_all <;> omega]
  exact h3
end
section
variable {P : Program} {w : World}
theorem run_append_none (base : Nat) (t ty e : TypeId) (i : TypeInfo) (size : Nat) (ht : P.underlying t = some (.slice e)) (hi : P.info? e = some i)
    (v : Value) (n : Nat) (xs : List Value) (hown : w.ownsRow base e size v n xs) (c : Nat) : (Builtin.append_ #[t, t] ty #[v, .slice none 0 c]).run P w = .ok v w := by
  rcases hown.2 with ⟨rfl, rfl⟩ | ⟨g, cap, cur, rfl, _, _, hnc, _⟩
  · simp [Builtin.append_, run_underlying ht, sizeOf, typeInfo, hi, Builtin.lenOf, Builtin.firstCells]
  · simp [Builtin.append_, run_underlying ht, sizeOf, typeInfo, hi, Builtin.lenOf, Builtin.firstCells, hnc, storeCells]
/-- append(s, x...) of a list of bare cells. -/
theorem wpList_append_lst {ops : Array Oper} {rest : List Oper} {o : Oper} {a : Act} {Q : Exit → Act → World → Prop} {Z : Nat → Prop} (hgd : o.guard = none) (s x : Operand) (t : TypeId)
    (ho : o.op = .call { callee := .builtin .append, args := #[s, x], argTypes := #[t, t] })
    (base : Nat) (e : TypeId) (i : TypeInfo) (z : Value) (size bytes : Nat) (ht : P.underlying t = some (.slice e)) (hi : P.info? e = some i) (hz : i.zero = some z)
    (hsize : i.size = size) (hby : i.bytes = bytes) (hzs : z.cells.size = size) (hsz : 0 < size)
    (v : Value) (n : Nat) (xs : List Value) (hs : a.eval s = v) (hown : w.ownsRow base e size v n xs)
    (A : Option Addr) (m c : Nat) (cells : List (List Value)) (hx : a.eval x = .slice A m c) (hl : Lst w Z size RWq (.slice A m c) cells)
    (hm : m ≤ 1000000) (hn : n ≤ 1000000) (hb100 : bytes ≤ 128) (hbase : base ≤ w.heap.size)
    (h : ∀ v' w', w'.ownsRow base e size v' (n + m) (xs ++ cells.flatten) → w.grownBy w' v.ownBlock → wpList P ops Q rest (a.put o.dst v') w') :
    wpList P ops Q (o :: rest) a w := by
  obtain ⟨A', c', e0, hlc, hmm⟩ := hl.1
  injection e0 with hA' hm' hc'
  subst hA' hm' hc'
  refine wpList_plain hgd fun K hK => ?_
  have key : ∃ v' w', (Builtin.append_ #[t, t] o.type #[v, .slice A cells.length c]).run P w = .ok v' w' ∧ w'.ownsRow base e size v' (n + cells.length) (xs ++ cells.flatten) ∧ w.grownBy w' v.ownBlock := by
    cases A with
    | none =>
      have h0 : cells = [] := by
        cases cells with
        | nil => rfl
        | cons x l =>
          obtain ⟨g, off, cap, xs, e0, -⟩ := hl.2 0 (by simp)
          cases e0
      subst h0
      exact ⟨v, w, run_append_none base t o.type e i size ht hi v n xs hown c, by simpa using hown, World.grownBy.refl w _⟩
    | some ad =>
      have hbb : (n + cells.length) * bytes ≤ 140737488355328 := by
        calc (n + cells.length) * bytes ≤ 2000000 * 128 := Nat.mul_le_mul (by omega) hb100
          _ ≤ 140737488355328 := by omega
      obtain ⟨v', w', hr, h2, h3, -, -⟩ := run_append_own_at (P := P) w base t o.type e i z size bytes ht hi hz hsize hby hzs hsz v n xs hown ad cells.length c cells.flatten
        (by have hall := raw_len_all hl; rw [List.length_flatten, List.map_congr_left (g := fun _ => size) (fun x hx => hall x hx), List.map_const', List.sum_replicate_nat])
        (raw_cells hsz hl rfl) (raw_one hl) (by unfold maxLen; omega) hbb hbase
      exact ⟨v', w', hr, h2, h3⟩
  obtain ⟨v', w', hr, h2, h3⟩ := key
  unfold Oper.wp execOp
  simp only [ho, resolve, invoke, builtin, Sem.run_bind, Sem.run_pure, Result.andThen_ok, List.map_toArray, List.map_cons, List.map_nil, hs, hx, hr]
  exact hK _ _ (h v' w' h2 h3)
end
end Go.Proofs.YtppaiihcaajkaaaGreat

namespace Go.Proofs.YtppaiihcaajkaaaGreat
open Go.RowKit
set_option linter.unusedVariables false
set_option linter.unusedSimpArgs false
/-- A copy of a list of bare cells. -/
def RetCp (w : World) (te : TypeId) (sz : Nat) (cells : List (List Value)) (e : Ending) (w' : World) : Prop := ∃ v, e = .returned v ∧ w'.ownsRow w.heap.size te sz v cells.length cells.flatten ∧ Below w.heap.size w w'
set_option maxHeartbeats 1000000 in
theorem iclone_any (A : Option Addr) (c : Nat) (cells : List (List Value)) (w : World) (Z : Nat → Prop) (h : Lst w Z 1 RWq (.slice A cells.length c) cells) (hl : cells.length ≤ 100000) :
    Calls Tryz.prog 48 #[.slice A cells.length c] w (RetCp w 3 1 cells) := by
  obtain ⟨i0, hi, hz0, hz1, hz2⟩ := info_parts iq_int
  have qT : ∀ (w : World) (a : Option Addr) (n c n' c' : Nat), (binOp .eql 30 (.slice a n c) (.slice none n' c')).run Tryz.prog w = .ok (.bool a.isNone) w := fun w a n c n' c' => Lib.run_eql_slice_nil w _ _ a n c n' c' Tryz.underlying30
  cases A with
  | none =>
    have h0 : cells = [] := by
      cases cells with
      | nil => rfl
      | cons x l => obtain ⟨g, off, xs, e, -⟩ := h.at_ (j := 0) (by simp); cases e
    subst h0
    clear h
    go_enter Tryz.func48, Tryz.ntmps48
    go_wp2
    go_ret
    exact ⟨_, rfl, World.ownsRow_nil _ _ _ _, Below.refl _ _⟩
  | some a0 =>
    obtain ⟨m, hm⟩ : ∃ m, cells.length = m := ⟨_, rfl⟩
    have HM := hide hm
    rw [hm] at h hl ⊢
    have HL := hide (h.keep rd_Wq (Kp.alloc (.cells #[] 3)))
    have hown := own_lit w [] 3 w.heap.size 1 0 (Nat.le_refl _) rfl (by unfold maxLen; omega)
    clear h hm
    go_enter Tryz.func48, Tryz.ntmps48
    go_wp2_with (at_builtin; refine wpList_append_lst rfl _ _ 30 rfl w.heap.size 3 i0 _ 1 8 Tryz.underlying30 hi hz0 hz1 hz2 rfl (by decide) (.slice (some ⟨w.heap.size, 0, none⟩) 0 0) 0 [] rfl hown (some a0) m c cells rfl HL.out (by omega) (by decide) (by decide) (by simp) ?_; intro v' w' hown2 hg)
    go_ret
    refine ⟨_, rfl, ?_, (below_laid _).grown hg (by simp) (fun k hk => by cases hk; exact Nat.le_refl _)⟩
    rw [HM.out]
    simpa using hown2
set_option maxHeartbeats 1000000 in
theorem bclone_any (A : Option Addr) (c : Nat) (cells : List (List Value)) (w : World) (Z : Nat → Prop) (h : Lst w Z 1 RWq (.slice A cells.length c) cells) (hl : cells.length ≤ 100000) :
    Calls Tryz.prog 43 #[.slice A cells.length c] w (RetCp w 4 1 cells) := by
  obtain ⟨i0, hi, hz0, hz1, hz2⟩ := info_parts iq_bool
  have qT : ∀ (w : World) (a : Option Addr) (n c n' c' : Nat), (binOp .eql 38 (.slice a n c) (.slice none n' c')).run Tryz.prog w = .ok (.bool a.isNone) w := fun w a n c n' c' => Lib.run_eql_slice_nil w _ _ a n c n' c' Tryz.underlying38
  cases A with
  | none =>
    have h0 : cells = [] := by
      cases cells with
      | nil => rfl
      | cons x l => obtain ⟨g, off, xs, e, -⟩ := h.at_ (j := 0) (by simp); cases e
    subst h0
    clear h
    go_enter Tryz.func43, Tryz.ntmps43
    go_wp2
    go_ret
    exact ⟨_, rfl, World.ownsRow_nil _ _ _ _, Below.refl _ _⟩
  | some a0 =>
    obtain ⟨m, hm⟩ : ∃ m, cells.length = m := ⟨_, rfl⟩
    have HM := hide hm
    rw [hm] at h hl ⊢
    have HL := hide (h.keep rd_Wq (Kp.alloc (.cells #[] 4)))
    have hown := own_lit w [] 4 w.heap.size 1 0 (Nat.le_refl _) rfl (by unfold maxLen; omega)
    clear h hm
    go_enter Tryz.func43, Tryz.ntmps43
    go_wp2_with (at_builtin; refine wpList_append_lst rfl _ _ 38 rfl w.heap.size 4 i0 _ 1 1 Tryz.underlying38 hi hz0 hz1 hz2 rfl (by decide) (.slice (some ⟨w.heap.size, 0, none⟩) 0 0) 0 [] rfl hown (some a0) m c cells rfl HL.out (by omega) (by decide) (by decide) (by simp) ?_; intro v' w' hown2 hg)
    go_ret
    refine ⟨_, rfl, ?_, (below_laid _).grown hg (by simp) (fun k hk => by cases hk; exact Nat.le_refl _)⟩
    rw [HM.out]
    simpa using hown2
set_option maxHeartbeats 1000000 in
theorem pclone_any (A : Option Addr) (c : Nat) (cells : List (List Value)) (w : World) (Z : Nat → Prop) (h : Lst w Z 2 RWq (.slice A cells.length c) cells) (hl : cells.length ≤ 100000) :
    Calls Tryz.prog 49 #[.slice A cells.length c] w (RetCp w 84 2 cells) := by
  obtain ⟨i0, hi, hz0, hz1, hz2⟩ := info_parts iq_point
  have qT : ∀ (w : World) (a : Option Addr) (n c n' c' : Nat), (binOp .eql 31 (.slice a n c) (.slice none n' c')).run Tryz.prog w = .ok (.bool a.isNone) w := fun w a n c n' c' => Lib.run_eql_slice_nil w _ _ a n c n' c' Tryz.underlying31
  cases A with
  | none =>
    have h0 : cells = [] := by
      cases cells with
      | nil => rfl
      | cons x l => obtain ⟨g, off, xs, e, -⟩ := h.at_ (j := 0) (by simp); cases e
    subst h0
    clear h
    go_enter Tryz.func49, Tryz.ntmps49
    go_wp2
    go_ret
    exact ⟨_, rfl, World.ownsRow_nil _ _ _ _, Below.refl _ _⟩
  | some a0 =>
    obtain ⟨m, hm⟩ : ∃ m, cells.length = m := ⟨_, rfl⟩
    have HM := hide hm
    rw [hm] at h hl ⊢
    have HL := hide (h.keep rd_Wq (Kp.alloc (.cells #[] 84)))
    have hown := own_lit w [] 84 w.heap.size 2 0 (Nat.le_refl _) rfl (by unfold maxLen; omega)
    clear h hm
    go_enter Tryz.func49, Tryz.ntmps49
    go_wp2_with (at_builtin; refine wpList_append_lst rfl _ _ 31 rfl w.heap.size 84 i0 _ 2 16 Tryz.underlying31 hi hz0 hz1 hz2 rfl (by decide) (.slice (some ⟨w.heap.size, 0, none⟩) 0 0) 0 [] rfl hown (some a0) m c cells rfl HL.out (by omega) (by decide) (by decide) (by simp) ?_; intro v' w' hown2 hg)
    go_ret
    refine ⟨_, rfl, ?_, (below_laid _).grown hg (by simp) (fun k hk => by cases hk; exact Nat.le_refl _)⟩
    rw [HM.out]
    simpa using hown2
set_option maxHeartbeats 1000000 in
theorem qclone_any (A : Option Addr) (c : Nat) (cells : List (List Value)) (w : World) (Z : Nat → Prop) (h : Lst w Z 3 RWq (.slice A cells.length c) cells) (hl : cells.length ≤ 100000) :
    Calls Tryz.prog 61 #[.slice A cells.length c] w (RetCp w 88 3 cells) := by
  obtain ⟨i0, hi, hz0, hz1, hz2⟩ := info_parts iq_queue
  have qT : ∀ (w : World) (a : Option Addr) (n c n' c' : Nat), (binOp .eql 37 (.slice a n c) (.slice none n' c')).run Tryz.prog w = .ok (.bool a.isNone) w := fun w a n c n' c' => Lib.run_eql_slice_nil w _ _ a n c n' c' Tryz.underlying37
  cases A with
  | none =>
    have h0 : cells = [] := by
      cases cells with
      | nil => rfl
      | cons x l => obtain ⟨g, off, xs, e, -⟩ := h.at_ (j := 0) (by simp); cases e
    subst h0
    clear h
    go_enter Tryz.func61, Tryz.ntmps61
    go_wp2
    go_ret
    exact ⟨_, rfl, World.ownsRow_nil _ _ _ _, Below.refl _ _⟩
  | some a0 =>
    obtain ⟨m, hm⟩ : ∃ m, cells.length = m := ⟨_, rfl⟩
    have HM := hide hm
    rw [hm] at h hl ⊢
    have HL := hide (h.keep rd_Wq (Kp.alloc (.cells #[] 88)))
    have hown := own_lit w [] 88 w.heap.size 3 0 (Nat.le_refl _) rfl (by unfold maxLen; omega)
    clear h hm
    go_enter Tryz.func61, Tryz.ntmps61
    go_wp2_with (at_builtin; refine wpList_append_lst rfl _ _ 37 rfl w.heap.size 88 i0 _ 3 40 Tryz.underlying37 hi hz0 hz1 hz2 rfl (by decide) (.slice (some ⟨w.heap.size, 0, none⟩) 0 0) 0 [] rfl hown (some a0) m c cells rfl HL.out (by omega) (by decide) (by decide) (by simp) ?_; intro v' w' hown2 hg)
    go_ret
    refine ⟨_, rfl, ?_, (below_laid _).grown hg (by simp) (fun k hk => by cases hk; exact Nat.le_refl _)⟩
    rw [HM.out]
    simpa using hown2
set_option maxHeartbeats 1000000 in
theorem itclone_any (A : Option Addr) (c : Nat) (cells : List (List Value)) (w : World) (Z : Nat → Prop) (h : Lst w Z 7 RWq (.slice A cells.length c) cells) (hl : cells.length ≤ 100000) :
    Calls Tryz.prog 62 #[.slice A cells.length c] w (RetCp w 58 7 cells) := by
  obtain ⟨i0, hi, hz0, hz1, hz2⟩ := info_parts iq_item
  have qT : ∀ (w : World) (a : Option Addr) (n c n' c' : Nat), (binOp .eql 43 (.slice a n c) (.slice none n' c')).run Tryz.prog w = .ok (.bool a.isNone) w := fun w a n c n' c' => Lib.run_eql_slice_nil w _ _ a n c n' c' Tryz.underlying43
  cases A with
  | none =>
    have h0 : cells = [] := by
      cases cells with
      | nil => rfl
      | cons x l => obtain ⟨g, off, xs, e, -⟩ := h.at_ (j := 0) (by simp); cases e
    subst h0
    clear h
    go_enter Tryz.func62, Tryz.ntmps62
    go_wp2
    go_ret
    exact ⟨_, rfl, World.ownsRow_nil _ _ _ _, Below.refl _ _⟩
  | some a0 =>
    obtain ⟨m, hm⟩ : ∃ m, cells.length = m := ⟨_, rfl⟩
    have HM := hide hm
    rw [hm] at h hl ⊢
    have HL := hide (h.keep rd_Wq (Kp.alloc (.cells #[] 58)))
    have hown := own_lit w [] 58 w.heap.size 7 0 (Nat.le_refl _) rfl (by unfold maxLen; omega)
    clear h hm
    go_enter Tryz.func62, Tryz.ntmps62
    go_wp2_with (at_builtin; refine wpList_append_lst rfl _ _ 43 rfl w.heap.size 58 i0 _ 7 72 Tryz.underlying43 hi hz0 hz1 hz2 rfl (by decide) (.slice (some ⟨w.heap.size, 0, none⟩) 0 0) 0 [] rfl hown (some a0) m c cells rfl HL.out (by omega) (by decide) (by decide) (by simp) ?_; intro v' w' hown2 hg)
    go_ret
    refine ⟨_, rfl, ?_, (below_laid _).grown hg (by simp) (fun k hk => by cases hk; exact Nat.le_refl _)⟩
    rw [HM.out]
    simpa using hown2
set_option maxHeartbeats 1000000 in
theorem tclone_any (A : Option Addr) (c : Nat) (cells : List (List Value)) (w : World) (Z : Nat → Prop) (h : Lst w Z 4 RWq (.slice A cells.length c) cells) (hl : cells.length ≤ 100000) :
    Calls Tryz.prog 101 #[.slice A cells.length c] w (RetCp w 33 4 cells) := by
  obtain ⟨i0, hi, hz0, hz1, hz2⟩ := info_parts iq_tracker
  have qT : ∀ (w : World) (a : Option Addr) (n c n' c' : Nat), (binOp .eql 143 (.slice a n c) (.slice none n' c')).run Tryz.prog w = .ok (.bool a.isNone) w := fun w a n c n' c' => Lib.run_eql_slice_nil w _ _ a n c n' c' Tryz.underlying143
  cases A with
  | none =>
    have h0 : cells = [] := by
      cases cells with
      | nil => rfl
      | cons x l => obtain ⟨g, off, xs, e, -⟩ := h.at_ (j := 0) (by simp); cases e
    subst h0
    clear h
    go_enter Tryz.func101, Tryz.ntmps101
    go_wp2
    go_ret
    exact ⟨_, rfl, World.ownsRow_nil _ _ _ _, Below.refl _ _⟩
  | some a0 =>
    obtain ⟨m, hm⟩ : ∃ m, cells.length = m := ⟨_, rfl⟩
    have HM := hide hm
    rw [hm] at h hl ⊢
    have HL := hide (h.keep rd_Wq (Kp.alloc (.cells #[] 33)))
    have hown := own_lit w [] 33 w.heap.size 4 0 (Nat.le_refl _) rfl (by unfold maxLen; omega)
    clear h hm
    go_enter Tryz.func101, Tryz.ntmps101
    go_wp2_with (at_builtin; refine wpList_append_lst rfl _ _ 143 rfl w.heap.size 33 i0 _ 4 64 Tryz.underlying143 hi hz0 hz1 hz2 rfl (by decide) (.slice (some ⟨w.heap.size, 0, none⟩) 0 0) 0 [] rfl hown (some a0) m c cells rfl HL.out (by omega) (by decide) (by decide) (by simp) ?_; intro v' w' hown2 hg)
    go_ret
    refine ⟨_, rfl, ?_, (below_laid _).grown hg (by simp) (fun k hk => by cases hk; exact Nat.le_refl _)⟩
    rw [HM.out]
    simpa using hown2
end Go.Proofs.YtppaiihcaajkaaaGreat

namespace Go.Proofs.YtppaiihcaajkaaaGreat
open Go.RowKit
set_option linter.unusedVariables false
set_option linter.unusedSimpArgs false
theorem own_keep {w w' : World} {base : Nat} {e : TypeId} {size : Nat} {v : Value} {n : Nat} {xs : List Value} (h : w.ownsRow base e size v n xs) (hb : Below w.heap.size w w') : w'.ownsRow base e size v n xs :=
  h.kept (row := none) ⟨hb.os, hb.tape, hb.output, hb.size, fun k hk _ => hb.block k hk⟩ (by cases v.ownBlock <;> simp)
section
variable {w : World} {base : Nat} {te : TypeId} {sz n : Nat} {v : Value} {xs : List Value}
theorem own_set (h : w.ownsRow base te sz v n xs) {p : Addr} (hp : v.ownBlock ≠ some p.block) (u : Value) : (w.setCell p u).ownsRow base te sz v n xs := by
  refine h.kept (row := some p.block) ⟨rfl, rfl, rfl, by simp [World.setCell], fun k _ hk => Below.heap_setCell w p u k (fun hh => hk (by rw [hh]))⟩ ?_
  cases hv : v.ownBlock with
  | none => exact .inl rfl
  | some k => exact .inr (fun hh => hp (by rw [hv, ← hh]))
theorem own_form (h : w.ownsRow base te sz v n xs) : ∃ A cap, v = .slice A n cap := by
  rcases h.2 with ⟨rfl, h0⟩ | ⟨g, cap, cur, rfl, -⟩
  · exact ⟨none, 0, by rw [h0]⟩
  · exact ⟨_, _, rfl⟩
end
theorem own_cell {w : World} {base : Nat} {te : TypeId} {sz n g c : Nat} {xs : List Value} (h : w.ownsRow base te sz (.slice (some ⟨g, 0, none⟩) n c) n xs) {k : Nat} {u : Value} (hk : xs[k]? = some u) : w.cell? ⟨g, k, none⟩ = some u := by
  have := @World.ownsRow.cells w base te sz _ n xs h g rfl k u hk
  rwa [show (⟨g, 0, none⟩ : Addr).add k = ⟨g, k, none⟩ by unfold Addr.add; split <;> simp_all] at this
theorem row_lst {α : Type} {w : World} {base sz n : Nat} {te : TypeId} {R : World → (Nat → Prop) → List Value → α → Prop} {v : Value} {xs : List Value} {l : List α} {Z : Nat → Prop} (hsz : 0 < sz) (hn : n = l.length) (hm : l.length ≤ maxLen)
    (hown : w.ownsRow base te sz v n xs) (h : ∀ j (hj : j < l.length), ∃ ys, ys.length = sz ∧ (∀ c u, ys[c]? = some u → xs[j * sz + c]? = some u) ∧ R w Z ys l[j]) (hZ : ∀ k, v.ownBlock = some k → Z k) : Lst w Z sz R v l := by
  subst hn
  rcases hown.2 with ⟨rfl, h0⟩ | ⟨g, cap, cur, rfl, hb, hg, hnc, -⟩
  · exact ⟨⟨none, 0, by rw [h0], by omega, hm⟩, fun j hj => by omega⟩
  · refine ⟨⟨_, cap, rfl, hnc, hm⟩, fun j hj => ?_⟩
    obtain ⟨ys, h1, h2, h3⟩ := h j hj
    refine ⟨g, 0, cap, ys, rfl, hZ g rfl, h1, fun c u hu => ?_, h3⟩
    rw [Nat.zero_add]
    exact own_cell hown (h2 c u hu)
/-- The block b holds the cells xs, and more perhaps; it may be written. -/
structure Bl (w : World) (b : Nat) (xs : List Value) : Prop where
  c : ∀ j u, xs[j]? = some u → w.cell? ⟨b, j, none⟩ = some u
  f : ∀ j, w.frozen? ⟨b, j, none⟩ = false
  lt : b < w.heap.size
section
variable {w w' : World} {b : Nat} {xs : List Value}
theorem Bl.keep (h : Bl w b xs) (hb : Below w.heap.size w w') : Bl w' b xs :=
  ⟨fun j u hu => keep1 hb (h.c j u hu), fun j => ((bcell hb).2 b j h.lt).trans (h.f j), Nat.lt_of_lt_of_le h.lt hb.size⟩
theorem Bl.new (w : World) (xs : List Value) (t : TypeId) : Bl (w.alloc (.cells xs.toArray t)) w.heap.size xs :=
  ⟨cells_lit w xs t, fun j => step_frozen xs (Below.refl _ _) j, by simp⟩
theorem Bl.laid (h : Bl w b xs) (o : Obj) : Bl (w.alloc o) b xs := h.keep (below_laid o)
theorem Bl.far (h : Bl w b xs) {p : Addr} (hp : p.block ≠ b) (u : Value) : Bl (w.setCell p u) b xs := by
  have hb := Below.heap_setCell w p u b hp.symm
  exact ⟨fun j x hx => (World.cell?_of_block (w := w) (a := ⟨b, j, none⟩) hb).trans (h.c j x hx), fun j => (World.frozen?_of_block (w := w) (a := ⟨b, j, none⟩) hb).trans (h.f j), by simpa [World.setCell] using h.lt⟩
theorem Bl.put (h : Bl w b xs) {k : Nat} (hk : k < xs.length) (u : Value) : Bl (w.setCell ⟨b, k, none⟩ u) b (xs.set k u) := by
  refine ⟨fun j x hx => ?_, fun j => ?_, by simpa [World.setCell] using h.lt⟩
  · by_cases e : k = j
    · subst e
      rw [List.getElem?_set_self hk] at hx
      injection hx with hx
      subst hx
      exact World.cell?_setCell_same' _ _ _ (by rw [h.c k _ (List.getElem?_eq_getElem hk)]; rfl)
    · rw [List.getElem?_set_ne e] at hx
      exact (World.cell?_setCell_other _ _ _ _ (by intro hh; injection hh with _ hh _; exact e hh)).trans (h.c j x hx)
  · have := h.f j
    unfold World.frozen? at this ⊢
    simp only [World.setCell]
    rw [Array.getElem?_modify]
    rw [show (⟨b, j, none⟩ : Addr).block = b from rfl] at this
    rw [if_pos rfl]
    revert this
    cases w.heap[b]? with
    | none => simp
    | some o => cases o <;> simp
theorem Bl.undrew (h : Bl w.drew b xs) : Bl w b xs := ⟨h.c, h.f, h.lt⟩
theorem Bl.drew (h : Bl w b xs) : Bl w.drew b xs := ⟨h.c, h.f, h.lt⟩
/-- Behind a row that grows. -/
theorem Bl.grown (h : Bl w b xs) {row : Option Nat} (hg : w.grownBy w' row) (hne : row ≠ some b) : Bl w' b xs := by
  have hb := hg.block b h.lt (fun e => hne e.symm)
  exact ⟨fun j x hx => (World.cell?_of_block (w := w) (a := ⟨b, j, none⟩) hb).trans (h.c j x hx), fun j => (World.frozen?_of_block (w := w) (a := ⟨b, j, none⟩) hb).trans (h.f j), Nat.lt_of_lt_of_le h.lt hg.size⟩
end
def Gq {α : Type} (w : World) (Y : Nat → Prop) (base : Nat) (te : TypeId) (sz : Nat) (R : World → (Nat → Prop) → List Value → α → Prop) (v : Value) (l : List α) : Prop :=
  ∃ xs : List Value, w.ownsRow base te sz v l.length xs ∧ (∀ k, v.ownBlock = some k → Y k) ∧
    ∀ j (h : j < l.length), ∃ ys, ys.length = sz ∧ (∀ c u, ys[c]? = some u → xs[j * sz + c]? = some u) ∧ R w (fun b => Y b ∧ b < w.heap.size ∧ v.ownBlock ≠ some b) ys l[j]
section
variable {α : Type} {R : World → (Nat → Prop) → List Value → α → Prop} {w w' : World} {Y : Nat → Prop} {base sz : Nat} {te : TypeId} {v v' : Value} {l : List α}
theorem Gq.nil : Gq w Y base te sz R (.slice none 0 0) ([] : List α) := ⟨[], World.ownsRow_nil .., (fun k h => by cases h), fun j h => absurd h (Nat.not_lt_zero _)⟩
theorem Gq.form (h : Gq w Y base te sz R v l) : ∃ A cap, v = .slice A l.length cap := by
  obtain ⟨xs, hown, -⟩ := h
  exact own_form hown
theorem Gq.low (h : Gq w Y base te sz R v l) : ∀ k, v.ownBlock = some k → base ≤ k ∧ k < w.heap.size := by
  obtain ⟨xs, hown, -⟩ := h
  exact hown.lt
theorem Gq.inY (h : Gq w Y base te sz R v l) : ∀ k, v.ownBlock = some k → Y k := by
  obtain ⟨xs, -, hy, -⟩ := h
  exact hy
theorem Gq.keep (hR : Rd R) (h : Gq w Y base te sz R v l) (hb : Below w.heap.size w w') : Gq w' Y base te sz R v l := by
  obtain ⟨xs, hown, hy, hel⟩ := h
  refine ⟨xs, own_keep hown hb, hy, fun j hj => ?_⟩
  obtain ⟨ys, h1, h2, h3⟩ := hel j hj
  exact ⟨ys, h1, h2, hR.more (fun b hz => ⟨hz.1, Nat.lt_of_lt_of_le hz.2.1 hb.size, hz.2.2⟩) (hR.keep (Kp.of_below hb) h3)⟩
theorem Gq.undrew (h : Gq w.drew Y base te sz R v l) (hR : Rd R) : Gq w Y base te sz R v l := by
  obtain ⟨xs, hown, hy, hel⟩ := h
  refine ⟨xs, hown, hy, fun j hj => ?_⟩
  obtain ⟨ys, h1, h2, h3⟩ := hel j hj
  have h4 : R w (fun b => Y b ∧ b < w.drew.heap.size ∧ v.ownBlock ≠ some b) ys l[j] := hR.keep (w := w.drew) ⟨Nat.le_refl _, fun _ _ _ => rfl⟩ h3
  exact ⟨ys, h1, h2, h4⟩
theorem Gq.drew (h : Gq w Y base te sz R v l) (hR : Rd R) : Gq w.drew Y base te sz R v l := h.keep hR ((Below.refl _ _).drew)
/-- A store into a block outside of Y. -/
theorem Gq.set (hR : Rd R) (h : Gq w Y base te sz R v l) {b : Nat} (hb : ¬ Y b) (c : Nat) (u : Value) : Gq (w.setCell ⟨b, c, none⟩ u) Y base te sz R v l := by
  obtain ⟨xs, hown, hy, hel⟩ := h
  have hsz : (w.setCell ⟨b, c, none⟩ u).heap.size = w.heap.size := by simp [World.setCell]
  refine ⟨xs, own_set (p := ⟨b, c, none⟩) hown (fun e => hb (hy b e)) u, hy, fun j hj => ?_⟩
  obtain ⟨ys, h1, h2, h3⟩ := hel j hj
  refine ⟨ys, h1, h2, ?_⟩
  rw [hsz]
  exact hR.keep (Kp.set ⟨b, c, none⟩ u fun x hx => by show x ≠ b; rintro rfl; exact hb hx.1) h3
theorem Gq.lst (hR : Rd R) (hsz : 0 < sz) (h : Gq w Y base te sz R v l) (hm : l.length ≤ maxLen) : Lst w (fun b => Y b ∧ b < w.heap.size) sz R v l := by
  obtain ⟨xs, hown, hy, hel⟩ := h
  refine row_lst hsz rfl hm hown (fun j hj => ?_) (fun k hk => ⟨hy k hk, (hown.lt k hk).2⟩)
  obtain ⟨ys, h1, h2, h3⟩ := hel j hj
  exact ⟨ys, h1, h2, hR.more (fun b hb => ⟨hb.1, hb.2.1⟩) h3⟩
theorem Gq.less {Y' : Nat → Prop} (hR : Rd R) (h : Gq w Y base te sz R v l) (hY : ∀ b, Y b → b < w.heap.size → Y' b) : Gq w Y' base te sz R v l := by
  obtain ⟨xs, hown, hy, hel⟩ := h
  refine ⟨xs, hown, fun k hk => hY k (hy k hk) (hown.lt k hk).2, fun j hj => ?_⟩
  obtain ⟨ys, h1, h2, h3⟩ := hel j hj
  exact ⟨ys, h1, h2, hR.more (fun b hb => ⟨hY b hb.1 hb.2.1, hb.2⟩) h3⟩
/-- One element more. -/
theorem Gq.snoc (hR : Rd R) {xs ys : List Value} {x : α} (hown : w.ownsRow base te sz v l.length xs) (hy : ∀ k, v.ownBlock = some k → Y k)
    (hel : ∀ j (h : j < l.length), ∃ ys, ys.length = sz ∧ (∀ c u, ys[c]? = some u → xs[j * sz + c]? = some u) ∧ R w (fun b => Y b ∧ b < w.heap.size ∧ v.ownBlock ≠ some b) ys l[j])
    (hyl : ys.length = sz) (hx : R w (fun b => Y b ∧ b < w.heap.size ∧ v.ownBlock ≠ some b) ys x)
    (hown' : w'.ownsRow base te sz v' (l.length + 1) (xs ++ ys)) (hk : Kp (fun b => v.ownBlock ≠ some b) w w') (hat : v'.ownBlock = v.ownBlock ∨ ∃ k, v'.ownBlock = some k ∧ w.heap.size ≤ k) (hY : ∀ b, w.heap.size ≤ b → Y b) : Gq w' Y base te sz R v' (l ++ [x]) := by
  have hz : ∀ b, b < w.heap.size → v.ownBlock ≠ some b → v'.ownBlock ≠ some b := by
    intro b hb hne
    rcases hat with h | ⟨k, h, hkk⟩
    · rw [h]; exact hne
    · rw [h]; intro hh; injection hh with hh; omega
  have hkz : ∀ {zs : List Value} {y : α}, R w (fun b => Y b ∧ b < w.heap.size ∧ v.ownBlock ≠ some b) zs y → R w' (fun b => Y b ∧ b < w'.heap.size ∧ v'.ownBlock ≠ some b) zs y := fun h =>
    hR.more (fun b hb => ⟨hb.1, Nat.lt_of_lt_of_le hb.2.1 hk.1, hz b hb.2.1 hb.2.2⟩) (hR.keep (hk.less fun b hb => hb.2.2) h)
  refine ⟨xs ++ ys, by rw [List.length_append]; simpa using hown', fun k hkk => ?_, fun j hj => ?_⟩
  · rcases hat with h | ⟨k', h, h'⟩
    · rw [h] at hkk; exact hy k hkk
    · rw [h] at hkk; injection hkk with hkk; subst hkk; exact hY _ h'
  · by_cases hjl : j < l.length
    · obtain ⟨zs, h1, h2, h3⟩ := hel j hjl
      refine ⟨zs, h1, fun c u hu => ?_, ?_⟩
      · have := h2 c u hu
        rw [List.getElem?_append_left (List.getElem?_eq_some_iff.1 this).1]; exact this
      · rw [List.getElem_append_left hjl]; exact hkz h3
    · have hje : j = l.length := by rw [List.length_append] at hj; simp at hj; omega
      subst hje
      refine ⟨ys, hyl, fun c u hu => ?_, ?_⟩
      · rw [← hown.1, List.getElem?_append_right (by omega)]; simpa using hu
      · rw [List.getElem_append_right (Nat.le_refl _)]
        simp only [Nat.sub_self, List.getElem_cons_zero]
        exact hkz hx
end
section
variable {P : Program}
/-- append of one element that a composite literal has just laid. -/
theorem wpList_append_gq {α : Type} {R : World → (Nat → Prop) → List Value → α → Prop} (hR : Rd R) {ops : Array Oper} {rest : List Oper} {o : Oper} {a : Act} {Q : Exit → Act → World → Prop} {W : World} (hgd : o.guard = none) (s x : Operand) (t : TypeId)
    (ho : o.op = .call { callee := .builtin .append, args := #[s, x], argTypes := #[t, t] })
    (Y : Nat → Prop) (base : Nat) (e : TypeId) (i : TypeInfo) (z : Value) (sz bytes : Nat) (ht : P.underlying t = some (.slice e)) (hi : P.info? e = some i) (hz : i.zero = some z)
    (hsize : i.size = sz) (hby : i.bytes = bytes) (hzs : z.cells.size = sz) (hsz : 0 < sz)
    (v : Value) (l : List α) (hs : a.eval s = v) (hg : Gq W Y base e sz R v l)
    (g : Nat) (hx : a.eval x = .slice (some ⟨g, 0, none⟩) 1 1) (ys : List Value) (hyl : ys.length = sz) (hcell : ∀ j u, ys[j]? = some u → W.cell? ⟨g, j, none⟩ = some u) (h1 : ∀ y ∈ ys, y.oneCell' = true)
    (y : α) (hy : R W (fun b => Y b ∧ b < W.heap.size ∧ v.ownBlock ≠ some b) ys y) (hY : ∀ b, W.heap.size ≤ b → Y b)
    (hn : l.length < 1099511627776) (hb100 : bytes ≤ 128) (hbase : base ≤ W.heap.size)
    (h : ∀ v' w', Gq w' Y base e sz R v' (l ++ [y]) → W.grownBy w' v.ownBlock → Below base W w' → wpList P ops Q rest (a.put o.dst v') w') :
    wpList P ops Q (o :: rest) a W := by
  refine wpList_plain hgd fun K hK => ?_
  subst hyl
  obtain ⟨xs, hown, hyv, hel⟩ := hg
  obtain ⟨v', w', hr, hown', hgr, h3, hat⟩ := run_append_own_at (P := P) W base t o.type e i z ys.length bytes ht hi hz hsize hby hzs hsz v _ _ hown ⟨g, 0, none⟩ 1 1 ys (by simp)
    (fun j u hj => by
      rw [show (⟨g, 0, none⟩ : Addr).add j = ⟨g, j, none⟩ by unfold Addr.add; split <;> simp_all]
      exact hcell j u hj) h1 (by unfold maxLen; omega)
    (by calc (l.length + 1) * bytes ≤ 1099511627776 * 128 := Nat.mul_le_mul (by omega) hb100
          _ ≤ 140737488355328 := by omega) hbase
  have hbel : Below base W w' := (Below.refl base W).grown hgr hbase (fun k hk => (hown.lt k hk).1)
  have hfin := h v' w' (Gq.snoc hR hown hyv hel rfl hy hown' ⟨hgr.size, fun b hb hlt => hgr.block b hlt (fun e => hb e.symm)⟩ (by
    rcases hat with h | h
    · exact .inl h
    · exact .inr ⟨_, h, Nat.le_refl _⟩) hY) hgr hbel
  unfold Oper.wp execOp
  simp only [ho, resolve, invoke, builtin, Sem.run_bind, Sem.run_pure, Result.andThen_ok, List.map_toArray, List.map_cons, List.map_nil, hs, hx, hr]
  exact hK _ _ hfin
/-- append of one element that a composite literal has just laid, at a step of a drawn region: the list grows. -/
theorem step_append_gq {α : Type} {R : World → (Nat → Prop) → List Value → α → Prop} (hR : Rd R) {ops : Array Oper} {o : Oper} {a : Act} {K : Act → World → Prop} {Q : Exit → Act → World → Prop} {E : Prop} {W : World} (hgd : o.guard = none) (s x : Operand) (t : TypeId)
    (ho : o.op = .call { callee := .builtin .append, args := #[s, x], argTypes := #[t, t] })
    (Y : Nat → Prop) (base : Nat) (e : TypeId) (i : TypeInfo) (z : Value) (sz bytes : Nat) (ht : P.underlying t = some (.slice e)) (hi : P.info? e = some i) (hz : i.zero = some z)
    (hsize : i.size = sz) (hby : i.bytes = bytes) (hzs : z.cells.size = sz) (hsz : 0 < sz)
    (v : Value) (l : List α) (hs : a.eval s = v) (hg : Gq W Y base e sz R v l)
    (g : Nat) (hx : a.eval x = .slice (some ⟨g, 0, none⟩) 1 1) (ys : List Value) (hyl : ys.length = sz) (hcell : ∀ j u, ys[j]? = some u → W.cell? ⟨g, j, none⟩ = some u) (h1 : ∀ y ∈ ys, y.oneCell' = true)
    (y : α) (hy : R W (fun b => Y b ∧ b < W.heap.size ∧ v.ownBlock ≠ some b) ys y) (hY : ∀ b, W.heap.size ≤ b → Y b)
    (hn : l.length < 1099511627776) (hb100 : bytes ≤ 128) (hbase : base ≤ W.heap.size)
    (h : ∀ v' w', Gq w' Y base e sz R v' (l ++ [y]) → W.grownBy w' v.ownBlock → Below base W w' → K (a.put o.dst v') w') :
    if Region.wanted o (yielded ops a.tmps) = true then Oper.wp P o a W K Q else E := by
  have hw : Region.wanted o (yielded ops a.tmps) = true := by simp [Region.wanted, hgd]
  rw [if_pos hw]
  subst hyl
  obtain ⟨xs, hown, hyv, hel⟩ := hg
  obtain ⟨v', w', hr, hown', hgr, h3, hat⟩ := run_append_own_at (P := P) W base t o.type e i z ys.length bytes ht hi hz hsize hby hzs hsz v _ _ hown ⟨g, 0, none⟩ 1 1 ys (by simp)
    (fun j u hj => by
      rw [show (⟨g, 0, none⟩ : Addr).add j = ⟨g, j, none⟩ by unfold Addr.add; split <;> simp_all]
      exact hcell j u hj) h1 (by unfold maxLen; omega)
    (by calc (l.length + 1) * bytes ≤ 1099511627776 * 128 := Nat.mul_le_mul (by omega) hb100
          _ ≤ 140737488355328 := by omega) hbase
  have hbel : Below base W w' := (Below.refl base W).grown hgr hbase (fun k hk => (hown.lt k hk).1)
  have hfin := h v' w' (Gq.snoc hR hown hyv hel rfl hy hown' ⟨hgr.size, fun b hb hlt => hgr.block b hlt (fun e => hb e.symm)⟩ (by
    rcases hat with h | h
    · exact .inl h
    · exact .inr ⟨_, h, Nat.le_refl _⟩) hY) hgr hbel
  unfold Oper.wp execOp
  simp only [ho, resolve, invoke, builtin, Sem.run_bind, Sem.run_pure, Result.andThen_ok, List.map_toArray, List.map_cons, List.map_nil, hs, hx, hr]
  exact hfin
end
end Go.Proofs.YtppaiihcaajkaaaGreat
