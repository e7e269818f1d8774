/- The play, in plain words: its state, its steps, what stays true. The play: what stays true at each step. The play: the steps keep the invariant. The play: how it begins, how it ends. -/
import Derived.Test.YtppaiihcaajkaaaGreatKSameM
namespace Go.Proofs.YtppaiihcaajkaaaGreat
set_option linter.unusedVariables false
set_option linter.unusedSimpArgs false
def fset {α : Type} (f : Nat → α) (i : Nat) (x : α) : Nat → α := fun k => if k = i then x else f k
@[simp] theorem fset_same {α : Type} {f : Nat → α} {i : Nat} {x : α} : fset f i x i = x := if_pos rfl
theorem fset_ne {α : Type} {f : Nat → α} {i k : Nat} {x : α} (h : k ≠ i) : fset f i x k = f k := if_neg h
theorem fset_at {α : Type} (f : Nat → α) (i k : Nat) (x : α) : fset f i x k = if k = i then x else f k := rfl
structure Job where
  off : Nat → Nat
  trk : Nat → Trk
  q : Nat → List Itm
  num : Nat → Int
  blk : Nat → List Bool
  ins : Nat → Bool
  sent : Nat → List Itm
  taken : Nat → List Itm
  later : Nat → List Itm
  all : Nat → List Itm
def barI : Itm := ⟨2, ⟨0, 0, 0, 0, []⟩, 1⟩
def isB (x : Itm) : Bool := decide (x.k = 2)
def bars (l : List Itm) : Nat := l.countP isB
def nb (l : List Itm) : List Itm := l.filter fun x => !isB x
/-- What lies before the first barrier. -/
def preL (l : List Itm) : List Itm := l.takeWhile fun x => !isB x
theorem bars_snoc (l : List Itm) (x : Itm) : bars (l ++ [x]) = bars l + if isB x then 1 else 0 := by
  unfold bars
  rw [List.countP_append, List.countP_cons, List.countP_nil, Nat.zero_add]
theorem nb_snoc (l : List Itm) (x : Itm) : nb (l ++ [x]) = nb l ++ if isB x then [] else [x] := by
  unfold nb
  rw [List.filter_append]
  cases h : isB x <;> simp [h]
theorem preL_all {l : List Itm} (h : bars l = 0) : preL l = l := by
  induction l with
  | nil => rfl
  | cons y l ih =>
    unfold bars at h ih
    rw [List.countP_cons] at h
    have hy : isB y = false := by
      cases hb : isB y
      · rfl
      · rw [hb] at h; simp at h
    unfold preL at ih ⊢
    rw [List.takeWhile_cons, hy]
    simp only [Bool.not_false, if_true]
    rw [ih (by omega)]
theorem preL_snoc {l : List Itm} (x : Itm) (h : 0 < bars l) : preL (l ++ [x]) = preL l := by
  induction l with
  | nil => simp [bars] at h
  | cons y l ih =>
    unfold bars at h ih
    rw [List.countP_cons] at h
    unfold preL at ih ⊢
    rw [List.cons_append, List.takeWhile_cons, List.takeWhile_cons]
    cases hb : isB y
    · rw [hb] at h
      simp only [Bool.not_false, if_true]
      rw [ih (by simpa using h)]
    · simp
theorem preL_snoc0 {l : List Itm} (x : Itm) (h : bars l = 0) : preL (l ++ [x]) = l ++ if isB x then [] else [x] := by
  induction l with
  | nil => unfold preL; cases hb : isB x <;> simp [hb]
  | cons y l ih =>
    unfold bars at h ih
    rw [List.countP_cons] at h
    have hy : isB y = false := by
      cases hb : isB y
      · rfl
      · rw [hb] at h; simp at h
    unfold preL at ih ⊢
    rw [List.cons_append, List.takeWhile_cons, hy]
    simp only [Bool.not_false, if_true]
    rw [ih (by omega)]
    rfl
theorem preL_cons {x : Itm} {l : List Itm} : preL (x :: l) = if isB x then [] else x :: preL l := by
  unfold preL
  rw [List.takeWhile_cons]
  cases isB x <;> rfl
theorem bars_cons (x : Itm) (l : List Itm) : bars (x :: l) = bars l + if isB x then 1 else 0 := by unfold bars; rw [List.countP_cons]
theorem nb_cons {x : Itm} {l : List Itm} : nb (x :: l) = if isB x then nb l else x :: nb l := by
  unfold nb
  rw [List.filter_cons]
  cases isB x <;> rfl
theorem bar_isB : isB barI = true := rfl
theorem good_isB {x : Itm} (h : GoodI x) : isB x = false := decide_eq_false h.2.1
/-- What is sent to one worker. -/
def send1 (J : Job) (i t : Nat) (x : Itm) : Job := { J with
  q := fset J.q (2 * i + t) (J.q (2 * i + t) ++ [x])
  sent := if J.ins i = false ∧ isB x = false then fset J.sent t (J.sent t ++ [x]) else J.sent
  all := if isB x = false then fset J.all t (J.all t ++ [x]) else J.all }
def routeN (x : Itm) : List Nat := (routeI x).map Int.toNat
def sendJ (J : Job) (i : Nat) (x : Itm) : Job := (routeN x).foldl (fun J t => send1 J i t x) J
def readJ (J : Job) (i : Nat) (l : List Itm) (y : Trk) : Job := l.foldl (fun J x => sendJ J i x) { J with off := fset J.off i (J.off i + 1), trk := fset J.trk i y }
def insJ (J : Job) (i : Nat) : Job := if J.ins i = true then J else { sendJ J i barI with ins := fset J.ins i true }
def barN (n : Int) (b : List Bool) (f : Nat) : Int := if b.set f true = [true, true] then n + 1 else n
def barB (b : List Bool) (f : Nat) : List Bool := if b.set f true = [true, true] then [false, false] else b.set f true
def delJ (J : Job) (w f : Nat) : Job := if (J.blk w).getD f false = true then J else match J.q (2 * f + w) with
  | [] => J
  | x :: r => if isB x = true then { J with q := fset J.q (2 * f + w) r, num := fset J.num w (barN (J.num w) (J.blk w) f), blk := fset J.blk w (barB (J.blk w) f) }
    else if J.num w = 0 then { J with q := fset J.q (2 * f + w) r, taken := fset J.taken w (J.taken w ++ [x]) }
    else { J with q := fset J.q (2 * f + w) r, later := fset J.later w (J.later w ++ [x]) }
/-- An input: whether its reader has inserted the barrier, its queue, whether it is blocked. -/
def FP (i : Bool) (q : List Itm) (b : Bool) : Prop := if b = true then i = true ∧ bars q = 0 else bars q = if i = true then 1 else 0
def pP (q : List Itm) (b : Bool) : List Itm := if b = true then [] else preL q
/-- A worker: its aligner, its inputs, what was sent to it and what it took before the barriers. -/
def AlP (n : Int) (bl : List Bool) (i0 i1 : Bool) (q0 q1 se ta : List Itm) : Prop :=
  (n = 0 ∧ ∃ b0 b1, bl = [b0, b1] ∧ ¬ (b0 = true ∧ b1 = true) ∧ FP i0 q0 b0 ∧ FP i1 q1 b1 ∧ se.Perm (ta ++ (pP q0 b0 ++ pP q1 b1))) ∨
  (n = 1 ∧ bl = [false, false] ∧ (i0 = true ∧ bars q0 = 0) ∧ (i1 = true ∧ bars q1 = 0) ∧ se.Perm ta)
def AlInv (J : Job) (w : Nat) : Prop := AlP (J.num w) (J.blk w) (J.ins 0) (J.ins 1) (J.q w) (J.q (2 + w)) (J.sent w) (J.taken w)
structure JInv (N : Nat → Nat) (sl : Nat → Nat) (J : Job) : Prop where
  n8 : ∀ i, i < 2 → N i ≤ 8
  off : ∀ i, i < 2 → J.off i ≤ N i
  trk : ∀ i, i < 2 → TrkOK (J.trk i)
  good : ∀ k, k < 4 → ∀ x ∈ J.q k, GoodI x ∨ x = barI
  len : ∀ i t, i < 2 → t < 2 → (J.q (2 * i + t)).length + sl (2 * i + t) ≤ 2 * J.off i + if J.ins i = true then 1 else 0
  al : ∀ w, w < 2 → AlInv J w
  all : ∀ w, w < 2 → (J.all w).Perm (J.taken w ++ (J.later w ++ (nb (J.q w) ++ nb (J.q (2 + w)))))
  cnt : ∀ w, w < 2 → (J.all w).length + (sl w + sl (2 + w)) ≤ 2 * (J.off 0 + J.off 1)
theorem JInv.weak {N sl sl' : Nat → Nat} {J : Job} (h : JInv N sl J) (hs : ∀ k, k < 4 → sl' k ≤ sl k) : JInv N sl' J :=
  ⟨h.n8, h.off, h.trk, h.good, fun i t hi ht => Nat.le_trans (Nat.add_le_add_left (hs _ (by omega)) _) (h.len i t hi ht), h.al, h.all, fun w hw => Nat.le_trans (by have := hs w (by omega); have := hs (2 + w) (by omega); omega) (h.cnt w hw)⟩
theorem routeN_two (x : Itm) : routeN x = [0] ∨ routeN x = [1] ∨ routeN x = [0, 1] := by
  unfold routeN routeI
  split
  · rcases wkrI_two x.e with h | h <;> rw [h]
    · exact .inl rfl
    · exact .inr (.inl rfl)
  · exact .inr (.inr rfl)
end Go.Proofs.YtppaiihcaajkaaaGreat

namespace Go.Proofs.YtppaiihcaajkaaaGreat
set_option linter.unusedVariables false
set_option linter.unusedSimpArgs false
theorem perm_mid (A B C : List Itm) (x : Itm) : (A ++ ((B ++ [x]) ++ C)).Perm ((A ++ (B ++ C)) ++ [x]) := by
  rw [List.append_assoc, List.append_assoc, List.append_assoc]
  refine List.Perm.append_left A (List.Perm.append_left B ?_)
  exact List.perm_append_comm
theorem AlP.symm {n : Int} {b0 b1 i0 i1 : Bool} {q0 q1 se ta : List Itm} (h : AlP n [b0, b1] i0 i1 q0 q1 se ta) : AlP n [b1, b0] i1 i0 q1 q0 se ta := by
  rcases h with ⟨h1, c0, c1, h2, h3, h4, h5, h6⟩ | ⟨h1, h2, h3, h4, h5⟩
  · injection h2 with e1 e2
    injection e2 with e2 _
    subst e1 e2
    exact .inl ⟨h1, b1, b0, rfl, fun h => h3 ⟨h.2, h.1⟩, h5, h4, h6.trans (List.Perm.append_left _ List.perm_append_comm)⟩
  · injection h2 with e1 e2
    injection e2 with e2 _
    subst e1 e2
    exact .inr ⟨h1, rfl, h4, h3, h5⟩
theorem AlP.two {n : Int} {bl : List Bool} {i0 i1 : Bool} {q0 q1 se ta : List Itm} (h : AlP n bl i0 i1 q0 q1 se ta) : ∃ b0 b1, bl = [b0, b1] := by
  rcases h with ⟨-, b0, b1, h2, -⟩ | ⟨-, h2, -⟩
  · exact ⟨b0, b1, h2⟩
  · exact ⟨_, _, h2⟩
theorem alp_send0 {n : Int} {bl : List Bool} {i0 i1 : Bool} {q0 q1 se ta : List Itm} {x : Itm} (h : AlP n bl i0 i1 q0 q1 se ta) (hx : isB x = false) : AlP n bl i0 i1 (q0 ++ [x]) q1 (if i0 = false then se ++ [x] else se) ta := by
  have hb : bars (q0 ++ [x]) = bars q0 := by rw [bars_snoc, hx]; simp
  rcases h with ⟨h1, b0, b1, h2, h3, h4, h5, h6⟩ | ⟨h1, h2, h3, h4, h5⟩
  · refine .inl ⟨h1, b0, b1, h2, h3, ?_, h5, ?_⟩
    · unfold FP at h4 ⊢
      rw [hb]; exact h4
    · cases i0
      · rw [if_pos rfl]
        cases b0
        · have hq : bars q0 = 0 := by unfold FP at h4; simpa using h4
          have he : pP (q0 ++ [x]) false = pP q0 false ++ [x] := by
            unfold pP
            simp only [Bool.false_eq_true, if_false]
            rw [preL_snoc0 x hq, hx, preL_all hq]
            simp
          rw [he]
          exact (h6.append_right [x]).trans (perm_mid _ _ _ x).symm
        · unfold FP at h4; simp at h4
      · rw [if_neg (by decide)]
        have he : pP (q0 ++ [x]) b0 = pP q0 b0 := by
          unfold pP
          cases b0
          · have hq : bars q0 = 1 := by unfold FP at h4; simpa using h4
            simp only [Bool.false_eq_true, if_false]
            exact preL_snoc x (by omega)
          · rfl
        rw [he]; exact h6
  · refine .inr ⟨h1, h2, ⟨h3.1, by rw [hb]; exact h3.2⟩, h4, ?_⟩
    rw [h3.1, if_neg (by decide)]
    exact h5
theorem alp_send1 {n : Int} {bl : List Bool} {i0 i1 : Bool} {q0 q1 se ta : List Itm} {x : Itm} (h : AlP n bl i0 i1 q0 q1 se ta) (hx : isB x = false) : AlP n bl i0 i1 q0 (q1 ++ [x]) (if i1 = false then se ++ [x] else se) ta := by
  obtain ⟨b0, b1, rfl⟩ := h.two
  exact (alp_send0 h.symm hx).symm
theorem alp_ins0 {n : Int} {bl : List Bool} {i1 : Bool} {q0 q1 se ta : List Itm} (h : AlP n bl false i1 q0 q1 se ta) : AlP n bl true i1 (q0 ++ [barI]) q1 se ta := by
  rcases h with ⟨h1, b0, b1, h2, h3, h4, h5, h6⟩ | ⟨h1, h2, h3, h4, h5⟩
  · cases b0
    · have hq : bars q0 = 0 := by unfold FP at h4; simpa using h4
      refine .inl ⟨h1, false, b1, h2, h3, ?_, h5, ?_⟩
      · unfold FP
        rw [bars_snoc, hq]; rfl
      · have he : pP (q0 ++ [barI]) false = pP q0 false := by
          unfold pP
          simp only [Bool.false_eq_true, if_false]
          rw [preL_snoc0 _ hq, bar_isB, preL_all hq]; simp
        rw [he]; exact h6
    · unfold FP at h4; simp at h4
  · exact absurd h3.1 (by decide)
theorem alp_ins1 {n : Int} {bl : List Bool} {i0 : Bool} {q0 q1 se ta : List Itm} (h : AlP n bl i0 false q0 q1 se ta) : AlP n bl i0 true q0 (q1 ++ [barI]) se ta := by
  obtain ⟨b0, b1, rfl⟩ := h.two
  exact (alp_ins0 h.symm).symm
/-- A barrier that is delivered is the next one of a free input. -/
theorem alp_bar0 {n : Int} {bl : List Bool} {i0 i1 : Bool} {x : Itm} {r q1 se ta : List Itm} (h : AlP n bl i0 i1 (x :: r) q1 se ta) (hb : bl.getD 0 false = false) (hx : isB x = true) :
    n = 0 ∧ (∃ b1, bl = [false, b1]) ∧ AlP (barN n bl 0) (barB bl 0) i0 i1 r q1 se ta := by
  have hc : bars (x :: r) = bars r + 1 := by rw [bars_cons, hx]; simp
  rcases h with ⟨h1, b0, b1, h2, h3, h4, h5, h6⟩ | ⟨h1, h2, h3, h4, h5⟩
  · subst h2
    obtain rfl : b0 = false := by simpa using hb
    refine ⟨h1, ⟨b1, rfl⟩, ?_⟩
    have h4' : bars r + 1 = if i0 = true then 1 else 0 := by unfold FP at h4; rw [← hc]; simpa using h4
    have hi : i0 = true := by
      cases i0
      · simp at h4'
      · rfl
    subst hi
    have hr : bars r = 0 := by simpa using h4'
    have hp : pP (x :: r) false = [] := by unfold pP; simp [preL_cons, hx]
    rw [hp, List.nil_append] at h6
    subst h1
    cases b1
    · refine .inl ⟨by simp [barN], true, false, by simp [barB], by simp, ?_, h5, ?_⟩
      · unfold FP; simp [hr]
      · simpa [pP] using h6
    · have h5' : i1 = true ∧ bars q1 = 0 := by unfold FP at h5; simpa using h5
      refine .inr ⟨by simp [barN], by simp [barB], ⟨rfl, hr⟩, h5', ?_⟩
      simpa [pP] using h6
  · have := h3.2
    omega
theorem alp_item0 {n : Int} {bl : List Bool} {i0 i1 : Bool} {x : Itm} {r q1 se ta : List Itm} (h : AlP n bl i0 i1 (x :: r) q1 se ta) (hb : bl.getD 0 false = false) (hx : isB x = false) : AlP n bl i0 i1 r q1 se (if n = 0 then ta ++ [x] else ta) := by
  have hc : bars (x :: r) = bars r := by rw [bars_cons, hx]; simp
  rcases h with ⟨h1, b0, b1, h2, h3, h4, h5, h6⟩ | ⟨h1, h2, h3, h4, h5⟩
  · subst h2
    obtain rfl : b0 = false := by simpa using hb
    refine .inl ⟨h1, false, b1, rfl, h3, ?_, h5, ?_⟩
    · unfold FP at h4 ⊢
      rw [← hc]; exact h4
    · rw [if_pos h1]
      have hp : pP (x :: r) false = x :: pP r false := by unfold pP; simp [preL_cons, hx]
      rw [hp] at h6
      rw [List.append_assoc]
      exact h6
  · refine .inr ⟨h1, h2, ⟨h3.1, by rw [← hc]; exact h3.2⟩, h4, ?_⟩
    rw [if_neg (by rw [h1]; decide)]
    exact h5
end Go.Proofs.YtppaiihcaajkaaaGreat

namespace Go.Proofs.YtppaiihcaajkaaaGreat
set_option linter.unusedVariables false
set_option linter.unusedSimpArgs false
theorem perm_two (A B C D : List Itm) (x : Itm) : ((A ++ (B ++ (C ++ D))) ++ [x]).Perm (A ++ (B ++ ((C ++ [x]) ++ D))) := by
  rw [List.append_assoc, List.append_assoc, List.append_assoc, List.append_assoc]
  refine List.Perm.append_left A (List.Perm.append_left B (List.Perm.append_left C ?_))
  exact List.perm_append_comm
theorem perm_two' (A B C D : List Itm) (x : Itm) : ((A ++ (B ++ (C ++ D))) ++ [x]).Perm (A ++ (B ++ (C ++ (D ++ [x])))) := by
  rw [List.append_assoc, List.append_assoc, List.append_assoc]
theorem send1_inv {N sl : Nat → Nat} {J : Job} {i t : Nat} {x : Itm} (h : JInv N sl J) (hi : i < 2) (ht : t < 2) (hx : GoodI x) (hs : 1 ≤ sl (2 * i + t)) : JInv N (fset sl (2 * i + t) (sl (2 * i + t) - 1)) (send1 J i t x) := by
  have hb := good_isB hx
  have hq : ∀ k, (send1 J i t x).q k = if k = 2 * i + t then J.q (2 * i + t) ++ [x] else J.q k := fun k => rfl
  have hse : ∀ k, (send1 J i t x).sent k = if k = t then (if J.ins i = false then J.sent t ++ [x] else J.sent t) else J.sent k := by
    intro k
    unfold send1
    simp only [hb, and_true]
    by_cases hin : J.ins i = false
    · rw [if_pos hin, if_pos hin, fset_at]
    · rw [if_neg hin, if_neg hin]
      split
      · rename_i e; rw [e]
      · rfl
  have hal : ∀ k, (send1 J i t x).all k = if k = t then J.all t ++ [x] else J.all k := by
    intro k
    unfold send1
    simp only [hb, if_true]
    rfl
  refine ⟨h.n8, h.off, h.trk, fun k hk y hy => ?_, fun i' t' hi' ht' => ?_, fun w hw => ?_, fun w hw => ?_, fun w hw => ?_⟩
  · rw [hq] at hy
    split at hy
    · rcases List.mem_append.1 hy with hy | hy
      · exact h.good _ (by omega) y hy
      · rw [List.mem_singleton.1 hy]; exact .inl hx
    · exact h.good k hk y hy
  · show ((send1 J i t x).q (2 * i' + t')).length + _ ≤ 2 * J.off i' + if J.ins i' = true then 1 else 0
    have h1 := h.len i' t' hi' ht'
    rw [hq, fset_at]
    by_cases e : 2 * i' + t' = 2 * i + t
    · rw [if_pos e, if_pos e, List.length_append, List.length_singleton]
      rw [e] at h1
      omega
    · rw [if_neg e, if_neg e]
      exact h1
  · have h1 := h.al w hw
    show AlP (J.num w) (J.blk w) (J.ins 0) (J.ins 1) ((send1 J i t x).q w) ((send1 J i t x).q (2 + w)) ((send1 J i t x).sent w) (J.taken w)
    rw [hq, hq, hse]
    by_cases e : w = t
    · subst e
      rw [if_pos rfl]
      have hi2 : i = 0 ∨ i = 1 := by omega
      rcases hi2 with rfl | rfl
      · rw [if_pos (by omega), if_neg (by omega), show 2 * 0 + w = w by omega]
        exact alp_send0 h1 hb
      · rw [if_neg (by omega), if_pos (by omega), show 2 * 1 + w = 2 + w by omega]
        exact alp_send1 h1 hb
    · rw [if_neg (by omega), if_neg (by omega), if_neg e]
      exact h1
  · have h1 := h.all w hw
    show ((send1 J i t x).all w).Perm (J.taken w ++ (J.later w ++ (nb ((send1 J i t x).q w) ++ nb ((send1 J i t x).q (2 + w)))))
    rw [hq, hq, hal]
    by_cases e : w = t
    · subst e
      rw [if_pos rfl]
      have hi2 : i = 0 ∨ i = 1 := by omega
      rcases hi2 with rfl | rfl
      · rw [if_pos (by omega), if_neg (by omega), show 2 * 0 + w = w by omega, nb_snoc, hb]
        exact (h1.append_right [x]).trans (perm_two _ _ _ _ x)
      · rw [if_neg (by omega), if_pos (by omega), show 2 * 1 + w = 2 + w by omega, nb_snoc, hb]
        exact (h1.append_right [x]).trans (perm_two' _ _ _ _ x)
    · rw [if_neg e, if_neg (by omega), if_neg (by omega)]
      exact h1
  · have h1 := h.cnt w hw
    show ((send1 J i t x).all w).length + _ ≤ 2 * (J.off 0 + J.off 1)
    rw [hal, fset_at, fset_at]
    by_cases e : w = t
    · subst e
      rw [if_pos rfl, List.length_append, List.length_singleton]
      have hi2 : i = 0 ∨ i = 1 := by omega
      rcases hi2 with rfl | rfl
      · rw [if_pos (by omega), if_neg (by omega)]
        rw [show 2 * 0 + w = w by omega] at hs ⊢
        omega
      · rw [if_neg (by omega), if_pos (by omega)]
        rw [show 2 * 1 + w = 2 + w by omega] at hs ⊢
        omega
    · rw [if_neg e, if_neg (by omega), if_neg (by omega)]
      exact h1
/-- The slack of the queues of a reader. -/
def slk (i s : Nat) : Nat → Nat := fun k => if k / 2 = i then s else 0
theorem sendJ_inv {N : Nat → Nat} {J : Job} {i s : Nat} {x : Itm} (h : JInv N (slk i (s + 1)) J) (hi : i < 2) (hx : GoodI x) : JInv N (slk i s) (sendJ J i x) := by
  have h0 : slk i (s + 1) (2 * i + 0) = s + 1 := if_pos (by omega)
  have h1 : slk i (s + 1) (2 * i + 1) = s + 1 := if_pos (by omega)
  unfold sendJ
  rcases routeN_two x with e | e | e <;> rw [e]
  · refine (send1_inv h hi (t := 0) (by omega) hx (by rw [h0]; omega)).weak fun k hk => ?_
    rw [fset_at, h0]
    unfold slk
    split <;> split <;> omega
  · refine (send1_inv h hi (t := 1) (by omega) hx (by rw [h1]; omega)).weak fun k hk => ?_
    rw [fset_at, h1]
    unfold slk
    split <;> split <;> omega
  · have h2 := send1_inv h hi (t := 0) (by omega) hx (by rw [h0]; omega)
    have h3 : fset (slk i (s + 1)) (2 * i + 0) (slk i (s + 1) (2 * i + 0) - 1) (2 * i + 1) = s + 1 := by rw [fset_ne (by omega), h1]
    refine (send1_inv h2 hi (t := 1) (by omega) hx (by rw [h3]; omega)).weak fun k hk => ?_
    rw [fset_at, h3, fset_at, h0]
    unfold slk
    split <;> split <;> (try split) <;> omega
theorem fold_inv {N : Nat → Nat} {i : Nat} (hi : i < 2) : ∀ (l : List Itm) (s : Nat) (J : Job), (∀ x ∈ l, GoodI x) → l.length ≤ s → JInv N (slk i s) J → JInv N (slk i (s - l.length)) (l.foldl (fun J x => sendJ J i x) J)
  | [], s, J, _, _, h => by simpa using h
  | x :: l, s, J, hg, hs, h => by
    rw [List.length_cons] at hs
    obtain ⟨s', rfl⟩ : ∃ s', s = s' + 1 := ⟨s - 1, by omega⟩
    rw [List.foldl_cons, List.length_cons, show s' + 1 - (l.length + 1) = s' - l.length by omega]
    exact fold_inv hi l s' _ (fun y hy => hg y (List.mem_cons_of_mem _ hy)) (by omega) (sendJ_inv h hi (hg x (List.mem_cons_self ..)))
def sl0 : Nat → Nat := fun _ => 0
theorem begin_read {N : Nat → Nat} {J : Job} {i : Nat} {y : Trk} (h : JInv N sl0 J) (hi : i < 2) (hlt : J.off i < N i) (hy : TrkOK y) : JInv N (slk i 2) { J with off := fset J.off i (J.off i + 1), trk := fset J.trk i y } := by
  refine ⟨h.n8, fun k hk => ?_, fun k hk => ?_, h.good, fun i' t' hi' ht' => ?_, h.al, h.all, fun w hw => ?_⟩
  · show fset J.off i (J.off i + 1) k ≤ N k
    rw [fset_at]
    split
    · rename_i e; subst e; omega
    · exact h.off k hk
  · show TrkOK (fset J.trk i y k)
    rw [fset_at]
    split
    · exact hy
    · exact h.trk k hk
  · show (J.q (2 * i' + t')).length + slk i 2 (2 * i' + t') ≤ 2 * fset J.off i (J.off i + 1) i' + if J.ins i' = true then 1 else 0
    have h1 := h.len i' t' hi' ht'
    unfold sl0 at h1
    rw [fset_at]
    unfold slk
    by_cases e : i' = i
    · subst e; rw [if_pos (by omega), if_pos rfl]; omega
    · rw [if_neg (by omega), if_neg e]; omega
  · have h1 := h.cnt w hw
    show (J.all w).length + (slk i 2 w + slk i 2 (2 + w)) ≤ 2 * (fset J.off i (J.off i + 1) 0 + fset J.off i (J.off i + 1) 1)
    unfold sl0 at h1
    have hi2 : i = 0 ∨ i = 1 := by omega
    unfold slk
    rcases hi2 with rfl | rfl
    · rw [if_pos (by omega), if_neg (by omega), fset_same, fset_ne (by omega)]; omega
    · rw [if_neg (by omega), if_pos (by omega), fset_same, fset_ne (by omega)]; omega
theorem slk0 {i : Nat} {k : Nat} : slk i 0 k = 0 := by unfold slk; split <;> rfl
theorem readJ_inv {N : Nat → Nat} {J : Job} {i : Nat} {l : List Itm} {y : Trk} (h : JInv N sl0 J) (hi : i < 2) (hlt : J.off i < N i) (hy : TrkOK y) (hl : l.length ≤ 2) (hg : ∀ x ∈ l, GoodI x) : JInv N sl0 (readJ J i l y) :=
  (fold_inv hi l 2 _ hg hl (begin_read h hi hlt hy)).weak fun k _ => Nat.zero_le _
theorem route_bar : routeN barI = [0, 1] := rfl
theorem send1_bar (J : Job) (i t : Nat) : (send1 J i t barI).sent = J.sent ∧ (send1 J i t barI).all = J.all := by
  unfold send1
  simp [bar_isB]
theorem insJ_inv {N : Nat → Nat} {J : Job} {i : Nat} (h : JInv N sl0 J) (hi : i < 2) : JInv N sl0 (insJ J i) := by
  unfold insJ
  by_cases hin : J.ins i = true
  · rw [if_pos hin]; exact h
  rw [if_neg hin]
  have hf : J.ins i = false := by simpa using hin
  have hb : isB barI = true := rfl
  obtain ⟨J', hJ⟩ : ∃ J', ({ sendJ J i barI with ins := fset J.ins i true } : Job) = J' := ⟨_, rfl⟩
  rw [hJ]
  have e : sendJ J i barI = send1 (send1 J i 0 barI) i 1 barI := by unfold sendJ; rw [route_bar]; rfl
  rw [e] at hJ
  have hq : ∀ k, k < 4 → J'.q k = if k / 2 = i then J.q k ++ [barI] else J.q k := by
    intro k hk
    subst hJ
    show fset (fset J.q (2 * i + 0) (J.q (2 * i + 0) ++ [barI])) (2 * i + 1) (fset J.q (2 * i + 0) (J.q (2 * i + 0) ++ [barI]) (2 * i + 1) ++ [barI]) k = _
    rw [fset_ne (show 2 * i + 1 ≠ 2 * i + 0 by omega), fset_at, fset_at]
    by_cases h1 : k = 2 * i + 1
    · subst h1; rw [if_pos rfl, if_pos (by omega)]
    · rw [if_neg h1]
      by_cases h2 : k = 2 * i + 0
      · subst h2; rw [if_pos rfl, if_pos (by omega)]
      · rw [if_neg h2, if_neg (by omega)]
  have hse : J'.sent = J.sent := by subst hJ; exact (send1_bar (send1 J i 0 barI) i 1).1.trans (send1_bar J i 0).1
  have hal : J'.all = J.all := by subst hJ; exact (send1_bar (send1 J i 0 barI) i 1).2.trans (send1_bar J i 0).2
  have hins : J'.ins = fset J.ins i true := by subst hJ; rfl
  have hnum : J'.num = J.num := by subst hJ; rfl
  have hblk : J'.blk = J.blk := by subst hJ; rfl
  have htk : J'.taken = J.taken := by subst hJ; rfl
  have hlt : J'.later = J.later := by subst hJ; rfl
  have hoff : J'.off = J.off := by subst hJ; rfl
  have htr : J'.trk = J.trk := by subst hJ; rfl
  clear hJ e
  have hnb : ∀ (l : List Itm), nb (l ++ [barI]) = nb l := fun l => by rw [nb_snoc, hb]; simp
  refine ⟨h.n8, by rw [hoff]; exact h.off, by rw [htr]; exact h.trk, fun k hk y hy => ?_, fun i' t' hi' ht' => ?_, fun w hw => ?_, fun w hw => ?_, by rw [hal, hoff]; exact h.cnt⟩
  · rw [hq k hk] at hy
    split at hy
    · rcases List.mem_append.1 hy with hy | hy
      · exact h.good _ hk y hy
      · rw [List.mem_singleton.1 hy]; exact .inr rfl
    · exact h.good k hk y hy
  · have h1 := h.len i' t' hi' ht'
    rw [hq _ (by omega), hoff, hins, fset_at]
    by_cases e : i' = i
    · subst e
      rw [if_pos (by omega), if_pos rfl, List.length_append, List.length_singleton]
      rw [hf] at h1
      simp only [Bool.false_eq_true, if_false, if_true] at h1 ⊢
      omega
    · rw [if_neg (by omega), if_neg e]
      exact h1
  · have h1 := h.al w hw
    unfold AlInv at h1 ⊢
    rw [hnum, hblk, hins, hse, htk, hq w (by omega), hq (2 + w) (by omega)]
    have hi2 : i = 0 ∨ i = 1 := by omega
    rcases hi2 with rfl | rfl
    · rw [if_pos (by omega), if_neg (by omega), fset_same, fset_ne (by omega)]
      rw [hf] at h1
      exact alp_ins0 h1
    · rw [if_neg (by omega), if_pos (by omega), fset_same, fset_ne (by omega)]
      rw [hf] at h1
      exact alp_ins1 h1
  · have h1 := h.all w hw
    rw [hal, htk, hlt, hq w (by omega), hq (2 + w) (by omega)]
    split <;> split <;> (try simp only [hnb]) <;> exact h1
theorem AlP.blk {n : Int} {bl : List Bool} {i0 i1 : Bool} {q0 q1 se ta : List Itm} (h : AlP n bl i0 i1 q0 q1 se ta) : bl.length = 2 := by
  obtain ⟨b0, b1, rfl⟩ := h.two
  rfl
theorem barN_symm {n : Int} {b0 b1 : Bool} : barN n [b0, b1] 1 = barN n [b1, b0] 0 := by cases b0 <;> cases b1 <;> rfl
theorem barB_symm {b0 b1 : Bool} : ∃ c0 c1, barB [b0, b1] 1 = [c0, c1] ∧ barB [b1, b0] 0 = [c1, c0] := by
  cases b0 <;> cases b1
  · exact ⟨false, true, rfl, rfl⟩
  · exact ⟨false, true, rfl, rfl⟩
  · exact ⟨false, false, rfl, rfl⟩
  · exact ⟨false, false, rfl, rfl⟩
theorem alp_bar1 {n : Int} {bl : List Bool} {i0 i1 : Bool} {x : Itm} {r q0 se ta : List Itm} (h : AlP n bl i0 i1 q0 (x :: r) se ta) (hb : bl.getD 1 false = false) (hx : isB x = true) :
    n = 0 ∧ (∃ b0, bl = [b0, false]) ∧ AlP (barN n bl 1) (barB bl 1) i0 i1 q0 r se ta := by
  obtain ⟨b0, b1, rfl⟩ := h.two
  obtain ⟨h1, ⟨c, h2⟩, h3⟩ := alp_bar0 h.symm (by simpa using hb) hx
  injection h2 with e1 e2
  injection e2 with e2 _
  subst e1 e2
  obtain ⟨c0, c1, e1, e2⟩ := @barB_symm b0 false
  refine ⟨h1, ⟨b0, rfl⟩, ?_⟩
  rw [barN_symm, e1]
  rw [e2] at h3
  exact h3.symm
theorem alp_item1 {n : Int} {bl : List Bool} {i0 i1 : Bool} {x : Itm} {r q0 se ta : List Itm} (h : AlP n bl i0 i1 q0 (x :: r) se ta) (hb : bl.getD 1 false = false) (hx : isB x = false) : AlP n bl i0 i1 q0 r se (if n = 0 then ta ++ [x] else ta) := by
  obtain ⟨b0, b1, rfl⟩ := h.two
  exact (alp_item0 h.symm (by simpa using hb) hx).symm
theorem perm_take (A B C : List Itm) (x : Itm) : (A ++ (B ++ (x :: C))).Perm (A ++ ([x] ++ (B ++ C))) := List.Perm.append_left A List.perm_middle
/-- Where nothing is delivered. -/
theorem delJ_none {J : Job} {w f : Nat} (h : (J.blk w).getD f false = true ∨ J.q (2 * f + w) = []) : delJ J w f = J := by
  unfold delJ
  rcases h with h | h
  · rw [if_pos h]
  · split
    · rfl
    · rw [h]
theorem delJ_bar {J : Job} {w f : Nat} {x : Itm} {r : List Itm} (hb : (J.blk w).getD f false = false) (hq : J.q (2 * f + w) = x :: r) (hx : isB x = true) :
    delJ J w f = { J with q := fset J.q (2 * f + w) r, num := fset J.num w (barN (J.num w) (J.blk w) f), blk := fset J.blk w (barB (J.blk w) f) } := by
  unfold delJ
  rw [if_neg (by rw [hb]; decide), hq]
  simp only [hx, if_true]
theorem delJ_item {J : Job} {w f : Nat} {x : Itm} {r : List Itm} (hb : (J.blk w).getD f false = false) (hq : J.q (2 * f + w) = x :: r) (hx : isB x = false) :
    delJ J w f = { J with q := fset J.q (2 * f + w) r, taken := (if J.num w = 0 then fset J.taken w (J.taken w ++ [x]) else J.taken), later := (if J.num w = 0 then J.later else fset J.later w (J.later w ++ [x])) } := by
  unfold delJ
  rw [if_neg (by rw [hb]; decide), hq]
  simp only [hx, Bool.false_eq_true, if_false]
  split <;> rfl
theorem delJ_inv {N : Nat → Nat} {J : Job} {w f : Nat} (h : JInv N sl0 J) (hw : w < 2) (hf : f < 2) : JInv N sl0 (delJ J w f) := by
  by_cases hn : (J.blk w).getD f false = true ∨ J.q (2 * f + w) = []
  · rw [delJ_none hn]; exact h
  have hb : (J.blk w).getD f false = false := by
    cases hc : (J.blk w).getD f false
    · rfl
    · exact absurd (.inl hc) hn
  obtain ⟨x, r, hq⟩ : ∃ x r, J.q (2 * f + w) = x :: r := by
    cases hc : J.q (2 * f + w) with
    | nil => exact absurd (.inr hc) hn
    | cons x r => exact ⟨x, r, rfl⟩
  clear hn
  have hfc : f = 0 ∨ f = 1 := by omega
  have hgood : ∀ k, k < 4 → ∀ y ∈ fset J.q (2 * f + w) r k, GoodI y ∨ y = barI := fun k hk y hy => by
    rw [fset_at] at hy
    split at hy
    · exact h.good (2 * f + w) (by omega) y (by rw [hq]; exact List.mem_cons_of_mem _ hy)
    · exact h.good k hk y hy
  have hlen : ∀ i t, i < 2 → t < 2 → (fset J.q (2 * f + w) r (2 * i + t)).length + sl0 (2 * i + t) ≤ 2 * J.off i + if J.ins i = true then 1 else 0 := fun i t hi ht => by
    have h1 := h.len i t hi ht
    rw [fset_at]
    split
    · rename_i e
      rw [e, hq, List.length_cons] at h1
      rw [e]
      omega
    · exact h1
  have hother : ∀ w', w' < 2 → w' ≠ w → fset J.q (2 * f + w) r w' = J.q w' ∧ fset J.q (2 * f + w) r (2 + w') = J.q (2 + w') := fun w' h1 h2 => ⟨fset_ne (by omega), fset_ne (by omega)⟩
  cases hx : isB x
  · rw [delJ_item hb hq hx]
    refine ⟨h.n8, h.off, h.trk, hgood, hlen, fun w' hw' => ?_, fun w' hw' => ?_, h.cnt⟩
    · have h1 := h.al w' hw'
      show AlP (J.num w') (J.blk w') (J.ins 0) (J.ins 1) (fset J.q (2 * f + w) r w') (fset J.q (2 * f + w) r (2 + w')) (J.sent w') ((if J.num w = 0 then fset J.taken w (J.taken w ++ [x]) else J.taken) w')
      by_cases e : w' = w
      · subst e
        unfold AlInv at h1
        have ht : (if J.num w' = 0 then fset J.taken w' (J.taken w' ++ [x]) else J.taken) w' = if J.num w' = 0 then J.taken w' ++ [x] else J.taken w' := by split <;> simp
        rw [ht]
        rcases hfc with rfl | rfl
        · rw [show 2 * 0 + w' = w' by omega] at hq ⊢
          rw [fset_same, fset_ne (by omega)]
          rw [hq] at h1
          exact alp_item0 h1 hb hx
        · rw [show 2 * 1 + w' = 2 + w' by omega] at hq ⊢
          rw [fset_same, fset_ne (by omega)]
          rw [hq] at h1
          exact alp_item1 h1 hb hx
      · rw [(hother w' hw' e).1, (hother w' hw' e).2]
        have ht : (if J.num w = 0 then fset J.taken w (J.taken w ++ [x]) else J.taken) w' = J.taken w' := by split <;> simp [fset_at, e]
        rw [ht]; exact h1
    · have h1 := h.all w' hw'
      show (J.all w').Perm ((if J.num w = 0 then fset J.taken w (J.taken w ++ [x]) else J.taken) w' ++ ((if J.num w = 0 then J.later else fset J.later w (J.later w ++ [x])) w' ++ (nb (fset J.q (2 * f + w) r w') ++ nb (fset J.q (2 * f + w) r (2 + w')))))
      by_cases e : w' = w
      · subst e
        have key : ∀ (A B C D : List Itm), ((A ++ (B ++ ([x] ++ (C ++ D)))).Perm ((if J.num w' = 0 then A ++ [x] else A) ++ ((if J.num w' = 0 then B else B ++ [x]) ++ (C ++ D)))) := fun A B C D => by
          split
          · rw [List.append_assoc]
            refine List.Perm.append_left A ?_
            exact List.perm_middle
          · rw [List.append_assoc]
        have ht : (if J.num w' = 0 then fset J.taken w' (J.taken w' ++ [x]) else J.taken) w' = if J.num w' = 0 then J.taken w' ++ [x] else J.taken w' := by split <;> simp
        have hl : (if J.num w' = 0 then J.later else fset J.later w' (J.later w' ++ [x])) w' = if J.num w' = 0 then J.later w' else J.later w' ++ [x] := by split <;> simp
        rw [ht, hl]
        refine h1.trans (List.Perm.trans ?_ (key _ _ _ _))
        rcases hfc with rfl | rfl
        · rw [show 2 * 0 + w' = w' by omega] at hq ⊢
          rw [fset_same, fset_ne (by omega), hq, nb_cons, hx]
          exact .rfl
        · rw [show 2 * 1 + w' = 2 + w' by omega] at hq ⊢
          rw [fset_same, fset_ne (by omega), hq, nb_cons, hx]
          refine List.Perm.append_left _ (List.Perm.append_left _ ?_)
          exact List.perm_middle
      · rw [(hother w' hw' e).1, (hother w' hw' e).2]
        have ht : (if J.num w = 0 then fset J.taken w (J.taken w ++ [x]) else J.taken) w' = J.taken w' := by split <;> simp [fset_at, e]
        have hl : (if J.num w = 0 then J.later else fset J.later w (J.later w ++ [x])) w' = J.later w' := by split <;> simp [fset_at, e]
        rw [ht, hl]; exact h1
  · rw [delJ_bar hb hq hx]
    refine ⟨h.n8, h.off, h.trk, hgood, hlen, fun w' hw' => ?_, fun w' hw' => ?_, h.cnt⟩
    · have h1 := h.al w' hw'
      show AlP (fset J.num w (barN (J.num w) (J.blk w) f) w') (fset J.blk w (barB (J.blk w) f) w') (J.ins 0) (J.ins 1) (fset J.q (2 * f + w) r w') (fset J.q (2 * f + w) r (2 + w')) (J.sent w') (J.taken w')
      by_cases e : w' = w
      · subst e
        unfold AlInv at h1
        rw [fset_same, fset_same]
        rcases hfc with rfl | rfl
        · rw [show 2 * 0 + w' = w' by omega] at hq ⊢
          rw [fset_same, fset_ne (by omega)]
          rw [hq] at h1
          exact (alp_bar0 h1 hb hx).2.2
        · rw [show 2 * 1 + w' = 2 + w' by omega] at hq ⊢
          rw [fset_same, fset_ne (by omega)]
          rw [hq] at h1
          exact (alp_bar1 h1 hb hx).2.2
      · rw [(hother w' hw' e).1, (hother w' hw' e).2, fset_ne e, fset_ne e]
        exact h1
    · have h1 := h.all w' hw'
      show (J.all w').Perm (J.taken w' ++ (J.later w' ++ (nb (fset J.q (2 * f + w) r w') ++ nb (fset J.q (2 * f + w) r (2 + w')))))
      by_cases e : w' = w
      · subst e
        rcases hfc with rfl | rfl
        · rw [show 2 * 0 + w' = w' by omega] at hq ⊢
          rw [fset_same, fset_ne (by omega)]
          rw [hq, nb_cons, hx] at h1
          exact h1
        · rw [show 2 * 1 + w' = 2 + w' by omega] at hq ⊢
          rw [fset_same, fset_ne (by omega)]
          rw [hq, nb_cons, hx] at h1
          exact h1
      · rw [(hother w' hw' e).1, (hother w' hw' e).2]
        exact h1
theorem take_le {α : Type} (p : α → Bool) : ∀ (l : List α), (l.takeWhile p).length ≤ l.length
  | [] => Nat.le_refl _
  | x :: l => by
    rw [List.takeWhile_cons]
    split
    · simp only [List.length_cons]; have := take_le p l; omega
    · simp
theorem rows_le {N : Nat → Nat} {J : Job} (h : JInv N sl0 J) {w : Nat} (hw : w < 2) : (J.taken w).length ≤ 100 ∧ (J.later w).length ≤ 100 ∧ (J.sent w).length ≤ 100 := by
  have h0 := h.off 0 (by omega)
  have h1 := h.off 1 (by omega)
  have n0 := h.n8 0 (by omega)
  have n1 := h.n8 1 (by omega)
  have hc := h.cnt w hw
  have ha := (h.all w hw).length_eq
  simp only [List.length_append] at ha
  have q0 := h.len 0 w (by omega) hw
  have q1 := h.len 1 w (by omega) hw
  rw [show 2 * 0 + w = w by omega] at q0
  rw [show 2 * 1 + w = 2 + w by omega] at q1
  have hq0 : (J.q w).length ≤ 17 := by split at q0 <;> omega
  have hq1 : (J.q (2 + w)).length ≤ 17 := by split at q1 <;> omega
  refine ⟨by omega, by omega, ?_⟩
  have hal := h.al w hw
  unfold AlInv at hal
  have hp : ∀ (l : List Itm) (b : Bool), (pP l b).length ≤ l.length := fun l b => by
    unfold pP
    split
    · simp
    · exact take_le _ l
  rcases hal with ⟨-, b0, b1, -, -, -, -, h6⟩ | ⟨-, -, -, -, h6⟩
  · have := h6.length_eq
    simp only [List.length_append] at this
    have := hp (J.q w) b0
    have := hp (J.q (2 + w)) b1
    omega
  · have := h6.length_eq
    omega
end Go.Proofs.YtppaiihcaajkaaaGreat

namespace Go.Proofs.YtppaiihcaajkaaaGreat
set_option linter.unusedVariables false
set_option linter.unusedSimpArgs false
def job0 : Job := ⟨fun _ => 0, fun _ => trk0, fun _ => [], fun _ => 0, fun _ => [false, false], fun _ => false, fun _ => [], fun _ => [], fun _ => [], fun _ => []⟩
theorem job0_inv {N : Nat → Nat} (h : ∀ i, i < 2 → N i ≤ 8) : JInv N sl0 job0 := by
  refine ⟨h, fun i _ => Nat.zero_le _, fun i _ => trk0_ok, fun k _ x hx => (by cases hx), fun i t _ _ => Nat.zero_le _, fun w _ => .inl ⟨rfl, false, false, rfl, by decide, by unfold FP; rfl, by unfold FP; rfl, .rfl⟩, fun w _ => .rfl, fun w _ => Nat.le_refl _⟩
def tot (J : Job) : Nat := (J.q 0).length + (J.q 1).length + ((J.q 2).length + (J.q 3).length)
/-- Nothing can be delivered to the worker. -/
def Stuck (J : Job) (w : Nat) : Prop := ∀ f, f < 2 → (J.blk w).getD f false = true ∨ J.q (2 * f + w) = []
theorem tot_put {J : Job} {q : Nat → List Itm} {k : Nat} {x : Itm} {r : List Itm} (hk : k < 4) (h : J.q k = x :: r) (hq : q = fset J.q k r) : (q 0).length + (q 1).length + ((q 2).length + (q 3).length) + 1 = tot J := by
  subst hq
  unfold tot
  have hc : k = 0 ∨ k = 1 ∨ k = 2 ∨ k = 3 := by omega
  rcases hc with rfl | rfl | rfl | rfl <;> simp only [fset_at, h, List.length_cons] <;> simp <;> omega
theorem delJ_tot {J : Job} {w f : Nat} (hw : w < 2) (hf : f < 2) : ((J.blk w).getD f false = true ∨ J.q (2 * f + w) = [] → delJ J w f = J) ∧ (¬ ((J.blk w).getD f false = true ∨ J.q (2 * f + w) = []) → tot (delJ J w f) + 1 = tot J) := by
  refine ⟨delJ_none, fun hn => ?_⟩
  have hb : (J.blk w).getD f false = false := by
    cases hc : (J.blk w).getD f false
    · rfl
    · exact absurd (.inl hc) hn
  obtain ⟨x, r, hq⟩ : ∃ x r, J.q (2 * f + w) = x :: r := by
    cases hc : J.q (2 * f + w) with
    | nil => exact absurd (.inr hc) hn
    | cons x r => exact ⟨x, r, rfl⟩
  cases hx : isB x
  · rw [delJ_item hb hq hx]
    exact tot_put (by omega) hq rfl
  · rw [delJ_bar hb hq hx]
    exact tot_put (by omega) hq rfl
theorem delJ_le {J : Job} {w f : Nat} (hw : w < 2) (hf : f < 2) : tot (delJ J w f) ≤ tot J := by
  by_cases h : (J.blk w).getD f false = true ∨ J.q (2 * f + w) = []
  · rw [(delJ_tot hw hf).1 h]; exact Nat.le_refl _
  · have := (delJ_tot hw hf).2 h; omega
theorem delJ_off {J : Job} {w f : Nat} : (delJ J w f).off = J.off ∧ (delJ J w f).ins = J.ins ∧ (delJ J w f).trk = J.trk ∧ (delJ J w f).all = J.all ∧ (delJ J w f).sent = J.sent := by
  unfold delJ
  split
  · exact ⟨rfl, rfl, rfl, rfl, rfl⟩
  split
  · exact ⟨rfl, rfl, rfl, rfl, rfl⟩
  split
  · exact ⟨rfl, rfl, rfl, rfl, rfl⟩
  split <;> exact ⟨rfl, rfl, rfl, rfl, rfl⟩
/-- Both inputs of a worker. -/
theorem del2_tot {J : Job} {w : Nat} (hw : w < 2) : (Stuck J w → delJ (delJ J w 0) w 1 = J) ∧ (¬ Stuck J w → tot (delJ (delJ J w 0) w 1) + 1 ≤ tot J) := by
  constructor
  · intro h
    rw [(delJ_tot hw (by omega)).1 (h 0 (by omega)), (delJ_tot hw (by omega)).1 (h 1 (by omega))]
  · intro h
    by_cases h0 : (J.blk w).getD 0 false = true ∨ J.q (2 * 0 + w) = []
    · have h1 : ¬ ((J.blk w).getD 1 false = true ∨ J.q (2 * 1 + w) = []) := fun h1 => h fun f hf => by
        have hc : f = 0 ∨ f = 1 := by omega
        rcases hc with rfl | rfl
        · exact h0
        · exact h1
      rw [(delJ_tot hw (by omega)).1 h0]
      have := (delJ_tot hw (by omega)).2 h1
      omega
    · have h1 := (delJ_tot hw (by omega)).2 h0
      have h2 := delJ_le (J := delJ J w 0) hw (f := 1) (by omega)
      omega
theorem stuck_done {N sl : Nat → Nat} {J : Job} (h : JInv N sl J) (hi : ∀ f, f < 2 → J.ins f = true) {w : Nat} (hw : w < 2) (hs : Stuck J w) : J.q w = [] ∧ J.q (2 + w) = [] := by
  have h1 := h.al w hw
  have s0 := hs 0 (by omega)
  have s1 := hs 1 (by omega)
  rw [show 2 * 0 + w = w by omega] at s0
  rw [show 2 * 1 + w = 2 + w by omega] at s1
  unfold AlInv at h1
  rcases h1 with ⟨-, b0, b1, hb, hne, f0, f1, -⟩ | ⟨-, hb, -⟩
  · exfalso
    rw [hb] at s0 s1
    rw [hi 0 (by omega)] at f0
    rw [hi 1 (by omega)] at f1
    cases b0
    · rcases s0 with s0 | s0
      · simp at s0
      · rw [s0] at f0; simp [FP, bars] at f0
    · cases b1
      · rcases s1 with s1 | s1
        · simp at s1
        · rw [s1] at f1; simp [FP, bars] at f1
      · exact hne ⟨rfl, rfl⟩
  · rw [hb] at s0 s1
    exact ⟨by simpa using s0, by simpa using s1⟩
theorem all_stuck {N sl : Nat → Nat} {J : Job} (h : JInv N sl J) (hi : ∀ f, f < 2 → J.ins f = true) (h0 : Stuck J 0) (h1 : Stuck J 1) : tot J = 0 := by
  obtain ⟨a, b⟩ := stuck_done h hi (by omega) h0
  obtain ⟨c, d⟩ := stuck_done h hi (w := 1) (by omega) h1
  unfold tot
  rw [a, c, show (2 : Nat) = 2 + 0 from rfl, b, show (3 : Nat) = 2 + 1 from rfl, d]
  rfl
theorem tot_le {N : Nat → Nat} {J : Job} (h : JInv N sl0 J) : tot J ≤ 68 := by
  have k : ∀ i t, i < 2 → t < 2 → (J.q (2 * i + t)).length ≤ 17 := fun i t hi ht => by
    have h1 := h.len i t hi ht
    have h2 := h.off i hi
    have h3 := h.n8 i hi
    split at h1 <;> omega
  have h0 := k 0 0 (by omega) (by omega)
  have h1 := k 0 1 (by omega) (by omega)
  have h2 := k 1 0 (by omega) (by omega)
  have h3 := k 1 1 (by omega) (by omega)
  unfold tot
  simp only [Nat.mul_zero, Nat.zero_add, Nat.mul_one, Nat.add_zero, Nat.reduceAdd] at h0 h1 h2 h3
  omega
/-- Where the rounds stand: in round r, the workers below i are through. -/
structure Rd80 (N : Nat → Nat) (r i : Nat) (J : Job) : Prop where
  inv : JInv N sl0 J
  off : ∀ k, k < 2 → min (N k) (if k < i then r + 1 else r) ≤ J.off k
  ins : ∀ k, k < 2 → (if k < i then 9 ≤ r else 10 ≤ r) → J.ins k = true
  pr : 10 ≤ r → tot J = 0 ∨ tot J + r + 1 ≤ 78 ∨ (tot J + r ≤ 78 ∧ ((i = 0) ∨ (i = 1 ∧ ¬ Stuck J 1)))
theorem Rd80.next {N : Nat → Nat} {r : Nat} {J : Job} (h : Rd80 N r 2 J) : Rd80 N (r + 1) 0 J := by
  refine ⟨h.inv, fun k hk => ?_, fun k hk hr => ?_, fun hr => ?_⟩
  · have := h.off k hk
    rw [if_pos hk] at this
    rw [if_neg (by omega)]; exact this
  · rw [if_neg (by omega)] at hr
    exact h.ins k hk (by rw [if_pos hk]; omega)
  · by_cases h9 : r = 9
    · have := tot_le h.inv
      exact .inr (.inr ⟨by omega, .inl rfl⟩)
    · rcases h.pr (by omega) with h1 | h1 | ⟨-, h1 | h1⟩
      · exact .inl h1
      · exact .inr (.inr ⟨by omega, .inl rfl⟩)
      · omega
      · omega
/-- What a reader does ahead of the deliveries. -/
def ReadStep (N : Nat → Nat) (J : Job) (i : Nat) (J' : Job) : Prop := (J.off i = N i ∧ J' = J) ∨ (J.off i < N i ∧ ∃ l y, TrkOK y ∧ l.length ≤ 2 ∧ (∀ x ∈ l, GoodI x) ∧ J' = readJ J i l y)
theorem sendJ_off (J : Job) (i : Nat) (x : Itm) : (sendJ J i x).off = J.off ∧ (sendJ J i x).ins = J.ins ∧ (sendJ J i x).trk = J.trk := by
  unfold sendJ
  generalize routeN x = l
  induction l generalizing J with
  | nil => exact ⟨rfl, rfl, rfl⟩
  | cons t l ih =>
    rw [List.foldl_cons]
    exact ⟨(ih _).1.trans rfl, (ih _).2.1.trans rfl, (ih _).2.2.trans rfl⟩
theorem fold_off (i : Nat) : ∀ (l : List Itm) (J : Job), (l.foldl (fun J x => sendJ J i x) J).off = J.off ∧ (l.foldl (fun J x => sendJ J i x) J).ins = J.ins ∧ (l.foldl (fun J x => sendJ J i x) J).trk = J.trk
  | [], J => ⟨rfl, rfl, rfl⟩
  | x :: l, J => by
    rw [List.foldl_cons]
    have h1 := fold_off i l (sendJ J i x)
    have h2 := sendJ_off J i x
    exact ⟨h1.1.trans h2.1, h1.2.1.trans h2.2.1, h1.2.2.trans h2.2.2⟩
theorem readJ_off (J : Job) (i : Nat) (l : List Itm) (y : Trk) : (readJ J i l y).off = fset J.off i (J.off i + 1) ∧ (readJ J i l y).ins = J.ins ∧ (readJ J i l y).trk = fset J.trk i y := fold_off i l _
theorem insJ_off (J : Job) (i : Nat) : (insJ J i).off = J.off ∧ (insJ J i).ins = (if J.ins i = true then J.ins else fset J.ins i true) ∧ (insJ J i).trk = J.trk := by
  unfold insJ
  split
  · exact ⟨rfl, rfl, rfl⟩
  · exact ⟨(sendJ_off J i barI).1, rfl, (sendJ_off J i barI).2.2⟩
theorem ReadStep.inv {N : Nat → Nat} {J J' : Job} {i : Nat} (h : ReadStep N J i J') (hi : i < 2) (hj : JInv N sl0 J) : JInv N sl0 J' ∧ J'.ins = J.ins ∧ (∀ k, J.off k ≤ J'.off k) ∧ min (N i) (J.off i + 1) ≤ J'.off i := by
  rcases h with ⟨h1, rfl⟩ | ⟨h1, l, y, hy, hl, hg, rfl⟩
  · exact ⟨hj, rfl, fun k => Nat.le_refl _, by omega⟩
  · obtain ⟨h2, h3, -⟩ := readJ_off J i l y
    refine ⟨readJ_inv hj hi h1 hy hl hg, h3, fun k => ?_, ?_⟩
    · rw [h2, fset_at]; split
      · rename_i e; subst e; omega
      · exact Nat.le_refl _
    · rw [h2, fset_same]; omega
/-- A worker's turn. -/
theorem Rd80.turn {N : Nat → Nat} {r i : Nat} {J J1 J2 : Job} (h : Rd80 N r i J) (hi : i < 2) (h1 : J1 = if 8 < r then insJ J i else J) (h2 : ReadStep N J1 i J2) : Rd80 N r (i + 1) (delJ (delJ J2 i 0) i 1) := by
  have hv1 : JInv N sl0 J1 ∧ J1.off = J.off ∧ (∀ k, J.ins k = true → J1.ins k = true) ∧ (8 < r → J1.ins i = true) := by
    subst h1
    split
    · obtain ⟨a, b, -⟩ := insJ_off J i
      refine ⟨insJ_inv h.inv hi, a, fun k hk => ?_, fun _ => ?_⟩
      · rw [b]; split
        · exact hk
        · rw [fset_at]; split <;> first | rfl | exact hk
      · rw [b]; split
        · assumption
        · exact fset_same
    · exact ⟨h.inv, rfl, fun k hk => hk, fun hr => absurd hr (by assumption)⟩
  obtain ⟨hj1, ho1, hm1, hi1⟩ := hv1
  obtain ⟨hj2, hs2, ho2, hr2⟩ := h2.inv hi hj1
  have hd : ∀ (J : Job), (delJ (delJ J i 0) i 1).off = J.off ∧ (delJ (delJ J i 0) i 1).ins = J.ins := fun J => ⟨(delJ_off (J := delJ J i 0)).1.trans delJ_off.1, (delJ_off (J := delJ J i 0)).2.1.trans delJ_off.2.1⟩
  refine ⟨delJ_inv (delJ_inv hj2 hi (by omega)) hi (by omega), fun k hk => ?_, fun k hk hr => ?_, fun hr => ?_⟩
  · rw [(hd J2).1]
    have h3 := h.off k hk
    have h4 := ho2 k
    rw [ho1] at h4 hr2
    by_cases e : k = i
    · subst e
      rw [if_neg (by omega)] at h3
      rw [if_pos (by omega)]
      omega
    · by_cases e2 : k < i
      · rw [if_pos e2] at h3; rw [if_pos (by omega)]; omega
      · rw [if_neg e2] at h3; rw [if_neg (by omega)]; omega
  · rw [(hd J2).2, hs2]
    by_cases e : k = i
    · subst e
      rw [if_pos (by omega)] at hr
      exact hi1 (by omega)
    · refine hm1 k (h.ins k hk ?_)
      by_cases e2 : k < i
      · rw [if_pos (by omega)] at hr; rw [if_pos e2]; exact hr
      · rw [if_neg (by omega)] at hr; rw [if_neg e2]; exact hr
  · have hins : ∀ f, f < 2 → J.ins f = true := fun f hf => h.ins f hf (by split <;> omega)
    have e1 : J1 = J := by
      rw [h1, if_pos (by omega)]
      unfold insJ
      rw [if_pos (hins i hi)]
    subst e1
    have e2 : J2 = J1 := by
      rcases h2 with ⟨-, e⟩ | ⟨hlt, -⟩
      · exact e
      · have h3 := h.off i hi
        have h4 := h.inv.n8 i hi
        rw [if_neg (by omega)] at h3
        omega
    subst e2
    obtain ⟨t1, t2⟩ := del2_tot (J := J2) hi
    by_cases hs : Stuck J2 i
    · rw [t1 hs]
      have hic : i = 0 ∨ i = 1 := by omega
      rcases hic with rfl | rfl
      · rcases h.pr hr with h5 | h5 | ⟨h5, -⟩
        · exact .inl h5
        · exact .inr (.inl h5)
        · by_cases hs1 : Stuck J2 1
          · exact .inl (all_stuck h.inv hins hs hs1)
          · exact .inr (.inr ⟨h5, .inr ⟨rfl, hs1⟩⟩)
      · rcases h.pr hr with h5 | h5 | ⟨h5, h6 | h6⟩
        · exact .inl h5
        · exact .inr (.inl h5)
        · omega
        · exact absurd hs h6.2
    · have := t2 hs
      rcases h.pr hr with h5 | h5 | ⟨h5, -⟩
      · omega
      · exact .inr (.inl (by omega))
      · exact .inr (.inl (by omega))
/-- The play begins its rounds. -/
theorem rd80_begin {N : Nat → Nat} {J : Job} (h : JInv N sl0 J) : Rd80 N 0 0 J := ⟨h, fun k _ => by simp, fun k _ hr => by simp at hr, fun hr => by omega⟩
/-- The end. -/
theorem rd80_end {N : Nat → Nat} {J : Job} (h : Rd80 N 80 0 J) : ∀ w, w < 2 → J.num w = 1 ∧ (J.sent w).Perm (J.taken w) ∧ (J.all w).Perm (J.taken w ++ J.later w) := by
  have hins : ∀ f, f < 2 → J.ins f = true := fun f hf => h.ins f hf (by rw [if_neg (by omega)]; omega)
  have ht : tot J = 0 := by rcases h.pr (by omega) with h1 | h1 | ⟨h1, -⟩ <;> omega
  have hq : ∀ k, k < 4 → J.q k = [] := fun k hk => by
    unfold tot at ht
    have hc : k = 0 ∨ k = 1 ∨ k = 2 ∨ k = 3 := by omega
    rcases hc with rfl | rfl | rfl | rfl <;> exact List.eq_nil_of_length_eq_zero (by omega)
  intro w hw
  have h1 := h.inv.al w hw
  have h2 := h.inv.all w hw
  unfold AlInv at h1
  rw [hq w (by omega), hq (2 + w) (by omega)] at h1 h2
  refine ⟨?_, ?_, by simpa [nb] using h2⟩
  all_goals
    rcases h1 with ⟨-, b0, b1, hb, hne, f0, f1, -⟩ | ⟨hn, -, -, -, hp⟩
    · exfalso
      rw [hins 0 (by omega)] at f0
      rw [hins 1 (by omega)] at f1
      cases b0
      · simp [FP, bars] at f0
      · cases b1
        · simp [FP, bars] at f1
        · exact hne ⟨rfl, rfl⟩
    · first | exact hn | exact hp
end Go.Proofs.YtppaiihcaajkaaaGreat
