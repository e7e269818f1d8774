/- A region that draws its order, of which one operation turns a row of own memory, and the others only make memory. sequence: with, Receive: written by genSeq3.py. -/
import Derived.Test.YtppaiihcaajkaaaGreatXOrdA
import Derived.Test.YtppaiihcaajkaaaGreatKBaseM
import Derived.Test.YtppaiihcaajkaaaGreatKOwnM
import Derived.Test.YtppaiihcaajkaaaGreatKAddM
namespace Go.Proofs.YtppaiihcaajkaaaGreat
open Go.RowKit
set_option linter.unusedVariables false
set_option linter.unusedSimpArgs false
theorem grownBy_of_below {w w' : World} {r : Option Nat} (h : Below w.heap.size w w') : w.grownBy w' r := ⟨h.os, h.tape, h.output, h.size, fun k hk _ => h.block k hk⟩
theorem grownBy_then {a b c : World} {r : Option Nat} (h : a.grownBy b r) (h' : b.grownBy c r) : a.grownBy c r :=
  ⟨h'.os.trans h.os, h'.tape.trans h.tape, h'.output.trans h.output, Nat.le_trans h.size h'.size, fun k hk hne => (h'.block k (Nat.lt_of_lt_of_le hk h.size) hne).trans (h.block k hk hne)⟩
section
variable {P : Program} {ops : Array Oper}
theorem wp_region_turn {id : Nat} {Q : Exit → Act → World → Prop} {a : Act} {w0 : World} (r : Option Nat) (B : Nat) (hB0 : B ≤ w0.heap.size) (hrB : ∀ k, r = some k → B ≤ k) (n : Nat) (ds : List Nat) (Ps : List (World → Value → Prop)) (t : Nat) (hm : P.follows .mixedOrders = true)
    (hh : headB ops n ds = true) (hs : Region.sinkB .any ops n = true) (hc : Region.chainB .any ops n = true) (hq : Region.seqB .any ops (ops.size - n) n (hd0 n (ops.size - n)) = true) (ht : t < n) (htl : t < Ps.length)
    (Row : World → Prop) (hRow0 : Row { w0 with drawn := w0.drawn + 1 }) (hRowK : ∀ w w', Below w.heap.size w w' → Row w → Row w')
    (hst : ∀ k, k < n → k ≠ t → ∀ w w' v, w0.heap.size ≤ w.heap.size → w.grownBy w' r → (Ps.getD k fun _ _ => True) w v → (Ps.getD k fun _ _ => True) w' v)
    (hstT : ∀ w w' v, Below w.heap.size w w' → (Ps.getD t fun _ _ => True) w v → (Ps.getD t fun _ _ => True) w' v)
    (hstep : ∀ (k : Nat) (o : Oper), k < n → ops[k]? = some o → ∀ (x : Nat → Value) (w : World), w0.grownBy w r → (k = t ∨ waitB ops t k = true → Row w) → (∀ d, waitB ops k d = true → (Ps.getD d fun _ _ => True) w (x (ds.getD d 0))) →
      Oper.wp P o (puts ds x a) w (fun a' w' => ∃ v, a' = (puts ds x a).put o.dst v ∧ (if k = t then w.grownBy w' r else Below w.heap.size w w') ∧ (Ps.getD k fun _ _ => True) w' v) Q)
    (htail : ∀ (x : Nat → Value) (w : World), w0.grownBy w r → (∀ k, k < n → (Ps.getD k fun _ _ => True) w (x (ds.getD k 0))) → wpList P ops Q (ops.toList.drop n) (puts ds x a) w) :
    (Code.region id ops true).wp P Q a w0 := by
  have htr : ∀ j w w', (if j = t then w.grownBy w' r else Below w.heap.size w w') → w.grownBy w' r := by
    intro j w w' h
    split at h
    · exact h
    · exact grownBy_of_below h
  have hg : ∀ k, k ≠ t → ((Ps.set t fun w v => (Ps.getD t fun _ _ => True) w v ∧ w0.grownBy w r).getD k fun _ _ => True) = (Ps.getD k fun _ _ => True) := by
    intro k hk
    rw [List.getD_eq_getElem?_getD, List.getElem?_set_ne (Ne.symm hk), ← List.getD_eq_getElem?_getD]
  have hgt : ((Ps.set t fun w v => (Ps.getD t fun _ _ => True) w v ∧ w0.grownBy w r).getD t fun _ _ => True) = fun w v => (Ps.getD t fun _ _ => True) w v ∧ w0.grownBy w r := by
    rw [List.getD_eq_getElem?_getD, List.getElem?_set_self htl]; rfl
  refine wp_region_grow2 B hB0 n ds (Ps.set t fun w v => (Ps.getD t fun _ _ => True) w v ∧ w0.grownBy w r) hm hh hs hc hq
    (fun d w => match d with | 0 => Row w | 1 => w0.grownBy w r | _ + 2 => True) (fun j => if j = t then [0] else []) (fun k => if k = t ∨ waitB ops t k = true then [0, 1] else [1]) ?_ ?_
    (fun j w w' => if j = t then w.grownBy w' r else Below w.heap.size w w') (fun _ => []) ?_ ?_ ?_ ?_ ?_
  · unfold useB
    rw [List.all_eq_true]
    intro j _
    rw [List.all_eq_true]
    intro d hd
    rw [List.all_eq_true]
    intro i _
    by_cases hj : j = t
    · simp only [if_pos hj] at hd
      obtain rfl := List.mem_singleton.1 hd
      by_cases hi : i = t
      · simp [hi, hj]
      · by_cases hw : waitB ops t i = true
        · simp [hj, hw]
        · have hn : ¬ (i = t ∨ waitB ops t i = true) := fun h => h.elim hi hw
          simp only [if_neg hn]
          simp
    · simp only [if_neg hj] at hd; cases hd
  · intro d
    match d with
    | 0 => exact hRow0
    | 1 => exact ⟨rfl, rfl, rfl, Nat.le_refl _, fun _ _ _ => rfl⟩
    | _ + 2 => trivial
  · intro j w w' _ h hsz
    have := htr j w w' h
    exact ⟨this.os, this.tape, this.output, this.size, fun k hk => this.block k (by omega) (fun e => by have := hrB k e.symm; omega)⟩
  · intro j k hj hk hne _ hw w w' v hsz h hp
    by_cases hkt : k = t
    · subst hkt
      rw [hgt] at hp ⊢
      have hjt : j ≠ k := fun e => hne e.symm
      rw [if_neg hjt] at h
      exact ⟨hstT w w' v h hp.1, grownBy_then hp.2 (grownBy_of_below h)⟩
    · rw [hg k hkt] at hp ⊢
      exact hst k hk hkt w w' v hsz (htr j w w' h) hp
  · intro j d hj hd w w' hsz h hI
    match d with
    | 0 =>
      by_cases hjt : j = t
      · rw [if_pos hjt] at hd; exact absurd (List.mem_singleton.2 rfl) hd
      · rw [if_neg hjt] at h
        exact hRowK w w' h hI
    | 1 => exact grownBy_then hI (htr j w w' h)
    | _ + 2 => trivial
  · intro k o hk ho x w hb hI hP
    have h1 : w0.grownBy w r := hI 1 (by split <;> simp)
    refine Oper.wp_mono ?_ (hstep k o hk ho x w h1 (fun e => hI 0 (by simp only [if_pos e]; simp)) ?_)
    rotate_left
    · intro d hd
      have h2 := hP d hd (by simp [okB])
      by_cases hdt : d = t
      · subst hdt
        rw [hgt] at h2
        exact h2.1
      · rw [hg d hdt] at h2
        exact h2
    · rintro a' w' ⟨v, ha, htw, hpk⟩
      refine ⟨v, ha, htw, ?_⟩
      by_cases hkt : k = t
      · subst hkt
        rw [hgt]
        exact ⟨hpk, grownBy_then h1 (htr k w w' htw)⟩
      · rw [hg k hkt]
        exact hpk
  · intro x w hb hP
    have hPt := hP t ht (fun _ _ h => by cases h)
    rw [hgt] at hPt
    refine htail x w hPt.2 fun k hk => ?_
    by_cases hkt : k = t
    · subst hkt; exact hPt.1
    · have := hP k hk (fun _ _ h => by cases h)
      rw [hg k hkt] at this
      exact this
end
end Go.Proofs.YtppaiihcaajkaaaGreat

namespace Go.Proofs.YtppaiihcaajkaaaGreat
open Go.RowKit
set_option linter.unusedVariables false
set_option linter.unusedSimpArgs false
/-- A tracker for which P, in new memory. -/
def RetTP (P : Trk → Prop) (w : World) (e : Ending) (w' : World) : Prop := ∃ x A a B b, e = .returned (.agg #[.int .i64 x.next, .slice A x.beyond.length a, .slice B x.points.length b, .int .i64 x.mark]) ∧ TrV w' (fun k => w.heap.size ≤ k ∧ k < w'.heap.size) A a B b x ∧ P x ∧ Below w.heap.size w w'
/-- What with may leave. -/
def WithP (x : Trk) (n : Int) (y : Trk) : Prop := y.points = x.points ∧ y.mark = x.mark ∧ y.beyond.length ≤ x.beyond.length + 1 ∧ (x.beyond = [] → n = x.next → y.next = x.next + 1 ∧ y.beyond = [])
def lenAt (w : World) (p : Addr) : Nat := match w.cell? p with | some (.slice _ n _) => n | _ => 0
theorem lenAt_of {w : World} {p : Addr} {A : Option Addr} {n c : Nat} (h : w.cell? p = some (.slice A n c)) : lenAt w p = n := by unfold lenAt; rw [h]
/-- A list without its first elements. -/
theorem Lst.drop_ {α : Type} {R : World → (Nat → Prop) → List Value → α → Prop} {w : World} {Z : Nat → Prop} {sz g off n c : Nat} {l : List α} (h : Lst w Z sz R (.slice (some ⟨g, off, none⟩) n c) l) (j : Nat) (hj : j ≤ n) : Lst w Z sz R (.slice (some ⟨g, off + j * sz, none⟩) (n - j) (c - j)) (l.drop j) := by
  obtain ⟨A, cap, e, hc, hm⟩ := h.1
  injection e with e1 e2 e3
  subst e1 e2 e3
  refine ⟨⟨_, c - j, by rw [List.length_drop], by rw [List.length_drop]; omega, by rw [List.length_drop]; omega⟩, fun i hi => ?_⟩
  rw [List.length_drop] at hi
  obtain ⟨g', off', xs, e, hz, hl, hcc, hr⟩ := h.at_ (j := j + i) (by omega)
  cases e
  refine ⟨g, off + j * sz, c - j, xs, by rw [List.length_drop], hz, hl, fun k u hu => ?_, ?_⟩
  · have := hcc k u hu
    rwa [show off + j * sz + i * sz + k = off + (j + i) * sz + k by rw [Nat.add_mul]; omega]
  · rw [List.getElem_drop]; exact hr
theorem own_apart {w : World} {b b' : Nat} {te te' : TypeId} {sz sz' n n' : Nat} {v v' : Value} {xs xs' : List Value} (h : w.ownsRow b te sz v n xs) (h' : w.ownsRow b' te' sz' v' n' xs') (hne : te ≠ te') : ∀ k, v.ownBlock = some k → v'.ownBlock ≠ some k := by
  intro k hk hk'
  rcases h.2 with ⟨rfl, -⟩ | ⟨g, cap, cur, rfl, -, hg, -⟩
  · cases hk
  · rcases h'.2 with ⟨rfl, -⟩ | ⟨g', cap', cur', rfl, -, hg', -⟩
    · cases hk'
    · injection hk with hk
      injection hk' with hk'
      subst hk
      subst hk'
      rw [hg] at hg'
      injection hg' with hg'
      injection hg' with _ h2 _
      exact hne h2
theorem Lst.only {α : Type} {R : World → (Nat → Prop) → List Value → α → Prop} {w : World} {Z : Nat → Prop} {sz n c : Nat} {A : Option Addr} {l : List α} (hR : ∀ {Z' xs x}, R w Z xs x → R w Z' xs x) (h : Lst w Z sz R (.slice A n c) l) : Lst w (fun k => Z k ∧ (Value.slice A n c).ownBlock = some k) sz R (.slice A n c) l := by
  refine ⟨h.1, fun j hj => ?_⟩
  obtain ⟨g, off, cap, xs, e, hz, hl, hc, hr⟩ := h.2 j hj
  exact ⟨g, off, cap, xs, e, ⟨hz, by rw [e]; rfl⟩, hl, hc, hR hr⟩
theorem flat_put {sz : Nat} : ∀ (cs : List (List Value)) (j : Nat) (xs : List Value), (∀ x ∈ cs, x.length = sz) → cs[j]? = some xs → ∀ c u, xs[c]? = some u → cs.flatten[j * sz + c]? = some u := by
  intro cs
  induction cs with
  | nil => intro j xs _ h; simp at h
  | cons y ys ih =>
    intro j xs hal h c u hu
    have hy := hal y (List.mem_cons_self ..)
    cases j with
    | zero =>
      simp at h
      subst h
      rw [List.flatten_cons, Nat.zero_mul, Nat.zero_add, List.getElem?_append_left (List.getElem?_eq_some_iff.1 hu).1]
      exact hu
    | succ j =>
      rw [List.flatten_cons, List.getElem?_append_right (by rw [hy, Nat.succ_mul]; omega), hy, show (j + 1) * sz + c - sz = j * sz + c by rw [Nat.succ_mul]; omega]
      exact ih j xs (fun x hx => hal x (List.mem_cons_of_mem _ hx)) (by simpa using h) c u hu
theorem Off.drew {s d : Nat} {a b : World} (h : Off s d a b) : Off s d a b.drew := ⟨h.os, h.tape, h.output, h.size, h.block⟩
theorem Lst.zero {α : Type} {R : World → (Nat → Prop) → List Value → α → Prop} {w : World} {Z : Nat → Prop} {sz c : Nat} {A : Option Addr} : Lst w Z sz R (.slice A 0 c) ([] : List α) := ⟨⟨A, c, rfl, Nat.zero_le _, Nat.zero_le _⟩, fun j hj => absurd hj (Nat.not_lt_zero _)⟩
def UpV (m : Nat) : World → Value → Prop := fun _ v => ∃ i : Nat, i ≤ m ∧ v = .int .i64 i
/-- A literal of one element, in a block of its own. -/
def LitV (B0 : Nat) (te : TypeId) (ys : List Value) : World → Value → Prop := fun w v => ∃ g, v = .slice (some ⟨g, 0, none⟩) 1 1 ∧ B0 ≤ g ∧ w.heap[g]? = some (.cells ys.toArray te (0, 0))
theorem LitV.grown {B0 : Nat} {te : TypeId} {ys : List Value} {w w' : World} {v : Value} {r : Option Nat} (h : LitV B0 te ys w v) (hg : w.grownBy w' r) (hr : ∀ k, r = some k → k < B0) : LitV B0 te ys w' v := by
  obtain ⟨g, e, hb, hc⟩ := h
  exact ⟨g, e, hb, (hg.block g (Array.getElem?_eq_some_iff.1 hc).1 (fun e => by have := hr g e.symm; omega)).trans hc⟩
def InsV (B0 : Nat) (te : TypeId) (sz m : Nat) (xs ys : List Value) : World → Value → Prop := fun w v => ∃ i, i ≤ m ∧ w.ownsRow B0 te sz v (m + 1) (insL xs (i * sz) ys)
theorem InsV.keep {B0 : Nat} {te : TypeId} {sz m : Nat} {xs ys : List Value} {w w' : World} {v : Value} (h : InsV B0 te sz m xs ys w v) (hb : Below w.heap.size w w') : InsV B0 te sz m xs ys w' v := by
  obtain ⟨i, hi, h⟩ := h
  exact ⟨i, hi, own_keep h hb⟩
section
variable (w : World)
set_option maxRecDepth 100000 in
set_option maxHeartbeats 16000000 in
theorem with_any (x : Trk) (A B : Option Addr) (a b : Nat) (sq : Int) (hx : TrV w (· < w.heap.size) A a B b x) (hok : SeqOK x) (hp : x.points.length ≤ 1000) (hsq : inI sq) : Calls Tryz.prog 114 #[.agg #[.int .i64 x.next, .slice A x.beyond.length a, .slice B x.points.length b, .int .i64 x.mark], .int .i64 sq] w (RetTP (WithP x sq) w) := by
  have hm1 : x.beyond.length ≤ 1000 := Nat.le_trans hok.2.2.1 (by decide)
  have hm2 := hp
  have HOK := hide hok
  have HSQ := hide hsq
  clear hok hp hsq
  obtain ⟨cu, hcu, hul, hue⟩ := lst_raw one_In hx.u
  obtain ⟨cv, hcv, hvl, hve⟩ := lst_raw one_Pn hx.v
  have HUE := hide hue
  have H1U := hide (raw_one hcu)
  have HUA := hide (raw_len_all hcu)
  have HVE := hide hve
  have HN := hide (And.intro hx.n hx.m)
  have HCU := hide (fun (w' : World) (h : Below w.heap.size w w') => iclone_any A a cu w' _ (by rw [hul]; exact hcu.keep rd_Wq (Kp.of_below h)) (by omega))
  have HCV := hide (fun (w' : World) (h : Below w.heap.size w w') => pclone_any B b cv w' _ (by rw [hvl]; exact hcv.keep rd_Wq (Kp.of_below h)) (by omega))
  have HUL := hide hul
  have HVL := hide hvl
  rw [hul] at HCU
  rw [hvl] at HCV
  clear hx hcu hcv hue hve hul hvl
  obtain ⟨next, beyond, points, mark⟩ := x
  simp only at *
  obtain ⟨X1, hX1⟩ : ∃ X, X = w.alloc (.cells #[.int .i64 next, .slice A beyond.length a, .slice B points.length b, .int .i64 mark] 33) := ⟨_, rfl⟩
  have HB1 := hide (show Below w.heap.size w X1 by rw [hX1]; exact below_laid _)
  have HX := hide ((Bl.new w [.int .i64 next, .slice A beyond.length a, .slice B points.length b, .int .i64 mark] 33).laid (.cells #[.int .i64 0, .slice none 0 0, .slice none 0 0, .int .i64 0] 33))
  have HZ := hide (Bl.new X1 [.int .i64 0, .slice none 0 0, .slice none 0 0, .int .i64 0] 33)
  have HB := hide (bthen HB1.out (below_laid (w := X1) (.cells #[.int .i64 0, .slice none 0 0, .slice none 0 0, .int .i64 0] 33)))
  have HSZ := hide (show X1.heap.size = w.heap.size + 1 by rw [hX1]; simp)
  subst hX1
  obtain ⟨m, hm⟩ : ∃ m, beyond.length = m := ⟨_, rfl⟩
  obtain ⟨n, hn⟩ : ∃ n, points.length = n := ⟨_, rfl⟩
  have HM := hide hm
  have HNN := hide hn
  simp only [hm, hn] at HCU HCV HX HZ HB HB1 HSZ hm1 hm2 ⊢
  clear hm hn
  go_enter Tryz.func114, Tryz.ntmps114
  go_wp2_with fail
  obtain ⟨W2, hW2⟩ : ∃ W2, ((w.alloc (.cells #[.int .i64 next, .slice A m a, .slice B n b, .int .i64 mark] 33)).alloc (.cells #[.int .i64 0, .slice none 0 0, .slice none 0 0, .int .i64 0] 33)) = W2 := ⟨_, rfl⟩
  simp only [HSZ.out] at HZ
  rw [hW2] at HX HZ HB ⊢
  clear hW2 HSZ HB1
  have hz2 := HZ.out.lt
  refine wp_region_grow 7 [5, 6, 7, 8, 9, 10, 11] [FixV (.pointer (some ⟨w.heap.size, 1, none⟩)), FixV (.slice A m a), OwnR (w.heap.size + 2) 3 1 cu, FixV (.pointer (some ⟨w.heap.size, 2, none⟩)), FixV (.slice B n b), OwnR (w.heap.size + 2) 84 2 cv, FixV (.pointer (some ⟨w.heap.size, 1, none⟩))] (by kernel_rfl) (by kernel_rfl) (by kernel_rfl) (by kernel_rfl) (by kernel_rfl) ?_ ?_ ?_
  · intro p hp
    simp only [List.mem_cons, List.not_mem_nil, or_false] at hp
    rcases hp with rfl | rfl | rfl | rfl | rfl | rfl | rfl
    all_goals first | exact (fun _ _ _ _ h => h) | exact (fun _ _ _ hb h => own_keep h hb)
  · intro j9 o9 hj9 ho x w5 hb hd
    have hjc : j9 = 0 ∨ j9 = 1 ∨ j9 = 2 ∨ j9 = 3 ∨ j9 = 4 ∨ j9 = 5 ∨ j9 = 6 := by omega
    have hbw := bthen HB.out hb
    have hz5 := hb.size
    have x1 := keep1 hb (HX.out.c 1 _ rfl)
    have x2 := keep1 hb (HX.out.c 2 _ rfl)
    rcases hjc with rfl | rfl | rfl | rfl | rfl | rfl | rfl
    all_goals obtain rfl := Option.some.inj ho
    all_goals generalize hK : (fun (a' : Act) (w' : World) => _) = K
    all_goals simp only [puts]
    · go_simp
      rw [← hK]
      exact ⟨.pointer (some ⟨w.heap.size, 1, none⟩), (by simp only [puts]; go_simp), Below.refl _ _, rfl⟩
    · have e : x 5 = .pointer (some ⟨w.heap.size, 1, none⟩) := hd 0 (by kernel_rfl)
      go_simp
      rw [← hK]
      exact ⟨.slice A m a, (by simp only [puts]; go_simp), Below.refl _ _, rfl⟩
    · have e : x 6 = .slice A m a := hd 1 (by kernel_rfl)
      have HC := hide (HCU.out w5 hbw)
      go_simp
      go_at_call 48
      refine HC.out.mono ?_
      rintro en9 w9 ⟨v9, rfl, hown, hbc⟩
      rw [← hK]
      exact ⟨v9, (by simp only [puts]; go_simp), hbc, own_more hown (by omega)⟩
    · go_simp
      rw [← hK]
      exact ⟨.pointer (some ⟨w.heap.size, 2, none⟩), (by simp only [puts]; go_simp), Below.refl _ _, rfl⟩
    · have e : x 8 = .pointer (some ⟨w.heap.size, 2, none⟩) := hd 3 (by kernel_rfl)
      go_simp
      rw [← hK]
      exact ⟨.slice B n b, (by simp only [puts]; go_simp), Below.refl _ _, rfl⟩
    · have e : x 9 = .slice B n b := hd 4 (by kernel_rfl)
      have HC := hide (HCV.out w5 hbw)
      go_simp
      go_at_call 49
      refine HC.out.mono ?_
      rintro en9 w9 ⟨v9, rfl, hown, hbc⟩
      rw [← hK]
      exact ⟨v9, (by simp only [puts]; go_simp), hbc, own_more hown (by omega)⟩
    · go_simp
      rw [← hK]
      exact ⟨.pointer (some ⟨w.heap.size, 1, none⟩), (by simp only [puts]; go_simp), Below.refl _ _, rfl⟩
  · intro x w9 hb hP
    have e11 : x 11 = .pointer (some ⟨w.heap.size, 1, none⟩) := hP 6 (by decide)
    have hu : w9.ownsRow (w.heap.size + 2) 3 1 (x 7) cu.length cu.flatten := hP 2 (by decide)
    have hv : w9.ownsRow (w.heap.size + 2) 84 2 (x 10) cv.length cv.flatten := hP 5 (by decide)
    have hLU := lst_own (R := RIn) (fun h => h) (by decide) hu HUL.out (by have := HM.out; unfold maxLen; omega) HUE.out
    have hLV := lst_own (R := RPn) (fun h => h) (by decide) hv HVL.out (by have := HNN.out; unfold maxLen; omega) HVE.out
    obtain ⟨A1, a1, e7⟩ := hLU.form
    obtain ⟨B1, b1, e10⟩ := hLV.form
    rw [e7] at hLU
    rw [e10] at hLV
    rw [HM.out] at e7
    rw [HNN.out] at e10
    have HLU := hide hLU
    have HLV := hide hLV
    have HX9 := hide (HX.out.keep hb)
    have HZ9 := hide (HZ.out.keep hb)
    have HB9 := hide (bthen HB.out hb)
    have hz9 := hb.size
    have HOU := hide hu
    have hapt := own_apart hu hv (by decide)
    rw [e7] at HOU
    rw [e7, e10] at hapt
    clear hP hb hu hv hLU hLV
    have x0 := HX9.out.c 0 _ rfl
    have x1 := HX9.out.c 1 _ rfl
    have x2 := HX9.out.c 2 _ rfl
    have x3 := HX9.out.c 3 _ rfl
    have f1 := HX9.out.f 1
    have f2 := HX9.out.f 2
    have z0 := HZ9.out.c 0 _ rfl
    have z1 := HZ9.out.c 1 _ rfl
    have z2 := HZ9.out.c 2 _ rfl
    have z3 := HZ9.out.c 3 _ rfl
    have g0 := HZ9.out.f 0
    have g1 := HZ9.out.f 1
    have g2 := HZ9.out.f 2
    have g3 := HZ9.out.f 3
    simp only [puts, Act.put, List.setIfInBounds_toArray, List.set_cons_succ, List.set_cons_zero, List.drop]
    go_upto_region 2 with (fail)
    obtain ⟨W3, hW3⟩ : ∃ W3, (w9.setCell ⟨w.heap.size, 1, none⟩ (.slice A1 m a1)).setCell ⟨w.heap.size, 2, none⟩ (.slice B1 n b1) = W3 := ⟨_, rfl⟩
    have HX3 := hide (show Bl W3 w.heap.size [.int .i64 next, .slice A1 m a1, .slice B1 n b1, .int .i64 mark] by rw [← hW3]; exact (HX9.out.put (k := 1) (by simp) _).put (k := 2) (by simp) _)
    have hne : w.heap.size ≠ w.heap.size + 1 := by omega
    have HZ3 := hide (show Bl W3 (w.heap.size + 1) [.int .i64 0, .slice none 0 0, .slice none 0 0, .int .i64 0] by rw [← hW3]; exact (HZ9.out.far (p := ⟨w.heap.size, 1, none⟩) hne _).far (p := ⟨w.heap.size, 2, none⟩) hne _)
    have HB3 := hide (show Below w.heap.size w W3 by rw [← hW3]; exact (HB9.out.setCell (p := ⟨w.heap.size, 1, none⟩) (Nat.le_refl _) _).setCell (p := ⟨w.heap.size, 2, none⟩) (Nat.le_refl _) _)
    have hs3 : W3.heap.size = w9.heap.size := by rw [← hW3]; simp [World.setCell]
    have kp3 : ∀ Z : Nat → Prop, (∀ b, Z b → b ≠ w.heap.size) → Kp Z w9 W3 := fun Z hZ => by rw [← hW3]; exact (Kp.set ⟨w.heap.size, 1, none⟩ _ hZ).trans (Kp.set ⟨w.heap.size, 2, none⟩ _ hZ)
    have hrow : ∀ k, (Value.slice A1 m a1).ownBlock = some k → w.heap.size + 2 ≤ k ∧ k < W3.heap.size := fun k hk => by rw [hs3]; exact HOU.out.lt k hk
    have hnb : ∀ p : Addr, p.block = w.heap.size → (Value.slice A1 m a1).ownBlock ≠ some p.block := fun p hp e => by have := (hrow _ e).1; omega
    have HO3 := hide (show W3.ownsRow (w.heap.size + 2) 3 1 (.slice A1 m a1) cu.length cu.flatten by rw [← hW3]; exact own_set (own_set HOU.out (hnb ⟨w.heap.size, 1, none⟩ rfl) _) (hnb ⟨w.heap.size, 2, none⟩ rfl) _)
    have HLV3 := hide (HLV.out.keep rd_Pn (kp3 _ fun b hb => by omega))
    have HLU3 := hide (HLU.out.keep rd_In (kp3 _ fun b hb => by omega))
    have hz3 : w.heap.size + 2 ≤ W3.heap.size := by omega
    rw [hW3]
    clear hW3 kp3 HX9 HZ9 HB9 HLU HLV HOU HX HZ HB HCU HCV HVE hnb x0 x1 x2 x3 f1 f2 z0 z1 z2 z3 g0 g1 g2 g3 hz9 hz2 e11 e7 e10
    have x0 := HX3.out.c 0 _ rfl
    by_cases hgt : next < sq
    · have t1 : decide (next < sq) = true := decide_eq_true hgt
      go_wp2_with fail
      have hcm : cu.length = m := by rw [HUL.out, HM.out]
      rw [hcm] at HO3
      refine wp_region_turn (Value.slice A1 m a1).ownBlock (w.heap.size + 2) hz3 (fun k hk => (hrow k hk).1) 10 [17, 18, 19, 20, 21, 22, 23, 24, 25, 26] [FixV (.pointer (some ⟨w.heap.size, 1, none⟩)), FixV (.slice A1 m a1), FixV (.pointer (some ⟨w.heap.size, 1, none⟩)), FixV (.slice A1 m a1), FixV (.int .i64 sq), UpV m, FixV (.int .i64 sq), LitV W3.heap.size 3 [.int .i64 sq], InsV (w.heap.size + 2) 3 1 m cu.flatten [.int .i64 sq], FixV (.pointer (some ⟨w.heap.size, 1, none⟩))] 8 (by kernel_rfl) (by kernel_rfl) (by kernel_rfl) (by kernel_rfl) (by kernel_rfl) (by decide) (by simp) (fun w5 => w5.ownsRow (w.heap.size + 2) 3 1 (.slice A1 m a1) m cu.flatten) HO3.out (fun _ _ hb h => own_keep h hb) ?_ ?_ ?_ ?_
      · intro k hk hk8 w5 w6 v hsz hg hv
        have hkc : k = 0 ∨ k = 1 ∨ k = 2 ∨ k = 3 ∨ k = 4 ∨ k = 5 ∨ k = 6 ∨ k = 7 ∨ k = 9 := by omega
        rcases hkc with rfl | rfl | rfl | rfl | rfl | rfl | rfl | rfl | rfl
        all_goals first | exact hv | exact LitV.grown hv hg (fun k hk => (hrow k hk).2)
      · intro w5 w6 v hb hv
        exact InsV.keep hv hb
      · intro j9 o9 hj9 ho x w5 hb hR hd
        have hbw : Below w.heap.size w w5 := HB3.out.grown hb HB3.out.size (fun k hk => by have := (hrow k hk).1; omega)
        have hz5 := hb.size
        have hX5 := HX3.out.grown hb (fun e => by have := (hrow _ e).1; omega)
        have x1 := hX5.c 1 _ rfl
        have hjc : j9 = 0 ∨ j9 = 1 ∨ j9 = 2 ∨ j9 = 3 ∨ j9 = 4 ∨ j9 = 5 ∨ j9 = 6 ∨ j9 = 7 ∨ j9 = 8 ∨ j9 = 9 := by omega
        rcases hjc with rfl | rfl | rfl | rfl | rfl | rfl | rfl | rfl | rfl | rfl
        all_goals obtain rfl := Option.some.inj ho
        all_goals generalize hK : (fun (a' : Act) (w' : World) => _) = K
        all_goals simp only [puts]
        · go_simp
          rw [← hK]
          exact ⟨.pointer (some ⟨w.heap.size, 1, none⟩), (by simp only [puts]; go_simp), Below.refl _ _, rfl⟩
        · have e : x 17 = .pointer (some ⟨w.heap.size, 1, none⟩) := hd 0 (by kernel_rfl)
          go_simp
          rw [← hK]
          exact ⟨.slice A1 m a1, (by simp only [puts]; go_simp), Below.refl _ _, rfl⟩
        · go_simp
          rw [← hK]
          exact ⟨.pointer (some ⟨w.heap.size, 1, none⟩), (by simp only [puts]; go_simp), Below.refl _ _, rfl⟩
        · have e : x 19 = .pointer (some ⟨w.heap.size, 1, none⟩) := hd 2 (by kernel_rfl)
          go_simp
          rw [← hK]
          exact ⟨.slice A1 m a1, (by simp only [puts]; go_simp), Below.refl _ _, rfl⟩
        · go_simp
          rw [← hK]
          exact ⟨.int .i64 sq, (by simp only [puts]; go_simp), Below.refl _ _, rfl⟩
        · have e : x 20 = .slice A1 m a1 := hd 3 (by kernel_rfl)
          have e' : x 21 = .int .i64 sq := hd 4 (by kernel_rfl)
          have hR5 := hR (.inr (by kernel_rfl))
          rw [← hcm] at hR5
          have hl5 := (lst_own (R := RIn) (fun h => h) (by decide) hR5 HUL.out (by have := HM.out; unfold maxLen; omega) HUE.out).more rd_In (fun k (hk : w.heap.size + 2 ≤ k ∧ k < w5.heap.size) => hk.2)
          rw [hcm, ← HM.out] at hl5
          have HC := hide (place_any w5 beyond A1 a1 sq hl5 (by rw [HM.out]; omega))
          rw [HM.out] at HC
          clear hl5 hR5 hR
          go_simp
          go_at_call 125
          refine HC.out.mono ?_
          rintro en9 w10 ⟨i, hi, rfl, hbc⟩
          rw [← hK]
          exact ⟨.int .i64 i, (by simp only [puts]; go_simp), hbc, i, hi, rfl⟩
        · go_simp
          rw [← hK]
          exact ⟨.int .i64 sq, (by simp only [puts]; go_simp), Below.refl _ _, rfl⟩
        · have e : x 23 = .int .i64 sq := hd 6 (by kernel_rfl)
          go_simp
          rw [← hK]
          exact ⟨.slice (some ⟨w5.heap.size, 0, none⟩) 1 1, (by simp only [puts]; go_simp), below_laid _, w5.heap.size, rfl, hz5, heap_alloc_new w5 _⟩
        · have e : x 18 = .slice A1 m a1 := hd 1 (by kernel_rfl)
          obtain ⟨i, hi, e'⟩ : UpV m w5 (x 22) := hd 5 (by kernel_rfl)
          obtain ⟨g, e'', hg, hg2⟩ : LitV W3.heap.size 3 [.int .i64 sq] w5 (x 24) := hd 7 (by kernel_rfl)
          have HC := hide (iins_any (.slice A1 m a1) m i g (w.heap.size + 2) cu.flatten [.int .i64 sq] w5 (hR (.inl rfl)) hi (by omega) rfl hg2 (fun e => by have := (hrow _ e).2; omega) H1U.out (by simp [Value.oneCell']) (by omega))
          clear hR hg2
          go_simp
          go_at_call 128
          refine HC.out.mono ?_
          rintro en9 w10 ⟨v9, rfl, hown, hgr⟩
          rw [← hK]
          exact ⟨v9, (by simp only [puts]; go_simp), hgr, i, hi, by rw [Nat.mul_one]; exact hown⟩
        · go_simp
          rw [← hK]
          exact ⟨.pointer (some ⟨w.heap.size, 1, none⟩), (by simp only [puts]; go_simp), Below.refl _ _, rfl⟩
      · intro x w4 hb hP
        have e26 : x 26 = .pointer (some ⟨w.heap.size, 1, none⟩) := hP 9 (by decide)
        obtain ⟨i, hi, hown⟩ : InsV (w.heap.size + 2) 3 1 m cu.flatten [.int .i64 sq] w4 (x 25) := hP 8 (by decide)
        obtain ⟨A4, c4, e25⟩ := own_form hown
        rw [e25] at hown
        have hnb : (Value.slice A1 m a1).ownBlock ≠ some w.heap.size := fun e => by have := (hrow _ e).1; omega
        have hnb2 : (Value.slice A1 m a1).ownBlock ≠ some (w.heap.size + 1) := fun e => by have := (hrow _ e).1; omega
        have HX4 := hide (HX3.out.grown hb hnb)
        have HZ4 := hide (HZ3.out.grown hb hnb2)
        have HB4 := hide (HB3.out.grown hb HB3.out.size (fun k hk => by have := (hrow k hk).1; omega))
        have HLV4 := hide ((HLV3.out.only (fun h => h)).keep rd_Pn (w' := w4) ⟨hb.size, fun k hk hlt => hb.block k hlt (fun e => hapt k e.symm (by have h2 := hk.2; rw [HNN.out] at h2; exact h2))⟩)
        have hz4 := hb.size
        have HIL := hide (show Lst w4 (fun k => w.heap.size + 2 ≤ k ∧ k < w4.heap.size) 1 RIn (.slice A4 (m + 1) c4) (beyond.take i ++ sq :: beyond.drop i) by
          have hLl : (beyond.take i ++ sq :: beyond.drop i).length = m + 1 := by have := HM.out; simp only [List.length_append, List.length_cons, List.length_take, List.length_drop]; omega
          refine row_lst (by decide) hLl.symm (by rw [hLl]; unfold maxLen; omega) hown ?_ (fun k hk => hown.lt k hk)
          exact ins_rows (R := RIn w4 (fun b => w.heap.size + 2 ≤ b ∧ b < w4.heap.size)) (by decide) (by have := HO3.out.1; rw [HM.out]; exact this) (by rw [HM.out]; exact hi) (fun j hj => by
            obtain ⟨xs, h1, h2, h3⟩ := HUE.out j hj
            exact ⟨xs, h2, flat_put cu j xs HUA.out h1, h3⟩) rfl ⟨rfl, HSQ.out⟩)
        clear hP hb hown hnb hnb2
        have x0 := HX4.out.c 0 _ rfl
        have x1 := HX4.out.c 1 _ rfl
        have x2 := HX4.out.c 2 _ rfl
        have x3 := HX4.out.c 3 _ rfl
        have f1 := HX4.out.f 1
        have z0 := HZ4.out.c 0 _ rfl
        have z1 := HZ4.out.c 1 _ rfl
        have z2 := HZ4.out.c 2 _ rfl
        have z3 := HZ4.out.c 3 _ rfl
        have g0 := HZ4.out.f 0
        have g1 := HZ4.out.f 1
        have g2 := HZ4.out.f 2
        have g3 := HZ4.out.f 3
        simp only [puts, Act.put, List.setIfInBounds_toArray, List.set_cons_succ, List.set_cons_zero, List.drop]
        go_wp2
        refine bodyPost_ret (v := .agg #[.int .i64 next, .slice A4 (m + 1) c4, .slice B1 n b1, .int .i64 mark]) (by rw [results_c rfl]; go_simp) rfl ?_
        have hLl : (beyond.take i ++ sq :: beyond.drop i).length = m + 1 := by have := HM.out; simp only [List.length_append, List.length_cons, List.length_take, List.length_drop]; omega
        have key : ∀ W', Off w.heap.size 2 w4 W' → RetTP (WithP ⟨next, beyond, points, mark⟩ sq) w (.returned (.agg #[.int .i64 next, .slice A4 (m + 1) c4, .slice B1 n b1, .int .i64 mark])) W' := fun W' hO =>
          ⟨⟨next, beyond.take i ++ sq :: beyond.drop i, points, mark⟩, A4, c4, B1, b1, by simp only [hLl, HNN.out], ⟨by rw [hLl]; exact (HIL.out.keep rd_In (hO.kp (fun k hk => .inr hk.1))).more rd_In (fun k hk => ⟨by omega, by rw [hO.size]; exact hk.2⟩), (HLV4.out.keep rd_Pn (hO.kp (fun k hk => .inr hk.1.1))).more rd_Pn (fun k (hk : (w.heap.size + 2 ≤ k ∧ k < w9.heap.size) ∧ (Value.slice B1 points.length b1).ownBlock = some k) => ⟨by omega, by rw [hO.size]; have := hk.1.2; omega⟩), HN.out.1, HN.out.2⟩,
            ⟨rfl, rfl, by simp only [hLl, HM.out]; omega, fun h e => by exact absurd hgt (by simp only at e; omega)⟩, hO.below HB4.out (Nat.le_refl _)⟩
        exact key _ (by repeat (first | refine Off.set ?_ (by constructor <;> simp) | exact Off.refl | refine Off.drew ?_))
    · have t1 : decide (next < sq) = false := decide_eq_false hgt
      have hok := HOK.out
      have f0 := HX3.out.f 0
      have hn0 : 0 ≤ next := hok.1
      have hn1 : next ≤ 1099511627777 := hok.2.1
      have hw1 : IntKind.i64.wrap (next + 1) = next + 1 := by rw [IntKind.wrap_i64]; omega
      clear hok
      go_wp2
      obtain ⟨W4, hW4⟩ : ∃ W4, W3.setCell ⟨w.heap.size, 0, none⟩ (.int .i64 (next + 1)) = W4 := ⟨_, rfl⟩
      have HX4 := hide (show Bl W4 w.heap.size [.int .i64 (next + 1), .slice A1 m a1, .slice B1 n b1, .int .i64 mark] by rw [← hW4]; exact HX3.out.put (k := 0) (by simp) _)
      have HZ4 := hide (show Bl W4 (w.heap.size + 1) [.int .i64 0, .slice none 0 0, .slice none 0 0, .int .i64 0] by rw [← hW4]; exact HZ3.out.far (p := ⟨w.heap.size, 0, none⟩) hne _)
      have HB4 := hide (show Below w.heap.size w W4 by rw [← hW4]; exact HB3.out.setCell (p := ⟨w.heap.size, 0, none⟩) (Nat.le_refl _) _)
      have HS4 := hide (show W4.heap.size = w9.heap.size by rw [← hW4, ← hs3]; simp [World.setCell])
      have HLV4 := hide (show Lst W4 (fun k => w.heap.size + 2 ≤ k ∧ k < w9.heap.size) 2 RPn (.slice B1 n b1) points by rw [← hW4, ← HNN.out]; exact HLV3.out.keep rd_Pn (Kp.set ⟨w.heap.size, 0, none⟩ _ fun b hb => by show b ≠ w.heap.size; omega))
      have HLU4 := hide (show Lst W4 (fun k => w.heap.size + 2 ≤ k ∧ k < w9.heap.size) 1 RIn (.slice A1 m a1) beyond by rw [← hW4, ← HM.out]; exact HLU3.out.keep rd_In (Kp.set ⟨w.heap.size, 0, none⟩ _ fun b hb => by show b ≠ w.heap.size; omega))
      rw [hW4]
      clear hW4 x0 f0 HX3 HZ3 HB3 HLV3 HLU3 HO3 hrow hapt hs3 hz3
      go_loopw [] (fun wr => ∃ (j k : Nat) (z : Int) (Aj : Option Addr) (aj : Nat), j + k = m ∧ z = next + 1 + (j : Int) ∧ Hid (Bl wr w.heap.size [.int .i64 z, .slice Aj k aj, .slice B1 n b1, .int .i64 mark]) ∧ Hid (Lst wr (fun k => w.heap.size + 2 ≤ k ∧ k < w9.heap.size) 1 RIn (.slice Aj k aj) (beyond.drop j)) ∧ Hid (Bl wr (w.heap.size + 1) [.int .i64 0, .slice none 0 0, .slice none 0 0, .int .i64 0]) ∧ Hid (Lst wr (fun k => w.heap.size + 2 ≤ k ∧ k < w9.heap.size) 2 RPn (.slice B1 n b1) points) ∧ Hid (Below w.heap.size w wr) ∧ Hid (wr.heap.size = w9.heap.size)) (fun wr => lenAt wr ⟨w.heap.size, 1, none⟩)
      case atStart => exact ⟨0, m, next + 1, A1, a1, by omega, by omega, HX4, HLU4, HZ4, HLV4, HB4, HS4⟩
      case round =>
        clear HX4 HLU4 HZ4 HLV4 HB4 HS4
        obtain ⟨j, k, z, Aj, aj, hjk, hz, HX, HLU, HZ, HLV, HB, HS⟩ := hrel
        have hz0 : 0 ≤ z := by omega
        have hz1 : z ≤ 1099511700000 := by omega
        have HZN := hide hz
        clear hz
        have x0 := HX.out.c 0 _ rfl
        have x1 := HX.out.c 1 _ rfl
        have x2 := HX.out.c 2 _ rfl
        have x3 := HX.out.c 3 _ rfl
        have f0 := HX.out.f 0
        have f1 := HX.out.f 1
        have z0 := HZ.out.c 0 _ rfl
        have z1 := HZ.out.c 1 _ rfl
        have z2 := HZ.out.c 2 _ rfl
        have z3 := HZ.out.c 3 _ rfl
        have g0 := HZ.out.f 0
        have g1 := HZ.out.f 1
        have g2 := HZ.out.f 2
        have g3 := HZ.out.f 3
        by_cases hk : 0 < k
        · have t2 : decide ((0 : Int) < (k : Int)) = true := decide_eq_true (by omega)
          obtain ⟨g, off, xs, rfl, hg, hxl, hc, hR⟩ := HLU.out.at_ (j := 0) (by have := HM.out; rw [List.length_drop]; omega)
          obtain ⟨y, hy⟩ : ∃ y, (beyond.drop j)[0]'(by have := HM.out; rw [List.length_drop]; omega) = y := ⟨_, rfl⟩
          rw [hy] at hR
          obtain ⟨rfl, -⟩ := hR
          have k0 := hc 0 _ rfl
          simp only [Nat.zero_mul, Nat.add_zero] at k0
          have hkc : k ≤ aj := by obtain ⟨_, _, e, h, -⟩ := HLU.out.1; injection e with _ e1 e2; omega
          have HD := hide (HLU.out.drop_ 1 hk)
          clear hy hc hxl hg
          have hu1 : (0 : Int) < (k : Int) := by omega
          by_cases hyz : y = z
          · subst hyz
            have hw2 : IntKind.i64.wrap (y + 1) = y + 1 := by rw [IntKind.wrap_i64]; omega
            go_wp2_with fail
            go_region
            all_goals go_wp2_with fail
            all_goals go_region
            all_goals go_wp2_with fail
            obtain ⟨A5, hA5⟩ : ∃ A5, (if aj = 1 then some (⟨g, off, none⟩ : Addr) else some ⟨g, off + 1, none⟩) = A5 := ⟨_, rfl⟩
            rw [hA5]
            have HL5 := hide (show Lst wr (fun k => w.heap.size + 2 ≤ k ∧ k < w9.heap.size) 1 RIn (.slice A5 (k - 1) (aj - 1)) (beyond.drop (j + 1)) by
              by_cases h1 : aj = 1
              · have hnil : beyond.drop (j + 1) = [] := List.drop_eq_nil_of_le (by have := HM.out; omega)
                rw [hnil, show k - 1 = 0 by omega]
                exact Lst.zero
              · rw [if_neg h1] at hA5
                subst hA5
                have := HD.out
                rw [List.drop_drop, Nat.one_mul] at this
                exact this)
            go_roundw
            case rel =>
              have kp : ∀ Z : Nat → Prop, (∀ b, Z b → b ≠ w.heap.size) → Kp Z wr ((wr.setCell ⟨w.heap.size, 0, none⟩ (.int .i64 (y + 1))).setCell ⟨w.heap.size, 1, none⟩ (.slice A5 (k - 1) (aj - 1))).drew.drew := fun Z hZ => ((Kp.set ⟨w.heap.size, 0, none⟩ _ hZ).trans (Kp.set ⟨w.heap.size, 1, none⟩ _ hZ)).trans ⟨Nat.le_refl _, fun _ _ _ => rfl⟩
              exact ⟨j + 1, k - 1, y + 1, A5, aj - 1, by omega, by have := HZN.out; omega, hide ((HX.out.put (k := 0) (by simp) _).put (k := 1) (by simp) _).drew.drew, hide (HL5.out.keep rd_In (kp _ fun b hb => by omega)), hide ((HZ.out.far (p := ⟨w.heap.size, 0, none⟩) hne _).far (p := ⟨w.heap.size, 1, none⟩) hne _).drew.drew, hide (HLV.out.keep rd_Pn (kp _ fun b hb => by omega)), hide ((HB.out.setCell (p := ⟨w.heap.size, 0, none⟩) (Nat.le_refl _) _).setCell (p := ⟨w.heap.size, 1, none⟩) (Nat.le_refl _) _).drew.drew, hide (by show ((wr.setCell _ _).setCell _ _).heap.size = _; rw [← HS.out]; simp [World.setCell])⟩
            case measure =>
              rw [lenAt_of (((HX.out.put (k := 0) (by simp) (.int .i64 (y + 1))).put (k := 1) (by simp) (.slice A5 (k - 1) (aj - 1))).drew.drew.c 1 _ rfl), lenAt_of x1]
              omega
          · have t3 : (y == z) = false := beq_eq_false_iff_ne.2 hyz
            go_wp2_with fail
            go_region
            all_goals go_wp2
            refine bodyPost_ret (v := .agg #[.int .i64 z, .slice (some ⟨g, off, none⟩) k aj, .slice B1 n b1, .int .i64 mark]) (by rw [results_c rfl]; go_simp) rfl ?_
            have key : ∀ W', Off w.heap.size 2 wr W' → RetTP (WithP ⟨next, beyond, points, mark⟩ sq) w (.returned (.agg #[.int .i64 z, .slice (some ⟨g, off, none⟩) k aj, .slice B1 n b1, .int .i64 mark])) W' := fun W' hO => by
              have hS := HS.out
              have hdl : (beyond.drop j).length = k := by have := HM.out; rw [List.length_drop]; omega
              refine ⟨⟨z, beyond.drop j, points, mark⟩, (some ⟨g, off, none⟩), aj, B1, b1, by simp only [hdl, HNN.out], ⟨?_, ?_, ?_, HN.out.2⟩, ?_, hO.below HB.out (Nat.le_refl _)⟩
              · rw [hdl]; exact (HLU.out.keep rd_In (hO.kp (fun k hk => .inr hk.1))).more rd_In (fun k (hk : w.heap.size + 2 ≤ k ∧ k < w9.heap.size) => ⟨by omega, by rw [hO.size]; omega⟩)
              · simp only [HNN.out]; exact (HLV.out.keep rd_Pn (hO.kp (fun k hk => .inr hk.1))).more rd_Pn (fun k (hk : w.heap.size + 2 ≤ k ∧ k < w9.heap.size) => ⟨by omega, by rw [hO.size]; omega⟩)
              · show inI z; unfold inI; omega
              · refine ⟨rfl, rfl, by simp only [List.length_drop]; omega, fun h e => ?_⟩
                have hm0 : m = 0 := by rw [← HM.out]; simp only at h; rw [h]; rfl
                have hj0 : j = 0 := by omega
                refine ⟨?_, ?_⟩
                · show z = next + 1
                  have := HZN.out
                  omega
                · show beyond.drop j = []
                  simp only at h; rw [h]; simp
            exact key _ (by repeat (first | refine Off.set ?_ (by constructor <;> simp) | exact Off.refl | refine Off.drew ?_))
        · obtain rfl : k = 0 := by omega
          have t2 : decide ((0 : Int) < 0) = false := by decide
          go_wp2_with fail
          go_region
          all_goals go_wp2
          refine bodyPost_ret (v := .agg #[.int .i64 z, .slice Aj 0 aj, .slice B1 n b1, .int .i64 mark]) (by rw [results_c rfl]; go_simp) rfl ?_
          have key : ∀ W', Off w.heap.size 2 wr W' → RetTP (WithP ⟨next, beyond, points, mark⟩ sq) w (.returned (.agg #[.int .i64 z, .slice Aj 0 aj, .slice B1 n b1, .int .i64 mark])) W' := fun W' hO => by
            have hS := HS.out
            have hdl : (beyond.drop j).length = 0 := by have := HM.out; rw [List.length_drop]; omega
            refine ⟨⟨z, beyond.drop j, points, mark⟩, Aj, aj, B1, b1, by simp only [hdl, HNN.out], ⟨?_, ?_, ?_, HN.out.2⟩, ?_, hO.below HB.out (Nat.le_refl _)⟩
            · rw [hdl]; exact (HLU.out.keep rd_In (hO.kp (fun k hk => .inr hk.1))).more rd_In (fun k (hk : w.heap.size + 2 ≤ k ∧ k < w9.heap.size) => ⟨by omega, by rw [hO.size]; omega⟩)
            · simp only [HNN.out]; exact (HLV.out.keep rd_Pn (hO.kp (fun k hk => .inr hk.1))).more rd_Pn (fun k (hk : w.heap.size + 2 ≤ k ∧ k < w9.heap.size) => ⟨by omega, by rw [hO.size]; omega⟩)
            · show inI z; unfold inI; omega
            · refine ⟨rfl, rfl, by simp only [List.length_drop]; omega, fun h e => ?_⟩
              have hm0 : m = 0 := by rw [← HM.out]; simp only at h; rw [h]; rfl
              have hj0 : j = 0 := by omega
              refine ⟨?_, ?_⟩
              · show z = next + 1
                have := HZN.out
                omega
              · show beyond.drop j = []
                simp only at h; rw [h]; simp
          exact key _ (by repeat (first | refine Off.set ?_ (by constructor <;> simp) | exact Off.refl | refine Off.drew ?_))
end
end Go.Proofs.YtppaiihcaajkaaaGreat
