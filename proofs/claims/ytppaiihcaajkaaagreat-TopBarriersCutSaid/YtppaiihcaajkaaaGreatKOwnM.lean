/- punctuation.own: a tracker with lists of its own. Trackers, plainly: what Settle and Add leave is well-formed. punctuation.Settle. punctuation.Allows; slices.BinarySearchFunc at Point. slices.BinarySearchFunc at Point. -/
import Derived.Test.YtppaiihcaajkaaaGreatKPunN
import Derived.Test.YtppaiihcaajkaaaGreatXOrdA
import Derived.Deep.CutRange
namespace Go.Proofs.YtppaiihcaajkaaaGreat
open Go.RowKit
set_option linter.unusedVariables false
set_option linter.unusedSimpArgs false
def FixV (v : Value) : World → Value → Prop := fun _ u => u = v
/-- A row of new memory. -/
def OwnR (B0 : Nat) (te : TypeId) (sz : Nat) (cells : List (List Value)) : World → Value → Prop := fun w v => w.ownsRow B0 te sz v cells.length cells.flatten
theorem own_more {w : World} {b0 b1 : Nat} {te : TypeId} {sz n : Nat} {v : Value} {xs : List Value} (h : w.ownsRow b1 te sz v n xs) (hb : b0 ≤ b1) : w.ownsRow b0 te sz v n xs := by
  refine ⟨h.1, ?_⟩
  rcases h.2 with h | ⟨g, cap, cur, e, hg, r⟩
  · exact .inl h
  · exact .inr ⟨g, cap, cur, e, Nat.le_trans hb hg, r⟩
theorem one_In : One RIn := by rintro w Z xs x ⟨rfl, -⟩ u hu; simp at hu; subst hu; rfl
theorem one_Pn : One RPn := by rintro w Z xs x ⟨rfl, -⟩ u hu; simp at hu; rcases hu with rfl | rfl <;> rfl
/-- A tracker whose lists lie in new memory. -/
def RetT (x : Trk) (w : World) (e : Ending) (w' : World) : Prop := ∃ A a B b, e = .returned (.agg #[.int .i64 x.next, .slice A x.beyond.length a, .slice B x.points.length b, .int .i64 x.mark]) ∧ TrV w' (fun k => w.heap.size ≤ k ∧ k < w'.heap.size) A a B b x ∧ Below w.heap.size w w'
theorem lst_own {α : Type} {R : World → (Nat → Prop) → List Value → α → Prop} {w : World} {B0 sz : Nat} {te : TypeId} {v : Value} {cells : List (List Value)} {l : List α} (hR : ∀ {w w' Z Z' xs x}, R w Z xs x → R w' Z' xs x) (hsz : 0 < sz) (hown : w.ownsRow B0 te sz v cells.length cells.flatten) (hcl : cells.length = l.length) (hm : l.length ≤ maxLen) {w0 : World} {Z0 : Nat → Prop}
    (hce : ∀ j (hj : j < l.length), ∃ xs, cells[j]? = some xs ∧ xs.length = sz ∧ R w0 Z0 xs l[j]) : Lst w (fun k => B0 ≤ k ∧ k < w.heap.size) sz R v l := by
  have h1 : Lst w (fun k => B0 ≤ k) sz R v l := by
    rw [hcl] at hown
    exact Lst.of_own hsz hown (fun b h => h) hcl hm fun j hj => by
      obtain ⟨xs, h1, h2, h3⟩ := hce j hj
      exact ⟨xs, h1, h2, hR h3⟩
  refine ⟨h1.1, fun j hj => ?_⟩
  obtain ⟨g, off, cap, xs, e, hz, hl, hc, hr⟩ := h1.2 j hj
  refine ⟨g, off, cap, xs, e, ⟨hz, ?_⟩, hl, hc, hR hr⟩
  exact World.block_lt_of_cell? w ⟨g, off + j * sz + 0, none⟩ (hc 0 xs[0] (List.getElem?_eq_getElem (by omega)))
theorem results_c {fn : Func} {p : Tmp} {ty : TypeId} (h : fn.results = #[.cell p ty]) (tmps : Array Value) (P : Program) (w : World) :
    (results fn tmps).run P w = ((asAddr (tmps.getD p undef)).run P w).andThen fun a w₁ => (loadVar ty a).run P w₁ := by
  simp only [results, h]
  simp [Sem.run_bind, Result.andThen]
/-- b is a, but for what lies in the blocks from s on, up to s + d. -/
structure Off (s d : Nat) (a b : World) : Prop where
  os : b.os = a.os
  tape : b.tape = a.tape
  output : b.output = a.output
  size : b.heap.size = a.heap.size
  block : ∀ k, (k < s ∨ s + d ≤ k) → b.heap[k]? = a.heap[k]?
theorem Off.refl {s d : Nat} {a : World} : Off s d a a := ⟨rfl, rfl, rfl, rfl, fun _ _ => rfl⟩
theorem Off.set {s d : Nat} {a b : World} {p : Addr} {u : Value} (h : Off s d a b) (hp : s ≤ p.block ∧ p.block < s + d) : Off s d a (b.setCell p u) :=
  ⟨h.os, h.tape, h.output, by simpa [World.setCell] using h.size, fun k hk => (Below.heap_setCell b p u k (by omega)).trans (h.block k hk)⟩
theorem Off.below {s d B : Nat} {w a b : World} (h : Off s d a b) (hb : Below B w a) (hs : B ≤ s) : Below B w b := hb.trans ⟨h.os, h.tape, h.output, Nat.le_of_eq h.size.symm, fun k hk => h.block k (by omega)⟩
theorem Off.kp {s d : Nat} {a b : World} {Z : Nat → Prop} (h : Off s d a b) (hz : ∀ k, Z k → k < s ∨ s + d ≤ k) : Kp Z a b := ⟨Nat.le_of_eq h.size.symm, fun k hk _ => h.block k (hz k hk)⟩
section
variable (w : World)
set_option maxRecDepth 100000 in
set_option maxHeartbeats 16000000 in
theorem own_any (x : Trk) (A B : Option Addr) (a b : Nat) (hx : TrV w (· < w.heap.size) A a B b x) (hm1 : x.beyond.length ≤ 1000) (hm2 : x.points.length ≤ 1000) : Calls Tryz.prog 115 #[.agg #[.int .i64 x.next, .slice A x.beyond.length a, .slice B x.points.length b, .int .i64 x.mark]] w (RetT x w) := by
  obtain ⟨cu, hcu, hul, hue⟩ := lst_raw one_In hx.u
  obtain ⟨cv, hcv, hvl, hve⟩ := lst_raw one_Pn hx.v
  have HUE := hide hue
  have HVE := hide hve
  have HN := hide (And.intro hx.n hx.m)
  have HCU := hide (fun (w' : World) (h : Below w.heap.size w w') => iclone_any A a cu w' _ (by rw [hul]; exact hcu.keep rd_Wq (Kp.of_below h)) (by omega))
  have HCV := hide (fun (w' : World) (h : Below w.heap.size w w') => pclone_any B b cv w' _ (by rw [hvl]; exact hcv.keep rd_Wq (Kp.of_below h)) (by omega))
  have HUL := hide hul
  have HVL := hide hvl
  rw [hul] at HCU
  rw [hvl] at HCV
  clear hx hcu hcv hue hve hul hvl
  obtain ⟨next, beyond, points, mark⟩ := x
  simp only at *
  obtain ⟨X1, hX1⟩ : ∃ X, X = w.alloc (.cells #[.int .i64 next, .slice A beyond.length a, .slice B points.length b, .int .i64 mark] 33) := ⟨_, rfl⟩
  have HB1 := hide (show Below w.heap.size w X1 by rw [hX1]; exact below_laid _)
  have HX := hide ((Bl.new w [.int .i64 next, .slice A beyond.length a, .slice B points.length b, .int .i64 mark] 33).laid (.cells #[.int .i64 0, .slice none 0 0, .slice none 0 0, .int .i64 0] 33))
  have HZ := hide (Bl.new X1 [.int .i64 0, .slice none 0 0, .slice none 0 0, .int .i64 0] 33)
  have HB := hide (bthen HB1.out (below_laid (w := X1) (.cells #[.int .i64 0, .slice none 0 0, .slice none 0 0, .int .i64 0] 33)))
  have HSZ := hide (show X1.heap.size = w.heap.size + 1 by rw [hX1]; simp)
  subst hX1
  obtain ⟨m, hm⟩ : ∃ m, beyond.length = m := ⟨_, rfl⟩
  obtain ⟨n, hn⟩ : ∃ n, points.length = n := ⟨_, rfl⟩
  have HM := hide hm
  have HNN := hide hn
  simp only [hm, hn] at HCU HCV HX HZ HB HB1 HSZ hm1 hm2 ⊢
  clear hm hn
  go_enter Tryz.func115, Tryz.ntmps115
  go_wp2_with fail
  obtain ⟨W2, hW2⟩ : ∃ W2, ((w.alloc (.cells #[.int .i64 next, .slice A m a, .slice B n b, .int .i64 mark] 33)).alloc (.cells #[.int .i64 0, .slice none 0 0, .slice none 0 0, .int .i64 0] 33)) = W2 := ⟨_, rfl⟩
  simp only [HSZ.out] at HZ
  rw [hW2] at HX HZ HB ⊢
  clear hW2 HSZ HB1
  have hz2 := HZ.out.lt
  refine wp_region_grow 7 [3, 4, 5, 6, 7, 8, 9] [FixV (.pointer (some ⟨w.heap.size, 1, none⟩)), FixV (.slice A m a), OwnR (w.heap.size + 2) 3 1 cu, FixV (.pointer (some ⟨w.heap.size, 2, none⟩)), FixV (.slice B n b), OwnR (w.heap.size + 2) 84 2 cv, FixV (.pointer (some ⟨w.heap.size, 1, none⟩))] (by kernel_rfl) (by kernel_rfl) (by kernel_rfl) (by kernel_rfl) (by kernel_rfl) ?_ ?_ ?_
  · intro p hp
    simp only [List.mem_cons, List.not_mem_nil, or_false] at hp
    rcases hp with rfl | rfl | rfl | rfl | rfl | rfl | rfl
    all_goals first | exact (fun _ _ _ _ h => h) | exact (fun _ _ _ hb h => own_keep h hb)
  · intro j9 o9 hj9 ho x w5 hb hd
    have hjc : j9 = 0 ∨ j9 = 1 ∨ j9 = 2 ∨ j9 = 3 ∨ j9 = 4 ∨ j9 = 5 ∨ j9 = 6 := by omega
    have hbw := bthen HB.out hb
    have hz5 := hb.size
    have x1 := keep1 hb (HX.out.c 1 _ rfl)
    have x2 := keep1 hb (HX.out.c 2 _ rfl)
    rcases hjc with rfl | rfl | rfl | rfl | rfl | rfl | rfl
    all_goals obtain rfl := Option.some.inj ho
    all_goals generalize hK : (fun (a' : Act) (w' : World) => _) = K
    all_goals simp only [puts]
    · go_simp
      rw [← hK]
      exact ⟨.pointer (some ⟨w.heap.size, 1, none⟩), (by simp only [puts]; go_simp), Below.refl _ _, rfl⟩
    · have e : x 3 = .pointer (some ⟨w.heap.size, 1, none⟩) := hd 0 (by kernel_rfl)
      go_simp
      rw [← hK]
      exact ⟨.slice A m a, (by simp only [puts]; go_simp), Below.refl _ _, rfl⟩
    · have e : x 4 = .slice A m a := hd 1 (by kernel_rfl)
      have HC := hide (HCU.out w5 hbw)
      go_simp
      go_at_call 48
      refine HC.out.mono ?_
      rintro en9 w9 ⟨v9, rfl, hown, hbc⟩
      rw [← hK]
      exact ⟨v9, (by simp only [puts]; go_simp), hbc, own_more hown (by omega)⟩
    · go_simp
      rw [← hK]
      exact ⟨.pointer (some ⟨w.heap.size, 2, none⟩), (by simp only [puts]; go_simp), Below.refl _ _, rfl⟩
    · have e : x 6 = .pointer (some ⟨w.heap.size, 2, none⟩) := hd 3 (by kernel_rfl)
      go_simp
      rw [← hK]
      exact ⟨.slice B n b, (by simp only [puts]; go_simp), Below.refl _ _, rfl⟩
    · have e : x 7 = .slice B n b := hd 4 (by kernel_rfl)
      have HC := hide (HCV.out w5 hbw)
      go_simp
      go_at_call 49
      refine HC.out.mono ?_
      rintro en9 w9 ⟨v9, rfl, hown, hbc⟩
      rw [← hK]
      exact ⟨v9, (by simp only [puts]; go_simp), hbc, own_more hown (by omega)⟩
    · go_simp
      rw [← hK]
      exact ⟨.pointer (some ⟨w.heap.size, 1, none⟩), (by simp only [puts]; go_simp), Below.refl _ _, rfl⟩
  · intro x w9 hb hP
    have e9 : x 9 = .pointer (some ⟨w.heap.size, 1, none⟩) := hP 6 (by decide)
    have hu : w9.ownsRow (w.heap.size + 2) 3 1 (x 5) cu.length cu.flatten := hP 2 (by decide)
    have hv : w9.ownsRow (w.heap.size + 2) 84 2 (x 8) cv.length cv.flatten := hP 5 (by decide)
    have hLU := lst_own (R := RIn) (fun h => h) (by decide) hu HUL.out (by have := HM.out; unfold maxLen; omega) HUE.out
    have hLV := lst_own (R := RPn) (fun h => h) (by decide) hv HVL.out (by have := HNN.out; unfold maxLen; omega) HVE.out
    obtain ⟨A1, a1, e5⟩ := hLU.form
    obtain ⟨B1, b1, e8⟩ := hLV.form
    rw [e5] at hLU
    rw [e8] at hLV
    rw [HM.out] at e5
    rw [HNN.out] at e8
    have HLU := hide hLU
    have HLV := hide hLV
    have HX9 := hide (HX.out.keep hb)
    have HZ9 := hide (HZ.out.keep hb)
    have HB9 := hide (bthen HB.out hb)
    have hz9 := hb.size
    clear hP hb hu hv hLU hLV
    have x0 := HX9.out.c 0 _ rfl
    have x1 := HX9.out.c 1 _ rfl
    have x2 := HX9.out.c 2 _ rfl
    have x3 := HX9.out.c 3 _ rfl
    have f1 := HX9.out.f 1
    have f2 := HX9.out.f 2
    have z0 := HZ9.out.c 0 _ rfl
    have z1 := HZ9.out.c 1 _ rfl
    have z2 := HZ9.out.c 2 _ rfl
    have z3 := HZ9.out.c 3 _ rfl
    have g0 := HZ9.out.f 0
    have g1 := HZ9.out.f 1
    have g2 := HZ9.out.f 2
    have g3 := HZ9.out.f 3
    simp only [puts, Act.put, List.setIfInBounds_toArray, List.set_cons_succ, List.set_cons_zero, List.drop]
    go_wp2
    refine bodyPost_ret (v := .agg #[.int .i64 next, .slice A1 m a1, .slice B1 n b1, .int .i64 mark]) (by rw [results_c rfl]; go_simp) rfl ?_
    have key : ∀ W', Off w.heap.size 2 w9 W' → RetT ⟨next, beyond, points, mark⟩ w (.returned (.agg #[.int .i64 next, .slice A1 m a1, .slice B1 n b1, .int .i64 mark])) W' := fun W' hO =>
      ⟨A1, a1, B1, b1, by simp only [HM.out, HNN.out], ⟨(HLU.out.keep rd_In (hO.kp (fun k hk => .inr hk.1))).more rd_In (fun k hk => ⟨by omega, by rw [hO.size]; exact hk.2⟩), (HLV.out.keep rd_Pn (hO.kp (fun k hk => .inr hk.1))).more rd_Pn (fun k hk => ⟨by omega, by rw [hO.size]; exact hk.2⟩), HN.out.1, HN.out.2⟩, hO.below HB9.out (Nat.le_refl _)⟩
    exact key _ (by repeat (first | refine Off.set ?_ (by constructor <;> simp) | exact Off.refl))
end
end Go.Proofs.YtppaiihcaajkaaaGreat

namespace Go.Proofs.YtppaiihcaajkaaaGreat
set_option linter.unusedVariables false
set_option linter.unusedSimpArgs false
theorem upP_all : ∀ {l : List Pnt} {q t : Int}, upP q t l → ∀ p ∈ l, vldB p.s p.t = true ∧ q < p.s ∧ t < p.t
  | [], _, _, _, p, hp => by simp at hp
  | r :: l, q, t, h, p, hp => by
    obtain ⟨h1, h2, h3, h4⟩ := h
    rcases List.mem_cons.1 hp with rfl | hp
    · exact ⟨h1, h2, h3⟩
    · obtain ⟨k1, k2, k3⟩ := upP_all h4 p hp
      exact ⟨k1, by omega, by omega⟩
theorem upP_filter {f : Pnt → Bool} : ∀ {l : List Pnt} {q t q' t' : Int}, upP q t l → (∀ p ∈ l, f p = true → q' < p.s ∧ t' < p.t) → upP q' t' (l.filter f)
  | [], _, _, _, _, _, _ => trivial
  | r :: l, q, t, q', t', h, hf => by
    obtain ⟨h1, h2, h3, h4⟩ := h
    rw [List.filter_cons]
    split
    · rename_i hfr
      obtain ⟨k1, k2⟩ := hf r (List.mem_cons_self ..) hfr
      exact ⟨h1, k1, k2, upP_filter h4 fun p hp _ => (upP_all h4 p hp).2⟩
    · exact upP_filter h4 fun p hp => hf p (List.mem_cons_of_mem _ hp)
theorem foldl_max : ∀ (l : List Pnt) (m : Int), m ≤ l.foldl (fun k p => max k p.t) m ∧ ∀ M, m ≤ M → (∀ p ∈ l, p.t ≤ M) → l.foldl (fun k p => max k p.t) m ≤ M
  | [], m => ⟨Int.le_refl _, fun M h _ => h⟩
  | p :: l, m => by
    obtain ⟨h1, h2⟩ := foldl_max l (max m p.t)
    exact ⟨by simp only [List.foldl_cons]; omega, fun M hm hp => by
      simp only [List.foldl_cons]
      exact h2 M (by have := hp p (List.mem_cons_self ..); omega) fun r hr => hp r (List.mem_cons_of_mem _ hr)⟩
theorem latI_le {mark seq : Int} {l : List Pnt} : mark ≤ latI mark l seq := (foldl_max _ _).1
theorem latI_max {mark seq M : Int} {l : List Pnt} (h : mark ≤ M) (hl : ∀ p ∈ l, p.t ≤ M) : latI mark l seq ≤ M := (foldl_max _ _).2 M h fun p hp => hl p (List.mem_filter.1 hp).1
/-- What Settle leaves. -/
def setT (x : Trk) : Trk := ⟨x.next, x.beyond, x.points.filter fun p => decide (x.next < p.s) && decide (latI x.mark x.points x.next < p.t), latI x.mark x.points x.next⟩
theorem setT_ok {x : Trk} (h : AscOK x (-1) (-1)) : TrkOK (setT x) := by
  obtain ⟨h1, ⟨h2, h3⟩, h4, h5⟩ := h
  have hall := upP_all h5
  refine ⟨h1, ⟨?_, ?_⟩, ?_, ?_⟩
  · show -1 ≤ latI _ _ _
    have := latI_le (mark := x.mark) (seq := x.next) (l := x.points)
    omega
  · exact latI_max h3 fun p hp => by have := (hall p hp).1; rw [vldB_iff] at this; omega
  · exact Nat.le_trans (List.length_filter_le _ _) h4
  · exact upP_filter h5 fun p hp hf => by simp only [Bool.and_eq_true, decide_eq_true_eq] at hf; exact hf
theorem trk_nums {x : Trk} {q t : Int} (h : AscOK x q t) : inI x.next ∧ inI x.mark := by
  obtain ⟨⟨h1, h2, -⟩, ⟨h3, h4⟩, -⟩ := h
  unfold inI
  omega
/-- What is left of the points, and where a point goes in. -/
theorem upP_put {p : Pnt} (hv : vldB p.s p.t = true) : ∀ {l : List Pnt} {q t : Int} (i : Nat), upP q t l → q < p.s → t < p.t → i ≤ l.length → (∀ r ∈ l.take i, r.s < p.s ∧ r.t < p.t) → (∀ r ∈ l.drop i, p.s < r.s ∧ p.t < r.t) → upP q t (l.take i ++ p :: l.drop i)
  | l, q, t, 0, h, hq, ht, _, _, hd => by
    simp only [List.take_zero, List.nil_append, List.drop_zero] at hd ⊢
    refine ⟨hv, hq, ht, ?_⟩
    cases l with
    | nil => trivial
    | cons r l => exact ⟨h.1, (hd r (List.mem_cons_self ..)).1, (hd r (List.mem_cons_self ..)).2, h.2.2.2⟩
  | [], _, _, i + 1, _, _, _, hi, _, _ => by simp at hi
  | r :: l, q, t, i + 1, h, hq, ht, hi, hk, hd => by
    obtain ⟨h1, h2, h3, h4⟩ := h
    simp only [List.take_succ_cons, List.drop_succ_cons, List.cons_append] at hk hd ⊢
    have := hk r (List.mem_cons_self ..)
    exact ⟨h1, h2, h3, upP_put hv i h4 this.1 this.2 (by simpa using hi) (fun s hs => hk s (List.mem_cons_of_mem _ hs)) hd⟩
theorem addM_ok {x : Trk} {p : Pnt} (h : TrkOK x) (hv : vldB p.s p.t = true) (hle : p.s ≤ x.next) : TrkOK ⟨x.next, x.beyond, x.points.filter fun r => !impB p r, p.t⟩ := by
  obtain ⟨h1, ⟨h2, h3⟩, h4, h5⟩ := h
  have hall := upP_all h5
  rw [vldB_iff] at hv
  refine ⟨h1, ⟨by show -1 ≤ p.t; omega, hv.2.2.2⟩, Nat.le_trans (List.length_filter_le _ _) h4, upP_filter h5 fun r hr hf => ?_⟩
  obtain ⟨k1, k2, k3⟩ := hall r hr
  refine ⟨k2, ?_⟩
  simp only [impB, Bool.not_eq_true', Bool.and_eq_false_iff, decide_eq_false_iff_not] at hf
  show p.t < r.t
  omega
/-- What is left of the points beside a new one. -/
theorem addF_ok {x : Trk} {p : Pnt} (h : TrkOK x) (hn : x.points.any (fun r => impB r p) = false) : upP x.next x.mark (x.points.filter fun r => !impB p r) ∧ ∀ r ∈ x.points.filter (fun r => !impB p r), (r.s < p.s → r.t < p.t) ∧ (p.s ≤ r.s → p.s < r.s ∧ p.t < r.t) := by
  obtain ⟨h1, ⟨h2, h3⟩, h4, h5⟩ := h
  refine ⟨upP_filter h5 fun r hr _ => (upP_all h5 r hr).2, fun r hr => ?_⟩
  obtain ⟨hr, hf⟩ := List.mem_filter.1 hr
  rw [List.any_eq_false] at hn
  have h0 := hn r hr
  simp only [impB, Bool.and_eq_true, decide_eq_true_eq, not_and] at h0
  simp only [impB, Bool.not_eq_true', Bool.and_eq_false_iff, decide_eq_false_iff_not] at hf
  constructor
  · intro h; have := h0 (by omega); omega
  · intro h; exact ⟨by
      rcases Int.lt_or_eq_of_le h with h | h
      · exact h
      · have := h0 (by omega); omega, by omega⟩
theorem upP_pair : ∀ {l : List Pnt} {q t : Int}, upP q t l → l.Pairwise fun a b => a.s < b.s
  | [], _, _, _ => List.Pairwise.nil
  | r :: l, _, _, h => List.pairwise_cons.2 ⟨fun s hs => (upP_all h.2.2.2 s hs).2.1, upP_pair h.2.2.2⟩
end Go.Proofs.YtppaiihcaajkaaaGreat

namespace Go.Proofs.YtppaiihcaajkaaaGreat
open Go.RowKit
set_option linter.unusedVariables false
set_option linter.unusedSimpArgs false
def zeT : Value := .agg #[.int .i64 0, .slice none 0 0, .slice none 0 0, .int .i64 0]
/-- A tracker for which P, in new memory; or an error. -/
def RetTE (P : Trk → Prop) (w : World) (e : Ending) (w' : World) : Prop :=
  (∃ n : Int, n ≠ 0 ∧ e = .returned (.tuple #[zeT, .int .i64 n]) ∧ Below w.heap.size w w') ∨
  (∃ x A a B b, e = .returned (.tuple #[.agg #[.int .i64 x.next, .slice A x.beyond.length a, .slice B x.points.length b, .int .i64 x.mark], .int .i64 0]) ∧ TrV w' (fun k => w.heap.size ≤ k ∧ k < w'.heap.size) A a B b x ∧ P x ∧ Below w.heap.size w w')
/-- A tracker for which P, in new memory; or an error, if S is false. -/
def RetTS (S : Prop) (P : Trk → Prop) (w : World) (e : Ending) (w' : World) : Prop :=
  (∃ n : Int, n ≠ 0 ∧ e = .returned (.tuple #[zeT, .int .i64 n]) ∧ ¬ S ∧ Below w.heap.size w w') ∨
  (∃ x A a B b, e = .returned (.tuple #[.agg #[.int .i64 x.next, .slice A x.beyond.length a, .slice B x.points.length b, .int .i64 x.mark], .int .i64 0]) ∧ TrV w' (fun k => w.heap.size ≤ k ∧ k < w'.heap.size) A a B b x ∧ P x ∧ Below w.heap.size w w')
section
variable (w : World)
set_option maxRecDepth 100000 in
set_option maxHeartbeats 16000000 in
theorem settle_any (x : Trk) (A B : Option Addr) (a b : Nat) (hx : TrV w (· < w.heap.size) A a B b x) (hm1 : x.beyond.length ≤ 1000) : Calls Tryz.prog 108 #[.agg #[.int .i64 x.next, .slice A x.beyond.length a, .slice B x.points.length b, .int .i64 x.mark]] w (RetTS (AscOK x (-1) (-1)) (fun y => TrkOK y ∧ y = setT x) w) := by
  obtain ⟨X1, hX1⟩ : ∃ X, X = w.alloc (.cells #[.int .i64 x.next, .slice A x.beyond.length a, .slice B x.points.length b, .int .i64 x.mark] 33) := ⟨_, rfl⟩
  have hB1 : Below w.heap.size w X1 := by rw [hX1]; exact below_laid _
  have hsz1 : X1.heap.size = w.heap.size + 1 := by rw [hX1]; simp
  have hbx := Bl.new w [.int .i64 x.next, .slice A x.beyond.length a, .slice B x.points.length b, .int .i64 x.mark] 33
  rw [← hX1] at hbx
  have hB2 := bthen hB1 (below_laid (w := X1) (.cells #[.int .i64 0, .slice none 0 0, .slice none 0 0, .int .i64 0] 33))
  have hbx2 := hbx.laid (.cells #[.int .i64 0, .slice none 0 0, .slice none 0 0, .int .i64 0] 33)
  have hbz := Bl.new X1 [.int .i64 0, .slice none 0 0, .slice none 0 0, .int .i64 0] 33
  rw [hsz1] at hbz
  obtain ⟨W2, hW2⟩ : ∃ W2, X1.alloc (.cells #[.int .i64 0, .slice none 0 0, .slice none 0 0, .int .i64 0] 33) = W2 := ⟨_, rfl⟩
  rw [hW2] at hB2 hbx2 hbz
  have HX := hide hbx2
  have HZ := hide hbz
  have HB := hide hB2
  have HTV := hide (fun (w1 : World) (hb : Below w.heap.size w w1) => hx.below hb)
  have HASC := hide (asc_any W2 x A B a b (-1) (-1) (hx.below hB2))
  have HWW := hide (show (w.alloc (.cells #[.int .i64 x.next, .slice A x.beyond.length a, .slice B x.points.length b, .int .i64 x.mark] 33)).alloc (.cells #[.int .i64 0, .slice none 0 0, .slice none 0 0, .int .i64 0] 33) = W2 by rw [← hW2, hX1])
  have HML := hide hm1
  clear hx hB1 hB2 hbx hbx2 hbz hsz1 hX1 hW2 hm1
  obtain ⟨next, beyond, points, mark⟩ := x
  simp only at HX HTV HASC HWW HML ⊢
  obtain ⟨m, hm⟩ : ∃ m, beyond.length = m := ⟨_, rfl⟩
  obtain ⟨n, hn⟩ : ∃ n, points.length = n := ⟨_, rfl⟩
  have HM := hide hm
  have HNN := hide hn
  simp only [hm, hn] at HX HTV HASC HWW HML ⊢
  clear hm hn
  go_enter Tryz.func108, Tryz.ntmps108
  go_upto_region 1 with (fail)
  rw [HWW.out]
  clear HWW
  have d0 := HX.out.c 0 _ rfl
  have d1 := HX.out.c 1 _ rfl
  have d2 := HX.out.c 2 _ rfl
  have d3 := HX.out.c 3 _ rfl
  go_wp2_with (go_at_call 79; refine HASC.out.mono ?_; rintro e1 w1 ⟨e, rfl, hok, hb1⟩; have HOK := hide hok; have HX1 := hide (HX.out.keep hb1); have HZ1 := hide (HZ.out.keep hb1); have HB1 := hide (bthen HB.out hb1); clear hok hb1 d0 d1 d2 d3 HX HZ HB HASC; have d0 := HX1.out.c 0 _ rfl; have d1 := HX1.out.c 1 _ rfl; have d2 := HX1.out.c 2 _ rfl; have d3 := HX1.out.c 3 _ rfl; have z0 := HZ1.out.c 0 _ rfl; have z1 := HZ1.out.c 1 _ rfl; have z2 := HZ1.out.c 2 _ rfl; have z3 := HZ1.out.c 3 _ rfl; have g0 := HZ1.out.f 0; have g1 := HZ1.out.f 1; have g2 := HZ1.out.f 2; have g3 := HZ1.out.f 3; by_cases he : e = 0; all_goals first | (obtain rfl := he; have HASK := hide (HOK.out.1 rfl); have HOWN := hide (own_any w1 ⟨next, beyond, points, mark⟩ A B a b (HTV.out w1 HB1.out) (by simp only [HM.out]; exact HML.out) (Nat.le_trans HASK.out.2.2.1 (by decide)))) | have t1 : (e != 0) = true := bne_iff_ne.2 he)
  · simp only [HM.out, HNN.out] at HOWN
    refine HOWN.out.mono ?_
    rintro e2 w2 ⟨A1, a1, B1, b1, rfl, hT, hb2⟩
    have HX2 := hide (HX1.out.keep hb2)
    have HZ2 := hide (HZ1.out.keep hb2)
    have HB2 := hide (bthen HB1.out hb2)
    have hz1 := HZ1.out.lt
    have HT := hide hT
    have hz2 := hb2.size
    clear hT hb2 d0 d1 d2 d3 z0 z1 z2 z3 g0 g1 g2 g3 HX1 HZ1
    simp only [HM.out, HNN.out]
    go_upto_region 5 with (fail)
    obtain ⟨W3, hW3⟩ : ∃ W3, w2.alloc (.cells #[.int .i64 next, .slice A1 m a1, .slice B1 n b1, .int .i64 mark] 33) = W3 := ⟨_, rfl⟩
    have H5 := hide (show Bl W3 w2.heap.size [.int .i64 next, .slice A1 m a1, .slice B1 n b1, .int .i64 mark] by rw [← hW3]; exact Bl.new w2 [.int .i64 next, .slice A1 m a1, .slice B1 n b1, .int .i64 mark] 33)
    have hbW : Below w2.heap.size w2 W3 := by rw [← hW3]; exact below_laid _
    have HX3 := hide (HX2.out.keep hbW)
    have HZ3 := hide (HZ2.out.keep hbW)
    have HB3 := hide (bthen HB2.out hbW)
    have HT3 := hide (HT.out.keep (Kp.of_below hbW))
    rw [hW3]
    clear hW3
    have HLAT := hide (latest_any W3 mark next points B b (HTV.out W3 HB3.out).v (Nat.le_trans HASK.out.2.2.1 (by decide)))
    rw [HNN.out] at HLAT
    have d0 := HX3.out.c 0 _ rfl
    have d2 := HX3.out.c 2 _ rfl
    have d3 := HX3.out.c 3 _ rfl
    obtain ⟨L, hLL⟩ : ∃ L, latI mark points next = L := ⟨_, rfl⟩
    have HLL := hide hLL
    rw [hLL] at HLAT
    clear hLL
    go_upto_region 6 with (go_at_call 113; refine HLAT.out.mono ?_; rintro e3 w4 ⟨rfl, hb4⟩; have H54 := hide (H5.out.keep hb4); have f3 := H54.out.f 3; have b3 := H54.out.c 3 _ rfl; have HX4 := hide (HX3.out.keep hb4); have HZ4 := hide (HZ3.out.keep hb4); have HB4 := hide (bthen HB3.out hb4); have HT4 := hide (HT3.out.keep (Kp.of_below hb4)); clear hb4 d0 d2 d3)
    have hne1 : w2.heap.size ≠ w.heap.size := by omega
    have hne2 : w2.heap.size ≠ w.heap.size + 1 := by omega
    obtain ⟨W5, hW5⟩ : ∃ W5, w4.setCell ⟨w2.heap.size, 3, none⟩ (.int .i64 L) = W5 := ⟨_, rfl⟩
    have H55 := hide (show Bl W5 w2.heap.size [.int .i64 next, .slice A1 m a1, .slice B1 n b1, .int .i64 L] by rw [← hW5]; exact H54.out.put (k := 3) (by simp) _)
    have HX5 := hide (show Bl W5 w.heap.size [.int .i64 next, .slice A m a, .slice B n b, .int .i64 mark] by rw [← hW5]; exact HX4.out.far (p := ⟨w2.heap.size, 3, none⟩) hne1 _)
    have HZ5 := hide (show Bl W5 (w.heap.size + 1) [.int .i64 0, .slice none 0 0, .slice none 0 0, .int .i64 0] by rw [← hW5]; exact HZ4.out.far (p := ⟨w2.heap.size, 3, none⟩) hne2 _)
    have HB5 := hide (show Below w.heap.size w W5 by rw [← hW5]; exact HB4.out.setCell (p := ⟨w2.heap.size, 3, none⟩) (by show w.heap.size ≤ w2.heap.size; omega) _)
    have HT5 := hide (show TrV W5 (fun k => w1.heap.size ≤ k ∧ k < w2.heap.size) A1 a1 B1 b1 ⟨next, beyond, points, mark⟩ by rw [← hW5]; exact HT4.out.keep (Kp.set ⟨w2.heap.size, 3, none⟩ _ fun b hb => by show b ≠ w2.heap.size; omega))
    rw [hW5]
    clear hW5 f3 b3 H5 H54 HX3 HX4 HZ3 HZ4 HB3 HB4 HT3 HT4 HLAT
    have HFIL := hide (filB_any W5 points B b w.heap.size w2.heap.size (fun p => decide (next < p.s) && decide (L < p.t)) (HTV.out W5 HB5.out).v (Nat.le_trans HASK.out.2.2.1 (by decide)) (hide fun w' p hb => setb_any w' p w.heap.size w2.heap.size next L (keep1 hb (HX5.out.c 0 _ rfl)) (keep1 hb (H55.out.c 3 _ rfl))))
    rw [HNN.out] at HFIL
    obtain ⟨F, hF⟩ : ∃ F, points.filter (fun p => decide (next < p.s) && decide (L < p.t)) = F := ⟨_, rfl⟩
    have HFF := hide hF
    rw [hF] at HFIL
    clear hF
    have d2 := HX5.out.c 2 _ rfl
    go_upto_region 7 with (go_at_call 116; refine HFIL.out.mono ?_; rintro e6 w6 ⟨v6, rfl, hg6, hb6⟩; obtain ⟨A6, c6, rfl⟩ := hg6.form; have HG6 := hide hg6; have hz6 := hb6.size; have H56 := hide (H55.out.keep hb6); have f2 := H56.out.f 2; have b2 := H56.out.c 2 _ rfl; have HZ6 := hide (HZ5.out.keep hb6); have HB6 := hide (bthen HB5.out hb6); have HT6 := hide (HT5.out.keep (Kp.of_below hb6)); clear hg6 hb6 d2)
    have hl5 := H55.out.lt
    obtain ⟨W7, hW7⟩ : ∃ W7, w6.setCell ⟨w2.heap.size, 2, none⟩ (.slice A6 F.length c6) = W7 := ⟨_, rfl⟩
    have H57 := hide (show Bl W7 w2.heap.size [.int .i64 next, .slice A1 m a1, .slice A6 F.length c6, .int .i64 L] by rw [← hW7]; exact H56.out.put (k := 2) (by simp) _)
    have HZ7 := hide (show Bl W7 (w.heap.size + 1) [.int .i64 0, .slice none 0 0, .slice none 0 0, .int .i64 0] by rw [← hW7]; exact HZ6.out.far (p := ⟨w2.heap.size, 2, none⟩) hne2 _)
    have HB7 := hide (show Below w.heap.size w W7 by rw [← hW7]; exact HB6.out.setCell (p := ⟨w2.heap.size, 2, none⟩) (by show w.heap.size ≤ w2.heap.size; omega) _)
    have HU7 := hide (show Lst W7 (fun k => w1.heap.size ≤ k ∧ k < w2.heap.size) 1 RIn (.slice A1 beyond.length a1) beyond by rw [← hW7]; exact HT6.out.u.keep rd_In (Kp.set ⟨w2.heap.size, 2, none⟩ _ fun b hb => by show b ≠ w2.heap.size; omega))
    have HS7 := hide (show W7.heap.size = w6.heap.size by rw [← hW7]; simp [World.setCell])
    have hFl : F.length ≤ maxLen := by rw [← HFF.out]; have := List.length_filter_le (fun p => decide (next < p.s) && decide (L < p.t)) points; have := HASK.out.2.2.1; simp only at this; unfold maxLen; omega
    have HV7 := hide (show Lst W7 (fun k => W5.heap.size ≤ k ∧ k < w6.heap.size) 2 RPn (.slice A6 F.length c6) F by rw [← hW7]; exact (HG6.out.lst rd_Pn (by decide) hFl).keep rd_Pn (Kp.set ⟨w2.heap.size, 2, none⟩ _ fun b hb => by show b ≠ w2.heap.size; omega))
    rw [hW7]
    clear hW7 f2 b2 H55 H56 HX5 HZ5 HZ6 HB5 HB6 HT5 HT6 HFIL HG6
    have b0 := H57.out.c 0 _ rfl
    have b1 := H57.out.c 1 _ rfl
    have b2 := H57.out.c 2 _ rfl
    have b3 := H57.out.c 3 _ rfl
    have z0 := HZ7.out.c 0 _ rfl
    have z1 := HZ7.out.c 1 _ rfl
    have z2 := HZ7.out.c 2 _ rfl
    have z3 := HZ7.out.c 3 _ rfl
    have g0 := HZ7.out.f 0
    have g1 := HZ7.out.f 1
    have g2 := HZ7.out.f 2
    have g3 := HZ7.out.f 3
    go_wp2
    refine bodyPost_ret (v := .tuple #[.agg #[.int .i64 next, .slice A1 m a1, .slice A6 F.length c6, .int .i64 L], .int .i64 0]) (by rw [results_cell_tmp rfl]; go_simp) rfl ?_
    have key : ∀ W', Off w.heap.size 2 W7 W' → RetTS (AscOK ⟨next, beyond, points, mark⟩ (-1) (-1)) (fun y => TrkOK y ∧ y = setT ⟨next, beyond, points, mark⟩) w (.returned (.tuple #[.agg #[.int .i64 next, .slice A1 m a1, .slice A6 F.length c6, .int .i64 L], .int .i64 0])) W' := fun W' hO => by
      have hok := setT_ok HASK.out
      have hn := trk_nums hok
      have hS := HS7.out
      have hO2 := hO.size
      refine .inr ⟨⟨next, beyond, F, L⟩, A1, a1, A6, c6, by simp only [HM.out], ⟨?_, ?_, ?_, ?_⟩, ?_, hO.below HB7.out (Nat.le_refl _)⟩
      · exact (HU7.out.keep rd_In (hO.kp (fun k hk => .inr (by omega)))).more rd_In (fun k hk => ⟨by omega, by omega⟩)
      · exact (HV7.out.keep rd_Pn (hO.kp (fun k hk => .inr (by omega)))).more rd_Pn (fun k hk => ⟨by omega, by omega⟩)
      · exact hn.1
      · have := hn.2; simp only [setT, HLL.out] at this; exact this
      · have := hok; simp only [setT, HLL.out, HFF.out] at this; exact ⟨this, by simp only [setT, HLL.out, HFF.out]⟩
    exact key _ (by repeat (first | refine Off.set ?_ (by constructor <;> simp) | exact Off.refl))
  · refine bodyPost_ret (v := .tuple #[zeT, .int .i64 e]) (by rw [results_cell_tmp rfl]; unfold zeT; go_simp) rfl ?_
    refine .inl ⟨e, he, rfl, fun h => he (HOK.out.2 h), Off.below (s := w.heap.size) (d := 2) ?_ HB1.out (Nat.le_refl _)⟩
    repeat (first | refine Off.set ?_ (by constructor <;> simp) | exact Off.refl)
end
end Go.Proofs.YtppaiihcaajkaaaGreat

namespace Go.Proofs.YtppaiihcaajkaaaGreat
open Go.RowKit
set_option linter.unusedVariables false
set_option linter.unusedSimpArgs false
section
variable (w : World)
set_option maxRecDepth 100000 in
set_option maxHeartbeats 16000000 in
theorem allows_any (x : Trk) (A B : Option Addr) (a b : Nat) (seq time : Int) (hx : TrV w (· < w.heap.size) A a B b x) : Calls Tryz.prog 106 #[.agg #[.int .i64 x.next, .slice A x.beyond.length a, .slice B x.points.length b, .int .i64 x.mark], .int .i64 seq, .int .i64 time] w (RetBEP (fun f e => TrkOK x → 0 ≤ seq → seq ≤ 1099511627776 → 0 ≤ time → time ≤ 1099511627776 → x.beyond = [] → x.points = [] → x.mark < time → x.next ≤ seq → f = true ∧ e = 0) w) := by
  obtain ⟨P, hP⟩ : ∃ P : Bool → Int → Prop, P = (fun f e => TrkOK x → 0 ≤ seq → seq ≤ 1099511627776 → 0 ≤ time → time ≤ 1099511627776 → x.beyond = [] → x.points = [] → x.mark < time → x.next ≤ seq → f = true ∧ e = 0) := ⟨_, rfl⟩
  rw [← hP]
  have HP := hide (show ∀ f e, (TrkOK x → 0 ≤ seq → seq ≤ 1099511627776 → 0 ≤ time → time ≤ 1099511627776 → x.beyond = [] → x.points = [] → x.mark < time → x.next ≤ seq → f = true ∧ e = 0) → P f e by rw [hP]; exact fun _ _ h => h)
  clear hP
  have HC := hide (pcheck_any (w.alloc (.cells #[.int .i64 x.next, .slice A x.beyond.length a, .slice B x.points.length b, .int .i64 x.mark] 33)) x A B a b (hx.box _))
  have HTV := hide (fun (w1 : World) (hb : Below w.heap.size w w1) => hx.below hb)
  have HX := hide (Bl.new w [.int .i64 x.next, .slice A x.beyond.length a, .slice B x.points.length b, .int .i64 x.mark] 33)
  have HB := hide (below_laid (w := w) (.cells #[.int .i64 x.next, .slice A x.beyond.length a, .slice B x.points.length b, .int .i64 x.mark] 33))
  obtain ⟨OK, hOK⟩ : ∃ OK, TrkOK x = OK := ⟨_, rfl⟩
  have HOO := hide (show OK → x.points.length ≤ 1000 from fun h => by rw [← hOK] at h; exact Nat.le_trans h.2.2.1 (by decide))
  have HOE := hide (show TrkOK x → OK by rw [hOK]; exact fun h => h)
  rw [hOK] at HC
  clear hx hOK
  obtain ⟨next, beyond, points, mark⟩ := x
  simp only at HC HTV HX HB HOO HOE HP ⊢
  obtain ⟨m, hm⟩ : ∃ m, beyond.length = m := ⟨_, rfl⟩
  obtain ⟨n, hn⟩ : ∃ n, points.length = n := ⟨_, rfl⟩
  have HM := hide hm
  have HNN := hide hn
  simp only [hm, hn] at HC HX HB ⊢
  clear hm hn
  go_enter Tryz.func106, Tryz.ntmps106
  go_wp2_with (first
    | (go_at_call 64; refine HC.out.mono ?_; rintro e1 w1 ⟨e, rfl, hok, hb1⟩; have HX1 := hide (HX.out.keep hb1); have HB1 := hide (bthen HB.out hb1); have HOK := hide hok; clear hok hb1; have d0 := HX1.out.c 0 _ rfl; have d1 := HX1.out.c 1 _ rfl; have d2 := HX1.out.c 2 _ rfl; have d3 := HX1.out.c 3 _ rfl; by_cases he : e = 0; all_goals first | (obtain rfl := he; have HC2 := hide (conti_any w1 beyond A a seq (HTV.out w1 HB1.out).u); rw [HM.out] at HC2) | have t1 : (e != 0) = true := bne_iff_ne.2 he)
    | (go_at_call 112; refine HC2.out.mono ?_; rintro e2 w2 ⟨t, rfl, ht2, hb2⟩; have HX2 := hide (HX1.out.keep hb2); have HB2 := hide (bthen HB1.out hb2); clear d0 d1 d2 d3 hb2; have d2 := HX2.out.c 2 _ rfl; have d3 := HX2.out.c 3 _ rfl; cases t)
    | (go_at_call 113; first | (rw [← HNN.out]; refine (latest_any _ mark seq points B b (HTV.out _ HB2.out).v (HOO.out (HOK.out.1 (by first | trivial | rfl)))).mono ?_; rintro e3 w3 ⟨rfl, hb3⟩; have HB3 := hide (bthen HB2.out hb3); clear hb3)))
  all_goals go_ret2
  all_goals (first | refine ⟨_, _, rfl, ?_, HB3.out⟩ | refine ⟨_, _, rfl, ?_, HB2.out⟩ | refine ⟨_, _, rfl, ?_, HB1.out⟩)
  all_goals (refine HP.out _ _ (fun k0 k1 k2 k3 k4 k5 k6 k7 k8 => ?_); first | (exfalso; omega) | exact False.elim (ht2 k5) | exact absurd k5 ht2 | exact absurd (HOK.out.2 (HOE.out k0)) he | (exfalso; have := HOK.out.2 (HOE.out k0); simp_all; done) | exact absurd (HOK.out.2 (HOE.out k0)) ‹_› | (subst k6; exact ⟨decide_eq_true (by unfold latI; simpa using k7), rfl⟩))
end
end Go.Proofs.YtppaiihcaajkaaaGreat

namespace Go.Proofs.YtppaiihcaajkaaaGreat
open Go.RowKit
set_option linter.unusedVariables false
set_option linter.unusedSimpArgs false
/-- The place of a point in a list that ascends. -/
def RetBin (p : Pnt) (l : List Pnt) (w : World) (e : Ending) (w' : World) : Prop := ∃ (i : Nat) (t : Bool), i ≤ l.length ∧ e = .returned (.tuple #[.int .i64 i, .bool t]) ∧ (∀ r ∈ l.take i, r.s < p.s) ∧ (∀ r ∈ l.drop i, p.s ≤ r.s) ∧ Below w.heap.size w w'
theorem up_take {l : List Pnt} (h : l.Pairwise fun a b => a.s < b.s) {i : Nat} (hi : i < l.length) {s : Int} (hs : l[i].s < s) : ∀ r ∈ l.take (i + 1), r.s < s := by
  intro r hr
  rw [List.take_succ_eq_append_getElem hi] at hr
  rcases List.mem_append.1 hr with hr | hr
  · have hp : (l.take i ++ [l[i]]).Pairwise fun a b => a.s < b.s := by rw [← List.take_succ_eq_append_getElem hi]; exact h.sublist (List.take_sublist ..)
    have := (List.pairwise_append.1 hp).2.2 r hr l[i] (by simp)
    omega
  · obtain rfl := List.mem_singleton.1 hr; exact hs
theorem up_drop {l : List Pnt} (h : l.Pairwise fun a b => a.s < b.s) {i : Nat} (hi : i < l.length) {s : Int} (hs : s ≤ l[i].s) : ∀ r ∈ l.drop i, s ≤ r.s := by
  intro r hr
  rw [List.drop_eq_getElem_cons hi] at hr
  have hp : (l[i] :: l.drop (i + 1)).Pairwise fun a b => a.s < b.s := by rw [← List.drop_eq_getElem_cons hi]; exact h.sublist (List.drop_sublist ..)
  rcases List.mem_cons.1 hr with rfl | hr
  · exact hs
  · have := (List.pairwise_cons.1 hp).1 r hr
    omega
section
variable (w : World)
set_option maxRecDepth 100000 in
set_option maxHeartbeats 16000000 in
theorem bsearch_any (l : List Pnt) (p : Pnt) (B : Option Addr) (b : Nat) (hl : Lst w (· < w.heap.size) 2 RPn (.slice B l.length b) l) (hm4 : l.length ≤ 100000) (hs : l.Pairwise fun a b => a.s < b.s) (hr : ∀ r ∈ l, inI (r.s - p.s)) :
    Calls Tryz.prog 122 #[.slice B l.length b, .agg #[.int .i64 p.s, .int .i64 p.t], .func (.func 123) #[] #[]] w (RetBin p l w) := by
  have HL := hide (fun (w1 : World) (hb : Below w.heap.size w w1) => hl.below rd_Pn hb)
  have HP := hide (Bl.new w [.int .i64 p.s, .int .i64 p.t] 84)
  have HB0 := hide (below_laid (w := w) (.cells #[.int .i64 p.s, .int .i64 p.t] 84))
  have HS := hide hs
  have HR := hide hr
  obtain ⟨ps, pt⟩ := p
  simp only at HP HB0 HR ⊢
  obtain ⟨m, hm⟩ : ∃ m, l.length = m := ⟨_, rfl⟩
  rw [hm] at HL hm4 ⊢
  have HM := hide hm
  clear hl hm hs hr
  have HAD := hide (fun w' (r : Pnt) (h : inI (r.s - ps)) => addb3_any w' r ⟨ps, pt⟩ h)
  go_enter Tryz.func122, Tryz.ntmps122
  go_wp2
  go_loopw [9, 10] (fun x y wr => ∃ (lo hi : Nat), lo ≤ hi ∧ hi ≤ m ∧ x = .int .i64 lo ∧ y = .int .i64 hi ∧ Hid (∀ r ∈ l.take lo, r.s < ps) ∧ Hid (∀ r ∈ l.drop hi, ps ≤ r.s) ∧ Hid (Bl wr w.heap.size [.int .i64 ps, .int .i64 pt]) ∧ Hid (Below w.heap.size w wr)) (fun x y _ => ((intOf y) - (intOf x)).toNat)
  case atStart => exact ⟨0, m, by omega, by omega, rfl, rfl, hide (by simp), hide (by rw [← HM.out]; simp), HP, HB0⟩
  case round =>
    obtain ⟨lo, hi, h1, h2, rfl, rfl, HLO, HHI, HPX, HB⟩ := hrel
    have y0 := HPX.out.c 0 _ rfl
    have y1 := HPX.out.c 1 _ rfl
    by_cases hlt : lo < hi
    · have hu1 : (lo : Int) < (hi : Int) := by omega
      obtain ⟨mid, hmid⟩ : ∃ mid, (lo + hi) / 2 = mid := ⟨_, rfl⟩
      have hm1 : lo ≤ mid := by omega
      have hm2 : mid < hi := by omega
      have hw1 : IntKind.i64.wrap ((lo : Int) + (hi : Int)) = (lo : Int) + (hi : Int) := by rw [IntKind.wrap_i64]; omega
      have HME := hide (show ((lo : Int) + (hi : Int)) / 2 = (mid : Int) by omega)
      have u0 : (0 : Int) ≤ ((lo : Int) + (hi : Int)) / 2 := by omega
      have u1 : ((lo : Int) + (hi : Int)) / 2 < (m : Int) := by omega
      have u2 : (((lo : Int) + (hi : Int)) / 2).toNat = mid := by omega
      have hjl : mid < l.length := by rw [HM.out]; omega
      obtain ⟨g, off, xs, e2, hg', hxl, hc, hR⟩ := (HL.out wr HB.out).at_ hjl
      cases e2
      have HYS := hide (fun h => up_take HS.out hjl (s := ps) h)
      have HNO := hide (fun h => up_drop HS.out hjl (s := ps) h)
      have HIN := hide (HR.out _ (List.getElem_mem hjl))
      obtain ⟨n, hn⟩ : ∃ n, l[mid] = n := ⟨_, rfl⟩
      rw [hn] at hR HYS HNO HIN
      obtain ⟨rfl, -⟩ := hR
      have k0 := hc 0 _ rfl
      have k1 := hc 1 _ rfl
      rw [Nat.add_zero] at k0
      have HC := hide (fun w' => HAD.out w' n HIN.out)
      clear hn hc hxl hmid
      go_wp2_with fail
      go_region_held3 (fun w' => (w'.cell? ⟨g, off + mid * 2, none⟩ = some (.int .i64 n.s) ∧ w'.cell? ⟨g, off + mid * 2 + 1, none⟩ = some (.int .i64 n.t)) ∧ w'.cell? ⟨w.heap.size, 0, none⟩ = some (.int .i64 ps) ∧ w'.cell? ⟨w.heap.size, 1, none⟩ = some (.int .i64 pt))
        (first
          | with_reducible exact ⟨⟨keep1 hb9 k0, keep1 hb9 k1⟩, keep1 hb9 y0, keep1 hb9 y1⟩
          | (go_keep; done))
        ((go_at_call 123; refine (HC.out _).mono ?_; rintro en w9 ⟨rfl, hg9⟩; have hb9 : Below wr.heap.size wr w9 := below_undrew hg9))
      have HB9 := hide (bthen HB.out hb9)
      have HP9 := hide (HPX.out.keep hb9)
      clear hb9
      by_cases hc : n.s < ps
      · have t1 : decide (n.s - ps < 0) = true := decide_eq_true (by omega)
        have HE := hide (HYS.out hc)
        go_wp2
        go_roundw
        case rel => exact ⟨mid + 1, hi, by omega, h2, by rw [HME.out]; go_num, rfl, HE, HHI, HP9, HB9⟩
        case measure => have := HME.out; simp [intOf]; omega
      · have t1 : decide (n.s - ps < 0) = false := decide_eq_false (by omega)
        have HE := hide (HNO.out (by omega))
        go_wp2
        go_roundw
        case rel => exact ⟨lo, mid, hm1, by omega, rfl, by rw [HME.out], HLO, HE, HP9, HB9⟩
        case measure => have := HME.out; simp [intOf]; omega
    · obtain rfl : lo = hi := by omega
      by_cases hlm : lo < m
      · have hjl : lo < l.length := by rw [HM.out]; omega
        obtain ⟨g, off, xs, e2, hg', hxl, hc, hR⟩ := (HL.out wr HB.out).at_ hjl
        cases e2
        have HIN := hide (HR.out _ (List.getElem_mem hjl))
        obtain ⟨n, hn⟩ : ∃ n, l[lo] = n := ⟨_, rfl⟩
        rw [hn] at hR HIN
        obtain ⟨rfl, -⟩ := hR
        have k0 := hc 0 _ rfl
        have k1 := hc 1 _ rfl
        rw [Nat.add_zero] at k0
        have HC := hide (fun w' => HAD.out w' n HIN.out)
        have u0 : (0 : Int) ≤ (lo : Int) := by omega
        have u1 : (lo : Int) < (m : Int) := by omega
        have t1 : decide ((lo : Int) < (m : Int)) = true := decide_eq_true u1
        clear hn hc hxl
        go_wp2_with fail
        go_region_held3 (fun w' => (w'.cell? ⟨g, off + lo * 2, none⟩ = some (.int .i64 n.s) ∧ w'.cell? ⟨g, off + lo * 2 + 1, none⟩ = some (.int .i64 n.t)) ∧ w'.cell? ⟨w.heap.size, 0, none⟩ = some (.int .i64 ps) ∧ w'.cell? ⟨w.heap.size, 1, none⟩ = some (.int .i64 pt))
          (first
            | with_reducible exact ⟨⟨keep1 hb9 k0, keep1 hb9 k1⟩, keep1 hb9 y0, keep1 hb9 y1⟩
            | (go_keep; done))
          ((go_at_call 123; refine (HC.out _).mono ?_; rintro en w9 ⟨rfl, hg9⟩; have hb9 : Below wr.heap.size wr w9 := below_undrew hg9))
        go_wp2
        go_ret2
        exact ⟨lo, _, by rw [HM.out]; omega, rfl, HLO.out, HHI.out, bthen HB.out hb9⟩
      · obtain rfl : lo = m := by omega
        have t1 : decide ((lo : Int) < (lo : Int)) = false := decide_eq_false (by omega)
        go_wp2_with fail
        go_region
        all_goals
          go_wp2
          go_ret2
          exact ⟨lo, _, by rw [HM.out]; omega, rfl, HLO.out, HHI.out, HB.out.drew⟩
end
end Go.Proofs.YtppaiihcaajkaaaGreat
