/- channel: empty, item, items, order: written by genCh.py. channel: Check of the play's queues. channel: find. channel: copied. -/
import Derived.Test.YtppaiihcaajkaaaGreatXAll
import Derived.Test.YtppaiihcaajkaaaGreatKOwnM
import Derived.Deep.CutRange
import Derived.Deep.RegionHeld3
import Derived.Deep.RegionWith
import Derived.Test.YtppaiihcaajkaaaGreatKWmM
namespace Go.Proofs.YtppaiihcaajkaaaGreat
open Go.RowKit
set_option linter.unusedVariables false
set_option linter.unusedSimpArgs false
def EmpE (x : Evt) : Prop := x.a = 0 ∧ x.b = 0 ∧ x.c = 0 ∧ x.d = 0 ∧ x.vs = []
def ItemOK (x : Itm) : Prop := (x.k = 0 ∧ x.n = 0) ∨ (x.k = 1 ∧ (0 ≤ x.n ∧ x.n ≤ 1099511627776) ∧ EmpE x.e) ∨ (x.k = 2 ∧ (1 ≤ x.n ∧ x.n ≤ 1099511627776) ∧ EmpE x.e)
def cmpI (a b : Int) : Int := if a < b then -1 else if b < a then 1 else 0
def ordQ (a b c d : Int) : Int := if cmpI a c ≠ 0 then cmpI a c else cmpI b d
section
variable (w : World)
set_option maxHeartbeats 4000000 in
theorem cempty_any (A : Option Addr) (c : Nat) : Calls Tryz.prog 87 #[.agg #[.int .i64 0, .int .i64 0, .int .i64 0, .int .i64 0, .slice A 0 c]] w (Ret (.bool true) w) := by
  go_enter Tryz.func87, Tryz.ntmps87
  go_wp2
  go_ret
  exact ⟨rfl, below_laid _⟩
set_option maxRecDepth 100000 in
set_option maxHeartbeats 8000000 in
theorem citem_any (x : Itm) (A : Option Addr) (c : Nat) (h : ItemOK x) : Calls Tryz.prog 75 #[.agg #[.int .i64 x.k, .int .i64 x.e.a, .int .i64 x.e.b, .int .i64 x.e.c, .int .i64 x.e.d, .slice A x.e.vs.length c, .int .i64 x.n]] w (Ret (.int .i64 0) w) := by
  obtain ⟨k, ⟨a, b, c', d, vs⟩, n⟩ := x
  have HE := hide (fun w1 => cempty_any w1 A c)
  rcases h with ⟨h1, h2⟩ | ⟨h1, ⟨h2, h3⟩, h4⟩ | ⟨h1, ⟨h2, h3⟩, h4⟩
  · simp only at h1 h2
    subst h1 h2
    simp only
    go_enter Tryz.func75, Tryz.ntmps75
    go_wp2
    all_goals go_ret
    all_goals exact ⟨rfl, below_laid _⟩
  · obtain ⟨e1, e2, e3, e4, e5⟩ := h4
    simp only at h1 h2 h3 e1 e2 e3 e4 e5
    subst h1 e1 e2 e3 e4 e5
    simp only [List.length_nil]
    have t1 : decide (n < 0) = false := decide_eq_false (by omega)
    have t2 : decide ((1099511627776 : Int) < n) = false := decide_eq_false (by omega)
    go_enter Tryz.func75, Tryz.ntmps75
    go_wp2_with (go_at_call 87; refine (HE.out _).mono ?_; rintro e1 w1 ⟨rfl, hb1⟩)
    all_goals go_ret
    all_goals exact ⟨rfl, bthen (below_laid _) hb1⟩
  · obtain ⟨e1, e2, e3, e4, e5⟩ := h4
    simp only at h1 h2 h3 e1 e2 e3 e4 e5
    subst h1 e1 e2 e3 e4 e5
    simp only [List.length_nil]
    have t1 : decide (n < 1) = false := decide_eq_false (by omega)
    have t2 : decide ((1099511627776 : Int) < n) = false := decide_eq_false (by omega)
    go_enter Tryz.func75, Tryz.ntmps75
    go_wp2_with (go_at_call 87; refine (HE.out _).mono ?_; rintro e1 w1 ⟨rfl, hb1⟩)
    all_goals go_ret
    all_goals exact ⟨rfl, bthen (below_laid _) hb1⟩
set_option maxRecDepth 100000 in
set_option maxHeartbeats 8000000 in
theorem citems_any (W0 : World) (l : List Itm) (A : Option Addr) (c : Nat) (hl : Lst w (· < w.heap.size) 7 (RIt W0) (.slice A l.length c) l) (hok : ∀ x ∈ l, ItemOK x) : Calls Tryz.prog 56 #[.slice A l.length c] w (Ret (.int .i64 0) w) := by
  have HL := hide (fun (w1 : World) (hb : Below w.heap.size w w1) => hl.below rd_It hb)
  have HO := hide hok
  have hlen := hl.len
  unfold maxLen at hlen
  obtain ⟨m, hm⟩ : ∃ m, l.length = m := ⟨_, rfl⟩
  have HM := hide hm
  simp only [hm] at HL hlen ⊢
  clear hl hok hm
  go_enter Tryz.func56, Tryz.ntmps56
  go_wp2
  go_loopw [8] (fun i wr => ∃ j : Nat, j ≤ m ∧ i = .int .i64 j ∧ Hid (Below w.heap.size w wr)) (fun i _ => m - (intOf i).toNat)
  case atStart => exact ⟨0, by omega, rfl, hide (Below.refl _ _)⟩
  case round =>
    obtain ⟨j, hj, rfl, HB⟩ := hrel
    by_cases hlt : j < m
    · have hjl : j < l.length := by rw [HM.out]; exact hlt
      obtain ⟨g, off, xs, e2, hg, hxl, hc, hR⟩ := (HL.out wr HB.out).at_ hjl
      cases e2
      have hxo := HO.out _ (List.getElem_mem hjl)
      obtain ⟨x, hx⟩ : ∃ x, l[j] = x := ⟨_, rfl⟩
      rw [hx] at hR hxo
      obtain ⟨A1, c1, rfl, -, -⟩ := hR
      have HC := hide (fun (w1 : World) => citem_any w1 x A1 c1 hxo)
      have k0 := hc 0 _ rfl
      have k1 := hc 1 _ rfl
      have k2 := hc 2 _ rfl
      have k3 := hc 3 _ rfl
      have k4 := hc 4 _ rfl
      have k5 := hc 5 _ rfl
      have k6 := hc 6 _ rfl
      rw [Nat.add_zero] at k0
      have hu0 : (0 : Int) ≤ (j : Int) := by omega
      have hu1 : (j : Int) < (m : Int) := by omega
      obtain ⟨k, ⟨a, b, c', d, vs⟩, n⟩ := x
      simp only at k0 k1 k2 k3 k4 k5 k6 HC
      obtain ⟨el, hel⟩ : ∃ el, vs.length = el := ⟨_, rfl⟩
      simp only [hel] at k5 HC
      clear hx hc hxl hxo hel
      go_wp2_with (go_at_call 75; refine (HC.out _).mono ?_; rintro e1 w1 ⟨rfl, hb1⟩; have HB1 := hide (bthen HB.out (bthen (below_laid _) hb1)); clear hb1)
      go_roundw
      case rel => exact ⟨j + 1, by omega, by go_num, HB1⟩
      case measure => simp [intOf]; omega
    · obtain rfl : j = m := by omega
      go_wp2
      go_ret
      exact ⟨rfl, HB.out⟩
set_option maxHeartbeats 4000000 in
theorem isnan_any (a : Int) : Calls Tryz.prog 92 #[.int .i64 a] w (RetS (.bool false) w w) := by
  go_enter Tryz.func92, Tryz.ntmps92
  go_wp2
  go_ret
  exact ⟨rfl, rfl⟩
set_option maxHeartbeats 4000000 in
theorem cmp_any (a b : Int) : Calls Tryz.prog 78 #[.int .i64 a, .int .i64 b] w (RetS (.int .i64 (cmpI a b)) w w) := by
  have HN := hide (fun w1 a => isnan_any w1 a)
  unfold cmpI
  by_cases h : a < b
  · rw [if_pos h]
    have t1 : decide (a < b) = true := decide_eq_true h
    go_enter Tryz.func78, Tryz.ntmps78
    go_wp2_with (go_at_call 92; refine (HN.out _ _).mono ?_; rintro e1 w1 ⟨rfl, rfl⟩)
    go_ret
    exact ⟨rfl, rfl⟩
  · rw [if_neg h]
    have t1 : decide (a < b) = false := decide_eq_false h
    by_cases h2 : b < a
    · rw [if_pos h2]
      have t2 : decide (b < a) = true := decide_eq_true h2
      go_enter Tryz.func78, Tryz.ntmps78
      go_wp2_with (go_at_call 92; refine (HN.out _ _).mono ?_; rintro e1 w1 ⟨rfl, rfl⟩)
      go_ret
      exact ⟨rfl, rfl⟩
    · rw [if_neg h2]
      have t2 : decide (b < a) = false := decide_eq_false h2
      go_enter Tryz.func78, Tryz.ntmps78
      go_wp2_with (go_at_call 92; refine (HN.out _ _).mono ?_; rintro e1 w1 ⟨rfl, rfl⟩)
      go_ret
      exact ⟨rfl, rfl⟩
set_option maxRecDepth 100000 in
set_option maxHeartbeats 8000000 in
theorem or2_any (g a b : Int) (p : Nat) (h0 : w.cell? ⟨p, 0, none⟩ = some (.int .i64 a)) (h1 : w.cell? ⟨p, 1, none⟩ = some (.int .i64 b)) : Calls Tryz.prog 77 #[.slice (some ⟨p, 0, none⟩) 2 2] w (RetS (.int .i64 (if a ≠ 0 then a else b)) w w) := by
  obtain ⟨R, hR⟩ : ∃ R, (if a ≠ 0 then a else b) = R := ⟨_, rfl⟩
  have HR := hide hR
  rw [hR]
  clear hR
  go_enter Tryz.func77, Tryz.ntmps77
  go_wp2
  go_loopw [8] (fun i wr => ∃ j : Nat, j ≤ 2 ∧ i = .int .i64 j ∧ Hid (0 < j → a = 0) ∧ Hid (1 < j → b = 0) ∧ wr = w) (fun i _ => 2 - (intOf i).toNat)
  case atStart => exact ⟨0, by omega, rfl, hide (fun h => absurd h (by decide)), hide (fun h => absurd h (by decide)), rfl⟩
  case round =>
    obtain ⟨j, hj, rfl, H1, H2, rfl⟩ := hrel
    rcases (by omega : j = 0 ∨ j = 1 ∨ j = 2) with rfl | rfl | rfl
    · by_cases ha : a = 0
      · have HA := hide ha
        subst ha
        go_wp2
        go_roundw
        case rel => exact ⟨1, by omega, by first | rfl | go_num, hide (fun _ => by first | trivial | rfl), hide (fun h => absurd h (by decide)), by first | trivial | rfl⟩
        case measure => simp [intOf]
      · have t1 : (a != 0) = true := bne_iff_ne.2 ha
        have HE := hide (show a = R by rw [← HR.out, if_pos ha])
        go_wp2
        go_ret
        exact ⟨by rw [HE.out]; rfl, rfl⟩
    · have ha := H1.out (by decide)
      by_cases hb : b = 0
      · have HBZ := hide hb
        subst hb
        go_wp2
        go_roundw
        case rel => exact ⟨2, by omega, by first | rfl | go_num, hide (fun _ => ha), hide (fun _ => by first | trivial | rfl), by first | trivial | rfl⟩
        case measure => simp [intOf]
      · have t1 : (b != 0) = true := bne_iff_ne.2 hb
        have HE := hide (show b = R by rw [← HR.out, if_neg (by simp [ha])])
        go_wp2
        go_ret
        exact ⟨by rw [HE.out]; rfl, rfl⟩
    · have ha := H1.out (by decide)
      have hb := H2.out (by decide)
      have HE := hide (show (0 : Int) = R by rw [← HR.out, if_neg (by simp [ha]), hb])
      go_wp2
      go_ret
      exact ⟨by rw [HE.out]; rfl, rfl⟩
set_option maxRecDepth 100000 in
set_option maxHeartbeats 8000000 in
theorem corder_any (a b c d : Int) (A B : Option Addr) (la lb ca cb : Nat) : Calls Tryz.prog 60 #[.agg #[.int .i64 a, .int .i64 b, .slice A la ca], .agg #[.int .i64 c, .int .i64 d, .slice B lb cb]] w (Ret (.int .i64 (ordQ a b c d)) w) := by
  obtain ⟨X1, hX1⟩ : ∃ X, X = w.alloc (.cells #[.int .i64 a, .int .i64 b, .slice A la ca] 88) := ⟨_, rfl⟩
  have hB1 : Below w.heap.size w X1 := by rw [hX1]; exact below_laid _
  have hsz1 : X1.heap.size = w.heap.size + 1 := by rw [hX1]; simp
  have hbx := Bl.new w [.int .i64 a, .int .i64 b, .slice A la ca] 88
  rw [← hX1] at hbx
  obtain ⟨W2, hW2⟩ : ∃ X, X = X1.alloc (.cells #[.int .i64 c, .int .i64 d, .slice B lb cb] 88) := ⟨_, rfl⟩
  have hbz := Bl.new X1 [.int .i64 c, .int .i64 d, .slice B lb cb] 88
  rw [← hW2, hsz1] at hbz
  have HX := hide (show Bl W2 w.heap.size [.int .i64 a, .int .i64 b, .slice A la ca] by rw [hW2]; exact hbx.laid _)
  have HZ := hide hbz
  have HB := hide (show Below w.heap.size w W2 by rw [hW2]; exact bthen hB1 (below_laid _))
  have HWW := hide (show (w.alloc (.cells #[.int .i64 a, .int .i64 b, .slice A la ca] 88)).alloc (.cells #[.int .i64 c, .int .i64 d, .slice B lb cb] 88) = W2 by rw [hW2, hX1])
  obtain ⟨R, hR⟩ : ∃ R, ordQ a b c d = R := ⟨_, rfl⟩
  have HR := hide (show (if cmpI a c ≠ 0 then cmpI a c else cmpI b d) = R from hR)
  rw [hR]
  clear hX1 hB1 hsz1 hbx hW2 hbz hR
  go_enter Tryz.func60, Tryz.ntmps60
  go_upto_region 1 with (fail)
  rw [HWW.out]
  clear HWW
  refine wp_region_grow 12 [5, 6, 7, 8, 9, 10, 11, 12, 13, 14, 15, 16] [FixV (.pointer (some ⟨w.heap.size, 0, none⟩)), FixV (.int .i64 a), FixV (.pointer (some ⟨w.heap.size + 1, 0, none⟩)), FixV (.int .i64 c), FixV (.int .i64 (cmpI a c)), FixV (.pointer (some ⟨w.heap.size, 1, none⟩)), FixV (.int .i64 b), FixV (.pointer (some ⟨w.heap.size + 1, 1, none⟩)), FixV (.int .i64 d), FixV (.int .i64 (cmpI b d)), fun w5 v => ∃ p, v = .slice (some ⟨p, 0, none⟩) 2 2 ∧ Bl w5 p [.int .i64 (cmpI a c), .int .i64 (cmpI b d)], FixV (.int .i64 R)] (by kernel_rfl) (by kernel_rfl) (by kernel_rfl) (by kernel_rfl) (by kernel_rfl) ?_ ?_ ?_
  · intro p hp
    simp only [List.mem_cons, List.not_mem_nil, or_false] at hp
    rcases hp with rfl | rfl | rfl | rfl | rfl | rfl | rfl | rfl | rfl | rfl | rfl | rfl
    all_goals first | exact (fun _ _ _ _ h => h) | exact (fun _ _ _ hb ⟨p, e, h⟩ => ⟨p, e, h.keep hb⟩)
  · intro j9 o9 hj9 ho x w5 hb hd
    have hjc : j9 = 0 ∨ j9 = 1 ∨ j9 = 2 ∨ j9 = 3 ∨ j9 = 4 ∨ j9 = 5 ∨ j9 = 6 ∨ j9 = 7 ∨ j9 = 8 ∨ j9 = 9 ∨ j9 = 10 ∨ j9 = 11 := by omega
    have hbw := bthen HB.out hb
    have hz5 := hb.size
    have x0 := keep1 hb (HX.out.c 0 _ rfl)
    have y0 := keep1 hb (HZ.out.c 0 _ rfl)
    have x1 := keep1 hb (HX.out.c 1 _ rfl)
    have y1 := keep1 hb (HZ.out.c 1 _ rfl)
    rcases hjc with rfl | rfl | rfl | rfl | rfl | rfl | rfl | rfl | rfl | rfl | rfl | rfl
    all_goals obtain rfl := Option.some.inj ho
    all_goals generalize hK : (fun (a' : Act) (w' : World) => _) = K
    all_goals simp only [puts]
    · go_simp
      rw [← hK]
      exact ⟨.pointer (some ⟨w.heap.size, 0, none⟩), (by simp only [puts]; go_simp), Below.refl _ _, rfl⟩
    · have e5 : x 5 = .pointer (some ⟨w.heap.size, 0, none⟩) := hd 0 (by kernel_rfl)
      go_simp
      rw [← hK]
      exact ⟨.int .i64 a, (by simp only [puts]; go_simp), Below.refl _ _, rfl⟩
    · go_simp
      rw [← hK]
      exact ⟨.pointer (some ⟨w.heap.size + 1, 0, none⟩), (by simp only [puts]; go_simp), Below.refl _ _, rfl⟩
    · have e7 : x 7 = .pointer (some ⟨w.heap.size + 1, 0, none⟩) := hd 2 (by kernel_rfl)
      go_simp
      rw [← hK]
      exact ⟨.int .i64 c, (by simp only [puts]; go_simp), Below.refl _ _, rfl⟩
    · have e6 : x 6 = .int .i64 a := hd 1 (by kernel_rfl)
      have e8 : x 8 = .int .i64 c := hd 3 (by kernel_rfl)
      go_simp
      go_at_call 78
      refine (cmp_any w5 a c).mono ?_
      rintro en9 w10 ⟨rfl, rfl⟩
      rw [← hK]
      exact ⟨_, (by simp only [puts]; go_simp), Below.refl _ _, rfl⟩
    · go_simp
      rw [← hK]
      exact ⟨.pointer (some ⟨w.heap.size, 1, none⟩), (by simp only [puts]; go_simp), Below.refl _ _, rfl⟩
    · have e10 : x 10 = .pointer (some ⟨w.heap.size, 1, none⟩) := hd 5 (by kernel_rfl)
      go_simp
      rw [← hK]
      exact ⟨.int .i64 b, (by simp only [puts]; go_simp), Below.refl _ _, rfl⟩
    · go_simp
      rw [← hK]
      exact ⟨.pointer (some ⟨w.heap.size + 1, 1, none⟩), (by simp only [puts]; go_simp), Below.refl _ _, rfl⟩
    · have e12 : x 12 = .pointer (some ⟨w.heap.size + 1, 1, none⟩) := hd 7 (by kernel_rfl)
      go_simp
      rw [← hK]
      exact ⟨.int .i64 d, (by simp only [puts]; go_simp), Below.refl _ _, rfl⟩
    · have e11 : x 11 = .int .i64 b := hd 6 (by kernel_rfl)
      have e13 : x 13 = .int .i64 d := hd 8 (by kernel_rfl)
      go_simp
      go_at_call 78
      refine (cmp_any w5 b d).mono ?_
      rintro en9 w10 ⟨rfl, rfl⟩
      rw [← hK]
      exact ⟨_, (by simp only [puts]; go_simp), Below.refl _ _, rfl⟩
    · have e9 : x 9 = .int .i64 (cmpI a c) := hd 4 (by kernel_rfl)
      have e14 : x 14 = .int .i64 (cmpI b d) := hd 9 (by kernel_rfl)
      go_simp
      rw [← hK]
      exact ⟨.slice (some ⟨w5.heap.size, 0, none⟩) 2 2, (by simp only [puts]; go_simp), below_laid _, w5.heap.size, rfl, Bl.new w5 [.int .i64 (cmpI a c), .int .i64 (cmpI b d)] 3⟩
    · have p15 : (fun w5 v => ∃ p, v = .slice (some ⟨p, 0, none⟩) 2 2 ∧ Bl w5 p [.int .i64 (cmpI a c), .int .i64 (cmpI b d)]) w5 (x 15) := hd 10 (by kernel_rfl)
      with_reducible obtain ⟨p, e15, hbl⟩ := p15
      have HOR := hide (or2_any w5 0 (cmpI a c) (cmpI b d) p (hbl.c 0 _ rfl) (hbl.c 1 _ rfl))
      rw [HR.out] at HOR
      go_simp
      go_at_call 77
      refine HOR.out.mono ?_
      rintro en9 w10 ⟨rfl, rfl⟩
      rw [← hK]
      exact ⟨_, (by simp only [puts]; go_simp), Below.refl _ _, rfl⟩
  · intro x w9 hb hP
    have e5 : x 5 = .pointer (some ⟨w.heap.size, 0, none⟩) := hP 0 (by decide)
    have e6 : x 6 = .int .i64 a := hP 1 (by decide)
    have e7 : x 7 = .pointer (some ⟨w.heap.size + 1, 0, none⟩) := hP 2 (by decide)
    have e8 : x 8 = .int .i64 c := hP 3 (by decide)
    have e9 : x 9 = .int .i64 (cmpI a c) := hP 4 (by decide)
    have e10 : x 10 = .pointer (some ⟨w.heap.size, 1, none⟩) := hP 5 (by decide)
    have e11 : x 11 = .int .i64 b := hP 6 (by decide)
    have e12 : x 12 = .pointer (some ⟨w.heap.size + 1, 1, none⟩) := hP 7 (by decide)
    have e13 : x 13 = .int .i64 d := hP 8 (by decide)
    have e14 : x 14 = .int .i64 (cmpI b d) := hP 9 (by decide)
    have p15 : (fun w5 v => ∃ p, v = .slice (some ⟨p, 0, none⟩) 2 2 ∧ Bl w5 p [.int .i64 (cmpI a c), .int .i64 (cmpI b d)]) w9 (x 15) := hP 10 (by decide)
    have e16 : x 16 = .int .i64 R := hP 11 (by decide)
    simp only [puts, Act.put, List.setIfInBounds_toArray, List.set_cons_succ, List.set_cons_zero, List.drop]
    have HB9 := hide (bthen HB.out hb)
    clear hP hb p15
    go_wp2
    go_ret
    exact ⟨congrArg Ending.returned e16, HB9.out⟩
end
end Go.Proofs.YtppaiihcaajkaaaGreat

namespace Go.Proofs.YtppaiihcaajkaaaGreat
open Go.RowKit
set_option linter.unusedVariables false
set_option linter.unusedSimpArgs false
/-- The queues of two readers and two workers. -/
structure QsOK (qs : List Que) : Prop where
  len : qs.length = 4
  ft : ∀ j (h : j < qs.length), qs[j].f = ((j / 2 : Nat) : Int) ∧ qs[j].t = ((j % 2 : Nat) : Int)
  it : ∀ q ∈ qs, ∀ x ∈ q.l, ItemOK x
  few : ∀ q ∈ qs, q.l.length ≤ 4000
/-- At most four queues, in order. -/
structure QsW (qs : List Que) : Prop where
  le : qs.length ≤ 4
  ft : ∀ j (h : j < qs.length), qs[j].f = ((j / 2 : Nat) : Int) ∧ qs[j].t = ((j % 2 : Nat) : Int)
  it : ∀ q ∈ qs, ∀ x ∈ q.l, ItemOK x
  few : ∀ q ∈ qs, q.l.length ≤ 4000
theorem QsOK.w {qs : List Que} (h : QsOK qs) : QsW qs := ⟨Nat.le_of_eq h.len, h.ft, h.it, h.few⟩
theorem ord_lt {i j : Nat} (h : i < j) (hj : j < 4) : ordQ ((i / 2 : Nat) : Int) ((i % 2 : Nat) : Int) ((j / 2 : Nat) : Int) ((j % 2 : Nat) : Int) = -1 := by
  have hi : i = 0 ∨ i = 1 ∨ i = 2 := by omega
  have hjc : j = 1 ∨ j = 2 ∨ j = 3 := by omega
  rcases hi with rfl | rfl | rfl <;> rcases hjc with rfl | rfl | rfl <;> first | decide | omega
theorem ord_gt {i j : Nat} (h : i < j) (hj : j < 4) : ordQ ((j / 2 : Nat) : Int) ((j % 2 : Nat) : Int) ((i / 2 : Nat) : Int) ((i % 2 : Nat) : Int) = 1 := by
  have hi : i = 0 ∨ i = 1 ∨ i = 2 := by omega
  have hjc : j = 1 ∨ j = 2 ∨ j = 3 := by omega
  rcases hi with rfl | rfl | rfl <;> rcases hjc with rfl | rfl | rfl <;> first | decide | omega
theorem ord_eq (a b : Int) : ordQ a b a b = 0 := by simp [ordQ, cmpI]
section
variable (w : World)
set_option maxRecDepth 100000 in
set_option maxHeartbeats 16000000 in
theorem ccheckw_any (W0 : World) (qs : List Que) (A : Option Addr) (c : Nat) (hl : Lst w (· < w.heap.size) 3 (RQu W0) (.slice A qs.length c) qs) (hok : QsW qs) : Calls Tryz.prog 51 #[.slice A qs.length c] w (Ret (.int .i64 0) w) := by
  have HL := hide (fun (w1 : World) (hb : Below w.heap.size w w1) => hl.below rd_Qu hb)
  have HO := hide hok
  obtain ⟨m, hm⟩ : ∃ m, qs.length = m := ⟨_, rfl⟩
  have hm4 : m ≤ 4 := by rw [← hm]; exact hok.le
  have HM := hide hm
  simp only [hm] at HL ⊢
  clear hl hok hm
  go_enter Tryz.func51, Tryz.ntmps51
  go_wp2
  go_loopw [8] (fun i wr => ∃ j : Nat, j ≤ m ∧ i = .int .i64 j ∧ Hid (Below w.heap.size w wr)) (fun i _ => m - (intOf i).toNat)
  case atStart => exact ⟨0, by omega, rfl, hide (Below.refl _ _)⟩
  case round =>
    obtain ⟨j, hj, rfl, HB⟩ := hrel
    by_cases hlt : j < m
    · have hjl : j < qs.length := by rw [HM.out]; exact hlt
      obtain ⟨g, off, xs, e2, hg, hxl, hc, hR⟩ := (HL.out wr HB.out).at_ hjl
      cases e2
      have hft := HO.out.ft j hjl
      have hit := HO.out.it _ (List.getElem_mem hjl)
      have hfw := HO.out.few _ (List.getElem_mem hjl)
      obtain ⟨q, hq⟩ : ∃ q, qs[j] = q := ⟨_, rfl⟩
      rw [hq] at hR hft hit hfw
      obtain ⟨v, rfl, hlq, -, -⟩ := hR
      obtain ⟨A1, c1, rfl⟩ := hlq.form
      have HIT := hide (fun (w1 : World) (hb : Below wr.heap.size wr w1) => citems_any w1 W0 q.l A1 c1 (hlq.below rd_It hb) hit)
      have HPR := hide (show ∀ i, j = i + 1 → ∃ A2 n2 c2, wr.cell? ⟨g, off + i * 3, none⟩ = some (.int .i64 ((i / 2 : Nat) : Int)) ∧ wr.cell? ⟨g, off + i * 3 + 1, none⟩ = some (.int .i64 ((i % 2 : Nat) : Int)) ∧ wr.cell? ⟨g, off + i * 3 + 2, none⟩ = some (.slice A2 n2 c2) from fun i hi => by
        have hil : i < qs.length := by omega
        obtain ⟨-, ys, hyl, hyc, hyR⟩ := (HL.out wr HB.out).at1 hil
        obtain ⟨v', rfl, hl', -, -⟩ := hyR
        obtain ⟨A2, c2, rfl⟩ := hl'.form
        have hf := HO.out.ft i hil
        have y0 := hyc 0 _ rfl
        have y1 := hyc 1 _ rfl
        have y2 := hyc 2 _ rfl
        rw [hf.1, Nat.add_zero] at y0
        rw [hf.2] at y1
        exact ⟨A2, _, c2, y0, y1, y2⟩)
      have k0 := hc 0 _ rfl
      have k1 := hc 1 _ rfl
      have k2 := hc 2 _ rfl
      rw [Nat.add_zero] at k0
      obtain ⟨qf, qt, ql⟩ := q
      simp only at k0 k1 k2 hft hfw HIT
      obtain ⟨rfl, rfl⟩ := hft
      obtain ⟨n1, hn1⟩ : ∃ n1, ql.length = n1 := ⟨_, rfl⟩
      simp only [hn1] at k2 hfw HIT
      have hu0 : (0 : Int) ≤ (j : Int) := by omega
      have hu1 : (j : Int) < (m : Int) := by omega
      clear hq hc hxl hit hlq hn1
      obtain ⟨F, hF⟩ : ∃ F : Int, ((j / 2 : Nat) : Int) = F := ⟨_, rfl⟩
      obtain ⟨T, hT⟩ : ∃ T : Int, ((j % 2 : Nat) : Int) = T := ⟨_, rfl⟩
      have hF0 : 0 ≤ F ∧ F < 8 := by omega
      have hT0 : 0 ≤ T ∧ T < 8 := by omega
      have HF := hide hF
      have HT := hide hT
      rw [hF] at k0
      rw [hT] at k1
      clear hF hT
      obtain ⟨hF0, hF1⟩ := hF0
      obtain ⟨hT0, hT1⟩ := hT0
      have t1 : decide (F < 0) = false := decide_eq_false (by omega)
      have t2 : decide ((8 : Int) ≤ F) = false := decide_eq_false (by omega)
      have t3 : decide (T < 0) = false := decide_eq_false (by omega)
      have t4 : decide ((8 : Int) ≤ T) = false := decide_eq_false (by omega)
      have t5 : decide ((4096 : Int) < (n1 : Int)) = false := decide_eq_false (by omega)
      go_upto_region 6 with (fail)
      obtain ⟨W2, hW2⟩ : ∃ W2, wr.alloc (.cells #[.int .i64 F, .int .i64 T, .slice A1 n1 c1] 88) = W2 := ⟨_, rfl⟩
      have HX := hide (show Bl W2 wr.heap.size [.int .i64 F, .int .i64 T, .slice A1 n1 c1] by rw [← hW2]; exact Bl.new wr [.int .i64 F, .int .i64 T, .slice A1 n1 c1] 88)
      have HBW := hide (show Below wr.heap.size wr W2 by rw [← hW2]; exact below_laid _)
      rw [hW2]
      clear hW2 k0 k1 k2
      have x0 := HX.out.c 0 _ rfl
      have x1 := HX.out.c 1 _ rfl
      have x2 := HX.out.c 2 _ rfl
      go_cut [32] from 33 to 44 (fun p wx => p = .bool false ∧ Hid (Below W2.heap.size W2 wx))
      case first =>
        rcases (show j = 0 ∨ ∃ i, j = i + 1 from by rcases j with _ | i; exact .inl rfl; exact .inr ⟨i, rfl⟩) with rfl | ⟨i, hi⟩
        · go_region
          all_goals go_wp2_with fail
          all_goals go_meet
          all_goals exact ⟨rfl, hide (by first | exact Below.refl _ _ | exact (Below.refl _ _).drew)⟩
        · obtain ⟨A2, n2, c2, y0, y1, y2⟩ := HPR.out i hi
          have y0 := keep1 HBW.out y0
          have y1 := keep1 HBW.out y1
          have y2 := keep1 HBW.out y2
          have hor := ord_lt (i := i) (j := j) (by omega) (by omega)
          rw [HF.out, HT.out] at hor
          obtain ⟨F2, hF2⟩ : ∃ F2 : Int, ((i / 2 : Nat) : Int) = F2 := ⟨_, rfl⟩
          obtain ⟨T2, hT2⟩ : ∃ T2 : Int, ((i % 2 : Nat) : Int) = T2 := ⟨_, rfl⟩
          rw [hF2] at y0 hor
          rw [hT2] at y1 hor
          have HCO := hide (fun w1 => corder_any w1 F2 T2 F T A2 A1 n2 n1 c2 c1)
          rw [hor] at HCO
          clear hor hF2 hT2 HPR
          have hv0 : (0 : Int) ≤ (i : Int) := by omega
          have hv1 : (i : Int) < (m : Int) := by omega
          have hp : decide ((0 : Int) < (j : Int)) = true := decide_eq_true (by omega)
          have hw1 : IntKind.i64.wrap ((j : Int) - 1) = (i : Int) := by rw [IntKind.wrap_i64]; omega
          have hji : 0 < j := by omega
          clear hi hu1
          go_region_held3 (fun w' => w'.cell? ⟨g, off + i * 3, none⟩ = some (.int .i64 F2) ∧ w'.cell? ⟨g, off + i * 3 + 1, none⟩ = some (.int .i64 T2) ∧ w'.cell? ⟨g, off + i * 3 + 2, none⟩ = some (.slice A2 n2 c2) ∧ w'.cell? ⟨wr.heap.size, 0, none⟩ = some (.int .i64 F) ∧ w'.cell? ⟨wr.heap.size, 1, none⟩ = some (.int .i64 T) ∧ w'.cell? ⟨wr.heap.size, 2, none⟩ = some (.slice A1 n1 c1))
            (first | with_reducible exact ⟨keep1 hk y0, keep1 hk y1, keep1 hk y2, keep1 hk x0, keep1 hk x1, keep1 hk x2⟩ | (go_keep; done))
            ((go_at_call 60; refine (HCO.out _).mono ?_; rintro e5 w5 ⟨rfl, hb5⟩; have hk : Below W2.heap.size W2 w5 := below_undrew hb5; clear hb5))
          all_goals go_wp2_with fail
          all_goals go_meet
          all_goals exact ⟨rfl, hide hk⟩
      case rest =>
        obtain ⟨rfl, HBC⟩ := hcut
        have hbc := HBC.out
        have HX3 := hide (HX.out.keep hbc)
        have HB3 := hide (bthen HBW.out hbc)
        have HIT3 := hide (HIT.out wc HB3.out)
        clear hbc x0 x1 x2
        have x2 := HX3.out.c 2 _ rfl
        go_wp2_with (go_at_call 56; refine HIT3.out.mono ?_; rintro e6 w6 ⟨rfl, hb6⟩; have HB6 := hide (bthen HB.out (bthen HB3.out hb6)); clear hb6)
        go_roundw
        case rel => exact ⟨j + 1, by omega, by go_num, HB6⟩
        case measure => simp [intOf]; omega
    · obtain rfl : j = m := by omega
      go_wp2
      go_ret
      exact ⟨rfl, HB.out⟩
theorem ccheck_any (W0 : World) (qs : List Que) (A : Option Addr) (c : Nat) (hl : Lst w (· < w.heap.size) 3 (RQu W0) (.slice A qs.length c) qs) (hok : QsOK qs) : Calls Tryz.prog 51 #[.slice A qs.length c] w (Ret (.int .i64 0) w) := ccheckw_any w W0 qs A c hl hok.w
end
end Go.Proofs.YtppaiihcaajkaaaGreat

namespace Go.Proofs.YtppaiihcaajkaaaGreat
open Go.RowKit
set_option linter.unusedVariables false
set_option linter.unusedSimpArgs false
section
variable (w : World)
set_option maxRecDepth 100000 in
set_option maxHeartbeats 8000000 in
theorem findc_any (f t a b : Int) (A : Option Addr) (n c p q : Nat) (hp : w.cell? ⟨p, 0, none⟩ = some (.int .i64 a)) (hq : w.cell? ⟨q, 0, none⟩ = some (.int .i64 b)) : Calls Tryz.prog 59 #[.agg #[.int .i64 f, .int .i64 t, .slice A n c], .pointer (some ⟨p, 0, none⟩), .pointer (some ⟨q, 0, none⟩)] w (Ret (.int .i64 (ordQ f t a b)) w) := by
  have HO := hide (fun w1 => corder_any w1 f t a b A none n 0 c 0)
  have k0 := keep1 (below_laid (w := w) (.cells #[.int .i64 f, .int .i64 t, .slice A n c] 88)) hp
  have k1 := keep1 (below_laid (w := w) (.cells #[.int .i64 f, .int .i64 t, .slice A n c] 88)) hq
  clear hp hq
  go_enter Tryz.func59, Tryz.ntmps59
  go_upto_region 1 with (fail)
  have HX := hide (Bl.new w [.int .i64 f, .int .i64 t, .slice A n c] 88)
  have HB := hide (below_laid (w := w) (.cells #[.int .i64 f, .int .i64 t, .slice A n c] 88))
  obtain ⟨W1, hW1⟩ : ∃ W1, w.alloc (.cells #[.int .i64 f, .int .i64 t, .slice A n c] 88) = W1 := ⟨_, rfl⟩
  rw [hW1] at HX HB k0 k1 ⊢
  clear hW1
  have x0 := HX.out.c 0 _ rfl
  have x1 := HX.out.c 1 _ rfl
  have x2 := HX.out.c 2 _ rfl
  go_wp2_with (go_at_call 60; refine (HO.out _).mono ?_; rintro e1 w1 ⟨rfl, hb1⟩)
  go_ret
  exact ⟨rfl, bthen HB.out hb1⟩
/-- The index of a queue. -/
def RetFd (i : Nat) (w : World) (e : Ending) (w' : World) : Prop := e = .returned (.tuple #[.int .i64 i, .bool true]) ∧ Below w.heap.size w w'
set_option maxRecDepth 100000 in
set_option maxHeartbeats 16000000 in
theorem csearch_any (W0 : World) (qs : List Que) (A : Option Addr) (c p q ix : Nat) (hl : Lst w (· < w.heap.size) 3 (RQu W0) (.slice A qs.length c) qs) (hok : QsOK qs) (hix : ix < 4) (hp : w.cell? ⟨p, 0, none⟩ = some (.int .i64 ((ix / 2 : Nat) : Int))) (hq : w.cell? ⟨q, 0, none⟩ = some (.int .i64 ((ix % 2 : Nat) : Int))) :
    Calls Tryz.prog 58 #[.slice A qs.length c, .func (.func 59) #[] #[.pointer (some ⟨p, 0, none⟩), .pointer (some ⟨q, 0, none⟩)]] w (RetFd ix w) := by
  have HL := hide (fun (w1 : World) (hb : Below w.heap.size w w1) => hl.below rd_Qu hb)
  have HO := hide hok
  have hm : qs.length = 4 := hok.len
  have HM := hide hm
  have HF := hide (fun (w1 : World) (hb : Below w.heap.size w w1) (f t : Int) (A : Option Addr) (n c : Nat) => findc_any w1 f t _ _ A n c p q (keep1 hb hp) (keep1 hb hq))
  simp only [hm] at HL ⊢
  clear hl hok hm hp hq
  go_enter Tryz.func58, Tryz.ntmps58
  go_wp2
  go_loopw [6, 7] (fun x y wr => ∃ (lo hi : Nat), lo ≤ ix ∧ ix < hi ∧ hi ≤ 4 ∧ x = .int .i64 lo ∧ y = .int .i64 hi ∧ Hid (Below w.heap.size w wr)) (fun x y _ => ((intOf y) - (intOf x)).toNat)
  case atStart => exact ⟨0, 4, by omega, hix, by omega, rfl, rfl, hide (Below.refl _ _)⟩
  case round =>
    obtain ⟨lo, hi, h1, h2, h3, rfl, rfl, HB⟩ := hrel
    have hu1 : (lo : Int) < (hi : Int) := by omega
    obtain ⟨mid, hmid⟩ : ∃ mid, (lo + hi) / 2 = mid := ⟨_, rfl⟩
    have hm1 : lo ≤ mid := by omega
    have hm2 : mid < hi := by omega
    have hw1 : IntKind.i64.wrap ((lo : Int) + (hi : Int)) = (lo : Int) + (hi : Int) := by rw [IntKind.wrap_i64]; omega
    have HME := hide (show ((lo : Int) + (hi : Int)) / 2 = (mid : Int) by omega)
    have u0 : (0 : Int) ≤ ((lo : Int) + (hi : Int)) / 2 := by omega
    have u1 : ((lo : Int) + (hi : Int)) / 2 < 4 := by omega
    have u2 : (((lo : Int) + (hi : Int)) / 2).toNat = mid := by omega
    have hjl : mid < qs.length := by rw [HM.out]; omega
    obtain ⟨g, off, xs, e2, hg, hxl, hc, hR⟩ := (HL.out wr HB.out).at_ hjl
    cases e2
    have hft := HO.out.ft mid hjl
    obtain ⟨qq, hqq⟩ : ∃ q, qs[mid] = q := ⟨_, rfl⟩
    rw [hqq] at hR hft
    obtain ⟨v, rfl, hlq, -, -⟩ := hR
    obtain ⟨A1, c1, rfl⟩ := hlq.form
    have k0 := hc 0 _ rfl
    have k1 := hc 1 _ rfl
    have k2 := hc 2 _ rfl
    rw [Nat.add_zero] at k0
    have HC := hide (HF.out wr HB.out qq.f qq.t A1 qq.l.length c1)
    rw [hft.1] at k0
    rw [hft.2] at k1
    rw [hft.1, hft.2] at HC
    obtain ⟨n1, hn1⟩ : ∃ n1, qq.l.length = n1 := ⟨_, rfl⟩
    simp only [hn1] at k2 HC
    obtain ⟨F, hF⟩ : ∃ F : Int, ((mid / 2 : Nat) : Int) = F := ⟨_, rfl⟩
    obtain ⟨T, hT⟩ : ∃ T : Int, ((mid % 2 : Nat) : Int) = T := ⟨_, rfl⟩
    have HMF := hide hmid
    clear hqq hc hxl hlq hft hn1 hmid
    have HCM := hide (show (mid < ix ∧ ordQ ((mid / 2 : Nat) : Int) ((mid % 2 : Nat) : Int) ((ix / 2 : Nat) : Int) ((ix % 2 : Nat) : Int) = -1) ∨ (mid = ix ∧ ordQ ((mid / 2 : Nat) : Int) ((mid % 2 : Nat) : Int) ((ix / 2 : Nat) : Int) ((ix % 2 : Nat) : Int) = 0) ∨ (ix < mid ∧ ordQ ((mid / 2 : Nat) : Int) ((mid % 2 : Nat) : Int) ((ix / 2 : Nat) : Int) ((ix % 2 : Nat) : Int) = 1) by
      rcases Nat.lt_trichotomy mid ix with h | h | h
      · exact .inl ⟨h, ord_lt h (by omega)⟩
      · exact .inr (.inl ⟨h, by rw [h]; exact ord_eq _ _⟩)
      · exact .inr (.inr ⟨h, ord_gt h (by omega)⟩))
    generalize hO : ordQ ((mid / 2 : Nat) : Int) ((mid % 2 : Nat) : Int) ((ix / 2 : Nat) : Int) ((ix % 2 : Nat) : Int) = O at HC HCM
    rw [hF] at k0 HC
    rw [hT] at k1 HC
    clear hF hT hO
    rcases HCM.out with ⟨hlt, rfl⟩ | ⟨heq, rfl⟩ | ⟨hgt, rfl⟩
    · go_wp2_with (go_at_call 59; refine HC.out.mono ?_; rintro e1 w1 ⟨rfl, hb1⟩; have HB1 := hide (bthen HB.out hb1); clear hb1)
      go_roundw
      case rel => exact ⟨mid + 1, hi, by omega, h2, h3, by rw [HME.out]; go_num, rfl, HB1⟩
      case measure => have := HME.out; simp [intOf]; omega
    · have HEQ := hide heq
      clear heq
      go_wp2_with (go_at_call 59; refine HC.out.mono ?_; rintro e1 w1 ⟨rfl, hb1⟩; have HB1 := hide (bthen HB.out hb1); clear hb1)
      go_ret2
      exact ⟨by rw [HME.out, HEQ.out]; rfl, HB1.out⟩
    · go_wp2_with (go_at_call 59; refine HC.out.mono ?_; rintro e1 w1 ⟨rfl, hb1⟩; have HB1 := hide (bthen HB.out hb1); clear hb1)
      go_roundw
      case rel => exact ⟨lo, mid, h1, by omega, by omega, rfl, by rw [HME.out], HB1⟩
      case measure => have := HME.out; simp [intOf]; omega
set_option maxRecDepth 100000 in
set_option maxHeartbeats 16000000 in
theorem cfind_any (W0 : World) (qs : List Que) (A : Option Addr) (c ix : Nat) (hl : Lst w (· < w.heap.size) 3 (RQu W0) (.slice A qs.length c) qs) (hok : QsOK qs) (hix : ix < 4) :
    Calls Tryz.prog 41 #[.slice A qs.length c, .int .i64 ((ix / 2 : Nat) : Int), .int .i64 ((ix % 2 : Nat) : Int)] w (Ret (.tuple #[.int .i64 (ix : Int), .int .i64 0]) w) := by
  have HCK := hide (fun (w1 : World) (hb : Below w.heap.size w w1) => ccheck_any w1 W0 qs A c (hl.below rd_Qu hb) hok)
  have HSE := hide (fun (w1 : World) (p q : Nat) (hb : Below w.heap.size w w1) hp hq => csearch_any w1 W0 qs A c p q ix (hl.below rd_Qu hb) hok hix hp hq)
  obtain ⟨F, hF⟩ : ∃ F : Int, ((ix / 2 : Nat) : Int) = F := ⟨_, rfl⟩
  obtain ⟨T, hT⟩ : ∃ T : Int, ((ix % 2 : Nat) : Int) = T := ⟨_, rfl⟩
  simp only [hF, hT] at HSE ⊢
  have hm : qs.length = 4 := hok.len
  simp only [hm] at HCK HSE ⊢
  clear hF hT hm hl hok
  obtain ⟨X1, hX1⟩ : ∃ X, X = w.alloc (.cells #[.int .i64 F] 3) := ⟨_, rfl⟩
  have hB1 : Below w.heap.size w X1 := by rw [hX1]; exact below_laid _
  have hsz1 : X1.heap.size = w.heap.size + 1 := by rw [hX1]; simp
  have hbx := Bl.new w [.int .i64 F] 3
  rw [← hX1] at hbx
  obtain ⟨W2, hW2⟩ : ∃ X, X = X1.alloc (.cells #[.int .i64 T] 3) := ⟨_, rfl⟩
  have hbz := Bl.new X1 [.int .i64 T] 3
  rw [← hW2, hsz1] at hbz
  have HX := hide (show Bl W2 w.heap.size [.int .i64 F] by rw [hW2]; exact hbx.laid _)
  have HZ := hide hbz
  have HB := hide (show Below w.heap.size w W2 by rw [hW2]; exact bthen hB1 (below_laid _))
  have HWW := hide (show (w.alloc (.cells #[.int .i64 F] 3)).alloc (.cells #[.int .i64 T] 3) = W2 by rw [hW2, hX1])
  clear hX1 hB1 hsz1 hbx hW2 hbz
  go_enter Tryz.func41, Tryz.ntmps41
  go_upto_region 1 with (fail)
  rw [HWW.out]
  clear HWW
  have HCK1 := hide (HCK.out W2 HB.out)
  go_wp2_with fail
  refine HCK1.out.mono ?_
  rintro e1 w1 ⟨rfl, hb1⟩
  have HB1 := hide (bthen HB.out hb1)
  have HSE1 := hide (HSE.out w1 w.heap.size (w.heap.size + 1) HB1.out (keep1 hb1 (HX.out.c 0 _ rfl)) (keep1 hb1 (HZ.out.c 0 _ rfl)))
  clear hb1 HSE HCK HCK1
  go_wp2_with (go_at_call 58; refine HSE1.out.mono ?_; rintro e2 w2 ⟨rfl, hb2⟩; have HB2 := hide (bthen HB1.out hb2); clear hb2)
  go_ret2
  exact ⟨rfl, HB2.out⟩
end
end Go.Proofs.YtppaiihcaajkaaaGreat

namespace Go.Proofs.YtppaiihcaajkaaaGreat
open Go.RowKit
set_option linter.unusedVariables false
set_option linter.unusedSimpArgs false
/-- Queues of own memory: the first n have items of their own. -/
structure Cq (w : World) (base : Nat) (W0 : World) (g c n : Nat) (vs : Nat → Value) (qs : List Que) : Prop where
  row : ∃ xs, w.ownsRow base 88 3 (.slice (some ⟨g, 0, none⟩) 4 c) 4 xs ∧ ∀ j (h : j < qs.length), xs[j * 3]? = some (.int .i64 qs[j].f) ∧ xs[j * 3 + 1]? = some (.int .i64 qs[j].t) ∧ xs[j * 3 + 2]? = some (vs j)
  it : ∀ j (h : j < qs.length), j < n → Gq w (fun _ => True) base 58 7 (RIt W0) (vs j) qs[j].l ∧ (vs j).ownBlock ≠ some g
  old : ∀ j (h : j < qs.length), n ≤ j → Lst w (· < base) 7 (RIt W0) (vs j) qs[j].l
  ne : ∀ j k, j < n → k < n → j ≠ k → ∀ b, (vs j).ownBlock = some b → (vs k).ownBlock ≠ some b
theorem Cq.keep {w w' : World} {base : Nat} {W0 : World} {g c n : Nat} {vs : Nat → Value} {qs : List Que} (h : Cq w base W0 g c n vs qs) (hb : Below w.heap.size w w') : Cq w' base W0 g c n vs qs := by
  obtain ⟨⟨xs, h1, h2⟩, h3, h4, h5⟩ := h
  exact ⟨⟨xs, own_keep h1 hb, h2⟩, fun j hj hn => ⟨(h3 j hj hn).1.keep rd_It hb, (h3 j hj hn).2⟩, fun j hj hn => (h4 j hj hn).keep rd_It (Kp.of_below hb), h5⟩
def RetCq (W0 : World) (qs : List Que) (w : World) (e : Ending) (w' : World) : Prop := ∃ g c vs, e = .returned (.slice (some ⟨g, 0, none⟩) 4 c) ∧ Cq w' w.heap.size W0 g c 4 vs qs ∧ Below w.heap.size w w'
theorem one_It {W0 : World} : One (RIt W0) := by
  rintro w Z xs x ⟨A, c, rfl, -, -⟩ u hu
  simp at hu
  rcases hu with rfl | rfl | rfl | rfl | rfl | rfl | rfl <;> rfl
theorem one_Qu {W0 : World} : One (RQu W0) := by
  rintro w Z xs x ⟨v, rfl, h, -⟩ u hu
  obtain ⟨A, c, rfl⟩ := h.form
  simp at hu
  rcases hu with rfl | rfl | rfl <;> rfl
/-- One more queue has items of its own. -/
theorem Cq.next {w w' : World} {base : Nat} {W0 : World} {g c n : Nat} {vs : Nat → Value} {qs : List Que} {v9 : Value} {cells : List (List Value)} (h : Cq w base W0 g c n vs qs) (hn : n < qs.length) (hg : g < w.heap.size) (hbase : base ≤ w.heap.size) (hb : Below w.heap.size w w')
    (hown : w'.ownsRow w.heap.size 58 7 v9 cells.length cells.flatten) (hcl : cells.length = qs[n].l.length) (hall : ∀ c ∈ cells, c.length = 7) {w1 : World} {Z1 : Nat → Prop} (hce : ∀ j (hj : j < qs[n].l.length), ∃ xs, cells[j]? = some xs ∧ xs.length = 7 ∧ RIt W0 w1 Z1 xs qs[n].l[j]) :
    Cq (w'.setCell ⟨g, n * 3 + 2, none⟩ v9) base W0 g c (n + 1) (fun k => if k = n then v9 else vs k) qs := by
  have h' := h.keep hb
  obtain ⟨⟨xs, h1, h2⟩, h3, h4, h5⟩ := h'
  have h6 := h1.stored (n * 3 + 2) v9
  have hlow := hown.lt
  have hv9 : v9.ownBlock ≠ some g := fun e => by have := (hlow g e).1; omega
  have hgq : Gq w' (fun _ => True) base 58 7 (RIt W0) v9 qs[n].l := by
    rw [hcl] at hown
    exact ⟨cells.flatten, own_more hown hbase, fun _ _ => trivial, fun j hj => by
      obtain ⟨ys, e1, e2, e3⟩ := hce j hj
      exact ⟨ys, e2, flat_put cells j ys hall e1, e3⟩⟩
  have hset : ∀ {v : Value} {l : List Itm}, Gq w' (fun _ => True) base 58 7 (RIt W0) v l → v.ownBlock ≠ some g → Gq (w'.setCell ⟨g, n * 3 + 2, none⟩ v9) (fun _ => True) base 58 7 (RIt W0) v l := by
    intro v l hq hne
    obtain ⟨ys, e1, -, e3⟩ := hq
    exact ⟨ys, own_set (p := ⟨g, n * 3 + 2, none⟩) e1 hne _, fun _ _ => trivial, fun j hj => by
      obtain ⟨zs, f1, f2, f3⟩ := e3 j hj
      exact ⟨zs, f1, f2, f3⟩⟩
  have hxl := h1.1
  refine ⟨⟨_, h6.1, fun j hj => ?_⟩, fun j hj hjn => ?_, fun j hj hjn => ?_, fun j k hj hk hne b hjb hkb => ?_⟩
  · obtain ⟨a1, a2, a3⟩ := h2 j hj
    by_cases e : j = n
    · subst e
      rw [List.getElem?_set_ne (by omega), List.getElem?_set_ne (by omega), List.getElem?_set_self (by have := (List.getElem?_eq_some_iff.1 a3).1; omega), if_pos rfl]
      exact ⟨a1, a2, rfl⟩
    · rw [List.getElem?_set_ne (by omega), List.getElem?_set_ne (by omega), List.getElem?_set_ne (by omega), if_neg e]
      exact ⟨a1, a2, a3⟩
  · by_cases e : j = n
    · subst e
      rw [if_pos rfl]
      exact ⟨hset hgq hv9, hv9⟩
    · rw [if_neg e]
      have := h3 j hj (by omega)
      exact ⟨hset this.1 this.2, this.2⟩
  · rw [if_neg (by omega)]
    have hgb := (h1.lt g rfl).1
    exact (h4 j hj (by omega)).keep rd_It (Kp.set ⟨g, n * 3 + 2, none⟩ _ fun b hb => by show b ≠ g; omega)
  · by_cases ej : j = n
    · rw [if_pos ej] at hjb
      rw [if_neg (by omega)] at hkb
      have h7 := ((h.it k (by omega) (by omega)).1.low b hkb).2
      have := (hlow b hjb).1
      omega
    · rw [if_neg ej] at hjb
      by_cases ek : k = n
      · rw [if_pos ek] at hkb
        have h7 := ((h.it j (by omega) (by omega)).1.low b hjb).2
        have := (hlow b hkb).1
        omega
      · rw [if_neg ek] at hkb
        exact h5 j k (by omega) (by omega) hne b hjb hkb
section
variable (w : World)
set_option maxRecDepth 100000 in
set_option maxHeartbeats 16000000 in
theorem ccopied_any (W0 : World) (qs : List Que) (A : Option Addr) (c : Nat) (hl : Lst w (· < w.heap.size) 3 (RQu W0) (.slice A qs.length c) qs) (hok : QsOK qs) : Calls Tryz.prog 42 #[.slice A qs.length c] w (RetCq W0 qs w) := by
  obtain ⟨cl, hcl, hcll, hcle⟩ := lst_raw one_Qu hl
  have hm : qs.length = 4 := hok.len
  have HCL := hide (qclone_any A c cl w _ (by rw [hcll]; exact hcl) (by omega))
  rw [hcll] at HCL
  have HCE := hide hcle
  have HCA := hide (raw_len_all hcl)
  have HCN := hide hcll
  have HO := hide hok
  have HM := hide hm
  simp only [hm] at HCL ⊢
  clear hl hok hm hcl hcll hcle
  go_enter Tryz.func42, Tryz.ntmps42
  go_wp2_with (go_at_call 61; refine HCL.out.mono ?_; rintro e1 w1 ⟨v1, rfl, hown, hb1⟩; have HOW := hide hown; have HB1 := hide hb1; clear hown hb1; have hform := own_form HOW.out; obtain ⟨A1, c1, rfl⟩ := hform)
  have hrow := HOW.out
  rw [HCN.out, HM.out] at hrow
  rw [HCN.out, HM.out]
  obtain ⟨g, rfl⟩ : ∃ g, A1 = some ⟨g, 0, none⟩ := by
    rcases hrow.2 with ⟨e, h0⟩ | ⟨g, cap, cur, e, -⟩
    · omega
    · injection e with e; exact ⟨g, e⟩
  have hgl := hrow.lt g rfl
  have HC0 := hide (show ∃ vs, Cq w1 w.heap.size W0 g c1 0 vs qs from by
    have hV : ∀ j (hj : j < qs.length), ∃ v, cl[j]? = some [.int .i64 qs[j].f, .int .i64 qs[j].t, v] ∧ Lst w1 (· < w.heap.size) 7 (RIt W0) v qs[j].l := fun j hj => by
      obtain ⟨xs, e1, e2, v, rfl, h3, -⟩ := HCE.out j hj
      exact ⟨v, e1, h3.keep rd_It (Kp.of_below HB1.out)⟩
    refine ⟨fun j => if hj : j < qs.length then Classical.choose (hV j hj) else undef, ⟨_, hrow, fun j hj => ?_⟩, fun j hj h => absurd h (by omega), fun j hj _ => ?_, fun j k h => absurd h (by omega)⟩
    · have h1 := Classical.choose_spec (hV j hj)
      have h2 := flat_put cl j _ HCA.out h1.1
      simp only [dif_pos hj]
      exact ⟨h2 0 _ rfl, h2 1 _ rfl, h2 2 _ rfl⟩
    · simp only [dif_pos hj]
      exact (Classical.choose_spec (hV j hj)).2)
  have HGL := hide hgl
  clear hrow hgl HOW HCL
  go_wp2
  have e4 : ((4 : Nat) : Int) = 4 := rfl
  simp only [e4]
  clear e4
  go_loopw [9] (fun i wr => ∃ j : Nat, j ≤ 4 ∧ i = .int .i64 j ∧ Hid (∃ vs, Cq wr w.heap.size W0 g c1 j vs qs) ∧ Hid (Below w.heap.size w wr) ∧ Hid (w1.heap.size ≤ wr.heap.size)) (fun i _ => 4 - (intOf i).toNat)
  case atStart => exact ⟨0, by omega, rfl, HC0, HB1, hide (Nat.le_refl _)⟩
  case round =>
    obtain ⟨j, hj, rfl, HC, HB, HSZ⟩ := hrel
    have hcq := HC.out
    obtain ⟨vs, hcq⟩ := hcq
    have HCQ := hide hcq
    clear hcq
    by_cases hlt : j < 4
    · have hjl : j < qs.length := by rw [HM.out]; exact hlt
      obtain ⟨xs, hrow, hxs⟩ := HCQ.out.row
      have hold := HCQ.out.old j hjl (Nat.le_refl _)
      have hfw := HO.out.few _ (List.getElem_mem hjl)
      obtain ⟨A2, c2, hv⟩ := hold.form
      have k0 := own_cell hrow (hxs j hjl).1
      have k1 := own_cell hrow (hxs j hjl).2.1
      have k2 := own_cell hrow (hxs j hjl).2.2
      have hfr := hrow.frozenAt (j * 3 + 2)
      have hcap : 4 ≤ c1 := by
        rcases hrow.2 with ⟨e, -⟩ | ⟨g', cap', cur, e, -, -, hnc, -⟩
        · cases e
        · cases e; exact hnc
      rw [hv] at k2 hold
      obtain ⟨ci, hci, hcil, hcie⟩ := lst_raw one_It hold
      have HCI := hide (itclone_any A2 c2 ci wr _ (by rw [hcil]; exact hci) (by omega))
      rw [hcil] at HCI
      have HIE := hide hcie
      have HIA := hide (raw_len_all hci)
      have HIN := hide hcil
      have hgw : g < wr.heap.size := Nat.lt_of_lt_of_le HGL.out.2 HSZ.out
      have HGW := hide hgw
      obtain ⟨n2, hn2⟩ : ∃ n2, qs[j].l.length = n2 := ⟨_, rfl⟩
      simp only [hn2] at k2 HCI
      have hu0 : (0 : Int) ≤ (j : Int) := by omega
      have hu1 : (j : Int) < 4 := by omega
      clear hrow hxs hold hfw hv hci hcil hcie hn2 hgw
      go_wp2_with (go_at_call 62; refine HCI.out.mono ?_; rintro e2 w2 ⟨v9, rfl, hown, hb2⟩; have hnx := HCQ.out.next hjl HGW.out HB.out.size hb2 hown HIN.out HIA.out HIE.out; have k2' := keep1 hb2 k2; have hfr' := ((bcell hb2).2 g (j * 3 + 2) HGW.out).trans hfr; have hf9 := own_form hown; obtain ⟨A9, c9, rfl⟩ := hf9; have HNX := hide hnx; have HB2 := hide (bthen HB.out hb2); have HS2 := hide (Nat.le_trans HSZ.out hb2.size); clear hown hb2 hnx)
      go_roundw
      case rel => exact ⟨j + 1, by omega, by go_num, hide ⟨_, HNX.out⟩, hide (HB2.out.setCell (p := ⟨g, j * 3 + 2, none⟩) HGL.out.1 _), hide (by simpa [World.setCell] using HS2.out)⟩
      case measure => simp [intOf]; omega
    · obtain rfl : j = 4 := by omega
      go_wp2
      go_ret
      exact ⟨g, c1, vs, rfl, HCQ.out, HB.out⟩
end
end Go.Proofs.YtppaiihcaajkaaaGreat
