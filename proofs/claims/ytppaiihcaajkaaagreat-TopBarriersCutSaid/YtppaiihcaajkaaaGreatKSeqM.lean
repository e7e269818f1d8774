/- sequence: Check, has, Has, place. sequence: place, has, Has. -/
import Derived.Test.YtppaiihcaajkaaaGreatKBaseM
import Derived.Deep.RegionHeld3
import Derived.Test.YtppaiihcaajkaaaGreatKRefM
namespace Go.Proofs.YtppaiihcaajkaaaGreat
open Go.RowKit
set_option linter.unusedVariables false
set_option linter.unusedSimpArgs false
def RetZ (p : Prop) (w : World) (e : Ending) (w' : World) : Prop := ∃ n : Int, e = .returned (.int .i64 n) ∧ (n = 0 ↔ p) ∧ Below w.heap.size w w'
def upI : Int → List Int → Prop
  | _, [] => True
  | p, n :: l => 0 ≤ n ∧ n ≤ 1099511627776 ∧ p < n ∧ upI n l
def SeqOK (x : Trk) : Prop := 0 ≤ x.next ∧ x.next ≤ 1099511627777 ∧ x.beyond.length ≤ 256 ∧ upI x.next x.beyond
theorem drop_at {α : Type} {l : List α} {j : Nat} (h : j < l.length) : l.drop j = l[j] :: l.drop (j + 1) := List.drop_eq_getElem_cons h
/-- The cells of a tracker. -/
theorem TrV.box {w : World} {A : Option Addr} {a : Nat} {B : Option Addr} {b : Nat} {x : Trk} (h : TrV w (· < w.heap.size) A a B b x) (o : Obj) : TrV (w.alloc o) (· < (w.alloc o).heap.size) A a B b x := h.below (below_laid o)
section
variable (w : World)
set_option maxRecDepth 100000 in
set_option maxHeartbeats 8000000 in
theorem seqcheck_any (x : Trk) (A B : Option Addr) (a b : Nat) (hx : TrV w (· < w.heap.size) A a B b x) : Calls Tryz.prog 93 #[.agg #[.int .i64 x.next, .slice A x.beyond.length a, .slice B x.points.length b, .int .i64 x.mark]] w (RetZ (SeqOK x) w) := by
  have HV := hide (hx.box (.cells #[.int .i64 x.next, .slice A x.beyond.length a, .slice B x.points.length b, .int .i64 x.mark] 33)).u
  have hlen := hx.u.len
  unfold maxLen at hlen
  obtain ⟨next, beyond, points, mark⟩ := x
  simp only at HV hlen ⊢
  obtain ⟨m, hm⟩ : ∃ m, beyond.length = m := ⟨_, rfl⟩
  obtain ⟨OK, hOK⟩ : ∃ OK, SeqOK ⟨next, beyond, points, mark⟩ = OK := ⟨_, rfl⟩
  have HO := hide (show (0 ≤ next ∧ next ≤ 1099511627777 ∧ beyond.length ≤ 256 ∧ upI next beyond) = OK from hOK)
  rw [hm] at HV hlen HO ⊢
  have HM := hide hm
  rw [hOK]
  clear hx hm hOK
  by_cases h1 : 0 ≤ next ∧ next ≤ 1099511627777
  · obtain ⟨h1, h2⟩ := h1
    by_cases h3 : m ≤ 256
    · have t3 : decide ((256 : Int) < (m : Int)) = false := decide_eq_false (by omega)
      go_enter Tryz.func93, Tryz.ntmps93
      go_wp2
      go_loop [3, 25] (fun l i => ∃ (j : Nat) (p : Int), j ≤ m ∧ i = .int .i64 j ∧ l = .int .i64 p ∧ Hid (upI next beyond ↔ upI p (beyond.drop j))) (fun _ i => m - (intOf i).toNat)
      case atStart => exact ⟨0, next, by omega, rfl, rfl, hide (by simp)⟩
      case round =>
        obtain ⟨j, p, hj, rfl, rfl, HU⟩ := hrel
        by_cases hlt : j < m
        · have hjl : j < beyond.length := by rw [HM.out]; exact hlt
          obtain ⟨g, off, xs, e2, hg, hxl, hc, hR⟩ := HV.out.at_ hjl
          cases e2
          have HD := hide (drop_at hjl)
          obtain ⟨n, hn⟩ : ∃ n, beyond[j] = n := ⟨_, rfl⟩
          rw [hn] at hR HD
          have HU2 := hide (show upI next beyond ↔ (0 ≤ n ∧ n ≤ 1099511627776 ∧ p < n ∧ upI n (beyond.drop (j + 1))) by rw [HU.out, HD.out]; rfl)
          obtain ⟨rfl, hni⟩ := hR
          have k0 := hc 0 _ rfl
          rw [Nat.mul_one, Nat.add_zero] at k0
          have hu0 : (0 : Int) ≤ (j : Int) := by omega
          have hu1 : (j : Int) < (m : Int) := by omega
          clear hn hc hxl
          by_cases h4 : 0 ≤ n ∧ n ≤ 1099511627776
          · obtain ⟨h4, h5⟩ := h4
            have t4 : decide (n < 0) = false := decide_eq_false (by omega)
            have t5 : decide ((1099511627776 : Int) < n) = false := decide_eq_false (by omega)
            by_cases h6 : p < n
            · have t6 : decide (n ≤ p) = false := decide_eq_false (by omega)
              have HU3 := hide (show upI next beyond ↔ upI n (beyond.drop (j + 1)) by rw [HU2.out]; exact ⟨fun h => h.2.2.2, fun h => ⟨h4, h5, h6, h⟩⟩)
              go_wp2
              go_round
              case rel => exact ⟨j + 1, n, by omega, by go_num, rfl, HU3⟩
              case measure => simp [intOf]; omega
            · have t6 : decide (n ≤ p) = true := decide_eq_true (by omega)
              have HF := hide (show ¬ OK by rw [← HO.out, HU2.out]; exact fun h => h6 h.2.2.2.2.2.1)
              go_wp2
              go_ret
              exact ⟨14, rfl, by simp [HF.out], below_laid _⟩
          · have HF := hide (show ¬ OK by rw [← HO.out, HU2.out]; exact fun h => h4 ⟨h.2.2.2.1, h.2.2.2.2.1⟩)
            rcases (by omega : n < 0 ∨ (0 ≤ n ∧ 1099511627776 < n)) with h5 | ⟨h5, h6⟩
            · have t4 : decide (n < 0) = true := decide_eq_true (by omega)
              go_wp2
              all_goals (go_ret; exact ⟨2, rfl, by simp [HF.out], below_laid _⟩)
            · have t4 : decide (n < 0) = false := decide_eq_false (by omega)
              have t5 : decide ((1099511627776 : Int) < n) = true := decide_eq_true (by omega)
              go_wp2
              all_goals (go_ret; exact ⟨2, rfl, by simp [HF.out], below_laid _⟩)
        · obtain rfl : j = m := by omega
          have HT := hide (show OK by
            rw [← HO.out]
            refine ⟨h1, h2, h3, HU.out.2 ?_⟩
            rw [List.drop_eq_nil_of_le (by rw [HM.out]; exact Nat.le_refl _)]
            trivial)
          go_wp2
          go_ret
          exact ⟨0, rfl, by simp [HT.out], below_laid _⟩
    · have t3 : decide ((256 : Int) < (m : Int)) = true := decide_eq_true (by omega)
      have HF := hide (show ¬ OK by rw [← HO.out]; exact fun h => h3 h.2.2.1)
      go_enter Tryz.func93, Tryz.ntmps93
      go_wp2
      all_goals (go_ret; exact ⟨5, rfl, by simp [HF.out], below_laid _⟩)
  · have HF := hide (show ¬ OK by rw [← HO.out]; exact fun h => h1 ⟨h.1, h.2.1⟩)
    rcases (by omega : next < 0 ∨ (0 ≤ next ∧ 1099511627777 < next)) with h5 | ⟨h5, h6⟩
    · go_enter Tryz.func93, Tryz.ntmps93
      go_wp2
      all_goals (go_ret; exact ⟨2, rfl, by simp [HF.out], below_laid _⟩)
    · go_enter Tryz.func93, Tryz.ntmps93
      go_wp2
      all_goals (go_ret; exact ⟨2, rfl, by simp [HF.out], below_laid _⟩)
end
end Go.Proofs.YtppaiihcaajkaaaGreat

namespace Go.Proofs.YtppaiihcaajkaaaGreat
open Go.RowKit
set_option linter.unusedVariables false
set_option linter.unusedSimpArgs false
/-- A number from 0 to n. -/
def RetUp (n : Nat) (w : World) (e : Ending) (w' : World) : Prop := ∃ i : Nat, i ≤ n ∧ e = .returned (.int .i64 i) ∧ Below w.heap.size w w'
/-- A flag and an error. -/
def RetBE (w : World) (e : Ending) (w' : World) : Prop := ∃ (b : Bool) (n : Int), e = .returned (.tuple #[.bool b, .int .i64 n]) ∧ Below w.heap.size w w'
/-- A flag for which P. -/
def RetBP (P : Bool → Prop) (w : World) (e : Ending) (w' : World) : Prop := ∃ b, e = .returned (.bool b) ∧ P b ∧ Below w.heap.size w w'
/-- A flag and an error for which P. -/
def RetBEP (P : Bool → Int → Prop) (w : World) (e : Ending) (w' : World) : Prop := ∃ (b : Bool) (n : Int), e = .returned (.tuple #[.bool b, .int .i64 n]) ∧ P b n ∧ Below w.heap.size w w'
section
variable (w : World)
set_option maxRecDepth 100000 in
set_option maxHeartbeats 4000000 in
theorem placeb_any (l : List Int) (A : Option Addr) (a i b c : Nat) (n : Int) (hl : Lst w (· < w.heap.size) 1 RIn (.slice A l.length a) l) (hi : i < l.length) (hb : w.cell? ⟨b, 0, none⟩ = some (.slice A l.length a)) (hc : w.cell? ⟨c, 0, none⟩ = some (.int .i64 n)) :
    Calls Tryz.prog 133 #[.int .i64 i, .pointer (some ⟨b, 0, none⟩), .pointer (some ⟨c, 0, none⟩)] w (RetB w) := by
  obtain ⟨g, off, xs, rfl, hg, hxl, hcc, hR⟩ := hl.at_ hi
  obtain ⟨x, hx⟩ : ∃ x, l[i] = x := ⟨_, rfl⟩
  rw [hx] at hR
  obtain ⟨rfl, -⟩ := hR
  have k0 := hcc 0 _ rfl
  rw [Nat.mul_one, Nat.add_zero] at k0
  have hlen := hl.len
  unfold maxLen at hlen
  obtain ⟨m, hm⟩ : ∃ m, l.length = m := ⟨_, rfl⟩
  rw [hm] at hb hi hlen
  have hu0 : (0 : Int) ≤ (i : Int) := by omega
  have hu1 : (i : Int) < (m : Int) := by omega
  clear hx hcc hxl hl hm
  go_enter Tryz.func133, Tryz.ntmps133
  go_wp2_with fail
  go_region
  all_goals
    go_wp2
    go_ret
    exact ⟨_, rfl, (Below.refl _ _).drew⟩
set_option maxRecDepth 100000 in
set_option maxHeartbeats 8000000 in
theorem ssearch_any (l : List Int) (A : Option Addr) (a b c : Nat) (n : Int) (hl : Lst w (· < w.heap.size) 1 RIn (.slice A l.length a) l) (hb : w.cell? ⟨b, 0, none⟩ = some (.slice A l.length a)) (hc : w.cell? ⟨c, 0, none⟩ = some (.int .i64 n)) (hm4 : l.length ≤ 100000) :
    Calls Tryz.prog 132 #[.int .i64 l.length, .func (.func 133) #[] #[.pointer (some ⟨b, 0, none⟩), .pointer (some ⟨c, 0, none⟩)]] w (RetUp l.length w) := by
  have HP := hide (fun (w' : World) (i : Nat) (hB : Below w.heap.size w w') (hi : i < l.length) => placeb_any w' l A a i b c n (hl.below rd_In hB) hi (keep1 hB hb) (keep1 hB hc))
  obtain ⟨m, hm⟩ : ∃ m, l.length = m := ⟨_, rfl⟩
  rw [hm] at HP hm4 ⊢
  clear hl hb hc hm
  go_enter Tryz.func132, Tryz.ntmps132
  go_wp2
  go_loopw [5, 6] (fun x y wr => ∃ (lo hi : Nat), lo ≤ hi ∧ hi ≤ m ∧ x = .int .i64 lo ∧ y = .int .i64 hi ∧ Hid (Below w.heap.size w wr)) (fun x y _ => ((intOf y) - (intOf x)).toNat)
  case atStart => exact ⟨0, m, by omega, by omega, rfl, rfl, hide (Below.refl _ _)⟩
  case round =>
    obtain ⟨lo, hi, h1, h2, rfl, rfl, HB⟩ := hrel
    by_cases hlt : lo < hi
    · have hu1 : (lo : Int) < (hi : Int) := by omega
      obtain ⟨mid, hmid⟩ : ∃ mid, (lo + hi) / 2 = mid := ⟨_, rfl⟩
      have hm1 : lo ≤ mid := by omega
      have hm2 : mid < hi := by omega
      have hw1 : IntKind.i64.wrap ((lo : Int) + (hi : Int)) = (lo : Int) + (hi : Int) := by rw [IntKind.wrap_i64]; omega
      have hme : ((lo : Int) + (hi : Int)) / 2 = (mid : Int) := by omega
      have HC := hide (show Calls Tryz.prog 133 #[.int .i64 (((lo : Int) + (hi : Int)) / 2), .pointer (some ⟨b, 0, none⟩), .pointer (some ⟨c, 0, none⟩)] wr (RetB wr) by rw [hme]; exact HP.out wr mid HB.out (by omega))
      have HM := hide hme
      clear hmid hme
      go_wp2_with (go_at_call 133; refine HC.out.mono ?_; rintro e1 w1 ⟨t, rfl, hb1⟩; cases t)
      · have HB2 := hide (bthen HB.out hb1)
        go_roundw
        case rel => exact ⟨mid + 1, hi, by omega, h2, by rw [HM.out]; go_num, rfl, HB2⟩
        case measure => have := HM.out; simp [intOf]; omega
      · have HB2 := hide (bthen HB.out hb1)
        go_roundw
        case rel => exact ⟨lo, mid, hm1, by omega, rfl, by rw [HM.out], HB2⟩
        case measure => have := HM.out; simp [intOf]; omega
    · obtain rfl : lo = hi := by omega
      go_wp2
      go_ret
      exact ⟨lo, h2, rfl, HB.out⟩
set_option maxRecDepth 100000 in
set_option maxHeartbeats 4000000 in
theorem place_any (l : List Int) (A : Option Addr) (a : Nat) (n : Int) (hl : Lst w (· < w.heap.size) 1 RIn (.slice A l.length a) l) (hm4 : l.length ≤ 100000) : Calls Tryz.prog 125 #[.slice A l.length a, .int .i64 n] w (RetUp l.length w) := by
  have hB1 := below_laid (w := w) (.cells #[.slice A l.length a] 30)
  have hB2 := bthen hB1 (below_laid (w := w.alloc (.cells #[.slice A l.length a] 30)) (.cells #[.int .i64 n] 3))
  have HS := hide (ssearch_any ((w.alloc (.cells #[.slice A l.length a] 30)).alloc (.cells #[.int .i64 n] 3)) l A a w.heap.size (w.heap.size + 1) n (hl.below rd_In hB2)
    (by rw [World.cell?_alloc_lt _ _ _ (by simp)]; exact cells_lit w [.slice A l.length a] 30 0 _ rfl)
    (by simp) hm4)
  have HB := hide hB2
  obtain ⟨m, hm⟩ : ∃ m, l.length = m := ⟨_, rfl⟩
  rw [hm] at HS HB hm4 ⊢
  clear hl hB1 hB2 hm
  go_enter Tryz.func125, Tryz.ntmps125
  go_wp2_with (go_at_call 132; refine HS.out.mono ?_; rintro e1 w1 ⟨i, hi, rfl, hb1⟩)
  go_ret
  exact ⟨i, hi, rfl, bthen HB.out hb1⟩
set_option maxRecDepth 100000 in
set_option maxHeartbeats 8000000 in
theorem has_any (x : Trk) (A B : Option Addr) (a b : Nat) (n : Int) (hx : TrV w (· < w.heap.size) A a B b x) (hm4 : x.beyond.length ≤ 256) : Calls Tryz.prog 111 #[.agg #[.int .i64 x.next, .slice A x.beyond.length a, .slice B x.points.length b, .int .i64 x.mark], .int .i64 n] w (RetBP (fun f => x.beyond = [] → x.next ≤ n → f = false) w) := by
  have HT := hide (hx.box (.cells #[.int .i64 x.next, .slice A x.beyond.length a, .slice B x.points.length b, .int .i64 x.mark] 33))
  have HBX := hide (below_laid (w := w) (.cells #[.int .i64 x.next, .slice A x.beyond.length a, .slice B x.points.length b, .int .i64 x.mark] 33))
  have HCL := hide (cells_lit w [.int .i64 x.next, .slice A x.beyond.length a, .slice B x.points.length b, .int .i64 x.mark] 33)
  obtain ⟨next, beyond, points, mark⟩ := x
  simp only at HT HBX HCL hm4 ⊢
  obtain ⟨m, hm⟩ : ∃ m, beyond.length = m := ⟨_, rfl⟩
  have HP := hide (place_any (w.alloc (.cells #[.int .i64 next, .slice A beyond.length a, .slice B points.length b, .int .i64 mark] 33)) beyond A a n HT.out.u (by omega))
  have HQ := hide (show ∀ (w1 : World) (i : Nat), Below (w.alloc (.cells #[.int .i64 next, .slice A beyond.length a, .slice B points.length b, .int .i64 mark] 33)).heap.size (w.alloc (.cells #[.int .i64 next, .slice A beyond.length a, .slice B points.length b, .int .i64 mark] 33)) w1 → i ≤ beyond.length → (((0 : Int) ≤ (i : Int) ∧ (i : Int) < (beyond.length : Int)) ∧ ∃ g off y, A = some ⟨g, off, none⟩ ∧ w1.cell? ⟨g, off + i, none⟩ = some (.int .i64 y)) ∨ i = beyond.length from fun w1 i hb hi => by
    rcases Nat.lt_or_ge i beyond.length with hlt | hge
    · obtain ⟨g, off, xs, e2, hg, hxl, hc, hR⟩ := HT.out.u.at_ hlt
      obtain ⟨rfl, -⟩ := hR
      have k0 := keep1 hb (hc 0 _ rfl)
      rw [Nat.mul_one, Nat.add_zero] at k0
      exact .inl ⟨⟨by omega, by omega⟩, g, off, _, e2, k0⟩
    · exact .inr (by omega))
  rw [hm] at HP HQ HBX HCL hm4 ⊢
  have HM := hide hm
  clear hx hm HT
  by_cases h1 : n < next
  · have t1 : decide (n < next) = true := decide_eq_true h1
    go_enter Tryz.func111, Tryz.ntmps111
    go_wp2
    go_ret
    exact ⟨_, rfl, fun _ h => absurd h1 (by omega), HBX.out⟩
  · have t1 : decide (n < next) = false := decide_eq_false h1
    go_enter Tryz.func111, Tryz.ntmps111
    go_wp2_with (go_at_call 125; refine HP.out.mono ?_; rintro e1 w1 ⟨i, hi, rfl, hb1⟩; have c1 := keep1 hb1 (HCL.out 1 _ rfl); have HB2 := hide hb1; rcases HQ.out w1 i hb1 hi with ⟨⟨hu0, hu1⟩, g, off, y, rfl, k0⟩ | rfl; all_goals clear hb1)
    · go_ret
      exact ⟨_, rfl, fun h _ => by rw [← HM.out, h] at hu1; simp at hu1; omega, bthen HBX.out HB2.out⟩
    · go_ret
      exact ⟨_, rfl, fun _ _ => rfl, bthen HBX.out HB2.out⟩
set_option maxRecDepth 100000 in
set_option maxHeartbeats 8000000 in
theorem hasq_any (x : Trk) (A B : Option Addr) (a b : Nat) (n : Int) (hx : TrV w (· < w.heap.size) A a B b x) : Calls Tryz.prog 105 #[.agg #[.int .i64 x.next, .slice A x.beyond.length a, .slice B x.points.length b, .int .i64 x.mark], .int .i64 n] w (RetBEP (fun f e => (SeqOK x → e = 0) ∧ (x.beyond = [] → x.next ≤ n → f = false)) w) := by
  have HS := hide (seqcheck_any (w.alloc (.cells #[.int .i64 x.next, .slice A x.beyond.length a, .slice B x.points.length b, .int .i64 x.mark] 33)) x A B a b (hx.box _))
  have HH := hide (fun (w1 : World) (hb : Below (w.alloc (.cells #[.int .i64 x.next, .slice A x.beyond.length a, .slice B x.points.length b, .int .i64 x.mark] 33)).heap.size (w.alloc (.cells #[.int .i64 x.next, .slice A x.beyond.length a, .slice B x.points.length b, .int .i64 x.mark] 33)) w1) (hok : SeqOK x) => has_any w1 x A B a b n ((hx.box _).below hb) hok.2.2.1)
  have HBX := hide (below_laid (w := w) (.cells #[.int .i64 x.next, .slice A x.beyond.length a, .slice B x.points.length b, .int .i64 x.mark] 33))
  have HCL := hide (cells_lit w [.int .i64 x.next, .slice A x.beyond.length a, .slice B x.points.length b, .int .i64 x.mark] 33)
  obtain ⟨next, beyond, points, mark⟩ := x
  simp only at HS HH HBX HCL ⊢
  clear hx
  go_enter Tryz.func105, Tryz.ntmps105
  go_wp2_with (first
    | (go_at_call 93; refine HS.out.mono ?_; rintro e1 w1 ⟨e, rfl, hok, hb1⟩; have c0 := keep1 hb1 (HCL.out 0 _ rfl); have c1 := keep1 hb1 (HCL.out 1 _ rfl); have c2 := keep1 hb1 (HCL.out 2 _ rfl); have c3 := keep1 hb1 (HCL.out 3 _ rfl); have HB1 := hide hb1; clear hb1; have HOK := hide hok; clear hok; by_cases he : e = 0; all_goals first | (obtain rfl := he; have HH2 := hide (HH.out w1 HB1.out (HOK.out.1 rfl))) | have t1 : (e != 0) = true := bne_iff_ne.2 he)
    | (go_at_call 111; refine HH2.out.mono ?_; rintro e2 w2 ⟨t, rfl, ht, hb2⟩))
  all_goals (go_ret2; first | exact ⟨_, _, rfl, ⟨fun _ => rfl, ht⟩, bthen (bthen HBX.out HB1.out) hb2⟩ | exact ⟨_, _, rfl, ⟨fun h => HOK.out.2 h, fun _ _ => rfl⟩, bthen HBX.out HB1.out⟩)
end
end Go.Proofs.YtppaiihcaajkaaaGreat
