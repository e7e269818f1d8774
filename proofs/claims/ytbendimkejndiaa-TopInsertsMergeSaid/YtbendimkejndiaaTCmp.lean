/- The order of events and of values: what the comparing functions return, the world but for draws and new blocks as it was. -/
import Derived.Test.YtbendimkejndiaaXOrdG
import Derived.Test.YtbendimkejndiaaTPl
namespace Go.Proofs.Ytbendimkejndiaa
open Go.RowKit
set_option linter.unusedVariables false
set_option linter.unusedSimpArgs false
def cmpI (x y : Int) : Int := if x < y then -1 else if y < x then 1 else 0
def or2 (x y : Int) : Int := if x ≠ 0 then x else y
def cmpE (x y : Evt) : Int := or2 (cmpI x.d y.d) (or2 (cmpI x.a y.a) (cmpI x.b y.b))
theorem cmpE_lt {x y : Evt} : cmpE x y < 0 ↔ LtE x y := by
  unfold cmpE or2 cmpI LtE
  (repeat' split) <;> omega
theorem cmpE_gt {x y : Evt} : 0 < cmpE x y ↔ LtE y x := by
  unfold cmpE or2 cmpI LtE
  (repeat' split) <;> omega
/-- e returns v; but for draws and new blocks the world is as it was. -/
def RetG (v : Value) (w : World) (e : Ending) (w' : World) : Prop := e = .returned v ∧ GR w w'
/-- e returns v; the world is as it was. -/
def RetS (v : Value) (w : World) (e : Ending) (w' : World) : Prop := e = .returned v ∧ w' = w
set_option maxHeartbeats 400000 in
theorem isnan_any (x : Int) (w : World) : Calls Try.prog 46 #[.int .i64 x] w (RetS (.bool false) w) := by
  have t0 : (x != x) = false := by simp
  go_enter Try.func46, Try.ntmps46
  go_wp2
  go_ret
  exact ⟨by first | rfl | simp, rfl⟩
set_option maxHeartbeats 1000000 in
theorem ccmp_any (x y : Int) (w : World) : Calls Try.prog 31 #[.int .i64 x, .int .i64 y] w (RetS (.int .i64 (cmpI x y)) w) := by
  have HN := hide isnan_any
  by_cases h1 : x < y
  · have t1 : decide (x < y) = true := decide_eq_true h1
    have HE : Hid (cmpI x y = -1) := hide (if_pos h1)
    rw [HE.out]
    go_enter Try.func31, Try.ntmps31
    go_wp2_with (go_at_call 46; refine (HN.out _ _).mono ?_; rintro e w' ⟨rfl, rfl⟩)
    go_ret
    exact ⟨rfl, rfl⟩
  · have t1 : decide (x < y) = false := decide_eq_false h1
    by_cases h2 : y < x
    · have t2 : decide (y < x) = true := decide_eq_true h2
      have HE : Hid (cmpI x y = 1) := hide (by unfold cmpI; rw [if_neg h1, if_pos h2])
      rw [HE.out]
      go_enter Try.func31, Try.ntmps31
      go_wp2_with (go_at_call 46; refine (HN.out _ _).mono ?_; rintro e w' ⟨rfl, rfl⟩)
      go_ret
      exact ⟨rfl, rfl⟩
    · have t2 : decide (y < x) = false := decide_eq_false h2
      have HE : Hid (cmpI x y = 0) := hide (by unfold cmpI; rw [if_neg h1, if_neg h2])
      rw [HE.out]
      go_enter Try.func31, Try.ntmps31
      go_wp2_with (go_at_call 46; refine (HN.out _ _).mono ?_; rintro e w' ⟨rfl, rfl⟩)
      go_ret
      exact ⟨rfl, rfl⟩
theorem results_c {fn : Func} {p : Tmp} {ty : TypeId} (h : fn.results = #[.cell p ty]) (tmps : Array Value) (P : Program) (w : World) :
    (results fn tmps).run P w = ((asAddr (tmps.getD p undef)).run P w).andThen fun a w₁ => (loadVar ty a).run P w₁ := by
  simp only [results, h]
  simp [Sem.run_bind, Result.andThen]
set_option maxHeartbeats 1000000 in
theorem eref_any (a b c d : Int) (A : Option Addr) (n m : Nat) (w : World) : Calls Try.prog 44 #[.agg #[.int .i64 a, .int .i64 b, .int .i64 c, .int .i64 d, .slice A n m]] w (RetG (.agg #[.int .i64 d, .int .i64 a, .int .i64 b]) w) := by
  go_enter Try.func44, Try.ntmps44
  go_wp2
  refine bodyPost_ret (v := .agg #[.int .i64 d, .int .i64 a, .int .i64 b]) (by rw [results_c rfl]; go_simp) rfl ?_
  exact ⟨rfl, ((GR.refl _).alloc _).alloc _⟩
set_option maxHeartbeats 1000000 in
theorem eof_any (a b c d : Int) (A : Option Addr) (n m : Nat) (w : World) : Calls Try.prog 34 #[.agg #[.int .i64 a, .int .i64 b, .int .i64 c, .int .i64 d, .slice A n m]] w (RetG (.agg #[.int .i64 a, .int .i64 b]) w) := by
  go_enter Try.func34, Try.ntmps34
  go_wp2
  refine bodyPost_ret (v := .agg #[.int .i64 a, .int .i64 b]) (by rw [results_c rfl]; go_simp) rfl ?_
  exact ⟨rfl, ((GR.refl _).alloc _).alloc _⟩
set_option maxHeartbeats 2000000 in
theorem cor_any (x y z : Int) (g off : Nat) (w : World) (h0 : w.cell? ⟨g, off, none⟩ = some (.int .i64 x)) (h1 : w.cell? ⟨g, off + 1, none⟩ = some (.int .i64 y)) (h2 : w.cell? ⟨g, off + 2, none⟩ = some (.int .i64 z)) :
    Calls Try.prog 45 #[.slice (some ⟨g, off, none⟩) 3 3] w (RetS (.int .i64 (or2 x (or2 y z))) w) := by
  have lg := World.block_lt_of_cell? w _ h0
  go_enter Try.func45, Try.ntmps45
  go_wp2
  go_loopw [8] (fun i wr => ∃ j : Nat, j ≤ 3 ∧ i = .int .i64 j ∧ Hid (0 < j → x = 0) ∧ Hid (1 < j → y = 0) ∧ Hid (2 < j → z = 0) ∧ wr = w) (fun i _ => 3 - (intOf i).toNat)
  case atStart => exact ⟨0, by omega, rfl, hide (fun h => absurd h (by decide)), hide (fun h => absurd h (by decide)), hide (fun h => absurd h (by decide)), rfl⟩
  case round =>
    obtain ⟨j, hj, rfl, H0, H1, H2, rfl⟩ := hrel
    have hjc : j = 0 ∨ j = 1 ∨ j = 2 ∨ j = 3 := by omega
    rcases hjc with rfl | rfl | rfl | rfl
    · by_cases e : x = 0
      · subst e
        go_wp2
        go_roundw
        case rel => refine ⟨1, by omega, by go_num, hide ?_, hide ?_, hide ?_, ?_⟩ <;> first | trivial | (intros; first | rfl | trivial | omega)
        case measure => simp [intOf]
      · have t3 : (x != 0) = true := bne_iff_ne.2 e
        have HE : Hid (or2 x (or2 y z) = x) := hide (by simp [or2, e])
        rw [HE.out]
        go_wp2
        go_ret
        exact ⟨rfl, rfl⟩
    · have hx := H0.out (by decide)
      subst hx
      by_cases e : y = 0
      · subst e
        go_wp2
        go_roundw
        case rel => refine ⟨2, by omega, by go_num, hide ?_, hide ?_, hide ?_, ?_⟩ <;> first | trivial | (intros; first | rfl | trivial | omega)
        case measure => simp [intOf]
      · have t3 : (y != 0) = true := bne_iff_ne.2 e
        have HE : Hid (or2 0 (or2 y z) = y) := hide (by simp [or2, e])
        rw [HE.out]
        go_wp2
        go_ret
        exact ⟨rfl, rfl⟩
    · have hx := H0.out (by decide)
      subst hx
      have hy := H1.out (by decide)
      subst hy
      by_cases e : z = 0
      · subst e
        go_wp2
        go_roundw
        case rel => refine ⟨3, by omega, by go_num, hide ?_, hide ?_, hide ?_, ?_⟩ <;> first | trivial | (intros; first | rfl | trivial | omega)
        case measure => simp [intOf]
      · have t3 : (z != 0) = true := bne_iff_ne.2 e
        have HE : Hid (or2 0 (or2 0 z) = z) := hide (by simp [or2, e])
        rw [HE.out]
        go_wp2
        go_ret
        exact ⟨rfl, rfl⟩
    · have hx := H0.out (by decide)
      subst hx
      have hy := H1.out (by decide)
      subst hy
      have hz := H2.out (by decide)
      subst hz
      go_wp2
      go_ret
      exact ⟨rfl, rfl⟩
end Go.Proofs.Ytbendimkejndiaa
