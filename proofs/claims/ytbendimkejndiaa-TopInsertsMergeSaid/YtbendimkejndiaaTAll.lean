/- stream.all: whether the events of a list are placed. -/
import Derived.Test.YtbendimkejndiaaTCpd
namespace Go.Proofs.Ytbendimkejndiaa
open Go.RowKit
set_option linter.unusedVariables false
set_option linter.unusedSimpArgs false
section
variable (e : Evt) (A : Option Addr) (n m : Nat) (w : World)
set_option maxHeartbeats 1000000 in
theorem allc_any : Calls Try.prog 41 #[.agg #[.int .i64 e.a, .int .i64 e.b, .int .i64 e.c, .int .i64 e.d, .slice A n m]] w (RetG (.bool (!decide (Plcd e))) w) := by
  have HP := hide (fun w => placed_any e A n m w)
  obtain ⟨v, hv⟩ : ∃ v, decide (Plcd e) = v := ⟨_, rfl⟩
  rw [hv] at HP ⊢
  clear hv
  go_enter Try.func41, Try.ntmps41
  go_wp2_with (go_at_call 21; refine (HP.out _).mono ?_; rintro en w' ⟨rfl, hg⟩)
  go_ret
  exact ⟨rfl, ((GR.refl _).alloc _).trans hg⟩
end
theorem take_all {α : Type} {p : α → Prop} {l : List α} {j : Nat} (hj : j < l.length) (h : ∀ x ∈ l.take j, p x) (hx : p l[j]) : ∀ x ∈ l.take (j + 1), p x := by
  intro x hm
  rw [List.take_succ_eq_append_getElem hj] at hm
  rcases List.mem_append.1 hm with h1 | h1
  · exact h x h1
  · obtain rfl := List.mem_singleton.1 h1; exact hx
/-- A number that is no less than 0 if p holds. -/
def RetNum (p : Prop) (w : World) (e : Ending) (w' : World) : Prop := ∃ k : Int, e = .returned (.int .i64 k) ∧ (0 ≤ k ↔ p) ∧ Below w.heap.size w w'
set_option maxRecDepth 100000 in
set_option maxHeartbeats 4000000 in
theorem idxf_any (v : Value) (l : List Evt) (w : World) (hv : Lst w (· < w.heap.size) 5 REv0 v l) : Calls Try.prog 59 #[v, .func (.func 41) #[] #[]] w (RetNum (∃ x ∈ l, ¬ Plcd x) w) := by
  obtain ⟨A, cap, rfl⟩ := hv.form
  have hlen := hv.len
  unfold maxLen at hlen
  have HV := hide hv
  obtain ⟨m, hm⟩ : ∃ m, l.length = m := ⟨_, rfl⟩
  rw [hm] at HV hlen ⊢
  have HM := hide hm
  clear hv hm
  go_enter Try.func59, Try.ntmps59
  go_wp2
  go_loopw [8] (fun i wr => ∃ j : Nat, j ≤ m ∧ i = .int .i64 j ∧ Hid (∀ x ∈ l.take j, Plcd x) ∧ Hid (Below w.heap.size w wr)) (fun i _ => m - (intOf i).toNat)
  case atStart => exact ⟨0, by omega, rfl, hide (by intro x hx; simp at hx), hide (Below.refl _ _)⟩
  case round =>
    obtain ⟨j, hj, rfl, HE, HB⟩ := hrel
    by_cases hlt : j < m
    · have hjl : j < l.length := by rw [HM.out]; exact hlt
      obtain ⟨g, off, xs, e2, hg, hxl, hc, hR⟩ := HV.out.at_ hjl
      cases e2
      have HYS := hide (fun h => take_all hjl HE.out h)
      have HIN := hide (List.getElem_mem hjl)
      obtain ⟨x, hx⟩ : ∃ x, l[j] = x := ⟨_, rfl⟩
      rw [hx] at hR HYS HIN
      obtain ⟨u, rfl, hu, -⟩ := hR
      obtain ⟨A', c', rfl⟩ := hu.form
      obtain ⟨n', hn'⟩ : ∃ n, x.vs.length = n := ⟨_, rfl⟩
      rw [hn'] at hc
      have k0 := keep1 HB.out (hc 0 _ rfl)
      have k1 := keep1 HB.out (hc 1 _ rfl)
      have k2 := keep1 HB.out (hc 2 _ rfl)
      have k3 := keep1 HB.out (hc 3 _ rfl)
      have k4 := keep1 HB.out (hc 4 _ rfl)
      rw [Nat.add_zero] at k0
      have hu0 : (0 : Int) ≤ (j : Int) := by omega
      have hu1 : (j : Int) < (m : Int) := by omega
      have HC := hide (fun w => allc_any x A' n' c' w)
      clear hx hc hxl hu hn'
      by_cases hp : Plcd x
      · have HE2 := hide (HYS.out hp)
        rw [decide_eq_true hp] at HC
        clear hp
        go_wp2_with (go_at_call 41; refine (HC.out _).mono ?_; rintro en w' ⟨rfl, hg⟩)
        go_roundw
        case rel => exact ⟨j + 1, by omega, by go_num, HE2, hide (bthen HB.out hg.below)⟩
        case measure => simp [intOf]; omega
      · have HX := hide (show ∃ x ∈ l, ¬ Plcd x from ⟨x, HIN.out, hp⟩)
        rw [decide_eq_false hp] at HC
        clear hp
        go_wp2_with (go_at_call 41; refine (HC.out _).mono ?_; rintro en w' ⟨rfl, hg⟩)
        go_ret
        exact ⟨j, rfl, ⟨fun _ => HX.out, fun _ => by omega⟩, bthen HB.out hg.below⟩
    · obtain rfl : j = m := by omega
      have HF : Hid (¬ ∃ x ∈ l, ¬ Plcd x) := hide (by
        have := HE.out
        rw [List.take_of_length_le (by rw [HM.out]; exact Nat.le_refl _)] at this
        rintro ⟨x, hx, hn⟩; exact hn (this x hx))
      go_wp2
      go_ret
      exact ⟨-1, rfl, ⟨fun h => absurd h (by decide), fun h => absurd h HF.out⟩, HB.out⟩
set_option maxHeartbeats 2000000 in
theorem contf_any (v : Value) (l : List Evt) (w : World) (hv : Lst w (· < w.heap.size) 5 REv0 v l) : Calls Try.prog 40 #[v, .func (.func 41) #[] #[]] w (RetIff (∃ x ∈ l, ¬ Plcd x) w) := by
  have HI := hide (idxf_any v l w hv)
  obtain ⟨p, hp⟩ : ∃ p : Prop, (∃ x ∈ l, ¬ Plcd x) = p := ⟨_, rfl⟩
  rw [hp] at HI ⊢
  clear hp hv
  go_enter Try.func40, Try.ntmps40
  go_wp2_with (go_at_call 59; refine HI.out.mono ?_; rintro en w' ⟨k, rfl, hk, hb⟩)
  go_ret
  exact ⟨decide (0 ≤ k), by rw [decide_eq_true_iff]; exact hk, rfl, hb⟩
/-- A number that is 0 if and only if p holds. -/
def RetZero (p : Prop) (w : World) (e : Ending) (w' : World) : Prop := ∃ k : Int, e = .returned (.int .i64 k) ∧ (k = 0 ↔ p) ∧ Below w.heap.size w w'
set_option maxHeartbeats 2000000 in
theorem all_any (v : Value) (l : List Evt) (w : World) (hv : Lst w (· < w.heap.size) 5 REv0 v l) : Calls Try.prog 27 #[v] w (RetZero (l.length ≤ 4096 ∧ ∀ x ∈ l, Plcd x) w) := by
  have HI := hide (contf_any v l w hv)
  obtain ⟨A, cap, rfl⟩ := hv.form
  obtain ⟨m, hm⟩ : ∃ m, l.length = m := ⟨_, rfl⟩
  rw [hm] at HI ⊢
  clear hm hv
  by_cases hl : m ≤ 4096
  · have t1 : decide ((4096 : Int) < (m : Int)) = false := decide_eq_false (by omega)
    have HY := hide (show (∃ x ∈ l, ¬ Plcd x) → ¬ (m ≤ 4096 ∧ ∀ x ∈ l, Plcd x) from fun ⟨x, hx, hn⟩ ⟨_, h⟩ => hn (h x hx))
    have HN := hide (show ¬ (∃ x ∈ l, ¬ Plcd x) → (m ≤ 4096 ∧ ∀ x ∈ l, Plcd x) from fun h => ⟨hl, fun x hx => Classical.byContradiction fun hn => h ⟨x, hx, hn⟩⟩)
    go_enter Try.func27, Try.ntmps27
    go_wp2_with (go_at_call 40; refine HI.out.mono ?_; rintro en w' ⟨b, hb1, rfl, hb⟩; have HBB := hide hb1; clear hb1; cases b)
    · go_wp2
      go_ret
      exact ⟨0, rfl, ⟨fun _ => HN.out (fun h => by have := HBB.out.2 h; cases this), fun _ => rfl⟩, hb⟩
    · go_wp2
      go_ret
      exact ⟨2, rfl, ⟨fun h => absurd h (by decide), fun h => absurd h (HY.out (HBB.out.1 trivial))⟩, hb⟩
  · have t1 : decide ((4096 : Int) < (m : Int)) = true := decide_eq_true (by omega)
    have HN := hide (show ¬ (m ≤ 4096 ∧ ∀ x ∈ l, Plcd x) from fun h => hl h.1)
    go_enter Try.func27, Try.ntmps27
    go_wp2
    go_ret
    exact ⟨5, rfl, ⟨fun h => absurd h (by decide), fun h => absurd h HN.out⟩, Below.refl _ _⟩
end Go.Proofs.Ytbendimkejndiaa
