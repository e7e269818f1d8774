/- coordinator.between and the closures of coordinator.conditions. -/
import Derived.Test.YtihbonndinnohaaQCopy2
import Derived.Deep.RegionHeld3
import Derived.Laws.ResultCell
namespace Go.Proofs.Ytihbonndinnohaa
open Go.RowKit
set_option linter.unusedVariables false
set_option linter.unusedSimpArgs false
def btw (n lo hi : Int) : Bool := decide (lo ≤ n ∧ n ≤ hi)
theorem btw_t {n lo hi : Int} (h1 : lo ≤ n) (h2 : n ≤ hi) : btw n lo hi = true := by simp [btw, h1, h2]
theorem btw_iff {n lo hi : Int} : btw n lo hi = true ↔ lo ≤ n ∧ n ≤ hi := by simp [btw]
set_option maxHeartbeats 400000 in
theorem btw_any (n lo hi : Int) (w : World) : Calls Try.prog 36 #[.int .i64 n, .int .i64 lo, .int .i64 hi] w fun e w' => e = .returned (.bool (btw n lo hi)) ∧ w = w' := by
  go_enter Try.func36, Try.ntmps36
  go_wp2
  all_goals go_ret
  all_goals exact ⟨congrArg (fun b => Ending.returned (.bool b)) (by unfold btw; simp; omega), rfl⟩
set_option maxHeartbeats 1000000 in
/-- What the function 'first' returns: attempt 0, in a cell of its own. -/
theorem first_any (w : World) (Bx g off n cap : Nat) (x0 : Int) (A1 A2 A3 : Option Addr) (n1 n2 n3 c1 c2 c3 : Nat) (hn : 0 < n) (hb : w.cell? ⟨Bx, 1, none⟩ = some (.slice (some ⟨g, off, none⟩) n cap))
    (h0 : w.cell? ⟨g, off, none⟩ = some (.int .i64 x0)) (h1 : w.cell? ⟨g, off + 1, none⟩ = some (.slice A1 n1 c1)) (h2 : w.cell? ⟨g, off + 2, none⟩ = some (.slice A2 n2 c2)) (h3 : w.cell? ⟨g, off + 3, none⟩ = some (.slice A3 n3 c3)) :
    Calls Try.prog 50 #[.pointer (some ⟨Bx, 0, none⟩)] w (Ret (.agg #[.int .i64 x0, .slice A1 n1 c1, .slice A2 n2 c2, .slice A3 n3 c3]) w) := by
  have k1 : (0 : Int) < (n : Int) := by omega
  have k2 : Bx < w.heap.size := World.block_lt_of_cell? w _ hb
  have k3 : g < w.heap.size := World.block_lt_of_cell? w _ h0
  go_enter Try.func50, Try.ntmps50
  go_wp2
  exact bodyPost_ret (v := .agg #[.int .i64 x0, .slice A1 n1 c1, .slice A2 n2 c2, .slice A3 n3 c3]) (by simp [results, Try.results50, go_sem]) rfl ⟨rfl, (Below.refl _ _).alloc (Nat.le_refl _) _⟩
/-- The number order. -/
def c1B (least num next : Int) : Bool := decide (least < num) && decide (num < next)
set_option maxHeartbeats 2000000 in
theorem c2_any (w : World) (Bx g o : Nat) (num next dur least : Int) (pb : Value) (hb0 : w.cell? ⟨Bx, 0, none⟩ = some (.int .i64 next)) (hb2 : w.cell? ⟨Bx, 2, none⟩ = some (.int .i64 dur)) (ha : w.cell? ⟨g, o, none⟩ = some (.int .i64 num))
    (hp : (pb = .pointer none ∧ least = dur) ∨ ∃ q, pb = .pointer (some ⟨g, q, none⟩) ∧ w.cell? ⟨g, q, none⟩ = some (.int .i64 least)) :
    Calls Try.prog 51 #[.pointer (some ⟨g, o, none⟩), pb, .pointer (some ⟨Bx, 0, none⟩)] w (Ret (.bool (c1B least num next)) w) := by
  rcases hp with ⟨rfl, rfl⟩ | ⟨q, rfl, hq⟩
  · by_cases h1 : least < num
    · by_cases h2 : num < next
      · have HE : Hid (c1B least num next = true) := hide (by simp [c1B, h1, h2])
        go_enter Try.func51, Try.ntmps51
        go_wp2
        go_quiet (fail)
        go_wp2
        go_ret
        exact Ret.bool HE.out.symm (below_drewN (Below.refl _ _) _)
      · have HE : Hid (c1B least num next = false) := hide (by simp [c1B, h2])
        have h2' : decide (num < next) = false := decide_eq_false h2
        clear h2
        go_enter Try.func51, Try.ntmps51
        go_wp2
        go_quiet (fail)
        go_wp2
        go_ret
        exact Ret.bool HE.out.symm (below_drewN (Below.refl _ _) _)
    · have HE : Hid (c1B least num next = false) := hide (by simp [c1B, h1])
      have h1' : decide (least < num) = false := decide_eq_false h1
      clear h1
      go_enter Try.func51, Try.ntmps51
      go_wp2
      go_quiet (fail)
      go_wp2
      go_ret
      exact Ret.bool HE.out.symm (below_drewN (Below.refl _ _) _)
  · by_cases h1 : least < num
    · by_cases h2 : num < next
      · have HE : Hid (c1B least num next = true) := hide (by simp [c1B, h1, h2])
        go_enter Try.func51, Try.ntmps51
        go_wp2
        go_quiet (fail)
        go_wp2
        go_ret
        exact Ret.bool HE.out.symm (below_drewN (Below.refl _ _) _)
      · have HE : Hid (c1B least num next = false) := hide (by simp [c1B, h2])
        have h2' : decide (num < next) = false := decide_eq_false h2
        clear h2
        go_enter Try.func51, Try.ntmps51
        go_wp2
        go_quiet (fail)
        go_wp2
        go_ret
        exact Ret.bool HE.out.symm (below_drewN (Below.refl _ _) _)
    · have HE : Hid (c1B least num next = false) := hide (by simp [c1B, h1])
      have h1' : decide (least < num) = false := decide_eq_false h1
      clear h1
      go_enter Try.func51, Try.ntmps51
      go_wp2
      go_quiet (fail)
      go_wp2
      go_ret
      exact Ret.bool HE.out.symm (below_drewN (Below.refl _ _) _)
/-- A length between 1 and 8, which is that of the first one. -/
def c2B (n f : Nat) : Bool := btw n 1 8 && decide (n = f)
set_option maxRecDepth 100000 in
set_option maxHeartbeats 2000000 in
theorem c3_any (w : World) (Bx Bf g off n cap o : Nat) (x0 : Int) (A1 A2 A3 : Option Addr) (n1 n2 n3 c1 c2 c3 : Nat) (hn : 0 < n) (hb : w.cell? ⟨Bx, 1, none⟩ = some (.slice (some ⟨g, off, none⟩) n cap))
    (h0 : w.cell? ⟨g, off, none⟩ = some (.int .i64 x0)) (h1 : w.cell? ⟨g, off + 1, none⟩ = some (.slice A1 n1 c1)) (h2 : w.cell? ⟨g, off + 2, none⟩ = some (.slice A2 n2 c2)) (h3 : w.cell? ⟨g, off + 3, none⟩ = some (.slice A3 n3 c3))
    (hf : w.cell? ⟨Bf, 0, none⟩ = some (.func (.func 50) #[] #[.pointer (some ⟨Bx, 0, none⟩)])) (A : Option Addr) (m c : Nat) (ha : w.cell? ⟨g, o + 1, none⟩ = some (.slice A m c)) (pb : Value) :
    Calls Try.prog 52 #[.pointer (some ⟨g, o, none⟩), pb, .pointer (some ⟨Bf, 0, none⟩)] w (Ret (.bool (c2B m n1)) w) := by
  cases hB : btw m 1 8
  · have HE : Hid (c2B m n1 = false) := hide (by simp [c2B, hB])
    have HK := hide (btw_any m 1 8)
    rw [hB] at HK
    clear hB
    go_enter Try.func52, Try.ntmps52
    go_wp2
    go_quiet ((go_at_call 36; exact Calls.quiet_of_same ((HK.out _).mono (fun _ _ h => ⟨h.1, h.2.symm⟩))))
    go_wp2
    go_ret
    exact Ret.bool HE.out.symm (below_drewN (Below.refl _ _) _)
  · have HK := hide (btw_any m 1 8)
    have HM := hide (btw_iff.1 hB)
    have HF := hide (fun (w' : World) (hb' : Below w.heap.size w w') => first_any w' Bx g off n cap x0 A1 A2 A3 n1 n2 n3 c1 c2 c3 hn (keep1 hb' hb) (keep1 hb' h0) (keep1 hb' h1) (keep1 hb' h2) (keep1 hb' h3))
    rw [hB] at HK
    have HE : Hid (c2B m n1 = decide ((m : Int) = (n1 : Int))) := hide (by simp only [c2B, hB, Bool.true_and, decide_eq_decide]; omega)
    have hfd : ∀ w : World, (Instr.field 51 (.agg #[.int .i64 x0, .slice A1 n1 c1, .slice A2 n2 c2, .slice A3 n3 c3]) 1).run Try.prog w = .ok (.slice A1 n1 c1) w := fun _ => by kernel_rfl
    clear hB h0 h1 h2 h3 hb
    go_enter Try.func52, Try.ntmps52
    go_wp2
    go_region_held3 (fun w' => w'.cell? ⟨g, o + 1, none⟩ = some (.slice A m c) ∧ w'.cell? ⟨Bf, 0, none⟩ = some (.func (.func 50) #[] #[.pointer (some ⟨Bx, 0, none⟩)]))
      (first | with_reducible exact ⟨keep1 hb2 ha, keep1 hb2 hf⟩ | (go_keep; done))
      (first | ((go_at_call 36; refine (HK.out _).mono ?_; rintro en w3 ⟨rfl, rfl⟩)) | ((go_at_call 50; refine (HF.out _ (below_drewN (Below.refl _ _) 1)).mono ?_; rintro en w3 ⟨rfl, hb'⟩; have hb2 : Below w.heap.size w w3 := below_undrew hb')))
    go_wp2
    go_ret
    exact Ret.bool HE.out.symm hb2
/-- The flags: a length between 1 and 8, that of the first one; as many operators. -/
def c3B (n f k : Nat) : Bool := btw n 1 8 && decide (n = f) && decide (k = n)
set_option maxRecDepth 100000 in
set_option maxHeartbeats 4000000 in
theorem c4_any (w : World) (Bx Bf g off n cap o : Nat) (x0 : Int) (A1 A2 A3 : Option Addr) (n1 n2 n3 c1 c2 c3 : Nat) (hn : 0 < n) (hb : w.cell? ⟨Bx, 1, none⟩ = some (.slice (some ⟨g, off, none⟩) n cap))
    (h0 : w.cell? ⟨g, off, none⟩ = some (.int .i64 x0)) (h1 : w.cell? ⟨g, off + 1, none⟩ = some (.slice A1 n1 c1)) (h2 : w.cell? ⟨g, off + 2, none⟩ = some (.slice A2 n2 c2)) (h3 : w.cell? ⟨g, off + 3, none⟩ = some (.slice A3 n3 c3))
    (hf : w.cell? ⟨Bf, 0, none⟩ = some (.func (.func 50) #[] #[.pointer (some ⟨Bx, 0, none⟩)])) (A O : Option Addr) (m c k d : Nat) (ha : w.cell? ⟨g, o + 3, none⟩ = some (.slice A m c)) (ho : w.cell? ⟨g, o + 2, none⟩ = some (.slice O k d)) (pb : Value) :
    Calls Try.prog 53 #[.pointer (some ⟨g, o, none⟩), pb, .pointer (some ⟨Bf, 0, none⟩)] w (Ret (.bool (c3B m n3 k)) w) := by
  cases hB : btw m 1 8
  · have HE : Hid (c3B m n3 k = false) := hide (by simp [c3B, hB])
    have HK := hide (btw_any m 1 8)
    rw [hB] at HK
    clear hB
    go_enter Try.func53, Try.ntmps53
    go_wp2
    go_quiet ((go_at_call 36; exact Calls.quiet_of_same ((HK.out _).mono (fun _ _ h => ⟨h.1, h.2.symm⟩))))
    go_wp2
    go_ret
    exact Ret.bool HE.out.symm (below_drewN (Below.refl _ _) _)
  · have HK := hide (btw_any m 1 8)
    have HM := hide (btw_iff.1 hB)
    have HF := hide (fun (w' : World) (hb' : Below w.heap.size w w') => first_any w' Bx g off n cap x0 A1 A2 A3 n1 n2 n3 c1 c2 c3 hn (keep1 hb' hb) (keep1 hb' h0) (keep1 hb' h1) (keep1 hb' h2) (keep1 hb' h3))
    rw [hB] at HK
    have hfd : ∀ w : World, (Instr.field 51 (.agg #[.int .i64 x0, .slice A1 n1 c1, .slice A2 n2 c2, .slice A3 n3 c3]) 3).run Try.prog w = .ok (.slice A3 n3 c3) w := fun _ => by kernel_rfl
    by_cases he : m = n3
    · subst he
      have HE : Hid (c3B m m k = decide ((k : Int) = (m : Int))) := hide (by simp only [c3B, hB, Bool.true_and, decide_true, decide_eq_decide]; omega)
      clear hB h0 h1 h2 h3 hb
      go_enter Try.func53, Try.ntmps53
      go_wp2
      go_region_held3 (fun w' => w'.cell? ⟨g, o + 3, none⟩ = some (.slice A m c) ∧ w'.cell? ⟨g, o + 2, none⟩ = some (.slice O k d) ∧ w'.cell? ⟨Bf, 0, none⟩ = some (.func (.func 50) #[] #[.pointer (some ⟨Bx, 0, none⟩)]))
        (first | with_reducible exact ⟨keep1 hb2 ha, keep1 hb2 ho, keep1 hb2 hf⟩ | (go_keep; done))
        (first | ((go_at_call 36; refine (HK.out _).mono ?_; rintro en w3 ⟨rfl, rfl⟩)) | ((go_at_call 50; refine (HF.out _ (below_drewN (Below.refl _ _) 1)).mono ?_; rintro en w3 ⟨rfl, hb'⟩; have hb2 : Below w.heap.size w w3 := below_undrew hb')))
      go_wp2
      go_ret
      exact Ret.bool HE.out.symm hb2
    · have HE : Hid (c3B m n3 k = false) := hide (by simp [c3B, he])
      have te : ((m : Int) == (n3 : Int)) = false := by rw [beq_eq_false_iff_ne]; omega
      clear hB h0 h1 h2 h3 hb he
      go_enter Try.func53, Try.ntmps53
      go_wp2
      refine wp_region_held_drew (S := fun w' => w'.cell? ⟨g, o + 3, none⟩ = some (.slice A m c) ∧ w'.cell? ⟨g, o + 2, none⟩ = some (.slice O k d) ∧ w'.cell? ⟨Bf, 0, none⟩ = some (.func (.func 50) #[] #[.pointer (some ⟨Bx, 0, none⟩)])) (by kernel_rfl) ⟨ha, ho, hf⟩ (fun hHeld => ?_)
      refine wpAnyH_take (i := 0) (v := ?_) rfl (by kernel_rfl) (by kernel_rfl) (by kernel_rfl) (fun _ _ _ h => h) (Or.inl ⟨by rfl, ?_⟩) (by assumption) ?_
      rotate_left
      · intro w hSw
        (try dsimp only at hSw)
        go_simp
        all_goals with_reducible rfl
      try simp only [List.getElem_toArray, List.getElem_cons_succ, List.getElem_cons_zero, Act.put, List.setIfInBounds_toArray, List.set_cons_zero, List.set_cons_succ]
      refine wpAnyH_take (i := 1) (v := ?_) rfl (by kernel_rfl) (by kernel_rfl) (by kernel_rfl) (fun _ _ _ h => h) (Or.inl ⟨by rfl, ?_⟩) (by assumption) ?_
      rotate_left
      · intro w hSw
        (try dsimp only at hSw)
        go_simp
        all_goals with_reducible rfl
      try simp only [List.getElem_toArray, List.getElem_cons_succ, List.getElem_cons_zero, Act.put, List.setIfInBounds_toArray, List.set_cons_zero, List.set_cons_succ]
      refine wpAnyH_take (i := 2) (v := ?_) rfl (by kernel_rfl) (by kernel_rfl) (by kernel_rfl) (fun _ _ _ h => h) (Or.inl ⟨by rfl, ?_⟩) (by assumption) ?_
      rotate_left
      · intro w hSw
        (try dsimp only at hSw)
        go_simp
        all_goals with_reducible rfl
      try simp only [List.getElem_toArray, List.getElem_cons_succ, List.getElem_cons_zero, Act.put, List.setIfInBounds_toArray, List.set_cons_zero, List.set_cons_succ]
      refine wpAnyH_take (i := 3) (v := ?_) rfl (by kernel_rfl) (by kernel_rfl) (by kernel_rfl) (fun _ _ _ h => h) (Or.inl ⟨by rfl, ?_⟩) (by assumption) ?_
      rotate_left
      · intro w hSw
        (try dsimp only at hSw)
        go_simp
        all_goals with_reducible rfl
      try simp only [List.getElem_toArray, List.getElem_cons_succ, List.getElem_cons_zero, Act.put, List.setIfInBounds_toArray, List.set_cons_zero, List.set_cons_succ]
      refine wpAnyH_take (i := 4) (v := ?_) rfl (by kernel_rfl) (by kernel_rfl) (by kernel_rfl) (fun _ _ _ h => h) (Or.inl ⟨by rfl, ?_⟩) (by assumption) ?_
      rotate_left
      · intro w hSw
        (try dsimp only at hSw)
        go_simp
        all_goals with_reducible rfl
      try simp only [List.getElem_toArray, List.getElem_cons_succ, List.getElem_cons_zero, Act.put, List.setIfInBounds_toArray, List.set_cons_zero, List.set_cons_succ]
      refine wpAnyH_ready (rs := [5]) (by kernel_rfl) (by simp) ?_
      refine AllReadyH.cons rfl (fun K hK => ?_) AllReadyH.nil
      simp only [List.getElem_toArray, List.getElem_cons_succ, List.getElem_cons_zero]
      go_simp
      go_wp2_with fail
      refine (HK.out _).mono ?_
      rintro en w3 ⟨rfl, rfl⟩
      go_wp2_with fail
      refine hK _ _ ⟨ha, ho, hf⟩ (fun hHeld => ?_)
      clear hK K
      try simp only [List.getElem_toArray, List.getElem_cons_succ, List.getElem_cons_zero, Act.put, List.setIfInBounds_toArray, List.set_cons_zero, List.set_cons_succ]
      refine wpAnyH_take (i := 6) (v := ?_) rfl (by kernel_rfl) (by kernel_rfl) (by kernel_rfl) (fun _ _ _ h => h) (Or.inl ⟨by rfl, ?_⟩) (by assumption) ?_
      rotate_left
      · intro w hSw
        (try dsimp only at hSw)
        go_simp
        all_goals with_reducible rfl
      try simp only [List.getElem_toArray, List.getElem_cons_succ, List.getElem_cons_zero, Act.put, List.setIfInBounds_toArray, List.set_cons_zero, List.set_cons_succ]
      refine wpAnyH_take (i := 7) (v := ?_) rfl (by kernel_rfl) (by kernel_rfl) (by kernel_rfl) (fun _ _ _ h => h) (Or.inl ⟨by rfl, ?_⟩) (by assumption) ?_
      rotate_left
      · intro w hSw
        (try dsimp only at hSw)
        go_simp
        all_goals with_reducible rfl
      try simp only [List.getElem_toArray, List.getElem_cons_succ, List.getElem_cons_zero, Act.put, List.setIfInBounds_toArray, List.set_cons_zero, List.set_cons_succ]
      refine wpAnyH_take (i := 8) (v := ?_) rfl (by kernel_rfl) (by kernel_rfl) (by kernel_rfl) (fun _ _ _ h => h) (Or.inl ⟨by rfl, ?_⟩) (by assumption) ?_
      rotate_left
      · intro w hSw
        (try dsimp only at hSw)
        go_simp
        all_goals with_reducible rfl
      try simp only [List.getElem_toArray, List.getElem_cons_succ, List.getElem_cons_zero, Act.put, List.setIfInBounds_toArray, List.set_cons_zero, List.set_cons_succ]
      refine wpAnyH_take (i := 9) (v := ?_) rfl (by kernel_rfl) (by kernel_rfl) (by kernel_rfl) (fun _ _ _ h => h) (Or.inl ⟨by rfl, ?_⟩) (by assumption) ?_
      rotate_left
      · intro w hSw
        (try dsimp only at hSw)
        go_simp
        all_goals with_reducible rfl
      try simp only [List.getElem_toArray, List.getElem_cons_succ, List.getElem_cons_zero, Act.put, List.setIfInBounds_toArray, List.set_cons_zero, List.set_cons_succ]
      refine wpAnyH_take (i := 10) (v := ?_) rfl (by kernel_rfl) (by kernel_rfl) (by kernel_rfl) (fun _ _ _ h => h) (Or.inl ⟨by rfl, ?_⟩) (by assumption) ?_
      rotate_left
      · intro w hSw
        (try dsimp only at hSw)
        go_simp
        all_goals with_reducible rfl
      try simp only [List.getElem_toArray, List.getElem_cons_succ, List.getElem_cons_zero, Act.put, List.setIfInBounds_toArray, List.set_cons_zero, List.set_cons_succ]
      refine wpAnyH_take (i := 11) (v := ?_) rfl (by kernel_rfl) (by kernel_rfl) (by kernel_rfl) (fun _ _ _ h => h) (Or.inl ⟨by rfl, ?_⟩) (by assumption) ?_
      rotate_left
      · intro w hSw
        (try dsimp only at hSw)
        go_simp
        all_goals with_reducible rfl
      try simp only [List.getElem_toArray, List.getElem_cons_succ, List.getElem_cons_zero, Act.put, List.setIfInBounds_toArray, List.set_cons_zero, List.set_cons_succ]
      refine wpAnyH_take (i := 12) (v := ?_) rfl (by kernel_rfl) (by kernel_rfl) (by kernel_rfl) (fun _ _ _ h => h) (Or.inl ⟨by rfl, ?_⟩) (by assumption) ?_
      rotate_left
      · intro w hSw
        (try dsimp only at hSw)
        go_simp
        all_goals with_reducible rfl
      try simp only [List.getElem_toArray, List.getElem_cons_succ, List.getElem_cons_zero, Act.put, List.setIfInBounds_toArray, List.set_cons_zero, List.set_cons_succ]
      refine wpAnyH_ready (rs := [13]) (by kernel_rfl) (by simp) ?_
      refine AllReadyH.cons rfl (fun K hK => ?_) AllReadyH.nil
      simp only [List.getElem_toArray, List.getElem_cons_succ, List.getElem_cons_zero]
      go_simp
      go_wp2_with fail
      refine (HF.out _ (below_drewN (Below.refl _ _) 1)).mono ?_
      rintro en w3 ⟨rfl, hb'⟩
      have hb2 : Below w.heap.size w w3 := below_undrew hb'
      go_wp2_with fail
      refine hK _ _ ⟨keep1 hb2 ha, keep1 hb2 ho, keep1 hb2 hf⟩ (fun hHeld => ?_)
      clear hK K
      try simp only [List.getElem_toArray, List.getElem_cons_succ, List.getElem_cons_zero, Act.put, List.setIfInBounds_toArray, List.set_cons_zero, List.set_cons_succ]
      refine wpAnyH_take (i := 14) (v := ?_) rfl (by kernel_rfl) (by kernel_rfl) (by kernel_rfl) (fun _ _ _ h => h) (Or.inl ⟨by rfl, ?_⟩) (by assumption) ?_
      rotate_left
      · intro w hSw
        (try dsimp only at hSw)
        go_simp
        all_goals with_reducible rfl
      try simp only [List.getElem_toArray, List.getElem_cons_succ, List.getElem_cons_zero, Act.put, List.setIfInBounds_toArray, List.set_cons_zero, List.set_cons_succ]
      refine wpAnyH_take (i := 15) (v := ?_) rfl (by kernel_rfl) (by kernel_rfl) (by kernel_rfl) (fun _ _ _ h => h) (Or.inl ⟨by rfl, ?_⟩) (by assumption) ?_
      rotate_left
      · intro w hSw
        (try dsimp only at hSw)
        go_simp
        all_goals with_reducible rfl
      try simp only [List.getElem_toArray, List.getElem_cons_succ, List.getElem_cons_zero, Act.put, List.setIfInBounds_toArray, List.set_cons_zero, List.set_cons_succ]
      refine wpAnyH_take (i := 16) (v := ?_) rfl (by kernel_rfl) (by kernel_rfl) (by kernel_rfl) (fun _ _ _ h => h) (Or.inl ⟨by rfl, ?_⟩) (by assumption) ?_
      rotate_left
      · intro w hSw
        (try dsimp only at hSw)
        go_simp
        all_goals with_reducible rfl
      try simp only [List.getElem_toArray, List.getElem_cons_succ, List.getElem_cons_zero, Act.put, List.setIfInBounds_toArray, List.set_cons_zero, List.set_cons_succ]
      refine wpAnyH_take (i := 17) (v := ?_) rfl (by kernel_rfl) (by kernel_rfl) (by kernel_rfl) (fun _ _ _ h => h) (Or.inl ⟨by rfl, ?_⟩) (by assumption) ?_
      rotate_left
      · intro w hSw
        (try dsimp only at hSw)
        go_simp
        all_goals with_reducible rfl
      try simp only [List.getElem_toArray, List.getElem_cons_succ, List.getElem_cons_zero, Act.put, List.setIfInBounds_toArray, List.set_cons_zero, List.set_cons_succ]
      refine wpAnyH_take (i := 18) (v := ?_) rfl (by kernel_rfl) (by kernel_rfl) (by kernel_rfl) (fun _ _ _ h => h) (Or.inl ⟨by rfl, ?_⟩) (by assumption) ?_
      rotate_left
      · intro w hSw
        (try dsimp only at hSw)
        go_simp
        all_goals with_reducible rfl
      try simp only [List.getElem_toArray, List.getElem_cons_succ, List.getElem_cons_zero, Act.put, List.setIfInBounds_toArray, List.set_cons_zero, List.set_cons_succ]
      refine wpAnyH_take (i := 19) (v := undef) rfl (by kernel_rfl) (by kernel_rfl) (by kernel_rfl) (fun _ _ _ h => h) (Or.inr ⟨by rfl, rfl⟩) (by assumption) ?_
      try simp only [List.getElem_toArray, List.getElem_cons_succ, List.getElem_cons_zero, Act.put, List.setIfInBounds_toArray, List.set_cons_zero, List.set_cons_succ]
      refine wpAnyH_take (i := 20) (v := undef) rfl (by kernel_rfl) (by kernel_rfl) (by kernel_rfl) (fun _ _ _ h => h) (Or.inr ⟨by rfl, rfl⟩) (by assumption) ?_
      try simp only [List.getElem_toArray, List.getElem_cons_succ, List.getElem_cons_zero, Act.put, List.setIfInBounds_toArray, List.set_cons_zero, List.set_cons_succ]
      refine wpAnyH_take (i := 21) (v := undef) rfl (by kernel_rfl) (by kernel_rfl) (by kernel_rfl) (fun _ _ _ h => h) (Or.inr ⟨by rfl, rfl⟩) (by assumption) ?_
      try simp only [List.getElem_toArray, List.getElem_cons_succ, List.getElem_cons_zero, Act.put, List.setIfInBounds_toArray, List.set_cons_zero, List.set_cons_succ]
      refine wpAnyH_take (i := 22) (v := undef) rfl (by kernel_rfl) (by kernel_rfl) (by kernel_rfl) (fun _ _ _ h => h) (Or.inr ⟨by rfl, rfl⟩) (by assumption) ?_
      try simp only [List.getElem_toArray, List.getElem_cons_succ, List.getElem_cons_zero, Act.put, List.setIfInBounds_toArray, List.set_cons_zero, List.set_cons_succ]
      refine wpAnyH_take (i := 23) (v := undef) rfl (by kernel_rfl) (by kernel_rfl) (by kernel_rfl) (fun _ _ _ h => h) (Or.inr ⟨by rfl, rfl⟩) (by assumption) ?_
      try simp only [List.getElem_toArray, List.getElem_cons_succ, List.getElem_cons_zero, Act.put, List.setIfInBounds_toArray, List.set_cons_zero, List.set_cons_succ]
      refine wpAnyH_take (i := 24) (v := undef) rfl (by kernel_rfl) (by kernel_rfl) (by kernel_rfl) (fun _ _ _ h => h) (Or.inr ⟨by rfl, rfl⟩) (by assumption) ?_
      try simp only [List.getElem_toArray, List.getElem_cons_succ, List.getElem_cons_zero, Act.put, List.setIfInBounds_toArray, List.set_cons_zero, List.set_cons_succ]
      refine wpAnyH_take (i := 25) (v := undef) rfl (by kernel_rfl) (by kernel_rfl) (by kernel_rfl) (fun _ _ _ h => h) (Or.inr ⟨by rfl, rfl⟩) (by assumption) ?_
      try simp only [List.getElem_toArray, List.getElem_cons_succ, List.getElem_cons_zero, Act.put, List.setIfInBounds_toArray, List.set_cons_zero, List.set_cons_succ]
      refine wpAnyH_take (i := 26) (v := undef) rfl (by kernel_rfl) (by kernel_rfl) (by kernel_rfl) (fun _ _ _ h => h) (Or.inr ⟨by rfl, rfl⟩) (by assumption) ?_
      try simp only [List.getElem_toArray, List.getElem_cons_succ, List.getElem_cons_zero, Act.put, List.setIfInBounds_toArray, List.set_cons_zero, List.set_cons_succ]
      refine wpAnyH_take (i := 27) (v := undef) rfl (by kernel_rfl) (by kernel_rfl) (by kernel_rfl) (fun _ _ _ h => h) (Or.inr ⟨by rfl, rfl⟩) (by assumption) ?_
      try simp only [List.getElem_toArray, List.getElem_cons_succ, List.getElem_cons_zero, Act.put, List.setIfInBounds_toArray, List.set_cons_zero, List.set_cons_succ]
      refine wpAnyH_take (i := 28) (v := undef) rfl (by kernel_rfl) (by kernel_rfl) (by kernel_rfl) (fun _ _ _ h => h) (Or.inr ⟨by rfl, rfl⟩) (by assumption) ?_
      try simp only [List.getElem_toArray, List.getElem_cons_succ, List.getElem_cons_zero, Act.put, List.setIfInBounds_toArray, List.set_cons_zero, List.set_cons_succ]
      refine wpAnyH_take (i := 29) (v := undef) rfl (by kernel_rfl) (by kernel_rfl) (by kernel_rfl) (fun _ _ _ h => h) (Or.inr ⟨by rfl, rfl⟩) (by assumption) ?_
      try simp only [List.getElem_toArray, List.getElem_cons_succ, List.getElem_cons_zero, Act.put, List.setIfInBounds_toArray, List.set_cons_zero, List.set_cons_succ]
      refine wpAnyH_take (i := 30) (v := ?_) rfl (by kernel_rfl) (by kernel_rfl) (by kernel_rfl) (fun _ _ _ h => h) (Or.inl ⟨by rfl, ?_⟩) (by assumption) ?_
      rotate_left
      · intro w hSw
        (try dsimp only at hSw)
        go_simp
        all_goals with_reducible rfl
      try simp only [List.getElem_toArray, List.getElem_cons_succ, List.getElem_cons_zero, Act.put, List.setIfInBounds_toArray, List.set_cons_zero, List.set_cons_succ]
      refine wpAnyH_take (i := 31) (v := ?_) rfl (by kernel_rfl) (by kernel_rfl) (by kernel_rfl) (fun _ _ _ h => h) (Or.inl ⟨by rfl, ?_⟩) (by assumption) ?_
      rotate_left
      · intro w hSw
        (try dsimp only at hSw)
        go_simp
        all_goals with_reducible rfl
      try simp only [List.getElem_toArray, List.getElem_cons_succ, List.getElem_cons_zero, Act.put, List.setIfInBounds_toArray, List.set_cons_zero, List.set_cons_succ]
      refine wpAnyH_done (by kernel_rfl) ?_ _
      go_wp2
      go_ret
      exact Ret.bool HE.out.symm hb2
end Go.Proofs.Ytihbonndinnohaa
