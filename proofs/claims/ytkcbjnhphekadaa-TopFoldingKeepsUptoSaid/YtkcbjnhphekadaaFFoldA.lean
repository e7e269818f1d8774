/- What replaces a node: constant, known. known: the value of a node with constant arguments. -/
import Derived.Test.YtkcbjnhphekadaaFEva
import Derived.Test.YtkcbjnhphekadaaFRegA
namespace Go.Proofs.Ytkcbjnhphekadaa
open Go.RowKit
set_option linter.unusedVariables false
set_option linter.unusedSimpArgs false
/-- An expression that is returned, whose lists lie in Z. -/
def RetX (w : World) (Z : World → Nat → Prop) (t : Tr) (e : Ending) (w' : World) : Prop := ∃ ys, e = .returned (.agg ys.toArray) ∧ RTx w' (Z w') ys t ∧ Below w.heap.size w w'
theorem wrap_in (n : Int) : inX (wrap64 n) := by
  unfold inX wrap64
  omega
def okX (v : V3) : Prop := inX v.q ∧ inX v.n ∧ v.s.size ≤ maxLen
theorem flag_ok (b : Bool) : okX (flagQ b) := by
  cases b <;> (unfold okX inX flagQ; refine ⟨?_, ?_, Nat.zero_le _⟩ <;> simp)
theorem res_ok (op : Int) (vs : List V3) : okX (resV op vs) := by
  unfold resV appQ
  repeat' split
  all_goals first | exact flag_ok _ | (refine ⟨?_, wrap_in _, Nat.zero_le _⟩; unfold inX; simp)
theorem constT_tx {w : World} {Z : Nat → Prop} {v : V3} (h : okX v) : RTx w Z (cellsX ⟨0, 0, 0, 0, v⟩ (.slice none 0 0)) (constT v) := by
  refine RTx.of Lst.nil ⟨?_, ?_, ?_, ?_, h.1, h.2.1, h.2.2⟩ <;> (unfold inX; simp)
theorem fold1_ok {d : Nd} {args : List Tr} (h : OkT 16 8 (.mk d args)) : OkT 16 8 (fold1 d args) := by
  unfold fold1
  split
  · rename_i hb
    simp only [knownB2, Bool.and_eq_true, decide_eq_true_eq] at hb
    exact const_ok hb.2
  · split
    · rename_i h12
      rcases ok_cases h with ⟨rfl, h5⟩ | ⟨a, rfl, -, ha⟩ | ⟨a, b, rfl, h5, h9, ha, hb⟩
      · omega
      · have h2 : a.d.op = 12 := h12.2
        obtain ⟨d', args'⟩ := a
        have h2' : d'.op = 12 := h2
        rcases ok_cases ha with ⟨rfl, h5⟩ | ⟨x, rfl, -, hx⟩ | ⟨x, y, rfl, h5, h9, hx, hy⟩
        · omega
        · exact hx
        · omega
      · omega
    · split
      · exact h
      · rcases ok_cases h with ⟨rfl, h5⟩ | ⟨a, rfl, h9, ha⟩ | ⟨a, b, rfl, h5, h9, ha, hb⟩
        · omega
        · omega
        · show OkT 16 8 (if isQ a (decide (d.op = 10)) = true then b else if isQ b (decide (d.op = 10)) = true then a else if (isQ a (!decide (d.op = 10)) || isQ b (!decide (d.op = 10))) = true then constT (flagQ (!decide (d.op = 10))) else .mk d [a, b])
          split
          · exact hb
          · split
            · exact ha
            · split
              · exact const_ok (flag_check _)
              · exact h
theorem fold_ok : ∀ t : Tr, OkT 16 8 t → OkT 16 8 (foldT t) := by
  refine tr_ind fun d args ih h => ?_
  rw [foldT]
  refine fold1_ok ?_
  rcases ok_cases h with ⟨rfl, h5⟩ | ⟨a, rfl, h12, ha⟩ | ⟨a, b, rfl, h5, h12, ha, hb⟩
  · rw [foldL]; exact h
  · rw [foldL, foldL]
    have hn : nodeE 16 8 d 1 = 0 := by cases h with | mk hn _ => exact hn
    exact .mk hn (by intro x hx; simp at hx; subst hx; exact ih a (by simp) ha)
  · rw [foldL, foldL, foldL]
    have hn : nodeE 16 8 d 2 = 0 := by cases h with | mk hn _ => exact hn
    exact .mk hn (by intro x hx; simp at hx; rcases hx with rfl | rfl <;> first | exact ih a (by simp) ha | exact ih b (by simp) hb)
theorem leaf_const (E : List (List Evx)) {d : Nd} (h : d.op = 0) : evLV E d = (d.val, 0) := by
  unfold evLV leafV leafE
  rw [if_pos h, if_pos h]
/-- What known returns. -/
def constB (args : List Tr) : Bool := args.all fun a => decide (a.d.op = 0)
def knV (d : Nd) (args : List Tr) : V3 := if constB args = false ∨ args = [] then V3.z else (evalT (evLV []) (.mk d args)).1
def knB (d : Nd) (args : List Tr) : Bool := if constB args = false ∨ args = [] then false else decide ((evalT (evLV []) (.mk d args)).2 = 0) && decide (checkC (evalT (evLV []) (.mk d args)).1.q (evalT (evLV []) (.mk d args)).1.n (evalT (evLV []) (.mk d args)).1.s.size = 0)
theorem eval_c {t : Tr} (h : OkT 16 8 t) (h0 : t.d.op = 0) : evalT (evLV []) t = (t.d.val, 0) := by
  have ha := (ok_const h h0).1
  obtain ⟨d, args⟩ := t
  obtain rfl : args = [] := ha
  rw [eval_0]
  exact leaf_const [] h0
theorem known_ev {d : Nd} {args : List Tr} (h : OkT 16 8 (.mk d args)) (hc : constB args = true) (hn : args ≠ []) : evalT (evLV []) (.mk d args) = if opsE d.op ((vals args).map (·.q)) ≠ 0 then (V3.z, opsE d.op ((vals args).map (·.q))) else (resV d.op (vals args), 0) := by
  have hal := List.all_eq_true.1 hc
  rcases ok_cases h with ⟨rfl, -⟩ | ⟨a, rfl, -, ha⟩ | ⟨a, b, rfl, -, -, ha, hb⟩
  · exact absurd rfl hn
  · have h1 := hal a (by simp)
    rw [eval_1, eval_c ha (by simpa using h1)]
    rfl
  · have h1 := hal a (by simp)
    have h2 := hal b (by simp)
    rw [eval_2, eval_c ha (by simpa using h1), eval_c hb (by simpa using h2)]
    rfl
theorem known_law {d : Nd} {args : List Tr} (h : OkT 16 8 (.mk d args)) : knB d args = knownB2 d args ∧ (knownB2 d args = true → knV d args = resV d.op (vals args)) := by
  have hk : knownB2 d args = (decide (args.length ≠ 0) && constB args && decide (opsE d.op ((vals args).map (·.q)) = 0) && decide (checkC (resV d.op (vals args)).q (resV d.op (vals args)).n (resV d.op (vals args)).s.size = 0)) := rfl
  by_cases hc : constB args = true
  · by_cases hn : args = []
    · constructor
      · unfold knB; rw [if_pos (.inr hn), hk, hn]; rfl
      · intro h1; rw [hk, hn] at h1; simp at h1
    · have hl : args.length ≠ 0 := fun e => hn (List.length_eq_zero_iff.1 e)
      have hb : ¬ (constB args = false ∨ args = []) := by rw [hc]; simp [hn]
      unfold knB knV
      rw [if_neg hb, if_neg hb, known_ev h hc hn, hk, hc, decide_eq_true hl]
      by_cases ho : opsE d.op ((vals args).map (·.q)) = 0
      · rw [if_neg (by simpa using ho)]
        simp [ho]
      · rw [if_pos ho]
        simp [ho]
  · have hc' : constB args = false := by simpa using hc
    constructor
    · unfold knB; rw [if_pos (.inl hc'), hk, hc']; simp
    · intro h1; rw [hk, hc'] at h1; simp at h1
section
variable (w : World)
set_option maxHeartbeats 1000000 in
theorem constant_any (v : V3) (h : okX v) (Z : World → Nat → Prop) : Calls Try.prog 47 #[V3.v v] w (RetX w Z (constT v)) := by
  obtain ⟨q, n, s⟩ := v
  go_enter Try.func47, Try.ntmps47
  go_wp2
  refine bodyPost_ret (v := .agg #[.int .i64 0, .slice none 0 0, .int .i64 0, .int .i64 0, .int .i64 0, .int .i64 q, .int .i64 n, .string s]) (by rw [results_c rfl]; go_simp) rfl ?_
  exact ⟨_, rfl, constT_tx h, bthen (below_laid _) (below_laid _)⟩
set_option maxRecDepth 100000 in
set_option maxHeartbeats 8000000 in
theorem is_any (d : Nd) (v : Value) (args : List Tr) (b : Bool) : Calls Try.prog 48 #[.agg (cellsX d v).toArray, .bool b] w (Ret (.bool (isQ (.mk d args) b)) w) := by
  obtain ⟨R, hR⟩ : ∃ r, isQ (.mk d args) b = r := ⟨_, rfl⟩
  have HR := hide (show (decide (d.op = 0) && eqQ d.val (flagQ b)) = R from hR)
  rw [hR]
  clear hR
  obtain ⟨op, vr, fd, kd, ⟨vq, vn, vs⟩⟩ := d
  simp only at HR
  have hx := cells_lit w [.int .i64 op, v, .int .i64 vr, .int .i64 fd, .int .i64 kd, .int .i64 vq, .int .i64 vn, .string vs] 30
  have hB := below_laid (w := w) (.cells #[.int .i64 op, v, .int .i64 vr, .int .i64 fd, .int .i64 kd, .int .i64 vq, .int .i64 vn, .string vs] 30)
  have c0 := hx 0 _ rfl
  have c5 := hx 5 _ rfl
  have c6 := hx 6 _ rfl
  have c7 := hx 7 _ rfl
  have HFL := hide (fun w => flag_any w b)
  clear hx
  have HS := hide (show vs.toList = [] ↔ vs = ⟨#[]⟩ from ⟨fun h => by
    rw [ByteArray.toList_eq] at h
    exact ByteArray.ext (Array.toList_inj.1 h), fun h => by rw [h, ByteArray.toList_eq]⟩)
  by_cases h0 : op = 0
  · have HQ := hide (show eqQ ⟨vq, vn, vs⟩ (flagQ b) = R by
      have h9 := HR.out
      rw [decide_eq_true h0, Bool.true_and] at h9
      exact h9)
    clear HR
    have t0 : (op == 0) = true := by rw [beq_iff_eq]; exact h0
    obtain ⟨fn, hfn⟩ : ∃ k : Int, flagQ b = ⟨1, k, ⟨#[]⟩⟩ := ⟨_, rfl⟩
    rw [hfn] at HQ HFL
    have hcase : (∃ r, r = R ∧ r = false ∧ ¬ vq = 1) ∨ (∃ r, r = R ∧ r = false ∧ vq = 1 ∧ ¬ vn = fn) ∨ (∃ r, r = R ∧ r = false ∧ vq = 1 ∧ vn = fn ∧ ¬ vs.toList = []) ∨ (∃ r, r = R ∧ r = true ∧ vq = 1 ∧ vn = fn ∧ vs.toList = []) := by
      by_cases h1 : vq = 1
      · by_cases h2 : vn = fn
        · by_cases h3 : vs.toList = []
          · exact .inr (.inr (.inr ⟨true, by rw [← HQ.out]; simp [eqQ, h1, h2, HS.out.1 h3], rfl, h1, h2, h3⟩))
          · exact .inr (.inr (.inl ⟨false, by rw [← HQ.out]; simp [eqQ, h1, h2]; exact fun h => h3 (HS.out.2 h), rfl, h1, h2, h3⟩))
        · exact .inr (.inl ⟨false, by rw [← HQ.out]; simp [eqQ, h1, h2], rfl, h1, h2⟩)
      · exact .inl ⟨false, by rw [← HQ.out]; simp [eqQ, h1], rfl, h1⟩
    clear hfn h0
    rcases hcase with ⟨r, hq, rfl, h1⟩ | ⟨r, hq, rfl, rfl, h2⟩ | ⟨r, hq, rfl, rfl, rfl, h3⟩ | ⟨r, hq, rfl, rfl, rfl, h3⟩
    · replace HQ := hide hq
      clear hq HS
      go_enter Try.func48, Try.ntmps48
      go_wp2_with fail
      go_region_held3 (fun w' => w'.cell? ⟨w.heap.size, 0, none⟩ = some (.int .i64 op) ∧ w'.cell? ⟨w.heap.size, 5, none⟩ = some (.int .i64 vq) ∧ w'.cell? ⟨w.heap.size, 6, none⟩ = some (.int .i64 vn) ∧ w'.cell? ⟨w.heap.size, 7, none⟩ = some (.string vs))
        (first | with_reducible exact ⟨keep1 hbK c0, keep1 hbK c5, keep1 hbK c6, keep1 hbK c7⟩ | (go_keep; done))
        ((go_at_call 26; refine (HFL.out _).mono ?_; rintro en w9 ⟨rfl, hb9⟩; have hbK := below_undrew hb9; simp only [V3.v]))
      all_goals
        go_wp2
        go_ret
        exact Ret.mk (by rw [← HQ.out]; first | done | rfl) (bthen hB hbK)
    · replace HQ := hide hq
      clear hq HS
      go_enter Try.func48, Try.ntmps48
      go_wp2_with fail
      go_region_held3 (fun w' => w'.cell? ⟨w.heap.size, 0, none⟩ = some (.int .i64 op) ∧ w'.cell? ⟨w.heap.size, 5, none⟩ = some (.int .i64 1) ∧ w'.cell? ⟨w.heap.size, 6, none⟩ = some (.int .i64 vn) ∧ w'.cell? ⟨w.heap.size, 7, none⟩ = some (.string vs))
        (first | with_reducible exact ⟨keep1 hbK c0, keep1 hbK c5, keep1 hbK c6, keep1 hbK c7⟩ | (go_keep; done))
        ((go_at_call 26; refine (HFL.out _).mono ?_; rintro en w9 ⟨rfl, hb9⟩; have hbK := below_undrew hb9; simp only [V3.v]))
      all_goals
        go_wp2
        go_ret
        exact Ret.mk (by rw [← HQ.out]; first | done | rfl) (bthen hB hbK)
    · replace HQ := hide hq
      clear hq HS
      go_enter Try.func48, Try.ntmps48
      go_wp2_with fail
      go_region_held3 (fun w' => w'.cell? ⟨w.heap.size, 0, none⟩ = some (.int .i64 op) ∧ w'.cell? ⟨w.heap.size, 5, none⟩ = some (.int .i64 1) ∧ w'.cell? ⟨w.heap.size, 6, none⟩ = some (.int .i64 vn) ∧ w'.cell? ⟨w.heap.size, 7, none⟩ = some (.string vs))
        (first | with_reducible exact ⟨keep1 hbK c0, keep1 hbK c5, keep1 hbK c6, keep1 hbK c7⟩ | (go_keep; done))
        ((go_at_call 26; refine (HFL.out _).mono ?_; rintro en w9 ⟨rfl, hb9⟩; have hbK := below_undrew hb9; simp only [V3.v]))
      all_goals
        go_wp2
        go_ret
        exact Ret.mk (by rw [← HQ.out]; first | done | rfl) (bthen hB hbK)
    · replace HQ := hide hq
      clear hq HS
      go_enter Try.func48, Try.ntmps48
      go_wp2_with fail
      go_region_held3 (fun w' => w'.cell? ⟨w.heap.size, 0, none⟩ = some (.int .i64 op) ∧ w'.cell? ⟨w.heap.size, 5, none⟩ = some (.int .i64 1) ∧ w'.cell? ⟨w.heap.size, 6, none⟩ = some (.int .i64 vn) ∧ w'.cell? ⟨w.heap.size, 7, none⟩ = some (.string vs))
        (first | with_reducible exact ⟨keep1 hbK c0, keep1 hbK c5, keep1 hbK c6, keep1 hbK c7⟩ | (go_keep; done))
        ((go_at_call 26; refine (HFL.out _).mono ?_; rintro en w9 ⟨rfl, hb9⟩; have hbK := below_undrew hb9; simp only [V3.v]))
      all_goals
        go_wp2
        go_ret
        exact Ret.mk (by rw [← HQ.out]; first | done | rfl) (bthen hB hbK)
  · have HQ := hide (show false = R by
      have h9 := HR.out
      rw [decide_eq_false h0, Bool.false_and] at h9
      exact h9)
    have t0 : (op == 0) = false := by rw [beq_eq_false_iff_ne]; exact h0
    clear HR HS h0 HFL
    go_enter Try.func48, Try.ntmps48
    go_wp2_with fail
    refine wp_region_held_drew (S := fun w' => w'.cell? ⟨w.heap.size, 0, none⟩ = some (.int .i64 op)) (by kernel_rfl) c0 (fun hHeld => ?_)
    refine wpAnyH_take (i := 0) (v := ?_) rfl (by kernel_rfl) (by kernel_rfl) (by kernel_rfl) (fun _ _ _ h => h) (Or.inl ⟨by rfl, ?_⟩) (by assumption) ?_
    rotate_left
    · intro w hSw
      (try dsimp only at hSw)
      go_simp
      all_goals with_reducible rfl
    try simp only [List.getElem_toArray, List.getElem_cons_succ, List.getElem_cons_zero, Act.put, List.setIfInBounds_toArray, List.set_cons_zero, List.set_cons_succ]
    refine wpAnyH_take (i := 1) (v := ?_) rfl (by kernel_rfl) (by kernel_rfl) (by kernel_rfl) (fun _ _ _ h => h) (Or.inl ⟨by rfl, ?_⟩) (by assumption) ?_
    rotate_left
    · intro w hSw
      (try dsimp only at hSw)
      go_simp
      all_goals with_reducible rfl
    try simp only [List.getElem_toArray, List.getElem_cons_succ, List.getElem_cons_zero, Act.put, List.setIfInBounds_toArray, List.set_cons_zero, List.set_cons_succ]
    refine wpAnyH_take (i := 2) (v := ?_) rfl (by kernel_rfl) (by kernel_rfl) (by kernel_rfl) (fun _ _ _ h => h) (Or.inl ⟨by rfl, ?_⟩) (by assumption) ?_
    rotate_left
    · intro w hSw
      (try dsimp only at hSw)
      go_simp
      all_goals with_reducible rfl
    try simp only [List.getElem_toArray, List.getElem_cons_succ, List.getElem_cons_zero, Act.put, List.setIfInBounds_toArray, List.set_cons_zero, List.set_cons_succ]
    refine wpAnyH_take (i := 3) (v := ?_) rfl (by kernel_rfl) (by kernel_rfl) (by kernel_rfl) (fun _ _ _ h => h) (Or.inl ⟨by rfl, ?_⟩) (by assumption) ?_
    rotate_left
    · intro w hSw
      (try dsimp only at hSw)
      go_simp
      all_goals with_reducible rfl
    try simp only [List.getElem_toArray, List.getElem_cons_succ, List.getElem_cons_zero, Act.put, List.setIfInBounds_toArray, List.set_cons_zero, List.set_cons_succ]
    refine wpAnyH_take (i := 4) (v := undef) rfl (by kernel_rfl) (by kernel_rfl) (by kernel_rfl) (fun _ _ _ h => h) (Or.inr ⟨by rfl, rfl⟩) (by assumption) ?_
    try simp only [List.getElem_toArray, List.getElem_cons_succ, List.getElem_cons_zero, Act.put, List.setIfInBounds_toArray, List.set_cons_zero, List.set_cons_succ]
    refine wpAnyH_take (i := 5) (v := undef) rfl (by kernel_rfl) (by kernel_rfl) (by kernel_rfl) (fun _ _ _ h => h) (Or.inr ⟨by rfl, rfl⟩) (by assumption) ?_
    try simp only [List.getElem_toArray, List.getElem_cons_succ, List.getElem_cons_zero, Act.put, List.setIfInBounds_toArray, List.set_cons_zero, List.set_cons_succ]
    refine wpAnyH_take (i := 6) (v := undef) rfl (by kernel_rfl) (by kernel_rfl) (by kernel_rfl) (fun _ _ _ h => h) (Or.inr ⟨by rfl, rfl⟩) (by assumption) ?_
    try simp only [List.getElem_toArray, List.getElem_cons_succ, List.getElem_cons_zero, Act.put, List.setIfInBounds_toArray, List.set_cons_zero, List.set_cons_succ]
    refine wpAnyH_take (i := 7) (v := undef) rfl (by kernel_rfl) (by kernel_rfl) (by kernel_rfl) (fun _ _ _ h => h) (Or.inr ⟨by rfl, rfl⟩) (by assumption) ?_
    try simp only [List.getElem_toArray, List.getElem_cons_succ, List.getElem_cons_zero, Act.put, List.setIfInBounds_toArray, List.set_cons_zero, List.set_cons_succ]
    refine wpAnyH_take (i := 8) (v := undef) rfl (by kernel_rfl) (by kernel_rfl) (by kernel_rfl) (fun _ _ _ h => h) (Or.inr ⟨by rfl, rfl⟩) (by assumption) ?_
    try simp only [List.getElem_toArray, List.getElem_cons_succ, List.getElem_cons_zero, Act.put, List.setIfInBounds_toArray, List.set_cons_zero, List.set_cons_succ]
    refine wpAnyH_take (i := 9) (v := ?_) rfl (by kernel_rfl) (by kernel_rfl) (by kernel_rfl) (fun _ _ _ h => h) (Or.inl ⟨by rfl, ?_⟩) (by assumption) ?_
    rotate_left
    · intro w hSw
      (try dsimp only at hSw)
      go_simp
      all_goals with_reducible rfl
    try simp only [List.getElem_toArray, List.getElem_cons_succ, List.getElem_cons_zero, Act.put, List.setIfInBounds_toArray, List.set_cons_zero, List.set_cons_succ]
    refine wpAnyH_take (i := 10) (v := ?_) rfl (by kernel_rfl) (by kernel_rfl) (by kernel_rfl) (fun _ _ _ h => h) (Or.inl ⟨by rfl, ?_⟩) (by assumption) ?_
    rotate_left
    · intro w hSw
      (try dsimp only at hSw)
      go_simp
      all_goals with_reducible rfl
    try simp only [List.getElem_toArray, List.getElem_cons_succ, List.getElem_cons_zero, Act.put, List.setIfInBounds_toArray, List.set_cons_zero, List.set_cons_succ]
    refine wpAnyH_done (by kernel_rfl) ?_ _
    go_wp2
    go_ret
    exact Ret.mk (by rw [← HQ.out]; first | done | rfl) hB.drew
end
end Go.Proofs.Ytkcbjnhphekadaa

namespace Go.Proofs.Ytkcbjnhphekadaa
open Go.RowKit
set_option linter.unusedVariables false
set_option linter.unusedSimpArgs false
theorem set3_farX {W : World} {F : Nat} {v0 v1 v2 : Value} {p : Addr} (hp : F ≠ p.block) : (((W.setCell ⟨F, 0, none⟩ v0).setCell ⟨F, 1, none⟩ v1).setCell ⟨F, 2, none⟩ v2).cell? p = W.cell? p := by
  rw [World.cell?_setCell_other _ _ _ _ (by rintro rfl; exact hp rfl), World.cell?_setCell_other _ _ _ _ (by rintro rfl; exact hp rfl), World.cell?_setCell_other _ _ _ _ (by rintro rfl; exact hp rfl)]
theorem const_snoc {l : List Tr} {j : Nat} (h : j < l.length) (ht : constB (l.take j) = true) (h0 : l[j].d.op = 0) : constB (l.take (j + 1)) = true := by
  unfold constB at ht ⊢
  rw [List.take_succ_eq_append_getElem h, List.all_append, ht]
  simp [h0]
theorem const_bad {l : List Tr} {j : Nat} (h : j < l.length) (h0 : ¬ l[j].d.op = 0) : constB l = false := by
  unfold constB
  rw [List.all_eq_false]
  exact ⟨l[j], List.getElem_mem h, by simp [h0]⟩
theorem known_sz {d : Nd} {args : List Tr} (h : OkT 16 8 (.mk d args)) (hc : constB args = true) (hn : args ≠ []) : (evalT (evLV []) (.mk d args)).1.s.size ≤ maxLen := by
  rw [known_ev h hc hn]
  split
  · exact Nat.zero_le _
  · exact (res_ok _ _).2.2
section
variable (w : World)
set_option maxRecDepth 100000 in
set_option maxHeartbeats 8000000 in
theorem xknown_any (d : Nd) (args : List Tr) (v : Value) (hok : OkT 16 8 (.mk d args)) (mp : Nat) (h2 : Opz w mp) (h : Tx w (cellsX d v) (.mk d args)) :
    Calls Try.prog 46 #[.agg ([.slice none 0 0, .int .i64 (-1), .int .i64 0, .int .i64 0, .int .i64 0, .int .i64 0, .slice none 0 0, .map (some mp)]).toArray, .agg (cellsX d v).toArray] w (Ret (.tuple #[V3.v (knV d args), .bool (knB d args)]) w) := by
  have HEV := hide (fun w' h2' h' => xeval_any [] (fun k => by unfold evsQ; simp) (.mk d args) hok w' (.slice none 0 0) mp (cellsX d v) There.nil h2' h')
  have HKZ := hide (fun hc hn => known_sz hok hc hn)
  have HQ0 := hide (show knV d args = (if constB args = false ∨ args = [] then V3.z else (evalT (evLV []) (.mk d args)).1) ∧ knB d args = (if constB args = false ∨ args = [] then false else decide ((evalT (evLV []) (.mk d args)).2 = 0) && decide (checkC (evalT (evLV []) (.mk d args)).1.q (evalT (evLV []) (.mk d args)).1.n (evalT (evLV []) (.mk d args)).1.s.size = 0)) from ⟨rfl, rfl⟩)
  obtain ⟨KV, hKV⟩ : ∃ r, knV d args = r := ⟨_, rfl⟩
  obtain ⟨KB, hKB⟩ : ∃ r, knB d args = r := ⟨_, rfl⟩
  obtain ⟨EV, hEV⟩ : ∃ r, evalT (evLV []) (.mk d args) = r := ⟨_, rfl⟩
  rw [hKV, hKB, hEV] at HQ0
  rw [hEV] at HEV HKZ
  rw [hKV, hKB]
  obtain ⟨⟨eq, en, es⟩, ee⟩ := EV
  simp only at HQ0 HEV HKZ
  have HX := hide h
  have H2 := hide h2
  obtain ⟨v0, hv0, hl, hd⟩ := RTx.out h
  have hv0 : v = v0 := by injection hv0 with _ h9; injection h9
  subst hv0
  have HL := hide hl
  obtain ⟨A, cap, rfl⟩ := hl.form
  have hm := hl.len
  unfold maxLen at hm
  obtain ⟨m, hmm⟩ : ∃ m, args.length = m := ⟨_, rfl⟩
  have HM := hide hmm
  rw [hmm] at HX HEV HL hm ⊢
  have hB1 := below_laid (w := w) (.cells ([.slice none 0 0, .int .i64 (-1), .int .i64 0, .int .i64 0, .int .i64 0, .int .i64 0, .slice none 0 0, .map (some mp)]).toArray 76)
  have hB2 := bthen hB1 (below_laid (.cells ([.int .i64 d.op, .slice A m cap, .int .i64 d.var, .int .i64 d.field, .int .i64 d.kind, .int .i64 d.val.q, .int .i64 d.val.n, .string d.val.s]).toArray 30))
  have hB3 := bthen hB2 (below_laid (.cells #[.int .i64 0, .int .i64 0, .string ⟨#[]⟩] 28))
  have hf := ((Bxs.new w ([.slice none 0 0, .int .i64 (-1), .int .i64 0, .int .i64 0, .int .i64 0, .int .i64 0, .slice none 0 0, .map (some mp)]) 76).keep (below_laid (.cells ([.int .i64 d.op, .slice A m cap, .int .i64 d.var, .int .i64 d.field, .int .i64 d.kind, .int .i64 d.val.q, .int .i64 d.val.n, .string d.val.s]).toArray 30))).keep (below_laid (.cells #[.int .i64 0, .int .i64 0, .string ⟨#[]⟩] 28))
  have hx := (Bxs.new (w.alloc (.cells ([.slice none 0 0, .int .i64 (-1), .int .i64 0, .int .i64 0, .int .i64 0, .int .i64 0, .slice none 0 0, .map (some mp)]).toArray 76)) ([.int .i64 d.op, .slice A m cap, .int .i64 d.var, .int .i64 d.field, .int .i64 d.kind, .int .i64 d.val.q, .int .i64 d.val.n, .string d.val.s]) 30).keep (below_laid (.cells #[.int .i64 0, .int .i64 0, .string ⟨#[]⟩] 28))
  rw [World.size_alloc] at hx
  have hr : Box3 (((w.alloc (.cells ([.slice none 0 0, .int .i64 (-1), .int .i64 0, .int .i64 0, .int .i64 0, .int .i64 0, .slice none 0 0, .map (some mp)]).toArray 76)).alloc (.cells ([.int .i64 d.op, .slice A m cap, .int .i64 d.var, .int .i64 d.field, .int .i64 d.kind, .int .i64 d.val.q, .int .i64 d.val.n, .string d.val.s]).toArray 30)).alloc (.cells #[.int .i64 0, .int .i64 0, .string ⟨#[]⟩] 28)) (w.heap.size + 1 + 1) V3.z := by
    have := Box3.new ((w.alloc (.cells ([.slice none 0 0, .int .i64 (-1), .int .i64 0, .int .i64 0, .int .i64 0, .int .i64 0, .slice none 0 0, .map (some mp)]).toArray 76)).alloc (.cells ([.int .i64 d.op, .slice A m cap, .int .i64 d.var, .int .i64 d.field, .int .i64 d.kind, .int .i64 d.val.q, .int .i64 d.val.n, .string d.val.s]).toArray 30)) V3.z 28
    simp only [World.size_alloc] at this
    exact this
  have HB := hide hB3
  have HBF := hide hf
  have HBX := hide hx
  have HR := hide hr
  have HHZ := hide (show w.heap.size + 1 + 1 < (((w.alloc (.cells ([.slice none 0 0, .int .i64 (-1), .int .i64 0, .int .i64 0, .int .i64 0, .int .i64 0, .slice none 0 0, .map (some mp)]).toArray 76)).alloc (.cells ([.int .i64 d.op, .slice A m cap, .int .i64 d.var, .int .i64 d.field, .int .i64 d.kind, .int .i64 d.val.q, .int .i64 d.val.n, .string d.val.s]).toArray 30)).alloc (.cells #[.int .i64 0, .int .i64 0, .string ⟨#[]⟩] 28)).heap.size by simp)
  have a1 := HBX.out 1 _ rfl
  clear h h2 hl hd hmm hB1 hB2 hB3 hf hx hr hKV hKB hEV hok
  go_enter Try.func46, Try.ntmps46
  go_wp2_with fail
  obtain ⟨w0, hw0⟩ : ∃ w0, (((w.alloc (.cells #[.slice none 0 0, .int .i64 (-1), .int .i64 0, .int .i64 0, .int .i64 0, .int .i64 0, .slice none 0 0, .map (some mp)] 76)).alloc (.cells #[.int .i64 d.op, .slice A m cap, .int .i64 d.var, .int .i64 d.field, .int .i64 d.kind, .int .i64 d.val.q, .int .i64 d.val.n, .string d.val.s] 30)).alloc (.cells #[.int .i64 0, .int .i64 0, .string ⟨#[]⟩] 28)) = w0 := ⟨_, rfl⟩
  have e0 : (((w.alloc (.cells ([.slice none 0 0, .int .i64 (-1), .int .i64 0, .int .i64 0, .int .i64 0, .int .i64 0, .slice none 0 0, .map (some mp)]).toArray 76)).alloc (.cells ([.int .i64 d.op, .slice A m cap, .int .i64 d.var, .int .i64 d.field, .int .i64 d.kind, .int .i64 d.val.q, .int .i64 d.val.n, .string d.val.s]).toArray 30)).alloc (.cells #[.int .i64 0, .int .i64 0, .string ⟨#[]⟩] 28)) = w0 := hw0
  have e1 : (((w.alloc (.cells ([.slice none 0 0, .int .i64 (-1), .int .i64 0, .int .i64 0, .int .i64 0, .int .i64 0, .slice none 0 0, .map (some mp)]).toArray 76)).alloc (.cells (cellsX d (.slice A m cap)).toArray 30)).alloc (.cells #[.int .i64 0, .int .i64 0, .string ⟨#[]⟩] 28)) = w0 := hw0
  first | rw [hw0] | rw [e0] | rw [e1] | skip
  rw [e0] at HB HBF HBX HR HHZ
  clear e0 e1
  clear hw0 a1
  go_loopw [13] (fun i wr => ∃ (j : Nat), j ≤ m ∧ i = .int .i64 j ∧ Hid (constB (args.take j) = true) ∧ Hid (Below w0.heap.size w0 wr)) (fun i _ => m - (intOf i).toNat)
  case atStart => exact ⟨0, Nat.zero_le _, rfl, hide rfl, hide (Below.refl _ _)⟩
  case round =>
    obtain ⟨j, hj, rfl, HA, HW⟩ := hrel
    have HBR := hide (bthen HB.out HW.out)
    replace HR := hide (HR.out.keep HW.out)
    have hzr : w.heap.size + 1 + 1 < wr.heap.size := Nat.lt_of_lt_of_le HHZ.out HW.out.size
    obtain ⟨⟨r0, r1, r2⟩, g0, g1, g2⟩ := HR.out
    simp only [V3.z] at r0 r1 r2
    by_cases hlt : j < m
    · have hja : j < args.length := by rw [HM.out]; exact hlt
      obtain ⟨g, off, ys, e2, hg, hyl, hc, hrx⟩ := Lst.at_ HL.out hja
      subst e2
      have hgw : g < w.heap.size := hg
      have HCS := hide (fun h0 => const_snoc hja HA.out h0)
      have HCB := hide (fun h0 => const_bad hja h0)
      obtain ⟨t, ht⟩ : ∃ t, args[j] = t := ⟨_, rfl⟩
      rw [ht] at hrx HCS HCB
      obtain ⟨d2, l2⟩ := t
      obtain ⟨v2, rfl, hl2, hd2⟩ := RTx.out hrx
      obtain ⟨A5, cap5, rfl⟩ := hl2.form
      obtain ⟨n2, hn2⟩ : ∃ n, l2.length = n := ⟨_, rfl⟩
      rw [hn2] at hc
      simp only [Tr.d] at HCS HCB
      have k0 := keep1 HBR.out (hc 0 _ rfl)
      have k1 := keep1 HBR.out (hc 1 _ rfl)
      have k2 := keep1 HBR.out (hc 2 _ rfl)
      have k3 := keep1 HBR.out (hc 3 _ rfl)
      have k4 := keep1 HBR.out (hc 4 _ rfl)
      have k5 := keep1 HBR.out (hc 5 _ rfl)
      have k6 := keep1 HBR.out (hc 6 _ rfl)
      have k7 := keep1 HBR.out (hc 7 _ rfl)
      rw [Nat.add_zero] at k0
      have hu0 : (0 : Int) ≤ (j : Int) := by omega
      have hu1 : (j : Int) < (m : Int) := by omega
      have hba := below_laid (w := wr) (.cells ([.int .i64 d2.op, .slice A5 n2 cap5, .int .i64 d2.var, .int .i64 d2.field, .int .i64 d2.kind, .int .i64 d2.val.q, .int .i64 d2.val.n, .string d2.val.s]).toArray 30)
      have HBa := hide (bthen HBR.out hba)
      have HWa := hide (bthen HW.out hba)
      have hx9 := cells_lit wr ([.int .i64 d2.op, .slice A5 n2 cap5, .int .i64 d2.var, .int .i64 d2.field, .int .i64 d2.kind, .int .i64 d2.val.q, .int .i64 d2.val.n, .string d2.val.s]) 30
      have c0 := hx9 0 _ rfl
      clear ht hc hyl hl2 hd2 hg hrx hn2 hba hx9 HW HA
      by_cases h0 : d2.op = 0
      · have t0 : (d2.op != 0) = false := by rw [bne_eq_false_iff_eq]; exact h0
        have HCN := hide (HCS.out h0)
        clear h0 HCS HCB
        go_wp2
        go_roundw
        case rel => exact ⟨j + 1, by omega, by go_num, HCN, HWa⟩
        case measure => simp [intOf]; omega
      · have t0 : (d2.op != 0) = true := by rw [bne_iff_ne]; exact h0
        have HQ := hide (show KV = V3.z ∧ KB = false by
          have h9 := HQ0.out
          rw [if_pos (.inl (HCB.out h0)), if_pos (.inl (HCB.out h0))] at h9
          exact h9)
        clear h0 HCS HCB HQ0
        go_wp2
        refine bodyPost_ret (v := .tuple #[.agg #[.int .i64 0, .int .i64 0, .string ⟨#[]⟩], .bool false]) (by rw [results_cell_tmp rfl]; go_simp) rfl ?_
        exact Ret.mk (by rw [HQ.out.1, HQ.out.2]; first | done | rfl) (bthen (below_set3' HBR.out (by omega) _ _ _) (below_laid _))
    · obtain rfl : j = m := by omega
      have hta : args.take j = args := List.take_of_length_le (by rw [HM.out]; exact Nat.le_refl _)
      replace HA := hide (show constB args = true by rw [← hta]; exact HA.out)
      replace HBX := hide (HBX.out.keep HW.out)
      replace HBF := hide (HBF.out.keep HW.out)
      have HXr := hide (HX.out.grow HBR.out)
      have H2r := hide (H2.out.keep HBR.out)
      have a0 := HBX.out 0 _ rfl
      have a1 := HBX.out 1 _ rfl
      have a2 := HBX.out 2 _ rfl
      have a3 := HBX.out 3 _ rfl
      have a4 := HBX.out 4 _ rfl
      have a5 := HBX.out 5 _ rfl
      have a6 := HBX.out 6 _ rfl
      have a7 := HBX.out 7 _ rfl
      clear hta
      by_cases hm0 : j = 0
      · have t0 : ((j : Int) == 0) = true := by rw [beq_iff_eq]; omega
        have t0' : (j == 0) = true := by rw [beq_iff_eq]; exact hm0
        have HQ := hide (show KV = V3.z ∧ KB = false by
          have hn : args = [] := List.length_eq_zero_iff.1 (HM.out.trans hm0)
          have h9 := HQ0.out
          rw [if_pos (.inr hn), if_pos (.inr hn)] at h9
          exact h9)
        clear hm0 HQ0
        go_wp2
        refine bodyPost_ret (v := .tuple #[.agg #[.int .i64 0, .int .i64 0, .string ⟨#[]⟩], .bool false]) (by rw [results_cell_tmp rfl]; go_simp) rfl ?_
        exact Ret.mk (by rw [HQ.out.1, HQ.out.2]; first | done | rfl) (below_set3' HBR.out (by omega) _ _ _)
      · have t0 : ((j : Int) == 0) = false := by rw [beq_eq_false_iff_ne]; omega
        have t0' : (j == 0) = false := by rw [beq_eq_false_iff_ne]; exact hm0
        have hn : args ≠ [] := fun e => hm0 (by rw [← HM.out, e]; rfl)
        have HSZ := hide (HKZ.out HA.out hn)
        have HQ := hide (show KV = ⟨eq, en, es⟩ ∧ KB = (decide (ee = 0) && decide (checkC eq en es.size = 0)) by
          have h9 := HQ0.out
          have hb : ¬ (constB args = false ∨ args = []) := by rw [HA.out]; simp [hn]
          rw [if_neg hb, if_neg hb] at h9
          exact h9)
        clear hm0 HQ0 hn
        have f0 := HBF.out 0 _ rfl
        have f1 := HBF.out 1 _ rfl
        have f2 := HBF.out 2 _ rfl
        have f3 := HBF.out 3 _ rfl
        have f4 := HBF.out 4 _ rfl
        have f5 := HBF.out 5 _ rfl
        have f6 := HBF.out 6 _ rfl
        have f7 := HBF.out 7 _ rfl
        go_wp2_with fail
        refine (HEV.out wr H2r.out HXr.out).mono ?_
        rintro e w3 ⟨rfl, hb⟩
        replace HR := hide (HR.out.keep hb)
        have HBG := hide (bthen HBR.out hb)
        have hz3 : w.heap.size + 1 + 1 < w3.heap.size := Nat.lt_of_lt_of_le hzr hb.size
        clear hb a0 a1 a2 a3 a4 a5 a6 a7 f0 f1 f2 f3 f4 f5 f6 f7 r0 r1 r2 g0 g1 g2 HXr H2r HEV
        have HRa := hide (HR.out.keep (below_laid (.cells #[.int .i64 eq, .int .i64 en, .string es] 28)))
        have hc9 := cells_lit w3 [.int .i64 eq, .int .i64 en, .string es] 28
        have c0 := hc9 0 _ rfl
        have c1 := hc9 1 _ rfl
        have c2 := hc9 2 _ rfl
        have hba := below_laid (w := w3) (.cells #[.int .i64 eq, .int .i64 en, .string es] 28)
        have hne : w.heap.size + 1 + 1 ≠ w3.heap.size := by omega
        clear hc9
        by_cases he0 : ee = 0
        · have te : (ee == 0) = true := by rw [beq_iff_eq]; exact he0
          have HCK := hide (fun w => check_any eq en es w HSZ.out)
          replace HQ := hide (show KV = ⟨eq, en, es⟩ ∧ KB = decide (checkC eq en es.size = 0) by
            have h9 := HQ.out
            rw [decide_eq_true he0, Bool.true_and] at h9
            exact h9)
          obtain ⟨ck, hck⟩ : ∃ c, checkC eq en es.size = c := ⟨_, rfl⟩
          rw [hck] at HCK HQ
          clear hck he0
          by_cases hk0 : ck = 0
          · have tk : (ck == 0) = true := by rw [beq_iff_eq]; exact hk0
            replace HQ := hide (show KV = ⟨eq, en, es⟩ ∧ KB = true from ⟨HQ.out.1, by rw [HQ.out.2, decide_eq_true hk0]⟩)
            clear hk0
            go_wp2_with fail
            go_region_held3 (fun w' => w'.cell? ⟨w3.heap.size, 0, none⟩ = some (.int .i64 eq) ∧ w'.cell? ⟨w3.heap.size, 1, none⟩ = some (.int .i64 en) ∧ w'.cell? ⟨w3.heap.size, 2, none⟩ = some (.string es))
              (first | with_reducible exact ⟨keep1 hbK c0, keep1 hbK c1, keep1 hbK c2⟩ | with_reducible exact ⟨(set3_farX (p := ⟨w3.heap.size, 0, none⟩) hne).trans (keep1 hbK c0), (set3_farX (p := ⟨w3.heap.size, 1, none⟩) hne).trans (keep1 hbK c1), (set3_farX (p := ⟨w3.heap.size, 2, none⟩) hne).trans (keep1 hbK c2)⟩ | (go_keep; done))
              ((go_at_call 54; refine (HCK.out _).mono ?_; rintro en9 w9 ⟨rfl, hb9⟩; have hbK := below_undrew hb9; obtain ⟨⟨r0, r1, r2⟩, g0, g1, g2⟩ := HRa.out.keep hbK; simp only [V3.z] at r0 r1 r2))
            all_goals
              go_wp2
              refine bodyPost_ret (v := .tuple #[.agg #[.int .i64 eq, .int .i64 en, .string es], .bool true]) (by rw [results_cell_tmp rfl]; go_simp) rfl ?_
              exact Ret.mk (by rw [HQ.out.1, HQ.out.2]; first | done | rfl) (below_set3' (bthen (bthen HBG.out hba) hbK) (by omega) _ _ _)
          · have tk : (ck == 0) = false := by rw [beq_eq_false_iff_ne]; exact hk0
            replace HQ := hide (show KV = ⟨eq, en, es⟩ ∧ KB = false from ⟨HQ.out.1, by rw [HQ.out.2, decide_eq_false hk0]⟩)
            clear hk0
            go_wp2_with fail
            go_region_held3 (fun w' => w'.cell? ⟨w3.heap.size, 0, none⟩ = some (.int .i64 eq) ∧ w'.cell? ⟨w3.heap.size, 1, none⟩ = some (.int .i64 en) ∧ w'.cell? ⟨w3.heap.size, 2, none⟩ = some (.string es))
              (first | with_reducible exact ⟨keep1 hbK c0, keep1 hbK c1, keep1 hbK c2⟩ | with_reducible exact ⟨(set3_farX (p := ⟨w3.heap.size, 0, none⟩) hne).trans (keep1 hbK c0), (set3_farX (p := ⟨w3.heap.size, 1, none⟩) hne).trans (keep1 hbK c1), (set3_farX (p := ⟨w3.heap.size, 2, none⟩) hne).trans (keep1 hbK c2)⟩ | (go_keep; done))
              ((go_at_call 54; refine (HCK.out _).mono ?_; rintro en9 w9 ⟨rfl, hb9⟩; have hbK := below_undrew hb9; obtain ⟨⟨r0, r1, r2⟩, g0, g1, g2⟩ := HRa.out.keep hbK; simp only [V3.z] at r0 r1 r2))
            all_goals
              go_wp2
              refine bodyPost_ret (v := .tuple #[.agg #[.int .i64 eq, .int .i64 en, .string es], .bool false]) (by rw [results_cell_tmp rfl]; go_simp) rfl ?_
              exact Ret.mk (by rw [HQ.out.1, HQ.out.2]; first | done | rfl) (below_set3' (bthen (bthen HBG.out hba) hbK) (by omega) _ _ _)
        · have te : (ee == 0) = false := by rw [beq_eq_false_iff_ne]; exact he0
          replace HQ := hide (show KV = ⟨eq, en, es⟩ ∧ KB = false from ⟨HQ.out.1, by rw [HQ.out.2, decide_eq_false he0, Bool.false_and]⟩)
          clear he0
          obtain ⟨⟨r0, r1, r2⟩, g0, g1, g2⟩ := HR.out
          simp only [V3.z] at r0 r1 r2
          go_wp2_with fail
          refine wp_region_held_drew (S := fun w' => w'.cell? ⟨w3.heap.size, 0, none⟩ = some (.int .i64 eq) ∧ w'.cell? ⟨w3.heap.size, 1, none⟩ = some (.int .i64 en) ∧ w'.cell? ⟨w3.heap.size, 2, none⟩ = some (.string es)) (by kernel_rfl) ⟨c0, c1, c2⟩ (fun hHeld => ?_)
          refine wpAnyH_take (i := 0) (v := ?_) rfl (by kernel_rfl) (by kernel_rfl) (by kernel_rfl) (fun _ _ _ h => h) (Or.inl ⟨by rfl, ?_⟩) (by assumption) ?_
          rotate_left
          · intro w hSw
            (try dsimp only at hSw)
            go_simp
            all_goals with_reducible rfl
          try simp only [List.getElem_toArray, List.getElem_cons_succ, List.getElem_cons_zero, Act.put, List.setIfInBounds_toArray, List.set_cons_zero, List.set_cons_succ]
          refine wpAnyH_take (i := 1) (v := ?_) rfl (by kernel_rfl) (by kernel_rfl) (by kernel_rfl) (fun _ _ _ h => h) (Or.inl ⟨by rfl, ?_⟩) (by assumption) ?_
          rotate_left
          · intro w hSw
            (try dsimp only at hSw)
            go_simp
            all_goals with_reducible rfl
          try simp only [List.getElem_toArray, List.getElem_cons_succ, List.getElem_cons_zero, Act.put, List.setIfInBounds_toArray, List.set_cons_zero, List.set_cons_succ]
          refine wpAnyH_take (i := 2) (v := ?_) rfl (by kernel_rfl) (by kernel_rfl) (by kernel_rfl) (fun _ _ _ h => h) (Or.inl ⟨by rfl, ?_⟩) (by assumption) ?_
          rotate_left
          · intro w hSw
            (try dsimp only at hSw)
            go_simp
            all_goals with_reducible rfl
          try simp only [List.getElem_toArray, List.getElem_cons_succ, List.getElem_cons_zero, Act.put, List.setIfInBounds_toArray, List.set_cons_zero, List.set_cons_succ]
          refine wpAnyH_take (i := 3) (v := ?_) rfl (by kernel_rfl) (by kernel_rfl) (by kernel_rfl) (fun _ _ _ h => h) (Or.inl ⟨by rfl, ?_⟩) (by assumption) ?_
          rotate_left
          · intro w hSw
            (try dsimp only at hSw)
            go_simp
            all_goals with_reducible rfl
          try simp only [List.getElem_toArray, List.getElem_cons_succ, List.getElem_cons_zero, Act.put, List.setIfInBounds_toArray, List.set_cons_zero, List.set_cons_succ]
          refine wpAnyH_take (i := 4) (v := undef) rfl (by kernel_rfl) (by kernel_rfl) (by kernel_rfl) (fun _ _ _ h => h) (Or.inr ⟨by rfl, rfl⟩) (by assumption) ?_
          try simp only [List.getElem_toArray, List.getElem_cons_succ, List.getElem_cons_zero, Act.put, List.setIfInBounds_toArray, List.set_cons_zero, List.set_cons_succ]
          refine wpAnyH_take (i := 5) (v := undef) rfl (by kernel_rfl) (by kernel_rfl) (by kernel_rfl) (fun _ _ _ h => h) (Or.inr ⟨by rfl, rfl⟩) (by assumption) ?_
          try simp only [List.getElem_toArray, List.getElem_cons_succ, List.getElem_cons_zero, Act.put, List.setIfInBounds_toArray, List.set_cons_zero, List.set_cons_succ]
          refine wpAnyH_take (i := 6) (v := undef) rfl (by kernel_rfl) (by kernel_rfl) (by kernel_rfl) (fun _ _ _ h => h) (Or.inr ⟨by rfl, rfl⟩) (by assumption) ?_
          try simp only [List.getElem_toArray, List.getElem_cons_succ, List.getElem_cons_zero, Act.put, List.setIfInBounds_toArray, List.set_cons_zero, List.set_cons_succ]
          refine wpAnyH_take (i := 7) (v := ?_) rfl (by kernel_rfl) (by kernel_rfl) (by kernel_rfl) (fun _ _ _ h => h) (Or.inl ⟨by rfl, ?_⟩) (by assumption) ?_
          rotate_left
          · intro w hSw
            (try dsimp only at hSw)
            go_simp
            all_goals with_reducible rfl
          try simp only [List.getElem_toArray, List.getElem_cons_succ, List.getElem_cons_zero, Act.put, List.setIfInBounds_toArray, List.set_cons_zero, List.set_cons_succ]
          refine wpAnyH_ready (rs := [8]) (by kernel_rfl) (by simp) ?_
          refine AllReadyH.cons rfl (fun K hK => ?_) AllReadyH.nil
          simp only [List.getElem_toArray, List.getElem_cons_succ, List.getElem_cons_zero]
          go_simp
          refine hK _ _ ?_ (fun hHeld => ?_)
          · refine ⟨?_, ?_, ?_⟩ <;> go_simp
          clear hK K
          try simp only [List.getElem_toArray, List.getElem_cons_succ, List.getElem_cons_zero, Act.put, List.setIfInBounds_toArray, List.set_cons_zero, List.set_cons_succ]
          refine wpAnyH_take (i := 9) (v := ?_) rfl (by kernel_rfl) (by kernel_rfl) (by kernel_rfl) (fun _ _ _ h => h) (Or.inl ⟨by rfl, ?_⟩) (by assumption) ?_
          rotate_left
          · intro w hSw
            (try dsimp only at hSw)
            go_simp
            all_goals with_reducible rfl
          try simp only [List.getElem_toArray, List.getElem_cons_succ, List.getElem_cons_zero, Act.put, List.setIfInBounds_toArray, List.set_cons_zero, List.set_cons_succ]
          refine wpAnyH_done (by kernel_rfl) ?_ _
          go_wp2
          refine bodyPost_ret (v := .tuple #[.agg #[.int .i64 eq, .int .i64 en, .string es], .bool false]) (by rw [results_cell_tmp rfl]; go_simp) rfl ?_
          exact Ret.mk (by rw [HQ.out.1, HQ.out.2]; first | done | rfl) (bthen (below_set3' HBG.out (by omega) _ _ _) (below_laid _)).drew
end
end Go.Proofs.Ytkcbjnhphekadaa
