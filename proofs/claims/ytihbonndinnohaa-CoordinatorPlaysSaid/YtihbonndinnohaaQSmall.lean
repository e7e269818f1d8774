/- Begin, Cancel and Resume, of the program and of the reference. -/
import Derived.Test.YtihbonndinnohaaQWith2
namespace Go.Proofs.Ytihbonndinnohaa
open Go.RowKit
set_option linter.unusedVariables false
set_option linter.unusedSimpArgs false
theorem results_ct {fn : Func} {p q : Tmp} {ty : TypeId} (h : fn.results = #[.cell p ty, .tmp q]) (tmps : Array Value) (P : Program) (w : World) :
    (results fn tmps).run P w = ((asAddr (tmps.getD p undef)).run P w).andThen fun a w₁ => ((loadVar ty a).run P w₁).andThen fun v w₂ => .ok (.tuple #[v, tmps.getD q undef]) w₂ := by
  simp only [results, h]
  simp [Sem.run_bind, Result.andThen]
/-- A coordinator; a coordinator and an error. -/
def RetC0 (w : World) (c : Cq) (e : Ending) (w' : World) : Prop := ∃ V, e = .returned V ∧ CoV w' V c ∧ Below w.heap.size w w'
def RetC1 (w : World) (c : Cq) (E : Int) (e : Ending) (w' : World) : Prop := ∃ V, e = .returned (.tuple #[V, .int .i64 E]) ∧ CoV w' V c ∧ Below w.heap.size w w'
theorem RetC1.zero {w w' : World} {c : Cq} {E E' : Int} (hc : c = Cq.z) (hE : E = E') (hb : Below w.heap.size w w') : RetC1 w c E (.returned (.tuple #[.agg #[.int .i64 0, .slice none 0 0, .int .i64 0], .int .i64 E'])) w' := ⟨_, by rw [hE], by rw [hc]; exact CoV.zero, hb⟩
theorem RetC1.bare {w w' : World} {c : Cq} {E E' n d : Int} (hc : c = ⟨n, [], d⟩) (hn : inQ n) (hd : inQ d) (hE : E = E') (hb : Below w.heap.size w w') : RetC1 w c E (.returned (.tuple #[.agg #[.int .i64 n, .slice none 0 0, .int .i64 d], .int .i64 E'])) w' := ⟨_, by rw [hE], by rw [hc]; exact ⟨_, rfl, Lst.nil, hn, hd⟩, hb⟩
/-- A coordinator whose lists lie in Z. -/
def CoVz (w : World) (Z : Nat → Prop) (v : Value) (c : Cq) : Prop := ∃ u, v = .agg #[.int .i64 c.next, u, .int .i64 c.dur] ∧ Lst w Z 4 RAq u c.atts ∧ inQ c.next ∧ inQ c.dur
theorem CoVz.cov {w : World} {Z : Nat → Prop} {v : Value} {c : Cq} (h : CoVz w Z v c) (hZ : ∀ b, Z b → b < w.heap.size) : CoV w v c := by
  obtain ⟨u, e, hl, h1, h2⟩ := h
  exact ⟨u, e, hl.more rd_Aq hZ, h1, h2⟩
theorem CoV.z {w : World} {v : Value} {c : Cq} (h : CoV w v c) : CoVz w (· < w.heap.size) v c := h
theorem CoVz.more {w : World} {Z Y : Nat → Prop} {v : Value} {c : Cq} (h : CoVz w Z v c) (hZ : ∀ b, Z b → Y b) : CoVz w Y v c := by
  obtain ⟨u, e, hl, h1, h2⟩ := h
  exact ⟨u, e, hl.more rd_Aq hZ, h1, h2⟩
theorem CoVz.keep {w w' : World} {Z : Nat → Prop} {v : Value} {c : Cq} (h : CoVz w Z v c) (hk : Kp Z w w') : CoVz w' Z v c := by
  obtain ⟨u, e, hl, h1, h2⟩ := h
  exact ⟨u, e, hl.keep rd_Aq hk, h1, h2⟩
/-- What was there in Y, and what is new. -/
def Zn (Y : Nat → Prop) (w w' : World) : Nat → Prop := fun b => Y b ∨ (w.heap.size ≤ b ∧ b < w'.heap.size)
def RetC1z (w : World) (Y : Nat → Prop) (c : Cq) (E : Int) (e : Ending) (w' : World) : Prop := ∃ V, e = .returned (.tuple #[V, .int .i64 E]) ∧ CoVz w' (Zn Y w w') V c ∧ Below w.heap.size w w'
theorem RetC1z.zero {w w' : World} {Y : Nat → Prop} {c : Cq} {E E' : Int} (hc : c = Cq.z) (hE : E = E') (hb : Below w.heap.size w w') : RetC1z w Y c E (.returned (.tuple #[.agg #[.int .i64 0, .slice none 0 0, .int .i64 0], .int .i64 E'])) w' :=
  ⟨_, by rw [hE], by rw [hc]; exact ⟨_, rfl, Lst.nil, by unfold Cq.z inQ; exact ⟨by decide, by decide⟩, by unfold Cq.z inQ; exact ⟨by decide, by decide⟩⟩, hb⟩
theorem RetC1z.out {w w' : World} {Y : Nat → Prop} {c : Cq} {E : Int} {e : Ending} (h : RetC1z w Y c E e w') (hY : ∀ b, Y b → b < w.heap.size) : RetC1 w c E e w' := by
  obtain ⟨V, e, hc, hb⟩ := h
  exact ⟨V, e, hc.cov fun b hz => hz.elim (fun h => Nat.lt_of_lt_of_le (hY b h) hb.size) (fun h => h.2), hb⟩
/-- What a check without an error says. -/
theorem chk0 {c : Cq} (h : chkQ c = 0) : 1 ≤ c.next ∧ c.next ≤ 1099511627776 ∧ 0 ≤ c.dur ∧ c.dur < c.next ∧ c.atts.length ≤ 256 ∧ ∀ i, i < c.atts.length → errQ c i = 0 := by
  rcases chkQ_cases c with ⟨e, -⟩ | ⟨b1, b2, b3, b4, ⟨e, -⟩ | ⟨e, hm⟩⟩
  · rw [e] at h; exact absurd h (by decide)
  · rw [e] at h; exact absurd h (by decide)
  · rw [e] at h
    exact ⟨b1, b2, b3, b4, hm, fun i hi => firstE_zero h i (Nat.zero_le _) (by omega)⟩
theorem err0 {c : Cq} {i : Nat} (h : errQ c i = 0) : leastQ c i < (attQ c i).num ∧ (attQ c i).num < c.next ∧ 1 ≤ (attQ c i).rds.length ∧ (attQ c i).rds.length ≤ 8 ∧ (attQ c i).rds.length = (attQ c 0).rds.length ∧ 1 ≤ (attQ c i).hv.length ∧ (attQ c i).hv.length ≤ 8 ∧ (attQ c i).hv.length = (attQ c 0).hv.length ∧ (attQ c i).ops.length = (attQ c i).hv.length := by
  by_cases h0 : errN c i = 0
  · exact (errN_ok h0).2
  · rw [errN_bad h0] at h; exact absurd h h0
theorem small0 {c : Cq} (h : chkQ c = 0) : ∀ a ∈ c.atts, a.rds.length ≤ 8 ∧ a.ops.length ≤ 8 ∧ a.hv.length ≤ 8 := by
  intro a ha
  obtain ⟨i, hi, rfl⟩ := List.getElem_of_mem ha
  obtain ⟨-, -, -, -, -, hq⟩ := chk0 h
  have := err0 (hq i hi)
  rw [attQ_get hi] at this
  omega
section
variable (w : World) (c : Cq)
set_option maxHeartbeats 1000000 in
theorem begin_any : Calls Try.prog 16 #[] w (RetC0 w ⟨1, [], 0⟩) := by
  go_enter Try.func16, Try.ntmps16
  go_wp2
  refine bodyPost_ret (v := .agg #[.int .i64 1, .slice none 0 0, .int .i64 0]) (by rw [results_c rfl]; go_simp) rfl ?_
  exact ⟨_, rfl, ⟨_, rfl, Lst.nil, ⟨by decide, by decide⟩, ⟨by decide, by decide⟩⟩, below_laid _⟩
set_option maxHeartbeats 1000000 in
theorem rbegin_any : Calls Try.prog 17 #[] w (RetC0 w ⟨1, [], 0⟩) := by
  go_enter Try.func17, Try.ntmps17
  go_wp2
  refine bodyPost_ret (v := .agg #[.int .i64 1, .slice none 0 0, .int .i64 0]) (by rw [results_c rfl]; go_simp) rfl ?_
  exact ⟨_, rfl, ⟨_, rfl, Lst.nil, ⟨by decide, by decide⟩, ⟨by decide, by decide⟩⟩, below_laid _⟩
set_option maxHeartbeats 1000000 in
theorem resumed_any (n : Int) (h0 : 0 ≤ n) (h1 : n ≤ 1099511627776) : Calls Try.prog 48 #[.int .i64 n] w (Ret (.agg #[.int .i64 (n + 1), .slice none 0 0, .int .i64 n]) w) := by
  go_enter Try.func48, Try.ntmps48
  go_wp2
  refine bodyPost_ret (v := .agg #[.int .i64 (n + 1), .slice none 0 0, .int .i64 n]) (by rw [results_c rfl]; go_simp) rfl ?_
  exact Ret.mk rfl (below_laid _)
set_option maxRecDepth 100000 in
set_option maxHeartbeats 4000000 in
theorem cancel_any (v : Value) (h : CoV w v c) : Calls Try.prog 25 #[v] w (RetC1 w (canC c) (chkQ c)) := by
  obtain ⟨u, rfl, hl, hq1, hq2⟩ := id h
  obtain ⟨A, cap, rfl⟩ := hl.form
  have HK := hide (chk_any _ _ c (CoV.laid (CoV.laid h (.cells #[.int .i64 c.next, .slice A c.atts.length cap, .int .i64 c.dur] 24)) (.cells #[.int .i64 0, .slice none 0 0, .int .i64 0] 24)))
  by_cases hc : chkQ c = 0
  · obtain ⟨b1, b2, b3, b4, -⟩ := chk0 hc
    have HC : Hid (canC c = ⟨c.dur + 1, [], c.dur⟩) := hide (by unfold canC; rw [if_pos hc])
    rw [hc] at HK ⊢
    clear hc h hl
    have HR := hide (fun w' => resumed_any w' c.dur b3 (by omega))
    go_enter Try.func25, Try.ntmps25
    go_wp2_with fail
    refine HK.out.mono ?_
    rintro e w1 ⟨rfl, hb⟩
    obtain ⟨hb1, hz1, hx1⟩ := step_box [.int .i64 0, .slice none 0 0, .int .i64 0] hb
    have u0 := hx1 0 _ rfl
    have u1 := hx1 1 _ rfl
    have u2 := hx1 2 _ rfl
    have v0 := step_frozen [.int .i64 0, .slice none 0 0, .int .i64 0] hb 0
    have v1 := step_frozen [.int .i64 0, .slice none 0 0, .int .i64 0] hb 1
    have v2 := step_frozen [.int .i64 0, .slice none 0 0, .int .i64 0] hb 2
    obtain ⟨hb2, hz2, hx2⟩ := step_box [.int .i64 c.next, .slice A c.atts.length cap, .int .i64 c.dur] hb1
    have y0 := hx2 0 _ rfl
    have y1 := hx2 1 _ rfl
    have y2 := hx2 2 _ rfl
    have HB1 := hide hb2
    simp only [World.size_alloc] at u0 u1 u2 v0 v1 v2 hz1
    clear hx1 hx2 hb hb1 hb2
    go_wp2_with fail
    refine (HR.out _).mono ?_
    rintro e w2 ⟨rfl, hb3⟩
    have x0 := keep1 hb3 u0
    have x1 := keep1 hb3 u1
    have x2 := keep1 hb3 u2
    have z0 := ((bcell hb3).2 _ 0 (by omega)).trans v0
    have z1 := ((bcell hb3).2 _ 1 (by omega)).trans v1
    have z2 := ((bcell hb3).2 _ 2 (by omega)).trans v2
    have HB3 := hide (bthen HB1.out hb3)
    clear hb3 u0 u1 u2 v0 v1 v2 y0 y1 y2
    go_wp2
    refine bodyPost_ret (v := .tuple #[.agg #[.int .i64 (c.dur + 1), .slice none 0 0, .int .i64 c.dur], .int .i64 0]) (by rw [results_ct rfl]; go_simp) rfl ?_
    exact RetC1.bare HC.out (by unfold inQ; omega) (by unfold inQ; omega) rfl (((HB3.out.setCell (p := ⟨w.heap.size + 1, 0, none⟩) (Nat.le_succ _) _).setCell (p := ⟨w.heap.size + 1, 1, none⟩) (Nat.le_succ _) _).setCell (p := ⟨w.heap.size + 1, 2, none⟩) (Nat.le_succ _) _)
  · have HC : Hid (canC c = Cq.z) := hide (by unfold canC; rw [if_neg hc])
    have te : (chkQ c != 0) = true := by rw [bne_iff_ne]; exact hc
    obtain ⟨E, hE⟩ : ∃ E, chkQ c = E := ⟨_, rfl⟩
    rw [hE] at HK te ⊢
    clear hc hE h hl
    go_enter Try.func25, Try.ntmps25
    go_wp2_with fail
    refine HK.out.mono ?_
    rintro e w1 ⟨rfl, hb⟩
    obtain ⟨hb1, hz1, hx1⟩ := step_box [.int .i64 0, .slice none 0 0, .int .i64 0] hb
    have u0 := hx1 0 _ rfl
    have u1 := hx1 1 _ rfl
    have u2 := hx1 2 _ rfl
    have v0 := step_frozen [.int .i64 0, .slice none 0 0, .int .i64 0] hb 0
    have v1 := step_frozen [.int .i64 0, .slice none 0 0, .int .i64 0] hb 1
    have v2 := step_frozen [.int .i64 0, .slice none 0 0, .int .i64 0] hb 2
    obtain ⟨hb2, hz2, hx2⟩ := step_box [.int .i64 c.next, .slice A c.atts.length cap, .int .i64 c.dur] hb1
    have y0 := hx2 0 _ rfl
    have y1 := hx2 1 _ rfl
    have y2 := hx2 2 _ rfl
    have HB1 := hide hb2
    simp only [World.size_alloc] at u0 u1 u2 v0 v1 v2 hz1
    clear hx1 hx2 hb hb1 hb2
    go_wp2
    refine bodyPost_ret (v := .tuple #[.agg #[.int .i64 0, .slice none 0 0, .int .i64 0], .int .i64 E]) (by rw [results_ct rfl]; go_simp) rfl ?_
    exact RetC1.zero HC.out rfl (((HB1.out.setCell (p := ⟨w.heap.size + 1, 0, none⟩) (Nat.le_succ _) _).setCell (p := ⟨w.heap.size + 1, 1, none⟩) (Nat.le_succ _) _).setCell (p := ⟨w.heap.size + 1, 2, none⟩) (Nat.le_succ _) _)
end
end Go.Proofs.Ytihbonndinnohaa
