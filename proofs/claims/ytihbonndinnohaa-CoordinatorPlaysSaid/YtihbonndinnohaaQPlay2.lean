/- A play in memory: the coordinator's box, the list of what the workers have done; what each step returns. -/
import Derived.Test.YtihbonndinnohaaQPlay
import Derived.Test.YtihbonndinnohaaQAwk2
namespace Go.Proofs.Ytihbonndinnohaa
open Go.RowKit
set_option linter.unusedVariables false
set_option linter.unusedSimpArgs false
def nums (D : List Nat) : List Value := D.map fun (x : Nat) => .int .i64 (x : Int)
theorem nums_set {D : List Nat} {k x : Nat} : (nums D).set k (.int .i64 (x : Int)) = nums (D.set k x) := by
  unfold nums; rw [List.map_set]
theorem nums_at {D : List Nat} {k : Nat} (h : k < D.length) : (nums D)[k]? = some (.int .i64 ((D.getD k 0 : Nat) : Int)) := by
  unfold nums
  rw [List.getElem?_map, List.getElem?_eq_getElem h, List.getD_eq_getElem?_getD, List.getElem?_eq_getElem h]; rfl
/-- The coordinator of a play, as a value. -/
def PV (w : World) (Z : Nat → Prop) (nx du : Nat) (D : List Nat) (V : Value) : Prop := ∃ A al q, V = .agg #[.int .i64 (nx : Int), .slice A al q, .int .i64 (du : Int)] ∧ CoVz w Z V (stQ nx du D)
structure Pw (w wx : World) (b e nx du : Nat) (D : List Nat) (A : Option Addr) (al q : Nat) : Prop where
  bx : Bl wx b [.int .i64 (nx : Int), .slice A al q, .int .i64 (du : Int)]
  dn : Bl wx e (nums D)
  co : CoVz wx (fun x => x ≠ b ∧ x ≠ e ∧ x < wx.heap.size) (.agg #[.int .i64 (nx : Int), .slice A al q, .int .i64 (du : Int)]) (stQ nx du D)
  be : Below w.heap.size w wx
  lo : w.heap.size ≤ b
  le : w.heap.size ≤ e
  ne : b ≠ e
section
variable {w wx wy wz : World} {b e nx du nx' du' : Nat} {D D' : List Nat} {A B : Option Addr} {al bl q p : Nat}
theorem Pw.keep (h : Pw w wx b e nx du D A al q) (hb : Below wx.heap.size wx wy) : Pw w wy b e nx du D A al q :=
  ⟨h.bx.keep hb, h.dn.keep hb, (h.co.keep (Kp.of_below hb)).more fun x hx => ⟨hx.1, hx.2.1, Nat.lt_of_lt_of_le hx.2.2 hb.size⟩, bthen h.be hb, h.lo, h.le, h.ne⟩
theorem Pw.cov (h : Pw w wx b e nx du D A al q) : CoV wx (.agg #[.int .i64 (nx : Int), .slice A al q, .int .i64 (du : Int)]) (stQ nx du D) := h.co.cov fun _ h => h.2.2
/-- A store of what a call has returned. -/
theorem Pw.store (h : Pw w wx b e nx du D A al q) (hb1 : Below wx.heap.size wx wy) (hb2 : Below wy.heap.size wy wz) (hV : CoVz wz (Zn (fun x => x ≠ b ∧ x ≠ e ∧ x < wy.heap.size) wy wz) (.agg #[.int .i64 (nx' : Int), .slice B bl p, .int .i64 (du' : Int)]) (stQ nx' du' D)) :
    Pw w (((wz.setCell ⟨b, 0, none⟩ (.int .i64 (nx' : Int))).setCell ⟨b, 1, none⟩ (.slice B bl p)).setCell ⟨b, 2, none⟩ (.int .i64 (du' : Int))) b e nx' du' D B bl p := by
  have h2 := (h.keep hb1).keep hb2
  have hlt := (h.keep hb1).bx.lt
  have hlt2 := (h.keep hb1).dn.lt
  have hs : (((wz.setCell ⟨b, 0, none⟩ (.int .i64 (nx' : Int))).setCell ⟨b, 1, none⟩ (.slice B bl p)).setCell ⟨b, 2, none⟩ (.int .i64 (du' : Int))).heap.size = wz.heap.size := by simp [World.setCell]
  have hK : ∀ {Z : Nat → Prop}, (∀ x, Z x → x ≠ b) → Kp Z wz (((wz.setCell ⟨b, 0, none⟩ (.int .i64 (nx' : Int))).setCell ⟨b, 1, none⟩ (.slice B bl p)).setCell ⟨b, 2, none⟩ (.int .i64 (du' : Int))) := fun hz =>
    ((Kp.set ⟨b, 0, none⟩ _ hz).trans (Kp.set ⟨b, 1, none⟩ _ hz)).trans (Kp.set ⟨b, 2, none⟩ _ hz)
  have hz : ∀ x, Zn (fun x => x ≠ b ∧ x ≠ e ∧ x < wy.heap.size) wy wz x → x ≠ b ∧ x ≠ e ∧ x < wz.heap.size := fun x hx => hx.elim (fun h => ⟨h.1, h.2.1, Nat.lt_of_lt_of_le h.2.2 hb2.size⟩) (fun h => ⟨by omega, by omega, h.2⟩)
  refine ⟨?_, ?_, ?_, ?_, h.lo, h.le, h.ne⟩
  · exact ((h2.bx.put (k := 0) (by simp) _).put (k := 1) (by simp) _).put (k := 2) (by simp) _
  · exact ((h2.dn.far (p := ⟨b, 0, none⟩) h.ne _).far (p := ⟨b, 1, none⟩) h.ne _).far (p := ⟨b, 2, none⟩) h.ne _
  · rw [hs]; exact (hV.keep (hK fun x hx => (hz x hx).1)).more hz
  · exact ((h2.be.setCell (p := ⟨b, 0, none⟩) h.lo _).setCell (p := ⟨b, 1, none⟩) h.lo _).setCell (p := ⟨b, 2, none⟩) h.lo _
/-- A worker's number is turned; the coordinator is that of the new numbers already. -/
theorem Pw.turn (hbx : Bl wx b [.int .i64 (nx : Int), .slice A al q, .int .i64 (du : Int)]) (hdn : Bl wx e (nums D)) {k x : Nat} (hk : k < D.length) (hco : CoVz wx (fun x => x ≠ b ∧ x ≠ e ∧ x < wx.heap.size) (.agg #[.int .i64 (nx : Int), .slice A al q, .int .i64 (du : Int)]) (stQ nx du (D.set k x)))
    (hbe : Below w.heap.size w wx) (lo : w.heap.size ≤ b) (le : w.heap.size ≤ e) (ne : b ≠ e) : Pw w (wx.setCell ⟨e, k, none⟩ (.int .i64 (x : Int))) b e nx du (D.set k x) A al q := by
  have hs : (wx.setCell ⟨e, k, none⟩ (.int .i64 (x : Int))).heap.size = wx.heap.size := by simp [World.setCell]
  refine ⟨hbx.far (p := ⟨e, k, none⟩) (fun h => ne h.symm) _, ?_, ?_, hbe.setCell (p := ⟨e, k, none⟩) le _, lo, le, ne⟩
  · have := hdn.put (k := k) (by unfold nums; simpa using hk) (.int .i64 (x : Int))
    rwa [nums_set] at this
  · rw [hs]
    exact hco.keep (Kp.set ⟨e, k, none⟩ _ fun x hx => hx.2.1)
end
/-- What the steps return: a coordinator of the play, and numbers. -/
def RetP1 (w : World) (Y : Nat → Prop) (nx du : Nat) (D : List Nat) (E : Int) (e : Ending) (w' : World) : Prop := ∃ A al q, e = .returned (.tuple #[.agg #[.int .i64 (nx : Int), .slice A al q, .int .i64 (du : Int)], .int .i64 E]) ∧ CoVz w' (Zn Y w w') (.agg #[.int .i64 (nx : Int), .slice A al q, .int .i64 (du : Int)]) (stQ nx du D) ∧ Below w.heap.size w w'
def RetP2 (w : World) (Y : Nat → Prop) (nx du : Nat) (D : List Nat) (N E : Int) (e : Ending) (w' : World) : Prop := ∃ A al q, e = .returned (.tuple #[.agg #[.int .i64 (nx : Int), .slice A al q, .int .i64 (du : Int)], .int .i64 N, .int .i64 E]) ∧ CoVz w' (Zn Y w w') (.agg #[.int .i64 (nx : Int), .slice A al q, .int .i64 (du : Int)]) (stQ nx du D) ∧ Below w.heap.size w w'
section
variable {w wx : World} {b e nx du : Nat} {D : List Nat} {A : Option Addr} {al q : Nat}
theorem Pw.low (h : Pw w wx b e nx du D A al q) : ∀ x, (x ≠ b ∧ x ≠ e ∧ x < wx.heap.size) → x < wx.heap.size := fun _ h => h.2.2
theorem p_trig (h : Pw w wx b e nx du D A al q) (hi : IP nx du D) (hf : nx + 1 ≤ 100) {rv : Value} (hr : Lq wx 6 RRq rv [⟨0, (nx : Int)⟩]) :
    Calls Try.prog 11 #[.agg #[.int .i64 (nx : Int), .slice A al q, .int .i64 (du : Int)], rv, .int .i64 (D.length : Int)] wx (RetP2 wx (fun x => x ≠ b ∧ x ≠ e ∧ x < wx.heap.size) (nx + 1) du D nx 0) := by
  obtain ⟨e1, e2, e3, -⟩ := trig_st hi hf
  refine (trig_z wx _ _ _ rv [⟨0, (nx : Int)⟩] (D.length : Int) h.co h.low hr).mono ?_
  rintro r w' ⟨V, rfl, hV, hb⟩
  rw [show ([⟨0, (nx : Int)⟩] : List Rq).length = 1 from rfl, e1, e3]
  rw [e2] at hV
  obtain ⟨A', q', rfl⟩ := coz_form hV
  exact ⟨A', _, q', rfl, hV, hb⟩
theorem p_rep (h : Pw w wx b e nx du D A al q) (hi : IP nx du D) {k : Nat} (hk : k < D.length) (hlt : D.getD k 0 + 1 < nx) {xs : List Value} (ho : ROq wx (· < wx.heap.size) xs (opN (100 * k + (D.getD k 0 + 1)))) :
    Calls Try.prog 18 #[.agg #[.int .i64 (nx : Int), .slice A al q, .int .i64 (du : Int)], .int .i64 ((D.getD k 0 + 1 : Nat) : Int), .int .i64 (k : Int), .agg xs.toArray] wx (RetP1 wx (fun x => x ≠ b ∧ x ≠ e ∧ x < wx.heap.size) nx du (D.set k (D.getD k 0 + 1)) 0) := by
  obtain ⟨e1, e2⟩ := rep_st hi hk
  rw [if_pos hlt] at e1
  refine (report_z wx _ _ _ ((D.getD k 0 + 1 : Nat) : Int) (k : Int) _ xs h.co h.low ho (by simp [opN]) (by simp [opN])).mono ?_
  rintro r w' ⟨V, rfl, hV, hb⟩
  rw [(e2 hlt).1] at hV
  rw [e1]
  obtain ⟨A', q', rfl⟩ := coz_form hV
  exact ⟨A', _, q', rfl, hV, hb⟩
/-- A report that comes too early. -/
def RetF1 (w : World) (E : Int) (e : Ending) (w' : World) : Prop := ∃ n d A al q, e = .returned (.tuple #[.agg #[.int .i64 n, .slice A al q, .int .i64 d], .int .i64 E]) ∧ Below w.heap.size w w'
theorem p_rep6 (h : Pw w wx b e nx du D A al q) (hi : IP nx du D) {k : Nat} (hk : k < D.length) (hlt : ¬ D.getD k 0 + 1 < nx) {xs : List Value} (ho : ROq wx (· < wx.heap.size) xs (opN (100 * k + (D.getD k 0 + 1)))) :
    Calls Try.prog 18 #[.agg #[.int .i64 (nx : Int), .slice A al q, .int .i64 (du : Int)], .int .i64 ((D.getD k 0 + 1 : Nat) : Int), .int .i64 (k : Int), .agg xs.toArray] wx (RetF1 wx 6) := by
  obtain ⟨e1, -⟩ := rep_st hi hk
  rw [if_neg hlt] at e1
  refine (report_z wx _ _ _ ((D.getD k 0 + 1 : Nat) : Int) (k : Int) _ xs h.co h.low ho (by simp [opN]) (by simp [opN])).mono ?_
  rintro r w' ⟨V, rfl, hV, hb⟩
  rw [e1]
  obtain ⟨A', q', rfl⟩ := coz_form hV
  exact ⟨_, _, A', _, q', rfl, hb⟩
theorem p_fin (h : Pw w wx b e nx du D A al q) (hi : IP nx du D) (hm : minD D du = true) :
    Calls Try.prog 20 #[.agg #[.int .i64 (nx : Int), .slice A al q, .int .i64 (du : Int)], .int .i64 ((du + 1 : Nat) : Int)] wx (RetP1 wx (fun x => x ≠ b ∧ x ≠ e ∧ x < wx.heap.size) nx (du + 1) D 0) := by
  obtain ⟨e1, e2⟩ := fin_st hi
  have := hi.few
  have := hi.dn
  refine (finish_z wx _ _ _ ((du + 1 : Nat) : Int) h.co h.low ⟨by omega, by omega⟩).mono ?_
  rintro r w' ⟨V, rfl, hV, hb⟩
  rw [(e2 hm).1] at hV
  rw [e1.2 hm]
  obtain ⟨A', q', rfl⟩ := coz_form hV
  exact ⟨A', _, q', rfl, hV, hb⟩
theorem p_fin6 (h : Pw w wx b e nx du D A al q) (hi : IP nx du D) (hm : minD D du = false) : ∃ E : Int, E ≠ 0 ∧
    Calls Try.prog 20 #[.agg #[.int .i64 (nx : Int), .slice A al q, .int .i64 (du : Int)], .int .i64 ((du + 1 : Nat) : Int)] wx (RetF1 wx E) := by
  obtain ⟨e1, -⟩ := fin_st hi
  have := hi.few
  have := hi.dn
  refine ⟨finE (stQ nx du D) ((du + 1 : Nat) : Int), fun h0 => (by rw [e1.1 h0] at hm; cases hm), ?_⟩
  refine (finish_z wx _ _ _ ((du + 1 : Nat) : Int) h.co h.low ⟨by omega, by omega⟩).mono ?_
  rintro r w' ⟨V, rfl, hV, hb⟩
  obtain ⟨A', q', rfl⟩ := coz_form hV
  exact ⟨_, _, A', _, q', rfl, hb⟩
theorem p_can (h : Pw w wx b e nx du D A al q) (hi : IP nx du D) :
    Calls Try.prog 25 #[.agg #[.int .i64 (nx : Int), .slice A al q, .int .i64 (du : Int)]] wx (RetP1 wx (fun x => x ≠ b ∧ x ≠ e ∧ x < wx.heap.size) (du + 1) du D 0) := by
  obtain ⟨e1, e2⟩ := can_st hi
  have hc := chk_st hi
  refine (cancel_any wx _ _ h.cov).mono ?_
  rintro r w' ⟨V, rfl, hV, hb⟩
  rw [hc]
  have hK : canC (stQ nx du D) = stQ (du + 1) du D := by
    unfold canC
    rw [if_pos hc]
    simp [stQ]
  rw [hK] at hV
  obtain ⟨A', q', rfl⟩ := coz_form hV.z
  obtain ⟨u, e3, hl, h1, h2⟩ := hV
  refine ⟨A', _, q', rfl, ⟨u, e3, ⟨hl.1, fun j hj => ?_⟩, h1, h2⟩, hb⟩
  rw [st_len] at hj
  omega
theorem p_chk (h : Pw w wx b e nx du D A al q) (hi : IP nx du D) : Calls Try.prog 13 #[.agg #[.int .i64 (nx : Int), .slice A al q, .int .i64 (du : Int)]] wx (Ret (.int .i64 0) wx) := by
  have := chk_any wx _ _ h.cov
  rwa [chk_st hi] at this
/-- Ready. -/
def RetRy (w : World) (du : Nat) (D : List Nat) (e : Ending) (w' : World) : Prop := ∃ v u, e = .returned (.tuple #[.agg #[.int .i64 (if minD D du then ((du + 1 : Nat) : Int) else 0), v, u], .bool (minD D du), .int .i64 0]) ∧ Lq w' 6 RRq v (if minD D du then [⟨0, ((du + 1 : Nat) : Int)⟩] else []) ∧ Lq w' 2 ROq u (if minD D du then (List.range D.length).map fun k => opN (100 * k + (du + 1)) else []) ∧ Below w.heap.size w w'
theorem p_rdy {V : Value} (h : CoV wx V (stQ nx du D)) (hi : IP nx du D) : Calls Try.prog 21 #[V] wx (RetRy wx du D) := by
  obtain ⟨e1, e2⟩ := rdy_st hi
  refine (ready_any wx _ _ h).mono ?_
  rintro r w' ⟨v, u, rfl, h1, h2, hb⟩
  unfold rdyN rdyR rdyO at *
  rw [e1, chk_st hi]
  rw [e1] at h1 h2
  cases hm : minD D du with
  | true =>
    rw [hm] at h1 h2
    rw [if_pos rfl] at h1 h2
    obtain ⟨e3, e4⟩ := e2 hm
    rw [e3] at h1 h2
    rw [e4] at h2
    refine ⟨v, u, ?_, ?_, ?_, hb⟩
    · rw [if_pos rfl, e3, hm, if_pos rfl]; rfl
    · rw [hm, if_pos rfl]; exact h1
    · rw [hm, if_pos rfl]; exact h2
  | false =>
    rw [hm] at h1 h2
    refine ⟨v, u, ?_, ?_, ?_, hb⟩
    · rw [hm]; rfl
    · rw [hm]; exact h1
    · rw [hm]; exact h2
end
end Go.Proofs.Ytihbonndinnohaa
