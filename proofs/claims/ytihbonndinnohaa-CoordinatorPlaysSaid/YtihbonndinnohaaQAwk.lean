/- The example of the chapter: what each step computes, and what it leaves. -/
import Derived.Test.YtihbonndinnohaaQOpr
import Derived.Deep.RegionWith
namespace Go.Proofs.Ytihbonndinnohaa
open Go.RowKit
set_option linter.unusedVariables false
set_option linter.unusedSimpArgs false
def rd7 : List Rq := [⟨0, 7⟩]
def C0 : Cq := ⟨1, [], 0⟩
def C1 : Cq := trigC C0 rd7 2
def C2 : Cq := trigC C1 rd7 2
def C3 : Cq := repC C2 1 1 (mk1 5)
def C4 : Cq := repC C3 1 0 (mk1 4)
def C5 : Cq := repC C4 2 0 (mk1 6)
def C6 : Cq := finC C5 1
def C7 : Cq := canC C6
theorem n1 : trigE C0 rd7.length 2 = 0 ∧ trigN C0 rd7.length 2 = 1 := by decide +kernel
theorem n2 : trigE C1 rd7.length 2 = 0 ∧ trigN C1 rd7.length 2 = 2 := by decide +kernel
theorem n3 : repE C2 1 1 = 0 ∧ chkQ C3 = 0 ∧ rdyB C3 = false := by decide +kernel
theorem n4 : repE C3 1 0 = 0 ∧ chkQ C4 = 0 ∧ rdyB C4 = true ∧ rdyN C4 = 1 := by decide +kernel
theorem n5 : repE C4 2 0 = 0 ∧ repE C5 2 0 = 31 ∧ finE C5 2 = 14 ∧ finE C5 1 = 0 := by decide +kernel
theorem n6 : C6.dur = 1 ∧ chkQ C6 = 0 ∧ C7.next = 2 ∧ C7.atts.length = 0 := by decide +kernel
theorem r4 : rdyR C4 = rd7 := by
  unfold rdyR; rw [n4.2.2.1]; rfl
theorem o4 : rdyO C4 = [mk1 4, mk1 5] := by
  unfold rdyO; rw [n4.2.2.1]; rfl
section
variable {w : World} {Y : Nat → Prop} {v rv : Value}
theorem s1 (h : CoVz w Y v C0) (hY : ∀ b, Y b → b < w.heap.size) (hr : Lq w 6 RRq rv rd7) : Calls Try.prog 11 #[v, rv, .int .i64 2] w (RetC2z w Y C1 1 0) := by
  have := trig_z w C0 Y v rv rd7 2 h hY hr
  rwa [n1.1, n1.2] at this
theorem s2 (h : CoVz w Y v C1) (hY : ∀ b, Y b → b < w.heap.size) (hr : Lq w 6 RRq rv rd7) : Calls Try.prog 11 #[v, rv, .int .i64 2] w (RetC2z w Y C2 2 0) := by
  have := trig_z w C1 Y v rv rd7 2 h hY hr
  rwa [n2.1, n2.2] at this
theorem s3 {xs : List Value} (h : CoVz w Y v C2) (hY : ∀ b, Y b → b < w.heap.size) (ho : ROq w (· < w.heap.size) xs (mk1 5)) : Calls Try.prog 18 #[v, .int .i64 1, .int .i64 1, .agg xs.toArray] w (RetC1z w Y C3 0) := by
  have := report_z w C2 Y v 1 1 (mk1 5) xs h hY ho (by simp [mk1]) (by simp [mk1])
  rwa [n3.1] at this
theorem s4 {xs : List Value} (h : CoVz w Y v C3) (hY : ∀ b, Y b → b < w.heap.size) (ho : ROq w (· < w.heap.size) xs (mk1 4)) : Calls Try.prog 18 #[v, .int .i64 1, .int .i64 0, .agg xs.toArray] w (RetC1z w Y C4 0) := by
  have := report_z w C3 Y v 1 0 (mk1 4) xs h hY ho (by simp [mk1]) (by simp [mk1])
  rwa [n4.1] at this
theorem s5 {xs : List Value} (h : CoVz w Y v C4) (hY : ∀ b, Y b → b < w.heap.size) (ho : ROq w (· < w.heap.size) xs (mk1 6)) : Calls Try.prog 18 #[v, .int .i64 2, .int .i64 0, .agg xs.toArray] w (RetC1z w Y C5 0) := by
  have := report_z w C4 Y v 2 0 (mk1 6) xs h hY ho (by simp [mk1]) (by simp [mk1])
  rwa [n5.1] at this
theorem s6 {xs : List Value} (h : CoVz w Y v C5) (hY : ∀ b, Y b → b < w.heap.size) (ho : ROq w (· < w.heap.size) xs (mk1 6)) : Calls Try.prog 18 #[v, .int .i64 2, .int .i64 0, .agg xs.toArray] w (RetC1z w Y (repC C5 2 0 (mk1 6)) 31) := by
  have := report_z w C5 Y v 2 0 (mk1 6) xs h hY ho (by simp [mk1]) (by simp [mk1])
  rwa [n5.2.1] at this
theorem s7 (h : CoV w v C5) : Calls Try.prog 20 #[v, .int .i64 2] w (RetC1 w (finC C5 2) 14) := by
  have := finish_any w C5 v 2 h (by unfold inQ; decide)
  rwa [n5.2.2.1] at this
theorem s8 (h : CoV w v C5) : Calls Try.prog 20 #[v, .int .i64 1] w (RetC1 w C6 0) := by
  have := finish_any w C5 v 1 h (by unfold inQ; decide)
  rwa [n5.2.2.2] at this
theorem s9 (h : CoV w v C6) : Calls Try.prog 25 #[v] w (RetC1 w C7 0) := by
  have := cancel_any w C6 v h
  rwa [n6.2.1] at this
def RetRd (w : World) (n : Int) (b : Bool) (e : Ending) (w' : World) (rs : List Rq) (os : List Oq) : Prop := ∃ v u, e = .returned (.tuple #[.agg #[.int .i64 n, v, u], .bool b, .int .i64 0]) ∧ Lq w' 6 RRq v rs ∧ Lq w' 2 ROq u os ∧ Below w.heap.size w w'
theorem s10 (h : CoV w v C3) : Calls Try.prog 21 #[v] w (fun e w' => RetRd w 0 false e w' [] []) := by
  refine (ready_any w C3 v h).mono ?_
  rintro e w' ⟨x, u, rfl, h1, h2, hb⟩
  unfold rdyN at *
  unfold rdyR at h1
  unfold rdyO at h2
  rw [n3.2.2] at h1 h2 ⊢
  rw [n3.2.1]
  exact ⟨x, u, rfl, h1, h2, hb⟩
theorem s11 (h : CoV w v C4) : Calls Try.prog 21 #[v] w (fun e w' => RetRd w 1 true e w' rd7 [mk1 4, mk1 5]) := by
  refine (ready_any w C4 v h).mono ?_
  rintro e w' ⟨x, u, rfl, h1, h2, hb⟩
  rw [r4] at h1
  rw [o4] at h2
  rw [n4.2.2.2, n4.2.2.1, n4.2.1]
  exact ⟨x, u, rfl, h1, h2, hb⟩
end
/-- The coordinator K lies in the box b, the list of readers in block r. -/
structure Aw (w wx : World) (b r : Nat) (K : Cq) (A : Option Addr) (q : Nat) : Prop where
  bx : Bl wx b [.int .i64 K.next, .slice A K.atts.length q, .int .i64 K.dur]
  co : CoVz wx (fun x => x ≠ b ∧ x < wx.heap.size) (.agg #[.int .i64 K.next, .slice A K.atts.length q, .int .i64 K.dur]) K
  rd : Lst wx (fun x => x ≠ b ∧ x < wx.heap.size) 6 RRq (.slice (some ⟨r, 0, none⟩) 1 1) rd7
  be : Below w.heap.size w wx
  lo : w.heap.size ≤ b
section
variable {w wx wy wz : World} {b r : Nat} {K K' : Cq} {A B : Option Addr} {q p : Nat}
theorem Aw.keep (h : Aw w wx b r K A q) (hb : Below wx.heap.size wx wy) : Aw w wy b r K A q :=
  ⟨h.bx.keep hb, (h.co.keep (Kp.of_below hb)).more fun x hx => ⟨hx.1, Nat.lt_of_lt_of_le hx.2 hb.size⟩, (h.rd.keep rd_Rq (Kp.of_below hb)).more rd_Rq fun x hx => ⟨hx.1, Nat.lt_of_lt_of_le hx.2 hb.size⟩, bthen h.be hb, h.lo⟩
theorem Aw.cov (h : Aw w wx b r K A q) : CoV wx (.agg #[.int .i64 K.next, .slice A K.atts.length q, .int .i64 K.dur]) K := h.co.cov fun _ h => h.2
theorem Aw.rq (h : Aw w wx b r K A q) : Lq wx 6 RRq (.slice (some ⟨r, 0, none⟩) 1 1) rd7 := h.rd.more rd_Rq fun _ h => h.2
theorem coz_form {w : World} {Z : Nat → Prop} {V : Value} {K : Cq} (h : CoVz w Z V K) : ∃ A q, V = .agg #[.int .i64 K.next, .slice A K.atts.length q, .int .i64 K.dur] := by
  obtain ⟨u, rfl, hl, -⟩ := h
  obtain ⟨A, q, rfl⟩ := hl.form
  exact ⟨A, q, rfl⟩
/-- A store of what a call has returned. -/
theorem Aw.store (h : Aw w wx b r K A q) (hb1 : Below wx.heap.size wx wy) (hb2 : Below wy.heap.size wy wz) (hV : CoVz wz (Zn (fun x => x ≠ b ∧ x < wy.heap.size) wy wz) (.agg #[.int .i64 K'.next, .slice B K'.atts.length p, .int .i64 K'.dur]) K') :
    Aw w (((wz.setCell ⟨b, 0, none⟩ (.int .i64 K'.next)).setCell ⟨b, 1, none⟩ (.slice B K'.atts.length p)).setCell ⟨b, 2, none⟩ (.int .i64 K'.dur)) b r K' B p := by
  have h2 := (h.keep hb1).keep hb2
  have hlt := (h.keep hb1).bx.lt
  have hs : (((wz.setCell ⟨b, 0, none⟩ (.int .i64 K'.next)).setCell ⟨b, 1, none⟩ (.slice B K'.atts.length p)).setCell ⟨b, 2, none⟩ (.int .i64 K'.dur)).heap.size = wz.heap.size := by simp [World.setCell]
  have hK : ∀ {Z : Nat → Prop}, (∀ x, Z x → x ≠ b) → Kp Z wz (((wz.setCell ⟨b, 0, none⟩ (.int .i64 K'.next)).setCell ⟨b, 1, none⟩ (.slice B K'.atts.length p)).setCell ⟨b, 2, none⟩ (.int .i64 K'.dur)) := fun hz =>
    ((Kp.set ⟨b, 0, none⟩ _ hz).trans (Kp.set ⟨b, 1, none⟩ _ hz)).trans (Kp.set ⟨b, 2, none⟩ _ hz)
  have hz : ∀ x, Zn (fun x => x ≠ b ∧ x < wy.heap.size) wy wz x → x ≠ b ∧ x < wz.heap.size := fun x hx => hx.elim (fun h => ⟨h.1, Nat.lt_of_lt_of_le h.2 hb2.size⟩) (fun h => ⟨by omega, h.2⟩)
  refine ⟨?_, ?_, ?_, ?_, h.lo⟩
  · exact ((h2.bx.put (k := 0) (by simp) _).put (k := 1) (by simp) _).put (k := 2) (by simp) _
  · rw [hs]; exact (hV.keep (hK fun x hx => (hz x hx).1)).more hz
  · rw [hs]; exact h2.rd.keep rd_Rq (hK fun x hx => hx.1)
  · exact ((h2.be.setCell (p := ⟨b, 0, none⟩) h.lo _).setCell (p := ⟨b, 1, none⟩) h.lo _).setCell (p := ⟨b, 2, none⟩) h.lo _
end
end Go.Proofs.Ytihbonndinnohaa
