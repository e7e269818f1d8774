/- The writer's method event. -/
import Derived.Test.YtofdcgojgcnopaaGreatCPutV
namespace Go.Proofs.YtofdcgojgcnopaaGreat
open Go.RowKit
set_option linter.unusedVariables false
set_option linter.unusedSimpArgs false
/-- The cells of an event. -/
def REv (w : World) (Z : Nat → Prop) (xs : List Value) (x : Evt) : Prop := ∃ v, xs = [.int .i64 x.a, .int .i64 x.b, .int .i64 x.c, .int .i64 x.d, v] ∧ Lst w Z 3 RV v x.vs ∧ inI x.a ∧ inI x.b ∧ inI x.c ∧ inI x.d
theorem rd_Ev : Rd REv := ⟨fun hk ⟨v, e, h, hg⟩ => ⟨v, e, h.keep rd_V hk, hg⟩, fun hs ⟨v, e, h, hg⟩ => ⟨v, e, h.more rd_V hs, hg⟩⟩
def wtEv (x : Evt) : Nat := 40 + (10 + wtS wtV x.vs)
theorem andE_raw (x y : Bs) (r : Ex Bs) : andE (.ok (x ++ y)) r = andE (.ok x) (andE (.ok y) r) := by unfold andE; cases r <;> simp
theorem andE_empty (r : Ex Bs) : andE (.ok []) r = r := by unfold andE; cases r <;> simp
theorem eEv_raw (x : Evt) : eEv x = andE (.ok ([x.a, x.b, x.c, x.d].flatMap num)) (eL eV x.vs) := by
  simp only [List.flatMap_cons, List.flatMap_nil, andE_raw, andE_empty]; rfl
theorem raw_len {l : List Int} (h : ∀ x ∈ l, inI x) : (l.flatMap num).length ≤ 10 * l.length := by
  induction l with
  | nil => simp
  | cons x l ih =>
    have h1 := num_len (h x (List.mem_cons_self ..))
    have h2 := ih (fun y hy => h y (List.mem_cons_of_mem _ hy))
    simp only [List.flatMap_cons, List.length_append, List.length_cons]
    omega
/-- A box that lies behind another one. -/
theorem Bx.new2 {F : Nat} {w : World} {o : Bs} {e : Int} (h : Wr w F o e) (ob : Obj) (xs : List Value) (t : TypeId) : Bx F ((w.alloc ob).alloc (.cells xs.toArray t)) (w.heap.size + 1) xs := by
  have := Bx.new (h.laid ob) xs t
  rw [World.size_alloc] at this
  exact this
section
variable (F : Nat) (o : Bs) (e : Int) (w : World)
set_option maxRecDepth 100000 in
set_option maxHeartbeats 4000000 in
theorem wev_any (x : Evt) (xs : List Value) (hx : REv w (· < F) xs x) (h : Wr w F o e) (ho : o.length + wtEv x ≤ 1000000000) :
    Calls Tryz.prog 31 #[.pointer (some ⟨F, 0, none⟩), .agg xs.toArray] w (Wrs F (eEv x) (wtEv x) o e w) := by
  obtain ⟨v, rfl, hv, ha, hb, hc, hd⟩ := hx
  obtain ⟨A, cap, rfl⟩ := hv.form
  have HO : Hid (o.length + (40 + (10 + wtS wtV x.vs)) ≤ 1000000000) := hide ho
  have HG : Hid (∀ y ∈ [x.a, x.b, x.c, x.d], inI y) := hide (by
    intro y hy
    simp at hy
    rcases hy with rfl | rfl | rfl | rfl
    · exact ha
    · exact hb
    · exact hc
    · exact hd)
  have HL := hide (raw_len HG.out)
  have HT := hide ((Wt.laid h (.cells #[.int .i64 x.a, .int .i64 x.b, .int .i64 x.c, .int .i64 x.d, .slice A x.vs.length cap] 88)).trans (Wt.laid (h.laid _) (.cells #[.int .i64 x.a, .int .i64 x.b, .int .i64 x.c, .int .i64 x.d] 3)))
  have HB := hide ((Bx.new h [.int .i64 x.a, .int .i64 x.b, .int .i64 x.c, .int .i64 x.d, .slice A x.vs.length cap] 88).keep (Wt.laid (h.laid _) (.cells #[.int .i64 x.a, .int .i64 x.b, .int .i64 x.c, .int .i64 x.d] 3)))
  have HI := hide (Bx.new2 h (.cells #[.int .i64 x.a, .int .i64 x.b, .int .i64 x.c, .int .i64 x.d, .slice A x.vs.length cap] 88) (ints [x.a, x.b, x.c, x.d]) 3)
  have HW := hide ((h.laid (.cells #[.int .i64 x.a, .int .i64 x.b, .int .i64 x.c, .int .i64 x.d, .slice A x.vs.length cap] 88)).laid (.cells #[.int .i64 x.a, .int .i64 x.b, .int .i64 x.c, .int .i64 x.d] 3))
  have HV := hide hv
  clear ha hb hc hd h ho hv
  go_enter Tryz.func31, Tryz.ntmps31
  go_wp2_with fail
  refine (wints_any F o e _ [x.a, x.b, x.c, x.d] (w.heap.size + 1) 4 HG.out HI.out HW.out (by simp) (by have := HO.out; simp only [List.length_cons, List.length_nil]; omega)).mono ?_
  rintro en w2 ⟨rfl, hr, ht⟩
  replace HW := hide hr
  replace HB := hide (HB.out.keep ht)
  replace HT := hide (HT.out.trans ht)
  clear hr ht HI
  have b4 := HB.out.2 4 _ rfl
  go_wp2_with fail
  refine (putV_any F _ e _ _ x.vs HW.out (HV.out.keep rd_V HT.out.kp) (by rw [List.length_append]; have h1 := HL.out; have := HO.out; simp only [List.length_cons, List.length_nil] at h1; omega)).mono ?_
  rintro en w3 ⟨rfl, o3, e3, hd, hr, ht⟩
  have HD := hide hd
  replace HW := hide hr
  replace HT := hide (HT.out.trans ht)
  clear hd hr ht b4
  go_wp2
  go_end0
  refine ⟨rfl, o3, e3, ?_, HW.out, HT.out⟩
  rw [eEv_raw]
  exact (Wd.raw HL.out o e).and HD.out
end
end Go.Proofs.YtofdcgojgcnopaaGreat
