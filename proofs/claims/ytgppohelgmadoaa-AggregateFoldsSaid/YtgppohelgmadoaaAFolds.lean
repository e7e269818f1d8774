/- Adding the values of a list one after another, or merging the accumulators of two parts. -/
import Derived.Test.YtgppohelgmadoaaAOrd
import Derived.Deep.RegionHeld3
import Derived.Laws.AppendOwnNone
namespace Go.Proofs.Ytgppohelgmadoaa
open Go.RowKit
set_option linter.unusedVariables false
set_option linter.unusedSimpArgs false
theorem good_right {k : Int} {L : List V3} {o : V3} (h : goodB k L o = true) : knownB k = true ∧ Right k L ∧ L.length ≤ 20 ∧ wrE k o.q o.n o.s.size = 0 := by
  unfold goodB at h
  simp only [Bool.and_eq_true, decide_eq_true_eq] at h
  obtain ⟨h1, h2, h3, h4, h5⟩ := h
  have hk : knownB k = true := by simp only [knownB, decide_eq_true_eq]; omega
  have one : ∀ x : V3, okV k x = true → wrE k x.q x.n x.s.size = 0 := by
    intro x hx
    unfold okV at hx
    simp only [Bool.and_eq_true, decide_eq_true_eq] at hx
    have h6 : suitsB k x.q = true := by rw [← suits_same hk]; exact hx.2
    unfold wrE
    rw [if_neg (by simp [hx.1]), if_pos h6]
  exact ⟨hk, fun x hx => one x (List.all_eq_true.1 h2 x hx), h1, one o h5⟩

section
variable {P : Program} {w : World}
/-- append(s, x...) of a list that lies anywhere, at a step of a drawn region. -/
theorem step_append_row {ops : Array Oper} {o : Oper} {a : Act} {K : Act → World → Prop} {Q : Exit → Act → World → Prop} {E : Prop} (hgd : o.guard = none) (s x : Operand) (t : TypeId)
    (ho : o.op = .call { callee := .builtin .append, args := #[s, x], argTypes := #[t, t] })
    (base : Nat) (e : TypeId) (i : TypeInfo) (z : Value) (size bytes : Nat) (ht : P.underlying t = some (.slice e)) (hi : P.info? e = some i) (hz : i.zero = some z)
    (hsize : i.size = size) (hby : i.bytes = bytes) (hzs : z.cells.size = size) (hsz : 0 < size)
    (v : Value) (n : Nat) (xs : List Value) (hs : a.eval s = v) (hown : w.ownsRow base e size v n xs)
    (vx : Value) (B m : Nat) (news : List Value) (hx : a.eval x = vx) (hrow : Row w B size vx m news) (h1 : ∀ u ∈ news, u.oneCell' = true)
    (h63 : n + m ≤ maxLen) (hbytes : (n + m) * bytes ≤ 140737488355328) (hbase : base ≤ w.heap.size)
    (h : ∀ v' w', w'.ownsRow base e size v' (n + m) (xs ++ news) → Below base w w' → K (a.put o.dst v') w') :
    if Region.wanted o (yielded ops a.tmps) = true then Oper.wp P o a w K Q else E := by
  have hw : Region.wanted o (yielded ops a.tmps) = true := by simp [Region.wanted, hgd]
  rw [if_pos hw]
  rcases hrow.2 with ⟨rfl, rfl⟩ | ⟨g, off, cap, rfl, hg, hn, hc⟩
  · have hnil : news = [] := by have := hrow.1; simp at this; exact this
    subst hnil
    have hrun := run_append_owned_none (P := P) (w := w) base t o.type e i size ht hi v n xs hown
    unfold Oper.wp
    simp [execOp, ho, resolve, invoke, builtin, hs, hx, hrun, Result.andThen]
    exact h v w (by simpa using hown) (Below.refl _ _)
  · obtain ⟨v', w', hr, h2, h3, _, h5⟩ := run_append_own_at (P := P) w base t o.type e i z size bytes ht hi hz hsize hby hzs hsz v n xs hown ⟨g, off, none⟩ m cap news hrow.1
      (fun j u hj => by rw [show (⟨g, off, none⟩ : Addr).add j = ⟨g, off + j, none⟩ by unfold Addr.add; split <;> simp_all]; exact hc j u hj) h1 h63 hbytes hbase
    unfold Oper.wp execOp
    simp only [ho, resolve, invoke, builtin, Sem.run_bind, Sem.run_pure, Result.andThen_ok, List.map_toArray, List.map_cons, List.map_nil, hs, hx, hr]
    exact h v' w' h2 ((Below.refl base w).grown h3 hbase (fun k hk => (hown.lt k hk).1))
end
theorem flat_one (L : List V3) : ∀ u ∈ flat L, u.oneCell' = true := by
  intro u hu
  obtain ⟨x, -, hx⟩ := List.mem_flatMap.1 hu
  simp at hx
  rcases hx with rfl | rfl | rfl <;> rfl
theorem InV.keep {w w' : World} {v : Value} {L : List V3} (h : InV w v L) (hb : Below w.heap.size w w') : InV w' v L := ⟨h.1, h.2.1, h.2.2.1, h.2.2.2.grow hb⟩
/-- A box of two lists. -/
def Box2 (w : World) (F : Nat) (u v : Value) : Prop := w.cell? ⟨F, 0, none⟩ = some u ∧ w.cell? ⟨F, 1, none⟩ = some v
theorem Box2.keep {w w' : World} {F : Nat} {u v : Value} (h : Box2 w F u v) (hb : Below w.heap.size w w') : Box2 w' F u v := ⟨keep1 hb h.1, keep1 hb h.2⟩
section
variable (k : Int) (A0 A1 : Option Addr) (c0 c1 : Nat) (A B : List V3) (o : V3) (w : World)
set_option maxRecDepth 100000 in
set_option maxHeartbeats 4000000 in
theorem folds_ok (ho : o.s.size ≤ maxLen) (hva : InV w (.slice A0 A.length c0) A) (hvb : InV w (.slice A1 B.length c1) B) (ga : goodB k A o = true) (gb : goodB k B o = true) :
    Calls Try.prog 10 #[.int .i64 k, .agg #[.slice A0 A.length c0, .slice A1 B.length c1], .agg #[.int .i64 o.q, .int .i64 o.n, .string o.s]] w (Ret (.bool true) w) := by
  obtain ⟨hk, hra, hla, hwo⟩ := good_right ga
  obtain ⟨-, hrb, hlb, -⟩ := good_right gb
  have hBa := below_laid (w := w) (.cells #[.slice A0 A.length c0, .slice A1 B.length c1] 52)
  have hBb := bthen hBa (below_laid (.cells #[.int .i64 o.q, .int .i64 o.n, .string o.s] 23))
  have HIA := hide (hva.keep hBb)
  have HIB := hide (hvb.keep hBb)
  have HX := hide ((show Box2 (w.alloc (.cells #[.slice A0 A.length c0, .slice A1 B.length c1] 52)) w.heap.size (.slice A0 A.length c0) (.slice A1 B.length c1) from ⟨cells_lit w [.slice A0 A.length c0, .slice A1 B.length c1] _ 0 _ rfl, cells_lit w [.slice A0 A.length c0, .slice A1 B.length c1] _ 1 _ rfl⟩).keep (below_laid (.cells #[.int .i64 o.q, .int .i64 o.n, .string o.s] 23)))
  have hO := Box3.new (w.alloc (.cells #[.slice A0 A.length c0, .slice A1 B.length c1] 52)) o 23
  rw [World.size_alloc] at hO
  have HO := hide hO
  have HGA := hide (fun w' hv => good_any k A o w' (.slice A0 A.length c0) ho hv)
  rw [ga] at HGA
  have HGB := hide (fun w' hv => good_any k B o w' (.slice A1 B.length c1) ho hv)
  rw [gb] at HGB
  obtain ⟨i0, hi0, hz0, hz1, hz2⟩ := info_parts info_value
  have HRA := hide hra
  have HRB := hide hrb
  have HWO := hide hwo
  have HK := hide hk
  have HHO := hide ho
  obtain ⟨L, hL⟩ : ∃ L, L = A ++ B := ⟨_, rfl⟩
  have hrl : Right k L := by rw [hL]; exact right_app hra hrb
  have hll : L.length = A.length + B.length := by rw [hL]; exact List.length_append
  have hfl : flat L = flat A ++ flat B := by rw [hL]; exact List.flatMap_append
  have hsl : ∀ x ∈ L, x.s.size ≤ maxLen := by
    intro x hx
    rw [hL] at hx
    rcases List.mem_append.1 hx with h | h
    · exact hva.2.1 x h
    · exact hvb.2.1 x h
  obtain ⟨gA, kA, cA⟩ := fld_good hk A hra (by omega)
  obtain ⟨gB, kB, cB⟩ := fld_good hk B hrb (by omega)
  obtain ⟨gL, kL, cL⟩ := fld_good hk L hrl (by omega)
  have FA : fld k L = mrg (fld k A) (fld k B) := by rw [hL]; exact fld_app hk hra hrb (by omega)
  have M1 := hide (fun w' (h : InV w' (.slice A0 A.length c0) A) => of_right k A w' (.slice A0 A.length c0) hk hra (by omega) h.2.1 h.2.2.2)
  have M2 := hide (fun w' (h : InV w' (.slice A1 B.length c1) B) => of_right k B w' (.slice A1 B.length c1) hk hrb (by omega) h.2.1 h.2.2.2)
  have M3 := hide (fun w' v' (h : InV w' v' L) => of_right k L w' v' hk hrl (by omega) h.2.1 h.2.2.2)
  have M4 := hide (fun w' => merge_any w' (fld k A) (fld k B) (by have := good_len gA; unfold maxLen; omega) (by have := good_len gB; unfold maxLen; omega))
  rw [(mg_ok gA gB (by rw [kA, kB]) (by rw [cA, cB]; omega)).1, (mg_ok gA gB (by rw [kA, kB]) (by rw [cA, cB]; omega)).2, ← FA] at M4
  have eR : rsE (fld k L) o = 0 := by
    unfold rsE
    rw [if_neg (by simp [(good_iff _).2 gL]), kL]
    exact hwo
  have M5 := hide (fun w' => result_any w' (fld k L) o (by have := good_len gL; unfold maxLen; omega) ho)
  have M6 := hide (fun w' v' (h : InV w' v' L) => of_any k L o w' v' h.1 ho (fun _ => h.2.1) h.2.2.1 (fun _ => h.2.2.2))
  obtain ⟨e1, e2⟩ := of_ok (o := o) hk (show L.length ≤ 4096 by omega) ((fE_right k _).2 hrl)
  rw [e1, e2, eR] at M6
  rw [eR] at M5
  have tC : ((fld k L).c == (L.length : Int)) = true := beq_iff_eq.2 cL
  clear eR e1 e2 cL kL gL FA gA kA cA gB kB cB
  have HLL := hide hll
  have HFL := hide hfl
  have HSL := hide hsl
  clear hrl hL hll hfl hsl
  generalize rs (fld k L) o = r at *
  generalize fld k L = ab at *
  generalize fld k A = fa at *
  generalize fld k B = fb at *
  clear hk hra hrb hwo ga gb hva hvb hO ho hBa hBb
  go_enter Try.func10, Try.ntmps10
  go_wp2_with fail
  refine (HGA.out _ HIA.out).mono ?_
  rintro e w1 ⟨rfl, hb⟩
  have HW := hide (bthen (bthen (below_laid _) (below_laid _)) hb)
  have HX := hide (HX.out.keep hb)
  have HO := hide (HO.out.keep hb)
  have HIA := hide (HIA.out.keep hb)
  have HIB := hide (HIB.out.keep hb)
  obtain ⟨x0, x1⟩ := HX.out
  obtain ⟨⟨q0, q1, q2⟩, -⟩ := HO.out
  clear hb
  go_wp2_with fail
  refine (HGB.out _ HIB.out).mono ?_
  rintro e w2 ⟨rfl, hb⟩
  have HW := hide (bthen HW.out hb)
  have HX := hide (HX.out.keep hb)
  have HO := hide (HO.out.keep hb)
  have HIA := hide (HIA.out.keep hb)
  have HIB := hide (HIB.out.keep hb)
  clear hb x0 x1 q0 q1 q2
  obtain ⟨x0, x1⟩ := HX.out
  obtain ⟨⟨q0, q1, q2⟩, -⟩ := HO.out
  have HE0 := hide (own_lit w2 [] 23 w2.heap.size 3 0 (Nat.le_refl _) rfl (by decide))
  go_wp2_with fail
  go_region_held3 (fun w' => w'.cell? ⟨w.heap.size, 0, none⟩ = some (.slice A0 A.length c0) ∧ w'.cell? ⟨w.heap.size, 1, none⟩ = some (.slice A1 B.length c1))
    (first
      | with_reducible exact ⟨keep1 hbA x0, keep1 hbA x1⟩
      | with_reducible exact ⟨keep1 hbB x0, keep1 hbB x1⟩
      | (go_keep; done))
    (first
      | (refine step_append_row (by rfl) _ _ _ (by rfl) w2.heap.size 23 i0 _ 3 32 Try.underlying33 hi0 hz0 hz1 hz2 rfl (by omega) (.slice (some ⟨w2.heap.size, 0, none⟩) 0 0) 0 [] ?hs ?hown (.slice A0 A.length c0) w2.heap.size A.length (flat A) ?hx ?hrow (flat_one A) ?h63 ?hby ?hbase ?h; (case hs => rfl); (case hown => exact HE0.out.drew); (case hx => rfl); (case hrow => exact HIA.out.2.2.2.below (below_laid _).drew); (case h63 => unfold maxLen; omega); (case hby => omega); (case hbase => simp); intro v1 w3 hown1 hB1; have hbA : Below w2.heap.size w2 w3 := (below_laid _).trans (below_undrew hB1))
      | (refine step_append_row (by rfl) _ _ _ (by rfl) w2.heap.size 23 i0 _ 3 32 Try.underlying33 hi0 hz0 hz1 hz2 rfl (by omega) v1 (0 + A.length) ([] ++ flat A) ?bhs ?bhown (.slice A1 B.length c1) w2.heap.size B.length (flat B) ?bhx ?bhrow (flat_one B) ?bh63 ?bhby ?bhbase ?bh; (case bhs => rfl); (case bhown => exact hown1); (case bhx => rfl); (case bhrow => exact HIB.out.2.2.2.below hbA); (case bh63 => unfold maxLen; omega); (case bhby => omega); (case bhbase => exact hbA.size); intro v2 w4 hown2 hB2; have hbB : Below w2.heap.size w2 w4 := hbA.trans hB2))
  have hrow := Row.of_own hown2
  rw [show 0 + A.length + B.length = L.length by have := HLL.out; omega, show [] ++ flat A ++ flat B = flat L by rw [HFL.out]; rfl] at hrow
  have HIL0 : InV w4 v2 L := ⟨by have := HLL.out; omega, HSL.out, hrow.form, hrow⟩
  obtain ⟨LA, lc, rfl⟩ := hrow.form
  have HIL := hide HIL0
  have HX := hide (HX.out.keep hbB)
  have HO := hide (HO.out.keep hbB)
  have HIA := hide (HIA.out.keep hbB)
  have HIB := hide (HIB.out.keep hbB)
  have HW := hide (bthen HW.out hbB)
  clear hrow HIL0 hbA hbB hB1 hB2 hown1 hown2 x0 x1 q0 q1 q2
  obtain ⟨x0, x1⟩ := HX.out
  go_wp2_with fail
  refine (M1.out _ HIA.out).mono ?_
  rintro e u1 ⟨rfl, hb⟩
  have hb9 := bthen hb (below_laid (.cells #[.int .i64 fa.k, .int .i64 fa.c, .int .i64 fa.q, .int .i64 fa.n, .string fa.s] 25))
  have HX := hide (HX.out.keep hb9)
  have HO := hide (HO.out.keep hb9)
  have HIB := hide (HIB.out.keep hb9)
  have HIL := hide (HIL.out.keep hb9)
  have HFA := hide (Box5.new u1 fa 25)
  have HW := hide (bthen HW.out hb9)
  clear hb hb9 x0 x1
  obtain ⟨x0, x1⟩ := HX.out
  go_wp2_with fail
  refine (M2.out _ HIB.out).mono ?_
  rintro e u2 ⟨rfl, hb⟩
  have hb9 := bthen hb (below_laid (.cells #[.int .i64 fb.k, .int .i64 fb.c, .int .i64 fb.q, .int .i64 fb.n, .string fb.s] 25))
  have HO := hide (HO.out.keep hb9)
  have HIL := hide (HIL.out.keep hb9)
  have HFA := hide (HFA.out.keep hb9)
  have HFB := hide (Box5.new u2 fb 25)
  have HW := hide (bthen HW.out hb9)
  clear hb hb9 x0 x1
  go_wp2_with fail
  refine (M3.out _ _ HIL.out).mono ?_
  rintro e u3 ⟨rfl, hb⟩
  have hb9 := bthen hb (below_laid (.cells #[.int .i64 ab.k, .int .i64 ab.c, .int .i64 ab.q, .int .i64 ab.n, .string ab.s] 25))
  have HO := hide (HO.out.keep hb9)
  have HIL := hide (HIL.out.keep hb9)
  have HFA := hide (HFA.out.keep hb9)
  have HFB := hide (HFB.out.keep hb9)
  have HC := hide (Box5.new u3 ab 25)
  have HW := hide (bthen HW.out hb9)
  clear hb hb9 
  obtain ⟨⟨y0, y1, y2, y3, y4⟩, -⟩ := HFA.out
  obtain ⟨⟨z0, z1, z2, z3, z4⟩, -⟩ := HFB.out
  go_wp2_with fail
  refine (M4.out _).mono ?_
  rintro e u4 ⟨rfl, hb⟩
  have hb9 := bthen hb (below_laid (.cells #[.int .i64 ab.k, .int .i64 ab.c, .int .i64 ab.q, .int .i64 ab.n, .string ab.s] 25))
  have HO := hide (HO.out.keep hb9)
  have HIL := hide (HIL.out.keep hb9)
  have HC := hide (HC.out.keep hb9)
  have HM := hide (Box5.new u4 ab 25)
  have HW := hide (bthen HW.out hb9)
  clear hb hb9 y0 y1 y2 y3 y4 z0 z1 z2 z3 z4
  obtain ⟨⟨y0, y1, y2, y3, y4⟩, -⟩ := HM.out
  obtain ⟨⟨q0, q1, q2⟩, -⟩ := HO.out
  go_wp2_with fail
  refine (M5.out _).mono ?_
  rintro e u5 ⟨rfl, hb⟩
  have hb9 := bthen hb (below_laid (.cells #[.int .i64 r.q, .int .i64 r.n, .string r.s] 23))
  have HO := hide (HO.out.keep hb9)
  have HIL := hide (HIL.out.keep hb9)
  have HC := hide (HC.out.keep hb9)
  have HM := hide (HM.out.keep hb9)
  have HV := hide (Box3.new u5 r 23)
  have HW := hide (bthen HW.out hb9)
  clear hb hb9 y0 y1 y2 y3 y4 q0 q1 q2
  obtain ⟨⟨q0, q1, q2⟩, -⟩ := HO.out
  go_wp2_with fail
  refine (M6.out _ _ HIL.out).mono ?_
  rintro e u6 ⟨rfl, hb⟩
  have hb9 := bthen hb (below_laid (.cells #[.int .i64 r.q, .int .i64 r.n, .string r.s] 23))
  have HC := hide (HC.out.keep hb9)
  have HM := hide (HM.out.keep hb9)
  have HV := hide (HV.out.keep hb9)
  have HU := hide (Box3.new u6 r 23)
  have HW := hide (bthen HW.out hb9)
  clear hb hb9 q0 q1 q2
  go_wp2_with fail
  refine (awake_any _).mono ?_
  rintro e wz ⟨rfl, hb⟩
  have HC := hide (HC.out.keep hb)
  have HM := hide (HM.out.keep hb)
  have HV := hide (HV.out.keep hb)
  have HU := hide (HU.out.keep hb)
  obtain ⟨⟨y0, y1, y2, y3, y4⟩, -⟩ := HC.out
  obtain ⟨⟨z0, z1, z2, z3, z4⟩, -⟩ := HM.out
  obtain ⟨⟨q0, q1, q2⟩, -⟩ := HV.out
  obtain ⟨⟨p0, p1, p2⟩, -⟩ := HU.out
  have HW := hide (bthen HW.out hb)
  clear hb
  go_wp2
  go_ret
  exact Ret.bool rfl HW.out

set_option maxRecDepth 100000 in
set_option maxHeartbeats 4000000 in
theorem folds_n1 (ho : o.s.size ≤ maxLen) (hva : InV w (.slice A0 A.length c0) A) (hvb : InV w (.slice A1 B.length c1) B) (ga : goodB k A o = false) :
    Calls Try.prog 10 #[.int .i64 k, .agg #[.slice A0 A.length c0, .slice A1 B.length c1], .agg #[.int .i64 o.q, .int .i64 o.n, .string o.s]] w (Ret (.bool true) w) := by
  have hBa := below_laid (w := w) (.cells #[.slice A0 A.length c0, .slice A1 B.length c1] 52)
  have hBb := bthen hBa (below_laid (.cells #[.int .i64 o.q, .int .i64 o.n, .string o.s] 23))
  have HIA := hide (hva.keep hBb)
  have HIB := hide (hvb.keep hBb)
  have HX := hide ((show Box2 (w.alloc (.cells #[.slice A0 A.length c0, .slice A1 B.length c1] 52)) w.heap.size (.slice A0 A.length c0) (.slice A1 B.length c1) from ⟨cells_lit w [.slice A0 A.length c0, .slice A1 B.length c1] _ 0 _ rfl, cells_lit w [.slice A0 A.length c0, .slice A1 B.length c1] _ 1 _ rfl⟩).keep (below_laid (.cells #[.int .i64 o.q, .int .i64 o.n, .string o.s] 23)))
  have hO := Box3.new (w.alloc (.cells #[.slice A0 A.length c0, .slice A1 B.length c1] 52)) o 23
  rw [World.size_alloc] at hO
  have HO := hide hO
  have HGA := hide (fun w' hv => good_any k A o w' (.slice A0 A.length c0) ho hv)
  rw [ga] at HGA
  have HGB := hide (fun w' hv => good_any k B o w' (.slice A1 B.length c1) ho hv)
  clear ga hva hvb hO ho hBa hBb
  go_enter Try.func10, Try.ntmps10
  go_wp2_with fail
  refine (HGA.out _ HIA.out).mono ?_
  rintro e w1 ⟨rfl, hb⟩
  have HW := hide (bthen (bthen (below_laid _) (below_laid _)) hb)
  have HX := hide (HX.out.keep hb)
  have HO := hide (HO.out.keep hb)
  have HIB := hide (HIB.out.keep hb)
  obtain ⟨x0, x1⟩ := HX.out
  obtain ⟨⟨q0, q1, q2⟩, -⟩ := HO.out
  clear hb
  go_wp2_with fail
  refine (awake_any _).mono ?_
  rintro e wz ⟨rfl, hb⟩
  go_wp2
  go_ret
  exact Ret.bool rfl (bthen HW.out hb)

set_option maxRecDepth 100000 in
set_option maxHeartbeats 4000000 in
theorem folds_n2 (ho : o.s.size ≤ maxLen) (hva : InV w (.slice A0 A.length c0) A) (hvb : InV w (.slice A1 B.length c1) B) (ga : goodB k A o = true) (gb : goodB k B o = false) :
    Calls Try.prog 10 #[.int .i64 k, .agg #[.slice A0 A.length c0, .slice A1 B.length c1], .agg #[.int .i64 o.q, .int .i64 o.n, .string o.s]] w (Ret (.bool true) w) := by
  have hBa := below_laid (w := w) (.cells #[.slice A0 A.length c0, .slice A1 B.length c1] 52)
  have hBb := bthen hBa (below_laid (.cells #[.int .i64 o.q, .int .i64 o.n, .string o.s] 23))
  have HIA := hide (hva.keep hBb)
  have HIB := hide (hvb.keep hBb)
  have HX := hide ((show Box2 (w.alloc (.cells #[.slice A0 A.length c0, .slice A1 B.length c1] 52)) w.heap.size (.slice A0 A.length c0) (.slice A1 B.length c1) from ⟨cells_lit w [.slice A0 A.length c0, .slice A1 B.length c1] _ 0 _ rfl, cells_lit w [.slice A0 A.length c0, .slice A1 B.length c1] _ 1 _ rfl⟩).keep (below_laid (.cells #[.int .i64 o.q, .int .i64 o.n, .string o.s] 23)))
  have hO := Box3.new (w.alloc (.cells #[.slice A0 A.length c0, .slice A1 B.length c1] 52)) o 23
  rw [World.size_alloc] at hO
  have HO := hide hO
  have HGA := hide (fun w' hv => good_any k A o w' (.slice A0 A.length c0) ho hv)
  rw [ga] at HGA
  have HGB := hide (fun w' hv => good_any k B o w' (.slice A1 B.length c1) ho hv)
  rw [gb] at HGB
  clear ga gb hva hvb hO ho hBa hBb
  go_enter Try.func10, Try.ntmps10
  go_wp2_with fail
  refine (HGA.out _ HIA.out).mono ?_
  rintro e w1 ⟨rfl, hb⟩
  have HW := hide (bthen (bthen (below_laid _) (below_laid _)) hb)
  have HX := hide (HX.out.keep hb)
  have HO := hide (HO.out.keep hb)
  have HIB := hide (HIB.out.keep hb)
  obtain ⟨x0, x1⟩ := HX.out
  obtain ⟨⟨q0, q1, q2⟩, -⟩ := HO.out
  clear hb
  go_wp2_with fail
  refine (HGB.out _ HIB.out).mono ?_
  rintro e w2 ⟨rfl, hb⟩
  have HW := hide (bthen HW.out hb)
  clear hb
  go_wp2_with fail
  refine (awake_any _).mono ?_
  rintro e wz ⟨rfl, hb⟩
  go_wp2
  go_ret
  exact Ret.bool rfl (bthen HW.out hb)

theorem folds_any (u v : Value) (ho : o.s.size ≤ maxLen) (hva : InV w u A) (hvb : InV w v B) :
    Calls Try.prog 10 #[.int .i64 k, .agg #[u, v], .agg #[.int .i64 o.q, .int .i64 o.n, .string o.s]] w (Ret (.bool true) w) := by
  obtain ⟨A0, c0, rfl⟩ := hva.2.2.1
  obtain ⟨A1, c1, rfl⟩ := hvb.2.2.1
  cases ga : goodB k A o
  · exact folds_n1 k A0 A1 c0 c1 A B o w ho hva hvb ga
  · cases gb : goodB k B o
    · exact folds_n2 k A0 A1 c0 c1 A B o w ho hva hvb ga gb
    · exact folds_ok k A0 A1 c0 c1 A B o w ho hva hvb ga gb
end
end Go.Proofs.Ytgppohelgmadoaa
