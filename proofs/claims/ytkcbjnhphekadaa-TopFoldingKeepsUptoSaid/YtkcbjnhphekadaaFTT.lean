/- tryTotals, of the law. -/
import Derived.Test.YtkcbjnhphekadaaFCntA
import Derived.Test.YtkcbjnhphekadaaAFolds
namespace Go.Proofs.Ytkcbjnhphekadaa
open Go.RowKit
set_option linter.unusedVariables false
set_option linter.unusedSimpArgs false
theorem tt1 : ofE 1 l3 V3.z = 0 ∧ ofV 1 l3 V3.z = num 7 := ⟨by kernel_rfl, by kernel_rfl⟩
theorem tt2 : adE ⟨1, 2, 0, 2, ⟨#[]⟩⟩ (num 5) = 0 ∧ ad ⟨1, 2, 0, 2, ⟨#[]⟩⟩ (num 5) = ⟨1, 3, 0, 7, ⟨#[]⟩⟩ := ⟨by kernel_rfl, by kernel_rfl⟩
theorem l3_sz : ∀ x ∈ l3, x.s.size ≤ maxLen := by
  intro x hx
  simp [l3] at hx
  rcases hx with rfl | rfl | rfl <;> exact Nat.zero_le _
def vals3 : List Value := [.int .i64 0, .int .i64 3, .string ⟨#[]⟩, .int .i64 0, .int .i64 (-1), .string ⟨#[]⟩, .int .i64 0, .int .i64 5, .string ⟨#[]⟩]
theorem flat_l3 : flat l3 = vals3 := rfl
def evl (b : Nat) : List Value := [.int .i64 0, .int .i64 0, .int .i64 0, .int .i64 0, .slice (some ⟨b, 0, none⟩) 1 3, .int .i64 0, .int .i64 0, .int .i64 0, .int .i64 0, .slice (some ⟨b, 3, none⟩) 1 2, .int .i64 0, .int .i64 0, .int .i64 0, .int .i64 0, .slice (some ⟨b, 6, none⟩) 1 1]
def e3 : List Evx := [⟨0, 0, 0, 0, [num 3]⟩, ⟨0, 0, 0, 0, [num (-1)]⟩, ⟨0, 0, 0, 0, [num 5]⟩]
theorem vx1 {w : World} {b off cap : Nat} {x : V3} (hb : b < w.heap.size) (hcap : 1 ≤ cap) (hs : x.s.size ≤ maxLen) (h0 : w.cell? ⟨b, off, none⟩ = some (.int .i64 x.q)) (h1 : w.cell? ⟨b, off + 1, none⟩ = some (.int .i64 x.n)) (h2 : w.cell? ⟨b, off + 2, none⟩ = some (.string x.s)) :
    Lst w (· < w.heap.size) 3 RVx (.slice (some ⟨b, off, none⟩) 1 cap) [x] := by
  refine ⟨⟨_, cap, rfl, hcap, by simp [maxLen]⟩, fun j hj => ?_⟩
  have hj0 : j = 0 := by simp at hj; omega
  subst hj0
  refine ⟨b, off, cap, [.int .i64 x.q, .int .i64 x.n, .string x.s], rfl, hb, rfl, fun c u hu => ?_, rfl, hs⟩
  rw [Nat.zero_mul, Nat.add_zero]
  match c, hu with
  | 0, hu => simp at hu; subst hu; exact h0
  | 1, hu => simp at hu; subst hu; exact h1
  | 2, hu => simp at hu; subst hu; exact h2
theorem evs3 {w : World} {e b : Nat} (hc : ∀ j u, (evl b)[j]? = some u → w.cell? ⟨e, j, none⟩ = some u) (hv : ∀ j u, vals3[j]? = some u → w.cell? ⟨b, j, none⟩ = some u) : There REx 5 w (.slice (some ⟨e, 0, none⟩) 3 3) e3 := by
  have he : e < w.heap.size := World.block_lt_of_cell? w _ (hc 0 _ rfl)
  have hb : b < w.heap.size := World.block_lt_of_cell? w _ (hv 0 _ rfl)
  refine ⟨⟨_, 3, rfl, by decide, by decide⟩, fun j hj => ?_⟩
  have hj3 : j = 0 ∨ j = 1 ∨ j = 2 := by simp [e3] at hj; omega
  rcases hj3 with rfl | rfl | rfl
  · exact ⟨e, 0, 3, [.int .i64 0, .int .i64 0, .int .i64 0, .int .i64 0, .slice (some ⟨b, 0, none⟩) 1 3], rfl, he, rfl, fun c u hu => by
      rw [Nat.zero_mul, Nat.add_zero, Nat.zero_add]
      exact hc c u (by match c, hu with | 0, hu => exact hu | 1, hu => exact hu | 2, hu => exact hu | 3, hu => exact hu | 4, hu => exact hu), _, rfl, vx1 (x := num 3) hb (by decide) (Nat.zero_le _) (hv 0 _ rfl) (hv 1 _ rfl) (hv 2 _ rfl)⟩
  · exact ⟨e, 0, 3, [.int .i64 0, .int .i64 0, .int .i64 0, .int .i64 0, .slice (some ⟨b, 3, none⟩) 1 2], rfl, he, rfl, fun c u hu => by
      rw [Nat.one_mul, Nat.zero_add]
      exact hc (5 + c) u (by match c, hu with | 0, hu => exact hu | 1, hu => exact hu | 2, hu => exact hu | 3, hu => exact hu | 4, hu => exact hu), _, rfl, vx1 (x := num (-1)) hb (by decide) (Nat.zero_le _) (hv 3 _ rfl) (hv 4 _ rfl) (hv 5 _ rfl)⟩
  · exact ⟨e, 0, 3, [.int .i64 0, .int .i64 0, .int .i64 0, .int .i64 0, .slice (some ⟨b, 6, none⟩) 1 1], rfl, he, rfl, fun c u hu => by
      rw [show 0 + 2 * 5 + c = 10 + c by omega]
      exact hc (10 + c) u (by match c, hu with | 0, hu => exact hu | 1, hu => exact hu | 2, hu => exact hu | 3, hu => exact hu | 4, hu => exact hu), _, rfl, vx1 (x := num 5) hb (by decide) (Nat.zero_le _) (hv 6 _ rfl) (hv 7 _ rfl) (hv 8 _ rfl)⟩
theorem env3 {w : World} {g : Nat} {E : Value} (hE : w.cell? ⟨g, 0, none⟩ = some E) (h : There REx 5 w E e3) : There RLx 1 w (.slice (some ⟨g, 0, none⟩) 1 1) [e3] := by
  have hg : g < w.heap.size := World.block_lt_of_cell? w _ hE
  refine ⟨⟨_, 1, rfl, by decide, by decide⟩, fun j hj => ?_⟩
  have hj0 : j = 0 := by simp at hj; omega
  subst hj0
  refine ⟨g, 0, 1, [E], rfl, hg, rfl, fun c u hu => ?_, E, rfl, h⟩
  match c, hu with
  | 0, hu => simp at hu; subst hu; exact hE
def totT : Tr := .mk ⟨4, 0, 0, 1, V3.z⟩ []
theorem tot_ev : evalV [e3] totT = num 7 ∧ evalE [e3] totT = 0 := ⟨by kernel_rfl, by kernel_rfl⟩
theorem tot_tx (w : World) : Tx w [.int .i64 4, .slice none 0 0, .int .i64 0, .int .i64 0, .int .i64 1, .int .i64 0, .int .i64 0, .string ⟨#[]⟩] totT :=
  RTx.of (d := ⟨4, 0, 0, 1, V3.z⟩) Lst.nil ⟨by simp [inX], by simp [inX], by simp [inX], by simp [inX], by simp [inX, V3.z], by simp [inX, V3.z], Nat.zero_le _⟩
theorem e3_few (k : Int) : (evsQ [e3] k).length ≤ 4096 := fewE_len (by kernel_rfl) k
theorem lit1 (w : World) (a : Obj) (xs : List Value) (t : TypeId) : ∀ j u, xs[j]? = some u → ((w.alloc a).alloc (.cells xs.toArray t)).cell? ⟨w.heap.size + 1, j, none⟩ = some u := by
  have h := cells_lit (w.alloc a) xs t
  rw [World.size_alloc] at h
  exact h
theorem lit2 (w : World) (a b : Obj) (xs : List Value) (t : TypeId) : ∀ j u, xs[j]? = some u → (((w.alloc a).alloc b).alloc (.cells xs.toArray t)).cell? ⟨w.heap.size + 1 + 1, j, none⟩ = some u := by
  have h := cells_lit ((w.alloc a).alloc b) xs t
  rw [World.size_alloc, World.size_alloc] at h
  exact h
theorem lit3 (w : World) (a b c : Obj) (xs : List Value) (t : TypeId) : ∀ j u, xs[j]? = some u → ((((w.alloc a).alloc b).alloc c).alloc (.cells xs.toArray t)).cell? ⟨w.heap.size + 1 + 1 + 1, j, none⟩ = some u := by
  have h := cells_lit (((w.alloc a).alloc b).alloc c) xs t
  rw [World.size_alloc, World.size_alloc, World.size_alloc] at h
  exact h
set_option maxRecDepth 100000 in
set_option maxHeartbeats 4000000 in
theorem trytot_any (w : World) : Calls Try.prog 4 #[] w (Ret (.bool true) w) := by
  have hcl := cells_lit w vals3 28
  have hrow0 : Row (w.alloc (.cells vals3.toArray 28)) (w.alloc (.cells vals3.toArray 28)).heap.size 3 (.slice (some ⟨w.heap.size, 0, none⟩) 3 3) l3.length (flat l3) :=
    ⟨rfl, .inr ⟨w.heap.size, 0, 3, rfl, by simp, by decide, fun j u hu => by rw [Nat.zero_add]; exact hcl j u (by rw [← flat_l3]; exact hu)⟩⟩
  have HROW := hide hrow0
  have HOF := hide (fun w' (hv : Row w' w'.heap.size 3 (.slice (some ⟨w.heap.size, 0, none⟩) 3 3) l3.length (flat l3)) => of_any 1 l3 V3.z w' (.slice (some ⟨w.heap.size, 0, none⟩) 3 3) (by decide) (Nat.zero_le _) (fun _ => l3_sz) ⟨_, 3, rfl⟩ (fun _ => hv))
  rw [tt1.1, tt1.2, show V3.v (num 7) = .agg #[.int .i64 0, .int .i64 7, .string ⟨#[]⟩] from rfl] at HOF
  have HAD := hide (fun w' => add_any w' ⟨1, 2, 0, 2, ⟨#[]⟩⟩ (num 5) (Nat.zero_le _) (Nat.zero_le _))
  rw [tt2.1, tt2.2, show A5.v ⟨1, 3, 0, 7, ⟨#[]⟩⟩ = .agg #[.int .i64 1, .int .i64 3, .int .i64 0, .int .i64 7, .string ⟨#[]⟩] from rfl] at HAD
  have HEV := hide (fun g E w' (h1 : World.cell? w' ⟨g, 0, none⟩ = some E) h2 => xEval_any [e3] e3_few totT (by decide) w' (.slice (some ⟨g, 0, none⟩) 1 1) _ (env3 h1 h2) (tot_tx w'))
  rw [tot_ev.1, tot_ev.2, show V3.v (num 7) = .agg #[.int .i64 0, .int .i64 7, .string ⟨#[]⟩] from rfl] at HEV
  have HV0 : Hid (∀ j u, vals3[j]? = some u → (w.alloc (.cells vals3.toArray 28)).cell? ⟨w.heap.size, j, none⟩ = some u) := hide hcl
  clear hrow0 hcl
  go_enter Try.func4, Try.ntmps4
  go_wp2_with fail
  refine (HOF.out _ HROW.out).mono ?_
  rintro e w1 ⟨rfl, hb⟩
  replace HROW := hide (HROW.out.grow hb)
  replace HV0 : Hid (∀ j u, vals3[j]? = some u → w1.cell? ⟨w.heap.size, j, none⟩ = some u) := hide (fun j u hu => keep1 hb (HV0.out j u hu))
  have HW := hide (bthen (below_laid (.cells vals3.toArray 28)) hb)
  clear hb
  have hlt : w.heap.size < w1.heap.size := World.block_lt_of_cell? w1 _ (HV0.out 0 _ rfl)
  have e6 := HV0.out 6 _ rfl
  have e7 := HV0.out 7 _ rfl
  have e8 := HV0.out 8 _ rfl
  go_wp2_with fail
  refine (HAD.out _).mono ?_
  rintro e w2 ⟨rfl, hb⟩
  replace HROW := hide ((HROW.out.laid _).grow hb)
  have hb1 := bel1 hb
  replace HV0 : Hid (∀ j u, vals3[j]? = some u → w2.cell? ⟨w.heap.size, j, none⟩ = some u) := hide (fun j u hu => keep1 hb1 (HV0.out j u hu))
  have HR1 := hide ((Box3.new w1 (num 7) 28).keep hb)
  replace HW := hide (bthen HW.out hb1)
  clear hb hb1 e6 e7 e8 hlt
  go_wp2_with fail
  go_region
  · have HWX := hide (show Below (w2.alloc (.cells #[.int .i64 1, .int .i64 3, .int .i64 0, .int .i64 7, .string ⟨#[]⟩] 57)).heap.size (w2.alloc (.cells #[.int .i64 1, .int .i64 3, .int .i64 0, .int .i64 7, .string ⟨#[]⟩] 57)) (((((w2.alloc (.cells #[.int .i64 1, .int .i64 3, .int .i64 0, .int .i64 7, .string ⟨#[]⟩] 57)).alloc (.cells (evl w.heap.size).toArray 50)).alloc (.cells #[.slice (some ⟨w2.heap.size + 1, 0, none⟩) 3 3] 60)).alloc (.cells #[.slice (some ⟨w2.heap.size + 1 + 1, 0, none⟩) 1 1] 37)).drew) from (((below_laid _).alloc (by simp) _).alloc (by first | (simp; done) | (simp; omega)) _).drew)
    have hvv : ∀ j u, vals3[j]? = some u → (((((w2.alloc (.cells #[.int .i64 1, .int .i64 3, .int .i64 0, .int .i64 7, .string ⟨#[]⟩] 57)).alloc (.cells (evl w.heap.size).toArray 50)).alloc (.cells #[.slice (some ⟨w2.heap.size + 1, 0, none⟩) 3 3] 60)).alloc (.cells #[.slice (some ⟨w2.heap.size + 1 + 1, 0, none⟩) 1 1] 37)).drew).cell? ⟨w.heap.size, j, none⟩ = some u := fun j u hu => keep1 HWX.out (keep1 (below_laid _) (HV0.out j u hu))
    have hev : ∀ j u, (evl w.heap.size)[j]? = some u → (((((w2.alloc (.cells #[.int .i64 1, .int .i64 3, .int .i64 0, .int .i64 7, .string ⟨#[]⟩] 57)).alloc (.cells (evl w.heap.size).toArray 50)).alloc (.cells #[.slice (some ⟨w2.heap.size + 1, 0, none⟩) 3 3] 60)).alloc (.cells #[.slice (some ⟨w2.heap.size + 1 + 1, 0, none⟩) 1 1] 37)).drew).cell? ⟨w2.heap.size + 1, j, none⟩ = some u := (fun j u hu => keep1 (below_laid _) (keep1 (below_laid _) (lit1 w2 (.cells #[.int .i64 1, .int .i64 3, .int .i64 0, .int .i64 7, .string ⟨#[]⟩] 57) (evl w.heap.size) 50 j u hu)))
    have HES := hide (evs3 hev hvv)
    have HCK : Hid ((((((w2.alloc (.cells #[.int .i64 1, .int .i64 3, .int .i64 0, .int .i64 7, .string ⟨#[]⟩] 57)).alloc (.cells (evl w.heap.size).toArray 50)).alloc (.cells #[.slice (some ⟨w2.heap.size + 1, 0, none⟩) 3 3] 60)).alloc (.cells #[.slice (some ⟨w2.heap.size + 1 + 1, 0, none⟩) 1 1] 37)).drew).cell? ⟨w2.heap.size + 1 + 1, 0, none⟩ = some (.slice (some ⟨w2.heap.size + 1, 0, none⟩) 3 3)) := hide (keep1 (below_laid _) (lit2 w2 (.cells #[.int .i64 1, .int .i64 3, .int .i64 0, .int .i64 7, .string ⟨#[]⟩] 57) (.cells (evl w.heap.size).toArray 50) [.slice (some ⟨w2.heap.size + 1, 0, none⟩) 3 3] 60 0 _ rfl))
    clear hvv hev
    go_wp2_with fail
    refine (HEV.out _ _ _ HCK.out HES.out).mono ?_
    rintro e w5 ⟨rfl, hb⟩
    have hA := bthen HWX.out hb
    have HX5 := hide ((Box5.new w2 ⟨1, 3, 0, 7, ⟨#[]⟩⟩ 57).keep hA)
    have HX3 := hide (HR1.out.keep (bthen (below_laid _) hA))
    replace HW := hide (bthen HW.out (bthen (below_laid _) hA))
    obtain ⟨⟨a0, a1, a2, a3, a4⟩, -⟩ := HX5.out
    obtain ⟨⟨q0, q1, q2⟩, -⟩ := HX3.out
    simp only [num] at q0 q1 q2
    simp only at a0 a1 a2 a3 a4
    have l1 := World.block_lt_of_cell? w5 _ a0
    have l2 := World.block_lt_of_cell? w5 _ q0
    simp only at l1 l2
    clear hb hA
    go_wp2
    go_ret
    exact Ret.bool rfl (bthen HW.out (below_laid _))
  · have HWX := hide (show Below (w2.alloc (.cells #[.int .i64 1, .int .i64 3, .int .i64 0, .int .i64 7, .string ⟨#[]⟩] 57)).heap.size (w2.alloc (.cells #[.int .i64 1, .int .i64 3, .int .i64 0, .int .i64 7, .string ⟨#[]⟩] 57)) (((((w2.alloc (.cells #[.int .i64 1, .int .i64 3, .int .i64 0, .int .i64 7, .string ⟨#[]⟩] 57)).alloc (.cells (evl w.heap.size).toArray 50)).alloc (.cells #[.slice (some ⟨w2.heap.size + 1 + 1 + 1, 0, none⟩) 1 1] 37)).alloc (.cells #[.slice (some ⟨w2.heap.size + 1, 0, none⟩) 3 3] 60)).drew) from (((below_laid _).alloc (by simp) _).alloc (by first | (simp; done) | (simp; omega)) _).drew)
    have hvv : ∀ j u, vals3[j]? = some u → (((((w2.alloc (.cells #[.int .i64 1, .int .i64 3, .int .i64 0, .int .i64 7, .string ⟨#[]⟩] 57)).alloc (.cells (evl w.heap.size).toArray 50)).alloc (.cells #[.slice (some ⟨w2.heap.size + 1 + 1 + 1, 0, none⟩) 1 1] 37)).alloc (.cells #[.slice (some ⟨w2.heap.size + 1, 0, none⟩) 3 3] 60)).drew).cell? ⟨w.heap.size, j, none⟩ = some u := fun j u hu => keep1 HWX.out (keep1 (below_laid _) (HV0.out j u hu))
    have hev : ∀ j u, (evl w.heap.size)[j]? = some u → (((((w2.alloc (.cells #[.int .i64 1, .int .i64 3, .int .i64 0, .int .i64 7, .string ⟨#[]⟩] 57)).alloc (.cells (evl w.heap.size).toArray 50)).alloc (.cells #[.slice (some ⟨w2.heap.size + 1 + 1 + 1, 0, none⟩) 1 1] 37)).alloc (.cells #[.slice (some ⟨w2.heap.size + 1, 0, none⟩) 3 3] 60)).drew).cell? ⟨w2.heap.size + 1, j, none⟩ = some u := (fun j u hu => keep1 (below_laid _) (keep1 (below_laid _) (lit1 w2 (.cells #[.int .i64 1, .int .i64 3, .int .i64 0, .int .i64 7, .string ⟨#[]⟩] 57) (evl w.heap.size) 50 j u hu)))
    have HES := hide (evs3 hev hvv)
    have HCK : Hid ((((((w2.alloc (.cells #[.int .i64 1, .int .i64 3, .int .i64 0, .int .i64 7, .string ⟨#[]⟩] 57)).alloc (.cells (evl w.heap.size).toArray 50)).alloc (.cells #[.slice (some ⟨w2.heap.size + 1 + 1 + 1, 0, none⟩) 1 1] 37)).alloc (.cells #[.slice (some ⟨w2.heap.size + 1, 0, none⟩) 3 3] 60)).drew).cell? ⟨w2.heap.size + 1 + 1 + 1, 0, none⟩ = some (.slice (some ⟨w2.heap.size + 1, 0, none⟩) 3 3)) := hide (lit3 w2 (.cells #[.int .i64 1, .int .i64 3, .int .i64 0, .int .i64 7, .string ⟨#[]⟩] 57) (.cells (evl w.heap.size).toArray 50) (.cells #[.slice (some ⟨w2.heap.size + 1 + 1 + 1, 0, none⟩) 1 1] 37) [.slice (some ⟨w2.heap.size + 1, 0, none⟩) 3 3] 60 0 _ rfl)
    clear hvv hev
    go_wp2_with fail
    refine (HEV.out _ _ _ HCK.out HES.out).mono ?_
    rintro e w5 ⟨rfl, hb⟩
    have hA := bthen HWX.out hb
    have HX5 := hide ((Box5.new w2 ⟨1, 3, 0, 7, ⟨#[]⟩⟩ 57).keep hA)
    have HX3 := hide (HR1.out.keep (bthen (below_laid _) hA))
    replace HW := hide (bthen HW.out (bthen (below_laid _) hA))
    obtain ⟨⟨a0, a1, a2, a3, a4⟩, -⟩ := HX5.out
    obtain ⟨⟨q0, q1, q2⟩, -⟩ := HX3.out
    simp only [num] at q0 q1 q2
    simp only at a0 a1 a2 a3 a4
    have l1 := World.block_lt_of_cell? w5 _ a0
    have l2 := World.block_lt_of_cell? w5 _ q0
    simp only at l1 l2
    clear hb hA
    go_wp2
    go_ret
    exact Ret.bool rfl (bthen HW.out (below_laid _))
  · have HWX := hide (show Below (w2.alloc (.cells #[.int .i64 1, .int .i64 3, .int .i64 0, .int .i64 7, .string ⟨#[]⟩] 57)).heap.size (w2.alloc (.cells #[.int .i64 1, .int .i64 3, .int .i64 0, .int .i64 7, .string ⟨#[]⟩] 57)) (((((w2.alloc (.cells #[.int .i64 1, .int .i64 3, .int .i64 0, .int .i64 7, .string ⟨#[]⟩] 57)).alloc (.cells #[.slice (some ⟨w2.heap.size + 1 + 1 + 1, 0, none⟩) 1 1] 37)).alloc (.cells (evl w.heap.size).toArray 50)).alloc (.cells #[.slice (some ⟨w2.heap.size + 1 + 1, 0, none⟩) 3 3] 60)).drew) from (((below_laid _).alloc (by simp) _).alloc (by first | (simp; done) | (simp; omega)) _).drew)
    have hvv : ∀ j u, vals3[j]? = some u → (((((w2.alloc (.cells #[.int .i64 1, .int .i64 3, .int .i64 0, .int .i64 7, .string ⟨#[]⟩] 57)).alloc (.cells #[.slice (some ⟨w2.heap.size + 1 + 1 + 1, 0, none⟩) 1 1] 37)).alloc (.cells (evl w.heap.size).toArray 50)).alloc (.cells #[.slice (some ⟨w2.heap.size + 1 + 1, 0, none⟩) 3 3] 60)).drew).cell? ⟨w.heap.size, j, none⟩ = some u := fun j u hu => keep1 HWX.out (keep1 (below_laid _) (HV0.out j u hu))
    have hev : ∀ j u, (evl w.heap.size)[j]? = some u → (((((w2.alloc (.cells #[.int .i64 1, .int .i64 3, .int .i64 0, .int .i64 7, .string ⟨#[]⟩] 57)).alloc (.cells #[.slice (some ⟨w2.heap.size + 1 + 1 + 1, 0, none⟩) 1 1] 37)).alloc (.cells (evl w.heap.size).toArray 50)).alloc (.cells #[.slice (some ⟨w2.heap.size + 1 + 1, 0, none⟩) 3 3] 60)).drew).cell? ⟨w2.heap.size + 1 + 1, j, none⟩ = some u := (fun j u hu => keep1 (below_laid _) (lit2 w2 (.cells #[.int .i64 1, .int .i64 3, .int .i64 0, .int .i64 7, .string ⟨#[]⟩] 57) (.cells #[.slice (some ⟨w2.heap.size + 1 + 1 + 1, 0, none⟩) 1 1] 37) (evl w.heap.size) 50 j u hu))
    have HES := hide (evs3 hev hvv)
    have HCK : Hid ((((((w2.alloc (.cells #[.int .i64 1, .int .i64 3, .int .i64 0, .int .i64 7, .string ⟨#[]⟩] 57)).alloc (.cells #[.slice (some ⟨w2.heap.size + 1 + 1 + 1, 0, none⟩) 1 1] 37)).alloc (.cells (evl w.heap.size).toArray 50)).alloc (.cells #[.slice (some ⟨w2.heap.size + 1 + 1, 0, none⟩) 3 3] 60)).drew).cell? ⟨w2.heap.size + 1 + 1 + 1, 0, none⟩ = some (.slice (some ⟨w2.heap.size + 1 + 1, 0, none⟩) 3 3)) := hide (lit3 w2 (.cells #[.int .i64 1, .int .i64 3, .int .i64 0, .int .i64 7, .string ⟨#[]⟩] 57) (.cells #[.slice (some ⟨w2.heap.size + 1 + 1 + 1, 0, none⟩) 1 1] 37) (.cells (evl w.heap.size).toArray 50) [.slice (some ⟨w2.heap.size + 1 + 1, 0, none⟩) 3 3] 60 0 _ rfl)
    clear hvv hev
    go_wp2_with fail
    refine (HEV.out _ _ _ HCK.out HES.out).mono ?_
    rintro e w5 ⟨rfl, hb⟩
    have hA := bthen HWX.out hb
    have HX5 := hide ((Box5.new w2 ⟨1, 3, 0, 7, ⟨#[]⟩⟩ 57).keep hA)
    have HX3 := hide (HR1.out.keep (bthen (below_laid _) hA))
    replace HW := hide (bthen HW.out (bthen (below_laid _) hA))
    obtain ⟨⟨a0, a1, a2, a3, a4⟩, -⟩ := HX5.out
    obtain ⟨⟨q0, q1, q2⟩, -⟩ := HX3.out
    simp only [num] at q0 q1 q2
    simp only at a0 a1 a2 a3 a4
    have l1 := World.block_lt_of_cell? w5 _ a0
    have l2 := World.block_lt_of_cell? w5 _ q0
    simp only at l1 l2
    clear hb hA
    go_wp2
    go_ret
    exact Ret.bool rfl (bthen HW.out (below_laid _))
end Go.Proofs.Ytkcbjnhphekadaa
