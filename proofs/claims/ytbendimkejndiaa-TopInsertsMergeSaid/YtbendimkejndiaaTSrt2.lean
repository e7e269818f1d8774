/- slices.SortFunc at events and at values. -/
import Derived.Test.YtbendimkejndiaaTSrt
namespace Go.Proofs.Ytbendimkejndiaa
open Go.Shelf Go.RowKit Go.Sort
set_option linter.unusedVariables false
set_option linter.unusedSimpArgs false
/-- A comparison: of three ways, whole. -/
structure Cmpr {α : Type} (c : α → α → Int) : Prop where
  refl : ∀ x, c x x = 0
  anti : ∀ x y, c y x = -(c x y)
  tr : ∀ x y z, 0 ≤ c x y → 0 ≤ c y z → 0 ≤ c x z ∧ (c x z = 0 → c x y = 0 ∧ c y z = 0)
theorem Cmpr.swo {α : Type} {c : α → α → Int} (h : Cmpr c) : SWO (ltOf c) where
  irrefl x := by simp [ltOf, h.refl]
  trans x y z h1 h2 := by
    simp only [ltOf, decide_eq_true_eq] at *
    have a1 := h.anti x y
    have a2 := h.anti y z
    have a3 := h.anti x z
    have := h.tr z y x (by omega) (by omega)
    omega
  ntrans x y z h1 h2 := by
    simp only [ltOf, decide_eq_false_iff_not] at *
    have := h.tr x y z (by omega) (by omega)
    omega
theorem or2_cmpr {α : Type} {c d : α → α → Int} (h : Cmpr c) (k : Cmpr d) : Cmpr fun x y => or2 (c x y) (d x y) where
  refl x := by simp [or2, h.refl, k.refl]
  anti x y := by
    have a := h.anti x y
    have b := k.anti x y
    simp only [or2]
    (repeat' split) <;> omega
  tr x y z h1 h2 := by
    have a := h.tr x y z
    have b := k.tr x y z
    simp only [or2] at *
    by_cases e1 : c x y = 0 <;> by_cases e2 : c y z = 0 <;> by_cases e3 : c x z = 0 <;> simp only [e1, e2, e3, ne_eq, not_true_eq_false, not_false_eq_true, if_true, if_false, true_and, false_and, and_true, and_false, imp_false, forall_const, Int.le_refl] at * <;> first | omega | exact b h1 h2 | exact ⟨by omega, fun h => h.elim⟩
theorem cmpI_cmpr {α : Type} (f : α → Int) : Cmpr fun x y => cmpI (f x) (f y) where
  refl x := by simp [cmpI]
  anti x y := by unfold cmpI; (repeat' split) <;> omega
  tr x y z := by unfold cmpI; (repeat' split) <;> omega
theorem cb_cons (x y : UInt8) (a b : List UInt8) : Lib.compareBytes (x :: a) (y :: b) = if x < y then -1 else if y < x then 1 else Lib.compareBytes a b := by
  rw [Lib.compareBytes]
theorem cb_nc (x : UInt8) (a : List UInt8) : Lib.compareBytes [] (x :: a) = -1 := rfl
theorem cb_cn (x : UInt8) (a : List UInt8) : Lib.compareBytes (x :: a) [] = 1 := rfl
theorem cb_refl : ∀ a : List UInt8, Lib.compareBytes a a = 0
  | [] => rfl
  | x :: a => by rw [cb_cons, if_neg (UInt8.lt_irrefl x), if_neg (UInt8.lt_irrefl x), cb_refl a]
theorem cb_anti : ∀ a b : List UInt8, Lib.compareBytes b a = -(Lib.compareBytes a b)
  | [], [] => rfl
  | [], _ :: _ => rfl
  | _ :: _, [] => rfl
  | x :: a, y :: b => by
    rw [cb_cons, cb_cons, cb_anti a b]
    simp only [UInt8.lt_iff_toNat_lt]
    (repeat' split) <;> omega
theorem cb_tr : ∀ a b c : List UInt8, 0 ≤ Lib.compareBytes a b → 0 ≤ Lib.compareBytes b c → 0 ≤ Lib.compareBytes a c ∧ (Lib.compareBytes a c = 0 → Lib.compareBytes a b = 0 ∧ Lib.compareBytes b c = 0)
  | [], [], c => fun _ h => ⟨h, fun e => ⟨rfl, e⟩⟩
  | [], y :: b, c => fun h => by rw [cb_nc] at h; omega
  | x :: a, [], [] => fun _ _ => by rw [cb_cn]; omega
  | x :: a, [], z :: c => fun _ h => by rw [cb_nc] at h; omega
  | x :: a, y :: b, [] => fun _ _ => by rw [cb_cn, cb_cn]; omega
  | x :: a, y :: b, z :: c => by
    have ih := cb_tr a b c
    rw [cb_cons, cb_cons, cb_cons]
    simp only [UInt8.lt_iff_toNat_lt]
    (repeat' split) <;> first | omega | exact ih | (intro h1 h2; exact ⟨by omega, fun e => by omega⟩)
theorem cmpS_cmpr : Cmpr cmpS := ⟨fun x => cb_refl _, fun x y => cb_anti _ _, fun x y z => cb_tr _ _ _⟩
theorem cmpV_cmpr : Cmpr cmpV := or2_cmpr (cmpI_cmpr V3.q) (or2_cmpr (cmpI_cmpr V3.n) ⟨fun x => cmpS_cmpr.refl x.s, fun x y => cmpS_cmpr.anti x.s y.s, fun x y z => cmpS_cmpr.tr x.s y.s z.s⟩)
theorem cmpE_cmpr : Cmpr cmpE := or2_cmpr (cmpI_cmpr Evt.d) (or2_cmpr (cmpI_cmpr Evt.a) (cmpI_cmpr Evt.b))
theorem Cmpr.fst {α β : Type} {c : α → α → Int} (h : Cmpr c) : Cmpr fun p q : α × β => c p.1 q.1 := ⟨fun x => h.refl x.1, fun x y => h.anti x.1 y.1, fun x y z => h.tr x.1 y.1 z.1⟩
instance : Inhabited Evt := ⟨⟨0, 0, 0, 0, []⟩⟩
instance : Inhabited V3 := ⟨V3.z⟩
def encE (p : Evt × (Option Addr × Nat)) : List Value := [.int .i64 p.1.a, .int .i64 p.1.b, .int .i64 p.1.c, .int .i64 p.1.d, .slice p.2.1 p.1.vs.length p.2.2]
def encV (p : V3 × Unit) : List Value := [.int .i64 p.1.q, .int .i64 p.1.n, .string p.1.s]
/-- What a sort leaves of a row that reads as l. -/
def RetSrt {α : Type} (c : α → α → Int) (R : World → (Nat → Prop) → List Value → α → Prop) (Y : Nat → Prop) (base : Nat) (te : TypeId) (k : Nat) (v : Value) (l : List α) (w : World) (e : Ending) (w' : World) : Prop :=
  e = .returned (.tuple #[]) ∧ ∃ o : List α, o.Perm l ∧ (o.Pairwise fun x y => ¬ c y x < 0) ∧ Gq w' Y base te k R v o ∧ w.grownBy w' v.ownBlock
theorem esort_any {w : World} {Y : Nat → Prop} {base : Nat} {te : TypeId} {v : Value} {l : List Evt} (hg : Gq w Y base te 5 REv0 v l) (hl : l.length < 4611686018427387904) :
    Calls Try.prog 43 #[v, .func (.func 29) #[] #[]] w (RetSrt cmpE REv0 Y base te 5 v l w) := by
  have eg : ∀ args w, (callFunc 29 args).run Try.prog w = .ok (.enter 29 args) w := enters_of Try.func29 (by kernel_rfl) rfl
  exact gq_sort (enc := encE) sortE Try.isAgg32 Try.sizeOf32 (fun _ => rfl) (fun x v hv => by simp [encE] at hv; rcases hv with rfl | rfl | rfl | rfl | rfl <;> rfl) rd_Ev0
    (fun {w Z ys x} h => by obtain ⟨u, rfl, hu, -⟩ := h; obtain ⟨A, c, rfl⟩ := hu.form; exact ⟨(A, c), rfl⟩) cmpE cmpE_cmpr.fst.swo 29 eg (fun W x y => ecmp_any _ _ _ _ _ _ _ _ _ _ _ _ _ _ W) hg hl
theorem vsort_any {w : World} {Y : Nat → Prop} {base : Nat} {te : TypeId} {v : Value} {l : List V3} (hg : Gq w Y base te 3 RV0 v l) (hl : l.length < 4611686018427387904) :
    Calls Try.prog 25 #[v, .func (.func 17) #[] #[]] w (RetSrt cmpV RV0 Y base te 3 v l w) := by
  have eg : ∀ args w, (callFunc 17 args).run Try.prog w = .ok (.enter 17 args) w := enters_of Try.func17 (by kernel_rfl) rfl
  exact gq_sort (enc := encV) sortV Try.isAgg38 Try.sizeOf38 (fun _ => rfl) (fun x v hv => by simp [encV] at hv; rcases hv with rfl | rfl | rfl <;> rfl) rd_V0
    (fun {w Z ys x} h => by obtain ⟨rfl, -⟩ := h; exact ⟨(), rfl⟩) cmpV cmpV_cmpr.fst.swo 17 eg (fun W x y => vcmp_any _ _ _ _ _ _ W) hg hl
end Go.Proofs.Ytbendimkejndiaa
