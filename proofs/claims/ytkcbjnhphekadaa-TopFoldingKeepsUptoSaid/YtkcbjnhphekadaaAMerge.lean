/- Merge, of the program and of the reference. -/
import Derived.Test.YtkcbjnhphekadaaAMerged
namespace Go.Proofs.Ytkcbjnhphekadaa
open Go.RowKit
set_option linter.unusedVariables false
set_option linter.unusedSimpArgs false

/-- An accumulator: its kind, its count, and the three parts of its value. -/
structure A5 where
  k : Int
  c : Int
  q : Int
  n : Int
  s : ByteArray
@[reducible] def A5.v (a : A5) : Value := .agg #[.int .i64 a.k, .int .i64 a.c, .int .i64 a.q, .int .i64 a.n, .string a.s]
def A5.e (a : A5) : Int := accE a.k a.c a.q a.n a.s.size
def A5.z : A5 := ⟨0, 0, 0, 0, ⟨#[]⟩⟩
def mrg (a b : A5) : A5 := ⟨mrgK a.c a.k b.k, a.c + b.c, mrgQ a.k a.c b.c a.q b.q, mrgN a.k a.c b.c a.n b.n, mrgS a.k a.c b.c a.s b.s⟩
def mgE (a b : A5) : Int := if a.e ≠ 0 then a.e else if b.e ≠ 0 then b.e else if a.k ≠ b.k then 22 else if 4096 < a.c + b.c then 5 else 0
def mg (a b : A5) : A5 := if mgE a b = 0 then mrg a b else A5.z

theorem acc_ok {k c q n : Int} {len : Nat} (h : accE k c q n len = 0) : knownB k = true ∧ 0 ≤ c ∧ c ≤ 4096 ∧ -4503599627370496 ≤ n ∧ n ≤ 4503599627370496 := by
  unfold accE at h
  cases hk : knownB k
  · rw [if_pos hk] at h; cases h
  · rw [if_neg (by simp [hk])] at h
    split at h
    · cases h
    · refine ⟨rfl, by omega, by omega, ?_⟩
      split at h
      · split at h
        · omega
        · cases h
      · split at h
        · split at h
          · rename_i h1 h2 h3 h4
            have : c * 1099511627776 ≤ 4096 * 1099511627776 := by omega
            omega
          · cases h
        · split at h
          · rename_i h1 h2 h3 h4
            have h5 := h4.1
            unfold checkC sizeC at h5
            (repeat' split at h5) <;> first | omega | skip
          · cases h

theorem keepf {W w' : World} (hB : Below W.heap.size W w') {p : Addr} (hp : p.block < W.heap.size) (h : W.frozen? p = false) : w'.frozen? p = false := (hB.frozen hp).trans h

theorem below_set5 {B R : Nat} {a w : World} (h : Below B a w) (hp : B ≤ R) (v0 v1 v2 v3 v4 : Value) : Below B a (((((w.setCell ⟨R, 0, none⟩ v0).setCell ⟨R, 1, none⟩ v1).setCell ⟨R, 2, none⟩ v2).setCell ⟨R, 3, none⟩ v3).setCell ⟨R, 4, none⟩ v4) :=
  ((((h.setCell (p := ⟨R, 0, none⟩) hp _).setCell (p := ⟨R, 1, none⟩) hp _).setCell (p := ⟨R, 2, none⟩) hp _).setCell (p := ⟨R, 3, none⟩) hp _).setCell (p := ⟨R, 4, none⟩) hp _
theorem mg_bad {a b : A5} {x : Int} (h : mgE a b = x) (hx : ¬ x = 0) {w w' : World} (hb : Below w.heap.size w w') :
    Ret (.tuple #[A5.v (mg a b), .int .i64 (mgE a b)]) w (.returned (.tuple #[.agg #[.int .i64 0, .int .i64 0, .int .i64 0, .int .i64 0, .string ⟨#[]⟩], .int .i64 x])) w' := by
  subst h
  refine ⟨?_, hb⟩
  rw [show mg a b = A5.z from if_neg hx]
  rfl
/-- Three blocks are laid, then a call. -/
theorem bel3 {w w1 : World} {o0 o1 o2 : Obj} (h : Below (((w.alloc o0).alloc o1).alloc o2).heap.size (((w.alloc o0).alloc o1).alloc o2) w1) : Below w.heap.size w w1 := bthen (bthen (bthen (below_laid _) (below_laid _)) (below_laid _)) h
theorem bel4 {w w1 : World} {o0 o1 o2 o3 : Obj} (h : Below ((((w.alloc o0).alloc o1).alloc o2).alloc o3).heap.size ((((w.alloc o0).alloc o1).alloc o2).alloc o3) w1) : Below w.heap.size w w1 := bthen (bthen (bthen (bthen (below_laid _) (below_laid _)) (below_laid _)) (below_laid _)) h
theorem bel5 {w w1 : World} {o0 o1 o2 o3 o4 : Obj} (h : Below (((((w.alloc o0).alloc o1).alloc o2).alloc o3).alloc o4).heap.size (((((w.alloc o0).alloc o1).alloc o2).alloc o3).alloc o4) w1) : Below w.heap.size w w1 := bthen (bthen (bthen (bthen (bthen (below_laid _) (below_laid _)) (below_laid _)) (below_laid _)) (below_laid _)) h
theorem bel1 {w w1 : World} {o0 : Obj} (h : Below (w.alloc o0).heap.size (w.alloc o0) w1) : Below w.heap.size w w1 := bthen (below_laid _) h

section
variable (k c q n l d p m : Int) (s t : ByteArray) (w : World)
theorem mg_good {a b r : A5} (h : mgE a b = 0) (hr : mrg a b = r) {w w' : World} (hb : Below w.heap.size w w') :
    Ret (.tuple #[A5.v (mg a b), .int .i64 (mgE a b)]) w (.returned (.tuple #[A5.v r, .int .i64 0])) w' := by
  refine ⟨?_, hb⟩
  rw [show mg a b = mrg a b from if_pos h, h, hr]

end
end Go.Proofs.Ytkcbjnhphekadaa
