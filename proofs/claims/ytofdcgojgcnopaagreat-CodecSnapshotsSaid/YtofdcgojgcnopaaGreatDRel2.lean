/- What engines and snapshots look like in memory. -/
import Derived.Test.YtofdcgojgcnopaaGreatDRel
namespace Go.Proofs.YtofdcgojgcnopaaGreat
open Go.RowKit
set_option linter.unusedVariables false
set_option linter.unusedSimpArgs false
def RBn (_ : World) (_ : Nat → Prop) (xs : List Value) (x : Bnd) : Prop := xs = [.int .i64 x.v, .int .i64 x.t, .int .i64 x.s, .int .i64 x.q] ∧ gBnd x
def RSr (_ : World) (_ : Nat → Prop) (xs : List Value) (x : Srt) : Prop := xs = [.int .i64 x.s, .int .i64 x.t] ∧ gSrt x
def RPn (_ : World) (_ : Nat → Prop) (xs : List Value) (x : Pnt) : Prop := xs = [.int .i64 x.s, .int .i64 x.t] ∧ gPnt x
theorem rd_Bn : Rd RBn := ⟨fun _ h => h, fun _ h => h⟩
theorem rd_Sr : Rd RSr := ⟨fun _ h => h, fun _ h => h⟩
theorem rd_Pn : Rd RPn := ⟨fun _ h => h, fun _ h => h⟩
theorem rl_Bn : Rl RBn := fun h => h
theorem rl_Sr : Rl RSr := fun h => h
theorem rl_Pn : Rl RPn := fun h => h
def RCf (w : World) (Z : Nat → Prop) (xs : List Value) (x : Cfg) : Prop := ∃ u v, xs = [.int .i64 x.st, u, v] ∧ Lst w Z 4 RBn u x.bs ∧ Lst w Z 2 RSr v x.ss ∧ inI x.st
theorem rd_Cf : Rd RCf := ⟨fun hk ⟨u, v, e, h1, h2, hg⟩ => ⟨u, v, e, h1.keep rd_Bn hk, h2.keep rd_Sr hk, hg⟩, fun hs ⟨u, v, e, h1, h2, hg⟩ => ⟨u, v, e, h1.more rd_Bn hs, h2.more rd_Sr hs, hg⟩⟩
theorem rl_Cf : Rl RCf := fun ⟨u, v, e, h1, h2, hg⟩ => ⟨u, v, e, lst_low rl_Bn (by decide) h1, lst_low rl_Sr (by decide) h2, hg⟩
def REn (w : World) (Z : Nat → Prop) (xs : List Value) (x : Eng) : Prop := ∃ u v t, xs = [.int .i64 x.mark, u, v, t] ∧ Lst w Z 5 REv0 u x.wait ∧ Lst w Z 3 RCf v x.runs ∧ Lst w Z 5 REv0 t x.held ∧ inI x.mark
theorem rd_En : Rd REn := ⟨fun hk ⟨u, v, t, e, h1, h2, h3, hg⟩ => ⟨u, v, t, e, h1.keep rd_Ev0 hk, h2.keep rd_Cf hk, h3.keep rd_Ev0 hk, hg⟩, fun hs ⟨u, v, t, e, h1, h2, h3, hg⟩ => ⟨u, v, t, e, h1.more rd_Ev0 hs, h2.more rd_Cf hs, h3.more rd_Ev0 hs, hg⟩⟩
theorem rl_En : Rl REn := fun ⟨u, v, t, e, h1, h2, h3, hg⟩ => ⟨u, v, t, e, lst_low rl_Ev0 (by decide) h1, lst_low rl_Cf (by decide) h2, lst_low rl_Ev0 (by decide) h3, hg⟩
def RRd (w : World) (Z : Nat → Prop) (xs : List Value) (x : Rdr) : Prop := ∃ u v, xs = [.int .i64 x.src, .int .i64 x.off, .int .i64 x.next, u, v, .int .i64 x.mark] ∧ Lst w Z 1 RIn u x.beyond ∧ Lst w Z 2 RPn v x.points ∧ inI x.src ∧ inI x.off ∧ inI x.next ∧ inI x.mark
theorem rd_Rd : Rd RRd := ⟨fun hk ⟨u, v, e, h1, h2, hg⟩ => ⟨u, v, e, h1.keep rd_In hk, h2.keep rd_Pn hk, hg⟩, fun hs ⟨u, v, e, h1, h2, hg⟩ => ⟨u, v, e, h1.more rd_In hs, h2.more rd_Pn hs, hg⟩⟩
theorem rl_Rd : Rl RRd := fun ⟨u, v, e, h1, h2, hg⟩ => ⟨u, v, e, lst_low rl_In (by decide) h1, lst_low rl_Pn (by decide) h2, hg⟩
def RKy (w : World) (Z : Nat → Prop) (xs : List Value) (x : Kyd) : Prop := ∃ u v t, xs = [.int .i64 x.query, .int .i64 x.key.q, .int .i64 x.key.n, .string x.key.s, .int .i64 x.eng.mark, u, v, t] ∧ Lst w Z 5 REv0 u x.eng.wait ∧ Lst w Z 3 RCf v x.eng.runs ∧ Lst w Z 5 REv0 t x.eng.held ∧ inI x.query ∧ gV x.key ∧ x.key.s.size ≤ maxLen ∧ inI x.eng.mark
theorem rd_Ky : Rd RKy := ⟨fun hk ⟨u, v, t, e, h1, h2, h3, hg⟩ => ⟨u, v, t, e, h1.keep rd_Ev0 hk, h2.keep rd_Cf hk, h3.keep rd_Ev0 hk, hg⟩, fun hs ⟨u, v, t, e, h1, h2, h3, hg⟩ => ⟨u, v, t, e, h1.more rd_Ev0 hs, h2.more rd_Cf hs, h3.more rd_Ev0 hs, hg⟩⟩
theorem rl_Ky : Rl RKy := fun ⟨u, v, t, e, h1, h2, h3, hg⟩ => ⟨u, v, t, e, lst_low rl_Ev0 (by decide) h1, lst_low rl_Cf (by decide) h2, lst_low rl_Ev0 (by decide) h3, hg⟩
def ROp (w : World) (Z : Nat → Prop) (xs : List Value) (x : Opr) : Prop := ∃ u v, xs = [u, v] ∧ Lst w Z 1 RIn u x.marks ∧ Lst w Z 8 RKy v x.engs
theorem rd_Op : Rd ROp := ⟨fun hk ⟨u, v, e, h1, h2⟩ => ⟨u, v, e, h1.keep rd_In hk, h2.keep rd_Ky hk⟩, fun hs ⟨u, v, e, h1, h2⟩ => ⟨u, v, e, h1.more rd_In hs, h2.more rd_Ky hs⟩⟩
theorem rl_Op : Rl ROp := fun ⟨u, v, e, h1, h2⟩ => ⟨u, v, e, lst_low rl_In (by decide) h1, lst_low rl_Ky (by decide) h2⟩
def RSn (w : World) (Z : Nat → Prop) (xs : List Value) (x : Snp) : Prop := ∃ u v, xs = [.int .i64 x.number, u, v] ∧ Lst w Z 6 RRd u x.rs ∧ Lst w Z 2 ROp v x.os ∧ inI x.number
theorem rd_Sn : Rd RSn := ⟨fun hk ⟨u, v, e, h1, h2, hg⟩ => ⟨u, v, e, h1.keep rd_Rd hk, h2.keep rd_Op hk, hg⟩, fun hs ⟨u, v, e, h1, h2, hg⟩ => ⟨u, v, e, h1.more rd_Rd hs, h2.more rd_Op hs, hg⟩⟩
theorem rl_Sn : Rl RSn := fun ⟨u, v, e, h1, h2, hg⟩ => ⟨u, v, e, lst_low rl_Rd (by decide) h1, lst_low rl_Op (by decide) h2, hg⟩
/-- A struct, of whose cells R speaks. -/
def ROs {α : Type} (R : World → (Nat → Prop) → List Value → α → Prop) (Z : Nat → Prop) (w : World) (v : Value) (x : α) : Prop := ∃ xs, v = .agg xs.toArray ∧ R w Z xs x
theorem ros_keep {α : Type} {R : World → (Nat → Prop) → List Value → α → Prop} (hR : Rd R) {B : Nat} {w w' : World} {xs : List Value} {x : α} (h : R w (fun b => B < b) xs x) (hk : Kp (fun b => B < b) w w') : ROs R (B ≤ ·) w' (.agg xs.toArray) x :=
  ⟨xs, rfl, hR.more (fun _ h => Nat.le_of_lt h) (hR.keep hk h)⟩
theorem kp_box {B : Nat} {w : World} (i : Nat) (u : Value) : Kp (fun b => B < b) w (w.setCell ⟨B, i, none⟩ u) := Kp.set ⟨B, i, none⟩ u fun b hb => by show b ≠ B; omega
theorem info_binding : (Tryz.prog.info? 156).map (fun i => (i.zero, i.size, i.bytes)) = some (some (.agg #[.int .i64 0, .int .i64 0, .int .i64 0, .int .i64 0]), 4, 32) := by kernel_rfl
theorem info_start : (Tryz.prog.info? 158).map (fun i => (i.zero, i.size, i.bytes)) = some (some (.agg #[.int .i64 0, .int .i64 0]), 2, 16) := by kernel_rfl
theorem info_config : (Tryz.prog.info? 83).map (fun i => (i.zero, i.size, i.bytes)) = some (some (.agg #[.int .i64 0, .slice none 0 0, .slice none 0 0]), 3, 56) := by kernel_rfl
theorem info_point : (Tryz.prog.info? 124).map (fun i => (i.zero, i.size, i.bytes)) = some (some (.agg #[.int .i64 0, .int .i64 0]), 2, 16) := by kernel_rfl
theorem info_reader : (Tryz.prog.info? 44).map (fun i => (i.zero, i.size, i.bytes)) = some (some (.agg #[.int .i64 0, .int .i64 0, .int .i64 0, .slice none 0 0, .slice none 0 0, .int .i64 0]), 6, 80) := by kernel_rfl
theorem info_keyed : (Tryz.prog.info? 55).map (fun i => (i.zero, i.size, i.bytes)) = some (some (.agg #[.int .i64 0, .int .i64 0, .int .i64 0, .string ⟨#[]⟩, .int .i64 0, .slice none 0 0, .slice none 0 0, .slice none 0 0]), 8, 120) := by kernel_rfl
theorem info_operator : (Tryz.prog.info? 47).map (fun i => (i.zero, i.size, i.bytes)) = some (some (.agg #[.slice none 0 0, .slice none 0 0]), 2, 48) := by kernel_rfl
end Go.Proofs.YtofdcgojgcnopaaGreat
