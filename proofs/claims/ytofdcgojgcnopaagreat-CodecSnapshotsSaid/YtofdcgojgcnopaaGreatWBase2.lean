/- Snapshots: what their writers want, how much they write. -/
import Derived.Test.YtofdcgojgcnopaaGreatWBase
namespace Go.Proofs.YtofdcgojgcnopaaGreat
open Go.RowKit
set_option linter.unusedVariables false
set_option linter.unusedSimpArgs false
def wtI (_ : Int) : Nat := 10
abbrev RInX := RIn
theorem rd_InX : Rd RInX := rd_In
def wtRd (x : Rdr) : Nat := 30 + ((10 + wtS wtI x.beyond) + ((10 + wtS wtPn x.points) + 10))
def wtKy (x : Kyd) : Nat := 10 + ((x.key.s.size + 30) + wtEn x.eng)
def wtOp (x : Opr) : Nat := (10 + wtS wtI x.marks) + (10 + wtS wtKy x.engs)
def wtSn (x : Snp) : Nat := 10 + ((10 + wtS wtRd x.rs) + (10 + wtS wtOp x.os))
theorem eRdr_raw (x : Rdr) : eRdr x = andE (.ok ([x.src, x.off, x.next].flatMap num)) (andE (eL eN x.beyond) (andE (eL ePnt x.points) (eN x.mark))) := by
  simp only [List.flatMap_cons, List.flatMap_nil, andE_raw, andE_empty]; rfl
def RKyW (w : World) (Z : Nat → Prop) (xs : List Value) (x : Kyd) : Prop := ∃ u v t, xs = [.int .i64 x.query, .int .i64 x.key.q, .int .i64 x.key.n, .string x.key.s, .int .i64 x.eng.mark, u, v, t] ∧ Lst w Z 5 REv u x.eng.wait ∧ Lst w Z 3 RCf v x.eng.runs ∧ Lst w Z 5 REv t x.eng.held ∧ inI x.query ∧ gV x.key ∧ x.key.s.size ≤ 1000000 ∧ inI x.eng.mark
theorem rd_KyW : Rd RKyW := ⟨fun hk ⟨u, v, t, e, h1, h2, h3, hg⟩ => ⟨u, v, t, e, h1.keep rd_Ev hk, h2.keep rd_Cf hk, h3.keep rd_Ev hk, hg⟩, fun hs ⟨u, v, t, e, h1, h2, h3, hg⟩ => ⟨u, v, t, e, h1.more rd_Ev hs, h2.more rd_Cf hs, h3.more rd_Ev hs, hg⟩⟩
def ROpW (w : World) (Z : Nat → Prop) (xs : List Value) (x : Opr) : Prop := ∃ u v, xs = [u, v] ∧ Lst w Z 1 RIn u x.marks ∧ Lst w Z 8 RKyW v x.engs
theorem rd_OpW : Rd ROpW := ⟨fun hk ⟨u, v, e, h1, h2⟩ => ⟨u, v, e, h1.keep rd_In hk, h2.keep rd_KyW hk⟩, fun hs ⟨u, v, e, h1, h2⟩ => ⟨u, v, e, h1.more rd_In hs, h2.more rd_KyW hs⟩⟩
def RSnW (w : World) (Z : Nat → Prop) (xs : List Value) (x : Snp) : Prop := ∃ u v, xs = [.int .i64 x.number, u, v] ∧ Lst w Z 6 RRd u x.rs ∧ Lst w Z 2 ROpW v x.os ∧ inI x.number
theorem rd_SnW : Rd RSnW := ⟨fun hk ⟨u, v, e, h1, h2, hg⟩ => ⟨u, v, e, h1.keep rd_Rd hk, h2.keep rd_OpW hk, hg⟩, fun hs ⟨u, v, e, h1, h2, hg⟩ => ⟨u, v, e, h1.more rd_Rd hs, h2.more rd_OpW hs, hg⟩⟩
section
variable (F : Nat) (o : Bs) (e : Int) (w : World)
theorem wi_any (x : Int) (xs : List Value) (hx : RIn w (· < F) xs x) (h : Wr w F o e) (ho : o.length + wtI x ≤ 1000000000) : Calls Tryz.prog 36 #[.pointer (some ⟨F, 0, none⟩), .int .i64 x] w (Wrs F (eN x) (wtI x) o e w) :=
  (wint_ex F o e w x hx.2 h (by omega)).mono fun _ _ ⟨h1, h2, h3⟩ => ⟨h1, _, _, Wd.num hx.2 o e, h2, h3⟩
end
end Go.Proofs.YtofdcgojgcnopaaGreat
