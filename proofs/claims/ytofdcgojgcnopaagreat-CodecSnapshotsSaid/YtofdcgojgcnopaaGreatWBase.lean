/- The encodings of structs of integers, as bytes. -/
import Derived.Test.YtofdcgojgcnopaaGreatCEv
import Derived.Test.YtofdcgojgcnopaaGreatDRel2
namespace Go.Proofs.YtofdcgojgcnopaaGreat
open Go.RowKit
set_option linter.unusedVariables false
set_option linter.unusedSimpArgs false
def wtBn (_ : Bnd) : Nat := 40
def wtSr (_ : Srt) : Nat := 20
def wtPn (_ : Pnt) : Nat := 20
theorem eBnd_raw (x : Bnd) : eBnd x = .ok ([x.v, x.t, x.s, x.q].flatMap num) := by simp only [eBnd, eN, andE, List.flatMap_cons, List.flatMap_nil, List.append_nil]
theorem eSrt_raw (x : Srt) : eSrt x = .ok ([x.s, x.t].flatMap num) := by simp only [eSrt, eN, andE, List.flatMap_cons, List.flatMap_nil, List.append_nil]
theorem ePnt_raw (x : Pnt) : ePnt x = .ok ([x.s, x.t].flatMap num) := by simp only [ePnt, eN, andE, List.flatMap_cons, List.flatMap_nil, List.append_nil]
def wtCf (x : Cfg) : Nat := 10 + ((10 + wtS wtBn x.bs) + (10 + wtS wtSr x.ss))
def wtEn (x : Eng) : Nat := 10 + ((10 + wtS wtEv x.wait) + ((10 + wtS wtCf x.runs) + (10 + wtS wtEv x.held)))
def REnW (w : World) (Z : Nat → Prop) (xs : List Value) (x : Eng) : Prop := ∃ u v t, xs = [.int .i64 x.mark, u, v, t] ∧ Lst w Z 5 REv u x.wait ∧ Lst w Z 3 RCf v x.runs ∧ Lst w Z 5 REv t x.held ∧ inI x.mark
theorem rd_EnW : Rd REnW := ⟨fun hk ⟨u, v, t, e, h1, h2, h3, hg⟩ => ⟨u, v, t, e, h1.keep rd_Ev hk, h2.keep rd_Cf hk, h3.keep rd_Ev hk, hg⟩, fun hs ⟨u, v, t, e, h1, h2, h3, hg⟩ => ⟨u, v, t, e, h1.more rd_Ev hs, h2.more rd_Cf hs, h3.more rd_Ev hs, hg⟩⟩
end Go.Proofs.YtofdcgojgcnopaaGreat
