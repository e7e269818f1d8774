/- EncodeEngine of the program. EncodeEngine of the reference. -/
import Derived.Test.YtofdcgojgcnopaaWWa
import Derived.Test.YtofdcgojgcnopaaCSeal2
import Derived.Test.YtofdcgojgcnopaaCEnc
import Derived.Test.YtofdcgojgcnopaaRStA
import Derived.Test.YtofdcgojgcnopaaREnc
namespace Go.Proofs.Ytofdcgojgcnopaa
open Go.RowKit Go.Lib
set_option linter.unusedVariables false
set_option linter.unusedSimpArgs false
section
variable (w : World)
set_option maxRecDepth 100000 in
set_option maxHeartbeats 4000000 in
theorem enclEn_any (x : Eng) (xs : List Value) (B F : Nat) (hx : REnW w (· < F) xs x) (hl : wtEn x ≤ 800000000) (hB : ∀ c u, xs[c]? = some u → w.cell? ⟨B, c, none⟩ = some u) (h : Wr w F [] 0) :
    Calls Try.prog 54 #[.pointer (some ⟨F, 0, none⟩), .pointer (some ⟨B, 0, none⟩)] w (Wrs F (eEng x) (wtEn x) [] 0 w) := by
  have HC := hide (wen_any F [] 0 w x xs hx h (by rw [List.length_nil]; omega))
  obtain ⟨u, v, t, rfl, hla, hlb, hlc, g1⟩ := hx
  obtain ⟨A1, c1, rfl⟩ := hla.form
  obtain ⟨A2, c2, rfl⟩ := hlb.form
  obtain ⟨A3, c3, rfl⟩ := hlc.form
  clear hla hlb hlc
  have b0 := hB 0 _ rfl
  have b1 := hB 1 _ rfl
  have b2 := hB 2 _ rfl
  have b3 := hB 3 _ rfl
  clear hB h
  go_enter Try.func54, Try.ntmps54
  go_wp2_with fail
  refine HC.out.mono ?_
  rintro en w1 ⟨rfl, hx⟩
  have HX := hide hx
  clear hx b0 b1 b2 b3
  go_wp2
  go_end0
  exact ⟨rfl, HX.out⟩
set_option maxRecDepth 100000 in
set_option maxHeartbeats 4000000 in
theorem encEn_any (x : Eng) (xs : List Value) (hx : REnW w (· < w.heap.size) xs x) (hl : wtEn x ≤ 800000000) :
    Calls Try.prog 23 #[.agg xs.toArray] w (Ret (.tuple #[.string (strE (sealE (eEng x))), .int .i64 (numE (sealE (eEng x)))]) w) := by
  have HS := hide (sealedE_any (w.alloc (.cells xs.toArray 48)) (.pointer (some ⟨w.heap.size, 0, none⟩)) (eEng x) (wtEn x) (by omega)
    (fun w1 hb hw => enclEn_any w1 x xs w.heap.size _ (rd_EnW.more (fun b hb => by simp; omega) (rd_EnW.keep (Kp.of_below (bthen (below_laid _) hb)) hx)) hl (fun c u hu => keep1 hb (cells_lit w xs _ c u hu)) hw))
  obtain ⟨u, v, t, rfl, hla, hlb, hlc, g1⟩ := hx
  obtain ⟨A1, c1, rfl⟩ := hla.form
  obtain ⟨A2, c2, rfl⟩ := hlb.form
  obtain ⟨A3, c3, rfl⟩ := hlc.form
  clear hla hlb hlc
  clear hl
  go_enter Try.func23, Try.ntmps23
  go_wp2_with fail
  refine HS.out.mono ?_
  rintro en w1 ⟨rfl, hb⟩
  go_wp2
  go_ret2
  exact Ret.mk rfl (bel1' hb)
end
end Go.Proofs.Ytofdcgojgcnopaa

namespace Go.Proofs.Ytofdcgojgcnopaa
open Go.RowKit Go.Lib
set_option linter.unusedVariables false
set_option linter.unusedSimpArgs false
section
variable (w : World)
set_option maxRecDepth 100000 in
set_option maxHeartbeats 4000000 in
theorem rencEn_any (x : Eng) (xs : List Value) (hx : REnW w (· < w.heap.size) xs x) (hl : wtEn x ≤ 800000000) :
    Calls Try.prog 24 #[.agg xs.toArray] w (Ret (.tuple #[.string (strE (sealE (eEng x))), .int .i64 (numE (sealE (eEng x)))]) w) := by
  have hfr := Rw.fresh (w.alloc (.cells xs.toArray 48))
  rw [World.size_alloc] at hfr
  have hx2 : REnW ((w.alloc (.cells xs.toArray 48)).alloc (.cells #[.string ⟨#[]⟩, .int .i64 0] 90)) (· < w.heap.size + 1) xs x := rd_EnW.more (fun b hb => by omega) (rd_EnW.keep ((Kp.alloc _).trans (Kp.alloc _)) hx)
  have HC := hide (ren_any (w.heap.size + 1) [] 0 _ x xs hx2 hfr (by rw [List.length_nil]; omega))
  have HSL := hide (fun w2 o e hd h => rseal_any w2 (w.heap.size + 1) (eEng x) (wtEn x) o e (by omega) hd h)
  have HB := hide ((below_laid (w := w) (.cells xs.toArray 48)).alloc (by simp) (.cells #[.string ⟨#[]⟩, .int .i64 0] 90))
  have hcl := fun c u hu => keep1 (below_laid (.cells #[.string ⟨#[]⟩, .int .i64 0] 90)) (cells_lit w xs 48 c u hu)
  obtain ⟨u, v, t, rfl, hla, hlb, hlc, g1⟩ := hx
  obtain ⟨A1, c1, rfl⟩ := hla.form
  obtain ⟨A2, c2, rfl⟩ := hlb.form
  obtain ⟨A3, c3, rfl⟩ := hlc.form
  clear hla hlb hlc
  have b0 := hcl 0 _ rfl
  have b1 := hcl 1 _ rfl
  have b2 := hcl 2 _ rfl
  have b3 := hcl 3 _ rfl
  clear hcl hx2 hfr hl
  go_enter Try.func24, Try.ntmps24
  go_wp2_with fail
  refine HC.out.mono ?_
  rintro en w2 ⟨rfl, o, e, hd, hr, ht⟩
  have HS := hide (HSL.out w2 o e hd hr)
  replace HB := hide (HB.out.trans (ht.low.mono (Nat.le_succ _)))
  clear hd hr ht b0 b1 b2 b3
  go_wp2_with fail
  refine HS.out.mono ?_
  rintro en w3 ⟨rfl, hb⟩
  replace HB := hide (bthen HB.out hb)
  clear hb
  go_wp2
  go_ret2
  exact Ret.mk rfl HB.out
end
end Go.Proofs.Ytofdcgojgcnopaa
