/- EncodeValue and EncodeEvents. -/
import Derived.Test.YtofdcgojgcnopaaGreatCSeal1
namespace Go.Proofs.YtofdcgojgcnopaaGreat
open Go.RowKit Go.Lib
set_option linter.unusedVariables false
set_option linter.unusedSimpArgs false
theorem bel1' {w w1 : World} {o0 : Obj} (h : Below (w.alloc o0).heap.size (w.alloc o0) w1) : Below w.heap.size w w1 := bthen (below_laid _) h
section
variable (w : World)
set_option maxRecDepth 100000 in
set_option maxHeartbeats 4000000 in
theorem enclV_any (x : V3) (B F : Nat) (hg : gV x) (hs : x.s.size ≤ 1000000) (hB : ∀ c u, ([.int .i64 x.q, .int .i64 x.n, .string x.s] : List Value)[c]? = some u → w.cell? ⟨B, c, none⟩ = some u) (h : Wr w F [] 0) :
    Calls Tryz.prog 32 #[.pointer (some ⟨F, 0, none⟩), .pointer (some ⟨B, 0, none⟩)] w (Wrs F (eV x) (wtV x) [] 0 w) := by
  have c0 := hB 0 _ rfl
  have c1 := hB 1 _ rfl
  have c2 := hB 2 _ rfl
  have HC := hide (wvalue_any F [] 0 w x hg hs h (by rw [List.length_nil]; omega))
  clear hB h
  go_enter Tryz.func32, Tryz.ntmps32
  go_wp2_with fail
  refine HC.out.mono ?_
  rintro en w1 ⟨rfl, hx⟩
  have HX := hide hx
  clear hx c0 c1 c2
  go_wp2
  go_end0
  exact ⟨rfl, HX.out⟩
set_option maxRecDepth 100000 in
set_option maxHeartbeats 4000000 in
theorem encV_any (x : V3) (hg : gV x) (hs : x.s.size ≤ 1000000) :
    Calls Tryz.prog 13 #[.agg #[.int .i64 x.q, .int .i64 x.n, .string x.s]] w (Ret (.tuple #[.string (strE (sealE (eV x))), .int .i64 (numE (sealE (eV x)))]) w) := by
  have HS := hide (sealedV_any (w.alloc (.cells #[.int .i64 x.q, .int .i64 x.n, .string x.s] 49)) (.pointer (some ⟨w.heap.size, 0, none⟩)) (eV x) (wtV x) (by unfold wtV; omega)
    (fun w1 hb hw => enclV_any w1 x w.heap.size _ hg hs (fun c u hu => keep1 hb (cells_lit w [.int .i64 x.q, .int .i64 x.n, .string x.s] _ c u hu)) hw))
  clear hg hs
  go_enter Tryz.func13, Tryz.ntmps13
  go_wp2_with fail
  refine HS.out.mono ?_
  rintro en w1 ⟨rfl, hb⟩
  go_wp2
  go_ret2
  exact Ret.mk rfl (bel1' hb)
set_option maxRecDepth 100000 in
set_option maxHeartbeats 4000000 in
theorem enclL_any (v : Value) (l : List Evt) (B F : Nat) (hl : wtS wtEv l ≤ 800000000) (hB : w.cell? ⟨B, 0, none⟩ = some v) (hv : Lst w (· < F) 5 REv v l) (h : Wr w F [] 0) :
    Calls Tryz.prog 29 #[.pointer (some ⟨F, 0, none⟩), .pointer (some ⟨B, 0, none⟩)] w (Wrs F (eL eEv l) (10 + wtS wtEv l) [] 0 w) := by
  have HC := hide (putEv_any F [] 0 w v l h hv (by rw [List.length_nil]; omega))
  clear hv h
  go_enter Tryz.func29, Tryz.ntmps29
  go_wp2_with fail
  refine HC.out.mono ?_
  rintro en w1 ⟨rfl, hx⟩
  have HX := hide hx
  clear hx hB
  go_wp2
  go_end0
  exact ⟨rfl, HX.out⟩
set_option maxRecDepth 100000 in
set_option maxHeartbeats 4000000 in
theorem encL_any (v : Value) (l : List Evt) (hl : wtS wtEv l ≤ 800000000) (hv : Lst w (· < w.heap.size) 5 REv v l) :
    Calls Tryz.prog 12 #[v] w (Ret (.tuple #[.string (strE (sealE (eL eEv l))), .int .i64 (numE (sealE (eL eEv l)))]) w) := by
  obtain ⟨A, cap, rfl⟩ := hv.form
  have HS := hide (sealedL_any (w.alloc (.cells #[.slice A l.length cap] 50)) (.pointer (some ⟨w.heap.size, 0, none⟩)) (eL eEv l) (10 + wtS wtEv l) (by omega)
    (fun w1 hb hw => enclL_any w1 _ l w.heap.size _ hl (keep1 hb (cells_lit w [.slice A l.length cap] _ 0 _ rfl)) ((hv.keep rd_Ev (Kp.of_below (bthen (below_laid _) hb))).more rd_Ev (fun b hb => by simp; omega)) hw))
  clear hl hv
  go_enter Tryz.func12, Tryz.ntmps12
  go_wp2_with fail
  refine HS.out.mono ?_
  rintro en w1 ⟨rfl, hb⟩
  go_wp2
  go_ret2
  exact Ret.mk rfl (bel1' hb)
end
end Go.Proofs.YtofdcgojgcnopaaGreat
