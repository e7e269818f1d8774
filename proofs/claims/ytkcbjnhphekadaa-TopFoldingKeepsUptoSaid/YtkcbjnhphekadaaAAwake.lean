/- The examples of the chapter. -/
import Derived.Test.YtkcbjnhphekadaaAROf
namespace Go.Proofs.Ytkcbjnhphekadaa
open Go.RowKit
set_option linter.unusedVariables false
set_option linter.unusedSimpArgs false
theorem of_any (k : Int) (L : List V3) (o : V3) (w : World) (v : Value) (hm : L.length ≤ 9223372036854775807) (ho : o.s.size ≤ maxLen) (hsz : L.length ≤ 4096 → ∀ x ∈ L, x.s.size ≤ maxLen) (hv : ∃ A cap, v = .slice A L.length cap) (hr : L.length ≤ 4096 → Row w w.heap.size 3 v L.length (flat L)) :
    Calls Try.prog 13 #[.int .i64 k, v, .agg #[.int .i64 o.q, .int .i64 o.n, .string o.s]] w (Ret (.tuple #[V3.v (ofV k L o), .int .i64 (ofE k L o)]) w) := by
  cases hk : knownB k
  · exact of_no k L o w v (.inl hk) hm hv
  · by_cases hl : L.length ≤ 4096
    · exact of_yes k L o w v hk hl ho (hsz hl) (hr hl)
    · exact of_no k L o w v (.inr (by omega)) hm hv
def num (n : Int) : V3 := ⟨0, n, ⟨#[]⟩⟩
theorem flat_app (L M : List V3) : flat (L ++ M) = flat L ++ flat M := by simp [flat]
theorem info_value : (Try.prog.info? 28).map (fun i => (i.zero, i.size, i.bytes)) = some (some (.agg #[.int .i64 0, .int .i64 0, .string ⟨#[]⟩]), 3, 32) := by kernel_rfl

def l3 : List V3 := [num 3, num (-1), num 5]
theorem w0 : ofE 0 l3 (num 9) = 0 ∧ ofV 0 l3 (num 9) = num 3 := ⟨by kernel_rfl, by kernel_rfl⟩
theorem w1 : ofE 1 l3 (num 9) = 0 ∧ ofV 1 l3 (num 9) = num 7 := ⟨by kernel_rfl, by kernel_rfl⟩
theorem w2 : ofE 2 l3 (num 9) = 0 ∧ ofV 2 l3 (num 9) = num (-1) := ⟨by kernel_rfl, by kernel_rfl⟩
theorem w3 : ofE 3 l3 (num 9) = 0 ∧ ofV 3 l3 (num 9) = num 5 := ⟨by kernel_rfl, by kernel_rfl⟩
theorem w4 : ofE 4 l3 (num 9) = 0 ∧ ofV 4 l3 (num 9) = num 3 := ⟨by kernel_rfl, by kernel_rfl⟩
theorem w5 : ofE 5 l3 (num 9) = 0 ∧ ofV 5 l3 (num 9) = num 5 := ⟨by kernel_rfl, by kernel_rfl⟩
theorem w6 : ofE 1 [] (num 9) = 0 ∧ ofV 1 [] (num 9) = num 0 := ⟨by kernel_rfl, by kernel_rfl⟩
theorem w7 : ofE 2 [] (num 9) = 0 ∧ ofV 2 [] (num 9) = num 9 := ⟨by kernel_rfl, by kernel_rfl⟩
def txt : V3 := ⟨2, 0, ⟨#[97]⟩⟩
theorem w8 : ofE 4 [txt] txt = 0 ∧ ofV 4 [txt] txt = txt := ⟨by kernel_rfl, by kernel_rfl⟩
theorem w9 : ofE 2 [txt] V3.z = 9 ∧ ofV 2 [txt] V3.z = V3.z := ⟨by kernel_rfl, by kernel_rfl⟩
theorem w10 : mgE ⟨1, 2, 0, 2, ⟨#[]⟩⟩ ⟨1, 1, 0, 5, ⟨#[]⟩⟩ = 0 ∧ mg ⟨1, 2, 0, 2, ⟨#[]⟩⟩ ⟨1, 1, 0, 5, ⟨#[]⟩⟩ = ⟨1, 3, 0, 7, ⟨#[]⟩⟩ := ⟨by kernel_rfl, by kernel_rfl⟩

end Go.Proofs.Ytkcbjnhphekadaa
