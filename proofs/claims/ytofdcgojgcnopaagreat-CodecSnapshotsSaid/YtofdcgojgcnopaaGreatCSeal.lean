/- sealed, of what a closure writes. -/
import Derived.Test.YtofdcgojgcnopaaGreatCPutE
import Derived.Test.YtofdcgojgcnopaaGreatCSum
import Derived.Lib.BufferRead
namespace Go.Proofs.YtofdcgojgcnopaaGreat
open Go.RowKit Go.Lib
set_option linter.unusedVariables false
set_option linter.unusedSimpArgs false
theorem conv_own {w : World} {base : Nat} {v : Value} {o : Bs} (hown : w.ownsRow base 5 1 v o.length (bytes o)) : (convert 92 9 v).run Tryz.prog w = .ok (.string ⟨o.toArray⟩) w := by
  have hc := @World.ownsRow.cells w base _ 1 v o.length _ hown
  rcases hown.2 with ⟨rfl, h0⟩ | ⟨g, cap, cur, rfl, hb, hg, hnc, _⟩
  · obtain rfl : o = [] := List.eq_nil_of_length_eq_zero h0
    exact run_convert_nil_bytes w _ _ 5 0 Tryz.underlying92 Tryz.underlying5 Tryz.underlying9
  · refine run_convert_bytes_back w _ _ 5 ⟨g, 0, none⟩ cap o Tryz.underlying92 Tryz.underlying5 Tryz.underlying9 fun j hj => ?_
    exact hc (g := g) rfl j _ (by simp [bytes, hj])
theorem WrV.form {w : World} {F : Nat} {v : Value} {o : Bs} {e : Int} (h : WrV w F v o e) : ∃ A c, v = .slice A o.length c := by
  rcases h.own.2 with ⟨rfl, h0⟩ | ⟨g, cap, cur, rfl, -⟩
  · exact ⟨none, 0, by rw [h0]⟩
  · exact ⟨_, _, rfl⟩
/-- A writer that has written nothing. -/
theorem Wr.fresh (w : World) : Wr (w.alloc (.cells #[.slice none 0 0, .int .i64 0] 94)) w.heap.size [] 0 := by
  have h := cells_lit w [.slice none 0 0, .int .i64 0] 94
  refine ⟨.slice none 0 0, h 0 _ rfl, h 1 _ rfl, ?_, ?_, World.ownsRow_nil _ _ _ _⟩ <;>
    (unfold World.frozen?; rw [show (⟨w.heap.size, _, none⟩ : Addr).block = w.heap.size from rfl, heap_alloc_new]; simp)
/-- The string and the number that a sealed encoding is handed back as. -/
def strE (r : Ex Bs) : ByteArray := match r with | .ok b => ⟨b.toArray⟩ | .error _ => ⟨#[]⟩
def numE (r : Ex Bs) : Int := match r with | .ok _ => 0 | .error c => c
theorem seal_err {r : Ex Bs} {n : Nat} {o : Bs} {e : Int} (h : Wd r n [] 0 o e) (he : e ≠ 0) : strE (sealE r) = ⟨#[]⟩ ∧ numE (sealE r) = e := by
  have := h.2.1 rfl
  cases r with
  | ok b => exact absurd this.2 he
  | error c => exact ⟨rfl, this.1.symm⟩
theorem seal_long {r : Ex Bs} {n : Nat} {o : Bs} (h : Wd r n [] 0 o 0) (hl : 1048572 < o.length) : strE (sealE r) = ⟨#[]⟩ ∧ numE (sealE r) = 13 := by
  have := h.2.1 rfl
  cases r with
  | ok b =>
    obtain ⟨rfl, -⟩ := this
    simp only [sealE]
    rw [if_pos (by omega)]
    exact ⟨rfl, rfl⟩
  | error c => exact absurd this.1.symm this.2
theorem seal_ok {r : Ex Bs} {n : Nat} {o : Bs} (h : Wd r n [] 0 o 0) (hl : ¬ 1048572 < o.length) : strE (sealE r) = ⟨(sealB o).toArray⟩ ∧ numE (sealE r) = 0 := by
  have := h.2.1 rfl
  cases r with
  | ok b =>
    obtain ⟨rfl, -⟩ := this
    simp only [sealE]
    rw [if_neg (by omega)]
    exact ⟨rfl, rfl⟩
  | error c => exact absurd this.1.symm this.2
theorem sb (n : Nat) : ([.int .u8 ((n : Int) / 16777216 % 256), .int .u8 ((n : Int) / 65536 % 256), .int .u8 ((n : Int) / 256 % 256), .int .u8 ((n : Int) % 256)] : List Value) = bytes (sumBytes n) := by
  have key : ∀ m : Nat, ((UInt8.ofNat m).toNat : Int) = (m : Int) % 256 := fun m => by rw [UInt8.toNat_ofNat']; omega
  simp only [bytes, sumBytes, List.map_cons, List.map_nil, key]
  rfl
theorem sb4 {n : Nat} (h : n < 4294967296) : ([.int .u8 ((n : Int) / 16777216), .int .u8 ((n : Int) / 65536 % 256), .int .u8 ((n : Int) / 256 % 256), .int .u8 ((n : Int) % 256)] : List Value) = bytes (sumBytes n) := by
  rw [← sb, show (n : Int) / 16777216 % 256 = (n : Int) / 16777216 by omega]
section
variable {P : Program}
/-- append(s, ..) of bytes that a composite literal has just laid. -/
theorem wpList_append_bs {ops : Array Oper} {rest : List Oper} {o : Oper} {a : Act} {Q : Exit → Act → World → Prop} (hgd : o.guard = none) (s x : Operand) (t : TypeId)
    (ho : o.op = .call { callee := .builtin .append, args := #[s, x], argTypes := #[t, t] })
    (i : TypeInfo) (ht : P.underlying t = some (.slice 5)) (hi : P.info? 5 = some i) (hz : i.zero = some (.int .u8 0)) (hsize : i.size = 1) (hby : i.bytes = 1)
    {base : Nat} {wr : World} {v : Value} {out : Bs} (hown : wr.ownsRow base 5 1 v out.length (bytes out)) (hs : a.eval s = v) (te : TypeId) (cs : List Value) (bs : Bs) (hb : cs = bytes bs)
    (hx : a.eval x = .slice (some ⟨wr.heap.size, 0, none⟩) bs.length bs.length) (hn : out.length + bs.length < 1099511627776) (hbase : base ≤ wr.heap.size)
    (h : ∀ v' w', w'.ownsRow base 5 1 v' (out ++ bs).length (bytes (out ++ bs)) → Below base wr w' → wpList P ops Q rest (a.put o.dst v') w') :
    wpList P ops Q (o :: rest) a (wr.alloc (.cells cs.toArray te)) := by
  subst hb
  refine wpList_append_own_at (wr.alloc (.cells (bytes bs).toArray te)) hgd s x t ho base 5 i (.int .u8 0) 1 1 ht hi hz hsize hby rfl (by decide) v out.length (bytes out) hs (hown.alloc _) ⟨wr.heap.size, 0, none⟩ bs.length bs.length (bytes bs) hx (by rw [bytes_len, Nat.mul_one]) ?_ (bytes_one bs) (by unfold maxLen; omega) (by omega) (by simp; omega) ?_
  · intro j u hj
    rw [show (⟨wr.heap.size, 0, none⟩ : Addr).add j = ⟨wr.heap.size, j, none⟩ by unfold Addr.add; split <;> simp_all]
    exact cells_lit wr (bytes bs) te j u hj
  · intro v' w' hown' hg _ hat
    refine h v' w' (by rw [bytes_app, List.length_append]; exact hown') (((Below.refl base wr).alloc hbase _).grown hg (by simp; omega) (fun k hk => (hown.lt k hk).1))
end
end Go.Proofs.YtofdcgojgcnopaaGreat
