/- General words for all walks of this seat: results, worlds, strings. -/
import Derived.Test.YtppaiihcaajkaaaGreatRows
import Derived.WalkKit
import Derived.WalkSpells
import Derived.WalkLawsBesides
import Derived.BigQuiet
import Derived.Deep.QuietTactic
import Derived.ProofKit
import Derived.OpenShut
import Derived.Lib.SmallJoins
import Derived.Laws.BitsAllLaws
import Derived.Laws.BitsLemmas
import Derived.Lib.AppendStr
import Derived.Maps.AppendAt
namespace Go.Proofs.YtppaiihcaajkaaaGreat
open Go.RowKit
set_option linter.unusedVariables false
set_option linter.unusedSimpArgs false

theorem hide {p : Prop} (h : p) : Hid p := h

/-- e returns v; nothing that lay in w has turned. -/
def Ret (v : Value) (w : World) (e : Ending) (w' : World) : Prop := e = .returned v ∧ Below w.heap.size w w'

theorem Ret.mk {a b : Value} {w w' : World} (h : a = b) (hb : Below w.heap.size w w') : Ret b w (.returned a) w' := ⟨by rw [h], hb⟩
theorem Ret.int {k : IntKind} {a b : Int} {w w' : World} (h : a = b) (hb : Below w.heap.size w w') : Ret (.int k b) w (.returned (.int k a)) w' := ⟨by rw [h], hb⟩
theorem Ret.bool {a b : Bool} {w w' : World} (h : a = b) (hb : Below w.heap.size w w') : Ret (.bool b) w (.returned (.bool a)) w' := ⟨by rw [h], hb⟩
theorem Ret.int2 {k l : IntKind} {a b c d : Int} {w w' : World} (h : a = b) (h' : c = d) (hb : Below w.heap.size w w') : Ret (.tuple #[.int k b, .int l d]) w (.returned (.tuple #[.int k a, .int l c])) w' := ⟨by rw [h, h'], hb⟩

theorem isEmpty_size (s : ByteArray) : s.toList.isEmpty = decide (s.size = 0) := by
  rw [Lib.toList_data]
  rcases s with ⟨⟨l⟩⟩
  cases l <;> simp [ByteArray.size]

theorem below_drewN {B : Nat} {a w : World} (h : Below B a w) (n : Nat) : Below B a (w.drewN n) := ⟨h.os, h.tape, h.output, h.size, h.block⟩
theorem bcell {W w1 : World} (hb : Below W.heap.size W w1) : (∀ b o, b < W.heap.size → w1.cell? ⟨b, o, none⟩ = W.cell? ⟨b, o, none⟩) ∧ (∀ b o, b < W.heap.size → w1.frozen? ⟨b, o, none⟩ = W.frozen? ⟨b, o, none⟩) :=
  ⟨fun b o h => hb.cell (p := ⟨b, o, none⟩) h, fun b o h => hb.frozen (p := ⟨b, o, none⟩) h⟩

theorem ofInt_i64 (a : Nat) (ha : a < 9223372036854775808) : (BitVec.ofInt 64 (a : Int)).toNat = a := by
  rw [BitVec.ofInt_natCast, BitVec.toNat_ofNat]; exact Nat.mod_eq_of_lt (by omega)
theorem i64_xor_nat (a b : Nat) (ha : a < 9223372036854775808) (hb : b < 9223372036854775808) : bits .xor .i64 (a : Int) (b : Int) = ((a ^^^ b : Nat) : Int) := by
  have hx : a ^^^ b < 2 ^ 63 := Nat.xor_lt_two_pow (by omega) (by omega)
  show IntKind.i64.wrap ((BitVec.ofInt 64 (a : Int) ^^^ BitVec.ofInt 64 (b : Int)).toNat : Int) = _
  rw [BitVec.toNat_xor, ofInt_i64 a ha, ofInt_i64 b hb, IntKind.wrap_i64]
  omega
theorem ofInt_32 (a : Nat) (ha : a < 4294967296) : (BitVec.ofInt 32 (a : Int)).toNat = a := by
  rw [BitVec.ofInt_natCast, BitVec.toNat_ofNat]; exact Nat.mod_eq_of_lt (by omega)
theorem u32_xor_nat (a b : Nat) (ha : a < 4294967296) (hb : b < 4294967296) : bits .xor .u32 (a : Int) (b : Int) = ((a ^^^ b : Nat) : Int) := by
  have hx : a ^^^ b < 2 ^ 32 := Nat.xor_lt_two_pow (by omega) (by omega)
  show IntKind.u32.wrap ((BitVec.ofInt 32 (a : Int) ^^^ BitVec.ofInt 32 (b : Int)).toNat : Int) = _
  rw [BitVec.toNat_xor, ofInt_32 a ha, ofInt_32 b hb]
  simp only [IntKind.wrap, IntKind.bits, IntKind.signed]
  simp
  omega

/-- An owned row of one-cell elements that is not empty: its address, and its cells. -/
theorem own_cells {w : World} {base : Nat} {e : TypeId} {v : Value} {n : Nat} {xs : List Value} (h : w.ownsRow base e 1 v n xs) (hn : 0 < n) :
    ∃ g cap, v = .slice (some ⟨g, 0, none⟩) n cap ∧ base ≤ g ∧ g < w.heap.size ∧ n ≤ cap ∧ ∀ j u, xs[j]? = some u → w.cell? ⟨g, j, none⟩ = some u := by
  have hc := @World.ownsRow.cells w base e 1 v n xs h
  rcases h.2 with ⟨_, h0⟩ | ⟨g, cap, cur, rfl, hb, hg, hnc, _⟩
  · omega
  · refine ⟨g, cap, rfl, hb, (Array.getElem?_eq_some_iff.1 hg).1, hnc, fun j u hu => ?_⟩
    have := hc (g := g) rfl j u hu
    rwa [show (⟨g, 0, none⟩ : Addr).add j = ⟨g, j, none⟩ by unfold Addr.add; split <;> simp_all] at this

/-- A row that a composite literal has just laid is owned. -/
theorem own_lit (w : World) (xs : List Value) (e : TypeId) (base size n : Nat) (hb : base ≤ w.heap.size) (h : xs.length = n * size) (hm : n ≤ maxLen) :
    (w.alloc (.cells xs.toArray e)).ownsRow base e size (.slice (some ⟨w.heap.size, 0, none⟩) n n) n xs :=
  ⟨h, .inr ⟨w.heap.size, n, xs.toArray, rfl, hb, heap_alloc_new w _, Nat.le_refl _, hm, by simpa using h, by simp [← h]⟩⟩

section
variable {P : Program}
/-- append(s, x) of one element that a composite literal has just laid: s owned from base on. -/
theorem wpList_append_one {ops : Array Oper} {rest : List Oper} {o : Oper} {a : Act} {Q : Exit → Act → World → Prop} {wr : World} (hgd : o.guard = none) (s x : Operand) (t : TypeId)
    (ho : o.op = .call { callee := .builtin .append, args := #[s, x], argTypes := #[t, t] })
    (base : Nat) (e : TypeId) (i : TypeInfo) (z : Value) (bytes : Nat) (ht : P.underlying t = some (.slice e)) (hi : P.info? e = some i) (hz : i.zero = some z)
    (ys : List Value) (hsize : i.size = ys.length) (hby : i.bytes = bytes) (hzs : z.cells.size = ys.length) (hsz : 0 < ys.length)
    (v : Value) (n : Nat) (xs : List Value) (hs : a.eval s = v) (hown : wr.ownsRow base e ys.length v n xs)
    (te : TypeId) (hx : a.eval x = .slice (some ⟨wr.heap.size, 0, none⟩) 1 1) (h1 : ∀ y ∈ ys, y.oneCell' = true)
    (hn : n < 1099511627776) (hb100 : bytes ≤ 100) (hbase : base ≤ wr.heap.size)
    (h : ∀ v' w', w'.ownsRow base e ys.length v' (n + 1) (xs ++ ys) → Below base wr w' → (v'.ownBlock = v.ownBlock ∨ v'.ownBlock = some (wr.heap.size + 1)) → wpList P ops Q rest (a.put o.dst v') w') :
    wpList P ops Q (o :: rest) a (wr.alloc (.cells ys.toArray te)) := by
  refine wpList_append_own_at (wr.alloc (.cells ys.toArray te)) hgd s x t ho base e i z ys.length bytes ht hi hz hsize hby hzs hsz v n xs hs (hown.alloc _) ⟨wr.heap.size, 0, none⟩ 1 1 ys hx (by simp) ?_ h1 (by unfold maxLen; omega) ?_ (by simp; omega) ?_
  · intro j u hj
    rw [show (⟨wr.heap.size, 0, none⟩ : Addr).add j = ⟨wr.heap.size, j, none⟩ by unfold Addr.add; split <;> simp_all]
    rw [World.cell?_alloc_at _ _ _ _ rfl]
    simpa using hj
  · calc (n + 1) * bytes ≤ 1099511627776 * 100 := Nat.mul_le_mul (by omega) hb100
      _ ≤ 140737488355328 := by omega
  · intro v' w' hown' hg _ hat
    refine h v' w' hown' (((Below.refl base wr).alloc hbase _).grown hg (by simp; omega) ?_) (by simpa using hat)
    exact fun k hk => (hown.lt k hk).1
end

/-- The cells of a row that a composite literal has just laid. -/
theorem cells_lit (w : World) (xs : List Value) (t : TypeId) : ∀ j u, xs[j]? = some u → (w.alloc (.cells xs.toArray t)).cell? ⟨w.heap.size, j, none⟩ = some u := by
  intro j u hj
  rw [World.cell?_alloc_at _ _ _ _ rfl]
  simpa using hj
theorem bthen {a w w1 : World} (h : Below a.heap.size a w) (hb : Below w.heap.size w w1) : Below a.heap.size a w1 := h.trans (hb.mono h.size)

/-- A list of own memory, and a number. -/
def RetOwn2 (w : World) (te : TypeId) (sz n : Nat) (xs : List Value) (c : Int) (e : Ending) (w' : World) : Prop :=
  ∃ v, e = .returned (.tuple #[v, .int .i64 c]) ∧ w'.ownsRow w.heap.size te sz v n xs ∧ Below w.heap.size w w'

/-- The slice v has n elements of sz cells each, xs all together, in a block below B. -/
def Row (w : World) (B sz : Nat) (v : Value) (n : Nat) (xs : List Value) : Prop :=
  xs.length = n * sz ∧ ((v = .slice none 0 0 ∧ n = 0) ∨ ∃ g off cap, v = .slice (some ⟨g, off, none⟩) n cap ∧ g < B ∧ n ≤ cap ∧ ∀ j u, xs[j]? = some u → w.cell? ⟨g, off + j, none⟩ = some u)
section
variable {w w' : World} {B B' sz n : Nat} {v : Value} {xs : List Value}
theorem Row.of_own {base : Nat} {te : TypeId} (h : w.ownsRow base te sz v n xs) : Row w w.heap.size sz v n xs := by
  refine ⟨h.1, ?_⟩
  have hc := @World.ownsRow.cells w base te sz v n xs h
  rcases h.2 with h0 | ⟨g, cap, cur, rfl, hb, hg, hnc, _⟩
  · exact .inl h0
  · refine .inr ⟨g, 0, cap, rfl, (Array.getElem?_eq_some_iff.1 hg).1, hnc, fun j u hu => ?_⟩
    have := hc (g := g) rfl j u hu
    rwa [show (⟨g, 0, none⟩ : Addr).add j = ⟨g, 0 + j, none⟩ by unfold Addr.add; split <;> simp_all] at this
theorem Row.below (h : Row w B sz v n xs) (hb : Below B w w') : Row w' B sz v n xs := by
  refine ⟨h.1, ?_⟩
  rcases h.2 with h0 | ⟨g, off, cap, rfl, hg, hnc, hc⟩
  · exact .inl h0
  · exact .inr ⟨g, off, cap, rfl, hg, hnc, fun j u hu => (hb.cell (p := ⟨g, off + j, none⟩) hg).trans (hc j u hu)⟩
theorem Row.more (h : Row w B sz v n xs) (hB : B ≤ B') : Row w B' sz v n xs := by
  refine ⟨h.1, ?_⟩
  rcases h.2 with h0 | ⟨g, off, cap, rfl, hg, r⟩
  · exact .inl h0
  · exact .inr ⟨g, off, cap, rfl, by omega, r⟩
theorem Row.form (h : Row w B sz v n xs) : ∃ A cap, v = .slice A n cap := by
  rcases h.2 with ⟨rfl, rfl⟩ | ⟨g, off, cap, rfl, _⟩
  · exact ⟨_, _, rfl⟩
  · exact ⟨_, _, rfl⟩
theorem Row.at_ (h : Row w B sz v n xs) (hn : 0 < n) : ∃ g off cap, v = .slice (some ⟨g, off, none⟩) n cap ∧ g < B ∧ n ≤ cap ∧ ∀ j u, xs[j]? = some u → w.cell? ⟨g, off + j, none⟩ = some u := by
  rcases h.2 with ⟨_, h0⟩ | h1
  · omega
  · exact h1
end
end Go.Proofs.YtppaiihcaajkaaaGreat
