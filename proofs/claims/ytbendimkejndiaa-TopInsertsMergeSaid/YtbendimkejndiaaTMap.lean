/- Maps by identities and by values: what stands at each key. -/
import Derived.Test.YtbendimkejndiaaTAll
import Derived.DeepKeys4
import Derived.Maps.Views
import Derived.Maps.OwnSet
namespace Go.Proofs.Ytbendimkejndiaa
open Go.RowKit Go.Maps Go.ChangeMaps Go.MapKept Go.WideMaps
set_option linter.unusedVariables false
set_option linter.unusedSimpArgs false
theorem laid_out : laidOutB Try.prog = true := by kernel_rfl
theorem id_wide : (match Try.prog.underlying 65 with | some (.array _ _) | some (.struct _) => true | _ => false) = true := by kernel_rfl
set_option maxRecDepth 1000000 in
theorem id_key : Keyed Try.prog 65 := Keyed.of_law (deep_law_laid laid_out (m := 2) (by omega) (of_decide_eq_true (by kernel_rfl)) (by kernel_rfl) id_wide)
theorem v_wide : (match Try.prog.underlying 38 with | some (.array _ _) | some (.struct _) => true | _ => false) = true := by kernel_rfl
set_option maxRecDepth 1000000 in
theorem v_key : Keyed Try.prog 38 := Keyed.of_law (deep_law_laid laid_out (m := 2) (by omega) (of_decide_eq_true (by kernel_rfl)) (by kernel_rfl) v_wide)
theorem id_kt : Try.prog.keyType 65 = true := by kernel_rfl
theorem v_kt : Try.prog.keyType 38 = true := by kernel_rfl
theorem cells_id : Try.prog.cellsOf 65 = 2 := by kernel_rfl
theorem cells_v : Try.prog.cellsOf 38 = 3 := by kernel_rfl
theorem cells_int : Try.prog.cellsOf 3 = 1 := by kernel_rfl
theorem cells_str : Try.prog.cellsOf 9 = 1 := by kernel_rfl
theorem wf_in {a : Int} (h : inI a) : (Lit.int .i64 a).wf = true := by
  unfold inI at h
  exact WalkArith.wf_i64 (by omega)
/-- How a struct of two numbers, of two numbers and a text, reads as a key. -/
theorem keyOf_two {P : Program} {k ti : TypeId} {f0 f1 : Field} {m : Nat} (hu : P.underlying k = some (.struct #[f0, f1])) (hk : P.keyType k = true) (hc : P.cellsOf k = 2) (hsz : P.types.size = m + 1) (hi : P.underlying ti = some (.int .i64)) (hci : P.cellsOf ti = 1)
    (n0 : (f0.name != "_") = true) (n1 : (f1.name != "_") = true) (t0 : f0.type = ti) (t1 : f1.type = ti) (o0 : f0.offset = 0) (o1 : f1.offset = 1) {a b : Int} (ha : (Lit.int .i64 a).wf = true) (hb : (Lit.int .i64 b).wf = true) :
    ∃ l, keyOf P k (.agg #[.int .i64 a, .int .i64 b]) = some l := by
  have hf : Value.formed P k (Value.agg #[Value.int IntKind.i64 a, Value.int IntKind.i64 b]) = true := by simp [Value.formed, hu, hc]
  unfold keyOf
  rw [hu, hk, hf, hsz]
  simp [Program.keyLits, hu, hi, hc, hci, n0, n1, t0, t1, o0, o1, ha, hb, Value.cells]
theorem keyOf_three {P : Program} {k ti ts : TypeId} {f0 f1 f2 : Field} {m : Nat} (hu : P.underlying k = some (.struct #[f0, f1, f2])) (hk : P.keyType k = true) (hc : P.cellsOf k = 3) (hsz : P.types.size = m + 1) (hi : P.underlying ti = some (.int .i64)) (hci : P.cellsOf ti = 1)
    (hs : P.underlying ts = some .string) (hcs : P.cellsOf ts = 1)
    (n0 : (f0.name != "_") = true) (n1 : (f1.name != "_") = true) (n2 : (f2.name != "_") = true) (t0 : f0.type = ti) (t1 : f1.type = ti) (t2 : f2.type = ts) (o0 : f0.offset = 0) (o1 : f1.offset = 1) (o2 : f2.offset = 2) {a b : Int} {s : ByteArray} (ha : (Lit.int .i64 a).wf = true) (hb : (Lit.int .i64 b).wf = true) (hl : s.size ≤ maxLen) :
    ∃ l, keyOf P k (.agg #[.int .i64 a, .int .i64 b, .string s]) = some l := by
  have hf : Value.formed P k (Value.agg #[Value.int IntKind.i64 a, Value.int IntKind.i64 b, .string s]) = true := by simp [Value.formed, hu, hc]
  unfold keyOf
  rw [hu, hk, hf, hsz]
  simp [Program.keyLits, hu, hi, hs, hc, hci, hcs, n0, n1, n2, t0, t1, t2, o0, o1, o2, ha, hb, hl, Value.cells]
theorem types_pos : Try.prog.types.size = (Try.prog.types.size - 1) + 1 := by kernel_rfl
/-- An identity is a key; so is a value. -/
theorem id_of {a b : Int} (ha : inI a) (hb : inI b) : ∃ l, keyOf Try.prog 65 (.agg #[.int .i64 a, .int .i64 b]) = some l :=
  keyOf_two Try.underlying65 id_kt cells_id types_pos Try.underlying3 cells_int (by decide) (by decide) rfl rfl rfl rfl (wf_in ha) (wf_in hb)
theorem v_of {q n : Int} {s : ByteArray} (ha : inI q) (hb : inI n) (hs : s.size ≤ maxLen) : ∃ l, keyOf Try.prog 38 (.agg #[.int .i64 q, .int .i64 n, .string s]) = some l :=
  keyOf_three Try.underlying38 v_kt cells_v types_pos Try.underlying3 cells_int Try.underlying9 cells_str (by decide) (by decide) (by decide) rfl rfl rfl rfl rfl rfl (wf_in ha) (wf_in hb) hs
def heldE (v : Value) : Option (DataW Value × List MemPlace) := some (.held v, [])
/-- The map b, of at most N entries: f tells what stands at each key. -/
def MapF (k : TypeId) (w : World) (b N : Nat) (f : Value → Option Value) : Prop :=
  ∃ n D, w.ownsMap Try.prog k heldE b n D ∧ n ≤ N ∧ IsMap D ∧ ∀ x l, keyOf Try.prog k x = some l → (∀ z, D.atKey l z = (match f x with | some v => .held v | none => z)) ∧ Maps.has D l = (f x).isSome
section
variable {k : TypeId} {w w' : World} {b N : Nat} {f : Value → Option Value}
theorem MapF.lt (h : MapF k w b N f) : b < w.heap.size := by obtain ⟨n, D, hown, -⟩ := h; exact hown.lt
theorem MapF.grown (h : MapF k w b N f) {row : Option Nat} (hg : w.grownBy w' row) (hne : some b ≠ row) : MapF k w' b N f := by
  obtain ⟨n, D, hown, hr⟩ := h
  exact ⟨n, D, hown.kept hg hne, hr⟩
theorem MapF.keep (h : MapF k w b N f) (hb : Below w.heap.size w w') : MapF k w' b N f :=
  h.grown (row := none) ⟨hb.os, hb.tape, hb.output, hb.size, fun k hk _ => hb.block k hk⟩ (by simp)
theorem MapF.laid (h : MapF k w b N f) (o : Obj) : MapF k (w.alloc o) b N f := h.keep (below_laid o)
theorem MapF.set (h : MapF k w b N f) {a : Addr} (ha : b ≠ a.block) (u : Value) : MapF k (w.setCell a u) b N f := by
  obtain ⟨n, D, hown, hr⟩ := h
  exact ⟨n, D, hown.setCell ha u, hr⟩
theorem MapF.more (h : MapF k w b N f) {M : Nat} (hM : N ≤ M) : MapF k w b M f := by
  obtain ⟨n, D, hown, hn, hr⟩ := h
  exact ⟨n, D, hown, Nat.le_trans hn hM, hr⟩
theorem MapF.made (k : TypeId) (w : World) : MapF k (w.alloc (.map #[] 0)) w.heap.size 0 (fun _ => none) :=
  ⟨0, _, World.ownsMap_made w Try.prog k heldE, Nat.le_refl _, ⟨_, rfl⟩, fun x l _ => ⟨fun z => by simp [WideAt.atKey_none], rfl⟩⟩
open Classical in
/-- What stands at each key behind a store. -/
noncomputable def updF (f : Value → Option Value) (key v : Value) : Value → Option Value := fun x => if x = key then some v else f x
end
section
variable {k : TypeId} {w : World} {b N : Nat} {f : Value → Option Value} {ops : Array Oper} {rest : List Oper} {o : Oper} {a : Act} {Q : Exit → Act → World → Prop}
theorem MapF.look {t e : TypeId} {z : Value} (h : MapF k w b N f) (K : Keyed Try.prog k) (ht : Try.prog.underlying t = some (.map k e)) (hz : (zeroValue e).run Try.prog w = .ok z w) {key : Value} (hkey : ∃ l, keyOf Try.prog k key = some l) :
    (Instr.lookup t (.map (some b)) key false).run Try.prog w = .ok ((f key).getD z) w := by
  obtain ⟨l, hkey⟩ := hkey
  obtain ⟨n, D, hown, hn, hm, hf⟩ := h
  obtain ⟨v, ps, hrun, hv⟩ := hown.lookup K ht hz (zd := .held z) (zp := []) rfl hkey
  have he : DataW.held v = _ := (Prod.mk.inj (Option.some.inj hv)).1
  rw [(hf key l hkey).1] at he
  have hve : v = (f key).getD z := by
    cases hfk : f key with
    | none => rw [hfk] at he; exact DataW.held.inj he
    | some u => rw [hfk] at he; exact DataW.held.inj he
  rw [hrun, hve]
theorem MapF.look_ok {t e : TypeId} {z : Value} (h : MapF k w b N f) (K : Keyed Try.prog k) (ht : Try.prog.underlying t = some (.map k e)) (hz : (zeroValue e).run Try.prog w = .ok z w) {key : Value} (hkey : ∃ l, keyOf Try.prog k key = some l) :
    (Instr.lookup t (.map (some b)) key true).run Try.prog w = .ok (.tuple #[(f key).getD z, .bool (f key).isSome]) w := by
  obtain ⟨l, hkey⟩ := hkey
  obtain ⟨n, D, hown, hn, hm, hf⟩ := h
  obtain ⟨v, ps, hrun, hv⟩ := hown.look_ok K ht hz (zd := .held z) (zp := []) rfl hkey
  have he : DataW.held v = _ := (Prod.mk.inj (Option.some.inj hv)).1
  rw [(hf key l hkey).1] at he
  have hve : v = (f key).getD z := by
    cases hfk : f key with
    | none => rw [hfk] at he; exact DataW.held.inj he
    | some u => rw [hfk] at he; exact DataW.held.inj he
  rw [hrun, (hf key l hkey).2, hve]
theorem MapF.store {t e : TypeId} (h : MapF k w b N f) (K : Keyed Try.prog k) (ht : Try.prog.underlying t = some (.map k e)) (hN : N < maxLen) {key : Value} (hkey : ∃ l, keyOf Try.prog k key = some l) (v : Value) :
    ∃ w', (Instr.mapUpdate t (.map (some b)) key v).run Try.prog w = .ok () w' ∧ MapF k w' b (N + 1) (updF f key v) ∧ w.grownBy w' (some b) := by
  obtain ⟨l, hkey⟩ := hkey
  obtain ⟨n, D, hown, hn, hm, hf⟩ := h
  obtain ⟨w', hrun, r1, r2⟩ := hown.update K ht (Nat.lt_of_le_of_lt hn hN) hkey (d := .held v) (ps := []) rfl
  refine ⟨w', hrun, ⟨n + 1, _, r1, Nat.succ_le_succ hn, hm.put _ _, fun x l' hx => ?_⟩, r2⟩
  by_cases hxk : x = key
  · subst hxk
    obtain rfl : l' = l := Option.some.inj (hx.symm.trans hkey)
    refine ⟨fun z => ?_, ?_⟩
    · rw [atKey_put_same hm (K.key hkey)]; simp [updF]
    · rw [has_put_same hm (K.key hkey)]; simp [updF]
  · have hl : l' ≠ l := fun e => hxk (K.inj hx (e ▸ hkey))
    refine ⟨fun z => ?_, ?_⟩
    · rw [atKey_put_other hl, (hf x l' hx).1]; simp [updF, hxk]
    · rw [has_put_other hl, (hf x l' hx).2]; simp [updF, hxk]
theorem wpList_look (hg : o.guard = none) (m x : Operand) (t : TypeId) (hop : o.op = Op.lookup t m x false) (e : TypeId) (K : Keyed Try.prog k) (ht : Try.prog.underlying t = some (.map k e)) (z : Value) (hz : (zeroValue e).run Try.prog w = .ok z w)
    (b N : Nat) (f : Value → Option Value) (key : Value) (hm : a.eval m = .map (some b)) (hx : a.eval x = key) (hkey : ∃ l, keyOf Try.prog k key = some l) (h : MapF k w b N f)
    (hK : wpList Try.prog ops Q rest (a.put o.dst ((f key).getD z)) w) : wpList Try.prog ops Q (o :: rest) a w := by
  refine wpList_plain hg fun K' hK' => ?_
  unfold Oper.wp
  simp [execOp, hop, hm, hx, h.look K ht hz hkey, Result.andThen]
  exact hK' _ _ hK
theorem wpList_look_ok (hg : o.guard = none) (m x : Operand) (t : TypeId) (hop : o.op = Op.lookup t m x true) (e : TypeId) (K : Keyed Try.prog k) (ht : Try.prog.underlying t = some (.map k e)) (z : Value) (hz : (zeroValue e).run Try.prog w = .ok z w)
    (b N : Nat) (f : Value → Option Value) (key : Value) (hm : a.eval m = .map (some b)) (hx : a.eval x = key) (hkey : ∃ l, keyOf Try.prog k key = some l) (h : MapF k w b N f)
    (u : Value) (ok : Bool) (hu : (f key).getD z = u) (hok : (f key).isSome = ok)
    (hK : wpList Try.prog ops Q rest (a.put o.dst (.tuple #[u, .bool ok])) w) : wpList Try.prog ops Q (o :: rest) a w := by
  refine wpList_plain hg fun K' hK' => ?_
  unfold Oper.wp
  simp [execOp, hop, hm, hx, h.look_ok K ht hz hkey, Result.andThen, hu, hok]
  exact hK' _ _ hK
theorem wpList_store (hg : o.guard = none) (m x v : Operand) (t : TypeId) (hop : o.op = Op.mapUpdate t m x v) (e : TypeId) (K : Keyed Try.prog k) (ht : Try.prog.underlying t = some (.map k e))
    (b N : Nat) (f : Value → Option Value) (key u : Value) (hm : a.eval m = .map (some b)) (hx : a.eval x = key) (hv : a.eval v = u) (hkey : ∃ l, keyOf Try.prog k key = some l) (h : MapF k w b N f) (hN : N < maxLen) (B : Nat) (hB : B ≤ b) (hBw : B ≤ w.heap.size)
    (hK : ∀ w', MapF k w' b (N + 1) (updF f key u) → w.grownBy w' (some b) → Below B w w' → wpList Try.prog ops Q rest (a.put o.dst undef) w') : wpList Try.prog ops Q (o :: rest) a w := by
  refine wpList_plain hg fun K' hK' => ?_
  obtain ⟨w', hrun, r1, r2⟩ := h.store K ht hN hkey u
  unfold Oper.wp
  simp [execOp, hop, hm, hx, hv, hrun, Result.andThen]
  exact hK' _ _ (hK w' r1 r2 ((Below.refl B w).grown r2 hBw fun k hk => by injection hk with hk; omega))
end
end Go.Proofs.Ytbendimkejndiaa
