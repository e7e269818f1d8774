/- The checks of event types. CheckAll of event types; Kind of an expression. -/
import Derived.Test.YtkcbjnhphekadaaFSch
import Derived.Test.YtkcbjnhphekadaaFKind
import Derived.Maps.Views
import Derived.Maps.OwnSet
import Derived.StringKeys
import Derived.Test.YtkcbjnhphekadaaFKind2
namespace Go.Proofs.Ytkcbjnhphekadaa
open Go.RowKit Go.Maps Go.ChangeMaps Go.MapKept Go.WideMaps
set_option linter.unusedVariables false
set_option linter.unusedSimpArgs false
def heldE (v : Value) : Option (DataW Value × List MemPlace) := some (.held v, [])
abbrev Nm := List UInt8
/-- The map b holds the names L. -/
def Seen (w : World) (b : Nat) (L : List Nm) : Prop := ∃ n D, w.ownsMap Try.prog 9 heldE b n D ∧ n ≤ L.length ∧ Maps.IsMap D ∧ ∀ (s : Nm) (z : DataW Value), D.atKey (.string s) z = if s ∈ L then .held (.bool true) else z
theorem str_key : Keyed Try.prog 9 := string_keyed Try.underlying9
theorem Seen.keep {w w' : World} {b : Nat} {L : List Nm} (h : Seen w b L) (hb : Below w.heap.size w w') : Seen w' b L := by
  obtain ⟨n, D, hown, hn, hm, ha⟩ := h
  exact ⟨n, D, hown.kept (row := none) ⟨hb.os, hb.tape, hb.output, hb.size, fun k hk _ => hb.block k hk⟩ (by simp), hn, hm, ha⟩
theorem Seen.made (w : World) : Seen (w.alloc (.map #[] 0)) w.heap.size [] :=
  ⟨0, _, World.ownsMap_made w Try.prog 9 heldE, Nat.le_refl _, ⟨_, rfl⟩, fun s z => by simp [WideAt.atKey_none]⟩
section
variable {ops : Array Oper} {rest : List Oper} {o : Oper} {a : Act} {Q : Exit → Act → World → Prop} {w : World}
theorem wpList_look_set (hg : o.guard = none) (m x : Operand) (hop : o.op = Op.lookup 89 m x false) (b : Nat) (L : List Nm) (s : ByteArray) (hm : a.eval m = .map (some b)) (hx : a.eval x = .string s) (hS : Seen w b L) (hs : s.size ≤ maxLen)
    (hK : wpList Try.prog ops Q rest (a.put o.dst (.bool (decide (s.data.toList ∈ L)))) w) : wpList Try.prog ops Q (o :: rest) a w := by
  refine wpList_plain hg fun K' hK' => ?_
  obtain ⟨n, D, hown, hn, hmp, ha⟩ := hS
  have hz : (zeroValue 4).run Try.prog w = .ok (.bool false) w := by kernel_rfl
  obtain ⟨v, ps, hrun, hv⟩ := hown.lookup str_key Try.underlying89 hz (zd := .held (.bool false)) (zp := []) rfl (keyOf_string_mk Try.underlying9 hs)
  have he : DataW.held v = _ := (Prod.mk.inj (Option.some.inj hv)).1
  rw [ha] at he
  have hve : v = .bool (decide (s.data.toList ∈ L)) := by
    by_cases h : s.data.toList ∈ L
    · rw [if_pos h] at he; rw [decide_eq_true h]; exact DataW.held.inj he
    · rw [if_neg h] at he; rw [decide_eq_false h]; exact DataW.held.inj he
  unfold Oper.wp
  simp [execOp, hop, hm, hx, hrun, Result.andThen]
  rw [hve]
  exact hK' _ _ hK
theorem wpList_put_set (hg : o.guard = none) (m x v : Operand) (hop : o.op = Op.mapUpdate 89 m x v) (b : Nat) (L : List Nm) (s : ByteArray) (hm : a.eval m = .map (some b)) (hx : a.eval x = .string s) (hv : a.eval v = .bool true) (hS : Seen w b L) (hs : s.size ≤ maxLen) (hL : L.length < 1000) (B : Nat) (hB : B ≤ b) (hBw : B ≤ w.heap.size)
    (hK : ∀ w', Seen w' b (s.data.toList :: L) → w.grownBy w' (some b) → Below B w w' → wpList Try.prog ops Q rest (a.put o.dst undef) w') : wpList Try.prog ops Q (o :: rest) a w := by
  obtain ⟨n, D, hown, hn, hmp, ha⟩ := hS
  refine wpList_mapUpdate_own _ hg m x v _ hop 9 _ str_key Try.underlying89 heldE b n D hm hown (by unfold maxLen; omega) _ _ _ hx hv (keyOf_string_mk Try.underlying9 hs) _ [] rfl ?_
  intro w' h1 h2
  refine hK w' ⟨n + 1, _, h1, by simp; omega, ?_, fun t z => ?_⟩ h2 ((Below.refl B w).grown h2 hBw fun k hk => by injection hk with hk; omega)
  · obtain ⟨es, rfl⟩ := hmp
    exact ⟨_, DataW.put_eq _ _ _⟩
  · by_cases ht : t = s.data.toList
    · subst ht
      rw [atKey_put_same hmp (show WideAt.IsKeyLit (.string s.data.toList) from trivial), if_pos (List.mem_cons_self ..)]
    · rw [atKey_put_other (by intro e; injection e with e; exact ht e), ha]
      by_cases h : t ∈ L
      · rw [if_pos h, if_pos (List.mem_cons_of_mem _ h)]
      · rw [if_neg h, if_neg (by simp [ht, h])]
end
def nmOf (s : ByteArray) : Nm := s.data.toList
def fieldsE : List Fdx → List Nm → Int
  | [], _ => 0
  | f :: l, L => if fldB f.name = false then 8 else if nmOf f.name ∈ L then 7 else if f.kind < 0 ∨ 3 ≤ f.kind then 1 else fieldsE l (nmOf f.name :: L)
def schE (s : Scx) : Int := if nameB s.name = false then 8 else if 8 < s.fields.length then 5 else fieldsE s.fields []
def allE : List Scx → List Nm → Int
  | [], _ => 0
  | s :: l, L => if schE s ≠ 0 then schE s else if nmOf s.name ∈ L then 7 else allE l (nmOf s.name :: L)
def typesE (T : List Scx) : Int := if 16 < T.length then 5 else allE T []
theorem fieldsE_drop {l : List Fdx} {L : List Nm} {j : Nat} (h : j < l.length) : fieldsE (l.drop j) L = if fldB l[j].name = false then 8 else if nmOf l[j].name ∈ L then 7 else if l[j].kind < 0 ∨ 3 ≤ l[j].kind then 1 else fieldsE (l.drop (j + 1)) (nmOf l[j].name :: L) := by
  rw [List.drop_eq_getElem_cons h, fieldsE]
theorem allE_drop {l : List Scx} {L : List Nm} {j : Nat} (h : j < l.length) : allE (l.drop j) L = if schE l[j] ≠ 0 then schE l[j] else if nmOf l[j].name ∈ L then 7 else allE (l.drop (j + 1)) (nmOf l[j].name :: L) := by
  rw [List.drop_eq_getElem_cons h, allE]
section
variable (w : World)
set_option maxRecDepth 100000 in
set_option maxHeartbeats 8000000 in
theorem sch_any (s : Scx) (v : Value) (hs : s.name.size ≤ maxLen) (h : There RFd 2 w v s.fields) : Calls Try.prog 35 #[.agg #[.string s.name, v]] w (Ret (.int .i64 (schE s)) w) := by
  obtain ⟨R, hR⟩ : ∃ e, schE s = e := ⟨_, rfl⟩
  have HR := hide (show (if nameB s.name = false then 8 else if 8 < s.fields.length then 5 else fieldsE s.fields []) = R from hR)
  rw [hR]
  clear hR
  have HN := hide (fun w => name_any w s.name hs)
  have HT := hide h
  have HTW := HT
  obtain ⟨A, cap, rfl⟩ := h.form
  have hm := h.len
  unfold maxLen at hm
  obtain ⟨m, hmm⟩ : ∃ m, s.fields.length = m := ⟨_, rfl⟩
  have HM := hide hmm
  rw [hmm] at HT HTW HR hm ⊢
  have hx := Bxs.new w [.string s.name, .slice A m cap] 92
  have hB := below_laid (w := w) (.cells #[.string s.name, .slice A m cap] 92)
  have HX := hide hx
  have HB := hide hB
  replace HT := hide (HT.out.keep rd_Fd hB)
  have hmk := @run_makeMap Try.prog
  obtain ⟨b0, hb0⟩ : ∃ b, nameB s.name = b := ⟨_, rfl⟩
  rw [hb0] at HN HR
  clear h hmm hx hB hb0
  have a0 := HX.out 0 _ rfl
  have a1 := HX.out 1 _ rfl
  cases b0
  · have HQ := hide (show (8 : Int) = R from HR.out)
    go_enter Try.func35, Try.ntmps35
    go_wp2_with fail
    refine (HN.out _).mono ?_
    rintro e w1 ⟨rfl, rfl⟩
    go_wp2
    go_ret
    exact Ret.int HQ.out HB.out
  · by_cases h8 : 8 < m
    · have t8 : decide ((8 : Int) < (m : Int)) = true := decide_eq_true (by omega)
      have t8' : decide (8 < m) = true := decide_eq_true h8
      have HQ := hide (show (5 : Int) = R by rw [← HR.out, if_neg (by simp), if_pos h8])
      clear HR
      go_enter Try.func35, Try.ntmps35
      go_wp2_with fail
      refine (HN.out _).mono ?_
      rintro e w1 ⟨rfl, rfl⟩
      go_wp2
      go_ret
      exact Ret.int HQ.out HB.out
    · have t8 : decide ((8 : Int) < (m : Int)) = false := decide_eq_false (by omega)
      have t8' : decide (8 < m) = false := decide_eq_false h8
      have HQ := hide (show fieldsE s.fields [] = R by rw [← HR.out, if_neg (by simp), if_neg h8])
      clear HR
      go_enter Try.func35, Try.ntmps35
      go_wp2_with fail
      refine (HN.out _).mono ?_
      rintro e w1 ⟨rfl, rfl⟩
      have HS := hide (Seen.made (w.alloc (.cells #[.string s.name, .slice A m cap] 92)))
      have hbm := below_laid (w := w.alloc (.cells #[.string s.name, .slice A m cap] 92)) (.map #[] 0)
      replace HT := hide (HT.out.keep rd_Fd hbm)
      replace HB := hide (bthen HB.out hbm)
      replace HX := hide (HX.out.keep hbm)
      rw [World.size_alloc] at HS
      clear hbm HN
      go_wp2_with fail
      obtain ⟨w0, hw0⟩ : ∃ w0, ((w.alloc (.cells #[.string s.name, .slice A m cap] 92)).alloc (.map #[] 0)) = w0 := ⟨_, rfl⟩
      rw [hw0] at HS HT HB HX ⊢
      clear hw0 hmk a0 a1
      go_loopw [18] (fun i wr => ∃ (j : Nat) (L : List Nm), j ≤ m ∧ i = .int .i64 j ∧ Hid (Seen wr (w.heap.size + 1) L ∧ L.length = j) ∧ Hid (fieldsE (s.fields.drop j) L = R) ∧ Hid (Below (w.heap.size + 1) w0 wr)) (fun i _ => m - (intOf i).toNat)
      case atStart => exact ⟨0, [], Nat.zero_le _, rfl, hide ⟨HS.out, rfl⟩, hide HQ.out, hide (Below.refl _ _)⟩
      case round =>
        obtain ⟨j, L, hj, rfl, HSe, HE, HW⟩ := hrel
        have HS9 := HS
        clear HS HQ
        by_cases hlt : j < m
        · have hja : j < s.fields.length := by rw [HM.out]; exact hlt
          replace HE := hide ((fieldsE_drop hja).symm.trans HE.out)
          obtain ⟨g, off, ys, e2, hg, hyl, hc, ⟨rfl, hfs⟩⟩ := Lst.at_ HTW.out hja
          subst e2
          have hgw : g < w.heap.size := hg
          have HBR := hide (HB.out.trans (HW.out.mono (by omega)))
          have k0 := keep1 HBR.out (hc 0 _ rfl)
          have k1 := keep1 HBR.out (hc 1 _ rfl)
          rw [Nat.add_zero] at k0
          obtain ⟨f, hf⟩ : ∃ f, s.fields[j] = f := ⟨_, rfl⟩
          rw [hf] at k0 k1 hfs HE
          clear hf hc hyl hg
          obtain ⟨fn, fk⟩ := f
          simp only at k0 k1 hfs HE
          have hu0 : (0 : Int) ≤ (j : Int) := by omega
          have hu1 : (j : Int) < (m : Int) := by omega
          have HFN := hide (fun w => fld_any w fn hfs)
          obtain ⟨fb, hfb⟩ : ∃ b, fldB fn = b := ⟨_, rfl⟩
          rw [hfb] at HFN HE
          have hba := below_laid (w := wr) (.cells #[.string fn, .int .i64 fk] 110)
          have HSa := hide (HSe.out.1.keep hba)
          have HLJ := hide HSe.out.2
          have HBa := hide (bthen HBR.out hba)
          have hx9 := cells_lit wr [.string fn, .int .i64 fk] 110
          have c0 := hx9 0 _ rfl
          have c1 := hx9 1 _ rfl
          have hzw := HW.out.size
          have hz1 : w.heap.size + 1 < w0.heap.size := by
            obtain ⟨n9, D9, ho9, -⟩ := HS9.out
            obtain ⟨es, ck, hb9, -⟩ := ho9
            exact (Array.getElem?_eq_some_iff.1 hb9).1
          have HWa := hide (HW.out.trans (hba.mono (by omega)))
          clear hfb hba hx9 HSe HW
          cases fb
          · have HQ := hide (show (8 : Int) = R by rw [← HE.out, if_pos rfl])
            clear HE
            go_wp2_with fail
            refine (HFN.out _).mono ?_
            rintro e w1 ⟨rfl, rfl⟩
            go_wp2
            go_ret
            exact Ret.int HQ.out HBa.out
          · by_cases hin : nmOf fn ∈ L
            · have HQ := hide (show (7 : Int) = R by rw [← HE.out, if_neg (by simp), if_pos hin])
              have HIN := hide (show decide (fn.data.toList ∈ L) = true from decide_eq_true hin)
              clear HE hin
              go_wp2_with fail
              refine (HFN.out _).mono ?_
              rintro e w1 ⟨rfl, rfl⟩
              go_wp2_with (at_lookup; refine wpList_look_set rfl (.tmp 28) (.tmp 30) (by rfl) (w.heap.size + 1) L fn (by rfl) (by rfl) HSa.out hfs ?_; rw [HIN.out])
              go_ret
              exact Ret.int HQ.out HBa.out
            · have HIN := hide (show decide (fn.data.toList ∈ L) = false from decide_eq_false hin)
              have HE2 := hide (show (if fk < 0 ∨ 3 ≤ fk then 1 else fieldsE (s.fields.drop (j + 1)) (nmOf fn :: L)) = R by
                have h9 := HE.out
                rw [if_neg (by simp), if_neg hin] at h9
                exact h9)
              clear HE hin
              by_cases hk0 : fk < 0
              · have t1 : decide (fk < 0) = true := decide_eq_true hk0
                have HQ := hide (show (1 : Int) = R by rw [← HE2.out, if_pos (.inl hk0)])
                clear HE2 hk0
                go_wp2_with fail
                refine (HFN.out _).mono ?_
                rintro e w1 ⟨rfl, rfl⟩
                go_wp2_with (at_lookup; refine wpList_look_set rfl (.tmp 28) (.tmp 30) (by rfl) (w.heap.size + 1) L fn (by rfl) (by rfl) HSa.out hfs ?_; rw [HIN.out])
                go_ret
                exact Ret.int HQ.out HBa.out
              · have t1 : decide (fk < 0) = false := decide_eq_false hk0
                by_cases hk3 : 3 ≤ fk
                · have t3 : decide (3 ≤ fk) = true := decide_eq_true hk3
                  have HQ := hide (show (1 : Int) = R by rw [← HE2.out, if_pos (.inr hk3)])
                  clear HE2 hk0 hk3
                  go_wp2_with fail
                  refine (HFN.out _).mono ?_
                  rintro e w1 ⟨rfl, rfl⟩
                  go_wp2_with (at_lookup; refine wpList_look_set rfl (.tmp 28) (.tmp 30) (by rfl) (w.heap.size + 1) L fn (by rfl) (by rfl) HSa.out hfs ?_; rw [HIN.out])
                  go_ret
                  exact Ret.int HQ.out HBa.out
                · have t3 : decide (3 ≤ fk) = false := decide_eq_false hk3
                  have HQ := hide (show fieldsE (s.fields.drop (j + 1)) (nmOf fn :: L) = R by rw [← HE2.out, if_neg (by omega)])
                  clear HE2 hk0 hk3
                  go_wp2_with fail
                  refine (HFN.out _).mono ?_
                  rintro e w1 ⟨rfl, rfl⟩
                  go_wp2_with (first
                    | (at_lookup; refine wpList_look_set rfl (.tmp 28) (.tmp 30) (by rfl) (w.heap.size + 1) L fn (by rfl) (by rfl) HSa.out hfs ?_; rw [HIN.out])
                    | (at_mapUpdate; refine wpList_put_set rfl (.tmp 41) (.tmp 43) _ (by rfl) (w.heap.size + 1) L fn (by rfl) (by rfl) (by rfl) HSa.out hfs (by have := HLJ.out; omega) (w.heap.size + 1) (Nat.le_refl _) (by simp; omega) ?_; intro w9 hS9 hg9 hb9))
                  go_roundw
                  case rel => exact ⟨j + 1, nmOf fn :: L, by omega, by go_num, hide ⟨hS9, by simp [HLJ.out]⟩, HQ, hide (HWa.out.trans hb9)⟩
                  case measure => simp [intOf]; omega
        · obtain rfl : j = m := by omega
          have hta : s.fields.drop j = [] := List.drop_of_length_le (by rw [HM.out]; exact Nat.le_refl _)
          have HQ := hide (show (0 : Int) = R by rw [← HE.out, hta]; rfl)
          have HBR := hide (HB.out.trans (HW.out.mono (by omega)))
          clear hta HE
          go_wp2
          go_ret
          exact Ret.int HQ.out HBR.out
end
end Go.Proofs.Ytkcbjnhphekadaa

namespace Go.Proofs.Ytkcbjnhphekadaa
open Go.RowKit Go.Maps Go.ChangeMaps Go.MapKept Go.WideMaps
set_option linter.unusedVariables false
set_option linter.unusedSimpArgs false
section
variable (w : World)
set_option maxRecDepth 100000 in
set_option maxHeartbeats 8000000 in
theorem types_any (T : List Scx) (v : Value) (h : There RSc 2 w v T) : Calls Try.prog 17 #[v] w (Ret (.int .i64 (typesE T)) w) := by
  obtain ⟨R, hR⟩ : ∃ e, typesE T = e := ⟨_, rfl⟩
  have HR := hide (show (if 16 < T.length then 5 else allE T []) = R from hR)
  rw [hR]
  clear hR
  have HT := hide h
  obtain ⟨A, cap, rfl⟩ := h.form
  have hm := h.len
  unfold maxLen at hm
  obtain ⟨m, hmm⟩ : ∃ m, T.length = m := ⟨_, rfl⟩
  have HM := hide hmm
  rw [hmm] at HT HR hm ⊢
  have hmk := @run_makeMap Try.prog
  clear h hmm
  by_cases h8 : 16 < m
  · have t8 : decide ((16 : Int) < (m : Int)) = true := decide_eq_true (by omega)
    have t8' : decide (16 < m) = true := decide_eq_true h8
    have HQ := hide (show (5 : Int) = R by rw [← HR.out, if_pos h8])
    clear HR
    go_enter Try.func17, Try.ntmps17
    go_wp2
    go_ret
    exact Ret.int HQ.out (Below.refl _ _)
  · have t8 : decide ((16 : Int) < (m : Int)) = false := decide_eq_false (by omega)
    have t8' : decide (16 < m) = false := decide_eq_false h8
    have HQ := hide (show allE T [] = R by rw [← HR.out, if_neg h8])
    clear HR
    go_enter Try.func17, Try.ntmps17
    go_wp2_with fail
    have HS := hide (Seen.made w)
    have HB := hide (below_laid (w := w) (.map #[] 0))
    have hz1 : w.heap.size < (w.alloc (.map #[] 0)).heap.size := by simp
    obtain ⟨w0, hw0⟩ : ∃ w0, (w.alloc (.map #[] 0)) = w0 := ⟨_, rfl⟩
    rw [hw0] at HS HB hz1 ⊢
    clear hw0 hmk
    go_loopw [13] (fun i wr => ∃ (j : Nat) (L : List Nm), j ≤ m ∧ i = .int .i64 j ∧ Hid (Seen wr w.heap.size L ∧ L.length = j) ∧ Hid (allE (T.drop j) L = R) ∧ Hid (Below w.heap.size w0 wr)) (fun i _ => m - (intOf i).toNat)
    case atStart => exact ⟨0, [], Nat.zero_le _, rfl, hide ⟨HS.out, rfl⟩, hide HQ.out, hide (Below.refl _ _)⟩
    case round =>
      obtain ⟨j, L, hj, rfl, HSe, HE, HW⟩ := hrel
      clear HS HQ
      have HBR := hide (HB.out.trans HW.out)
      by_cases hlt : j < m
      · have hja : j < T.length := by rw [HM.out]; exact hlt
        replace HE := hide ((allE_drop hja).symm.trans HE.out)
        obtain ⟨g, off, ys, e2, hg, hyl, hc, ⟨u, rfl, hns, hl⟩⟩ := Lst.at_ HT.out hja
        subst e2
        have hgw : g < w.heap.size := hg
        have k0 := keep1 HBR.out (hc 0 _ rfl)
        have k1 := keep1 HBR.out (hc 1 _ rfl)
        rw [Nat.add_zero] at k0
        have HL := hide (show There RFd 2 wr u (T[j]).fields from (show There RFd 2 w u (T[j]).fields from hl).keep rd_Fd HBR.out)
        obtain ⟨f, hf⟩ : ∃ f, T[j] = f := ⟨_, rfl⟩
        rw [hf] at k0 hns HE HL
        clear hf hc hyl hg hl
        obtain ⟨A3, cap3, rfl⟩ := HL.out.form
        obtain ⟨n3, hn3⟩ : ∃ n, f.fields.length = n := ⟨_, rfl⟩
        rw [hn3] at k1 HL
        have hu0 : (0 : Int) ≤ (j : Int) := by omega
        have hu1 : (j : Int) < (m : Int) := by omega
        have hba := below_laid (w := wr) (.cells #[.string f.name, .slice A3 n3 cap3] 92)
        have HCK := hide (fun w' hb' => sch_any w' f (.slice A3 n3 cap3) hns (HL.out.keep rd_Fd hb'))
        obtain ⟨E, hE⟩ : ∃ e, schE f = e := ⟨_, rfl⟩
        rw [hE] at HCK HE
        have HSa := hide (HSe.out.1.keep hba)
        have HLJ := hide HSe.out.2
        have HBa := hide (bthen HBR.out hba)
        have hzw := HW.out.size
        have HWa := hide (HW.out.trans (hba.mono (by omega)))
        have HX9 := hide (Bxs.new wr [.string f.name, .slice A3 n3 cap3] 92)
        have HHB := hide hba
        clear hE hba HSe HW hn3
        go_wp2_with fail
        refine (HCK.out _ HHB.out).mono ?_
        rintro e w1 ⟨rfl, hb1⟩
        replace HX9 := hide (HX9.out.keep hb1)
        replace HSa := hide (HSa.out.keep hb1)
        replace HBa := hide (bthen HBa.out hb1)
        replace HWa := hide (HWa.out.trans (hb1.mono (by simp; omega)))
        have hz9 : w.heap.size ≤ w1.heap.size := HBa.out.size
        clear hb1 HHB HCK k0 k1
        have c0 := HX9.out 0 _ rfl
        by_cases hE0 : E = 0
        · have tE : (E != 0) = false := by rw [bne_eq_false_iff_eq]; exact hE0
          by_cases hin : nmOf f.name ∈ L
          · have HQ := hide (show (7 : Int) = R by
              have h9 := HE.out
              rw [if_neg (by simpa using hE0), if_pos hin] at h9
              exact h9)
            have HIN := hide (show decide (f.name.data.toList ∈ L) = true from decide_eq_true hin)
            clear HE hin hE0
            go_wp2_with (at_lookup; refine wpList_look_set rfl (.tmp 22) (.tmp 24) (by rfl) w.heap.size L f.name (by rfl) (by rfl) HSa.out hns ?_; rw [HIN.out])
            go_ret
            exact Ret.int HQ.out HBa.out
          · have HIN := hide (show decide (f.name.data.toList ∈ L) = false from decide_eq_false hin)
            have HQ := hide (show allE (T.drop (j + 1)) (nmOf f.name :: L) = R by
              have h9 := HE.out
              rw [if_neg (by simpa using hE0), if_neg hin] at h9
              exact h9)
            clear HE hin hE0
            go_wp2_with (first
              | (at_lookup; refine wpList_look_set rfl (.tmp 22) (.tmp 24) (by rfl) w.heap.size L f.name (by rfl) (by rfl) HSa.out hns ?_; rw [HIN.out])
              | (at_mapUpdate; refine wpList_put_set rfl (.tmp 26) (.tmp 28) _ (by rfl) w.heap.size L f.name (by rfl) (by rfl) (by rfl) HSa.out hns (by have := HLJ.out; omega) w.heap.size (Nat.le_refl _) hz9 ?_; intro w9 hS9 hg9 hb9))
            go_roundw
            case rel => exact ⟨j + 1, nmOf f.name :: L, by omega, by go_num, hide ⟨hS9, by simp [HLJ.out]⟩, HQ, hide (HWa.out.trans hb9)⟩
            case measure => simp [intOf]; omega
        · have tE : (E != 0) = true := by rw [bne_iff_ne]; exact hE0
          have HQ := hide (show E = R by rw [← HE.out, if_pos hE0])
          clear HE hE0
          go_wp2
          go_ret
          exact Ret.int HQ.out HBa.out
      · obtain rfl : j = m := by omega
        have hta : T.drop j = [] := List.drop_of_length_le (by rw [HM.out]; exact Nat.le_refl _)
        have HQ := hide (show (0 : Int) = R by rw [← HE.out, hta]; rfl)
        clear hta HE
        go_wp2
        go_ret
        exact Ret.int HQ.out HBR.out
def varsOk (T : List Scx) (V : List Vrx) : Bool := V.all fun x => decide (0 ≤ x.typ) && decide (x.typ < (T.length : Int))
def kindE (T : List Scx) (V : List Vrx) (t : Tr) : Int × Int :=
  if typesE T ≠ 0 then (0, typesE T) else if 16 < V.length then (0, 5) else if varsOk T V = false then (0, 6) else if checkE t ≠ 0 then (0, checkE t) else kindT (leafK T V) t
theorem vars_snoc {T : List Scx} {V : List Vrx} {j : Nat} (h : j < V.length) (ht : varsOk T (V.take j) = true) (h0 : 0 ≤ V[j].typ) (h1 : V[j].typ < (T.length : Int)) : varsOk T (V.take (j + 1)) = true := by
  unfold varsOk at ht ⊢
  rw [List.take_succ_eq_append_getElem h, List.all_append, ht]
  simp [h0, h1]
theorem vars_bad {T : List Scx} {V : List Vrx} {j : Nat} (h : j < V.length) (hb : V[j].typ < 0 ∨ (T.length : Int) ≤ V[j].typ) : varsOk T V = false := by
  unfold varsOk
  rw [List.all_eq_false]
  refine ⟨V[j], List.getElem_mem h, ?_⟩
  simp
  omega
theorem vars_all {T : List Scx} {V : List Vrx} (h : varsOk T V = true) : ∀ x ∈ V, 0 ≤ x.typ ∧ x.typ < T.length := by
  intro x hx
  have := List.all_eq_true.1 h x hx
  simpa using this
set_option maxRecDepth 100000 in
set_option maxHeartbeats 8000000 in
theorem xKind_any (T : List Scx) (V : List Vrx) (t : Tr) (hn : nodesT t ≤ 1000) (v1 v2 : Value) (xs : List Value) (h1 : There RSc 2 w v1 T) (h2 : There RVr 2 w v2 V) (h : Tx w xs t) :
    Calls Try.prog 7 #[v1, v2, .agg xs.toArray] w (Ret (.tuple #[.int .i64 (kindE T V t).1, .int .i64 (kindE T V t).2]) w) := by
  obtain ⟨R, hR⟩ : ∃ e, kindE T V t = e := ⟨_, rfl⟩
  have HR := hide (show (if typesE T ≠ 0 then (0, typesE T) else if 16 < V.length then (0, 5) else if varsOk T V = false then (0, 6) else if checkE t ≠ 0 then (0, checkE t) else kindT (leafK T V) t) = R from hR)
  rw [hR]
  clear hR
  have H1 := hide h1
  have H2 := hide h2
  have HX := hide h
  have HCA := hide (fun w' h' => types_any w' T v1 h')
  have HCK := hide (fun w' h' => xcheck_any t w' xs h' hn)
  have HKD := hide (fun (hg : GoodT t) hr w' h1 h2 h3 => xkind_any T V hr t hg.ok w' v1 v2 xs h1 h2 h3)
  have HG := hide (@check_good t)
  obtain ⟨ET, hET⟩ : ∃ e, typesE T = e := ⟨_, rfl⟩
  rw [hET] at HR HCA
  obtain ⟨A1, cap1, rfl⟩ := h1.form
  obtain ⟨A2, cap2, rfl⟩ := h2.form
  obtain ⟨m1, hm1⟩ : ∃ k, T.length = k := ⟨_, rfl⟩
  obtain ⟨m2, hm2⟩ : ∃ k, V.length = k := ⟨_, rfl⟩
  have hl1 := h1.len
  have hl2 := h2.len
  unfold maxLen at hl1 hl2
  have HM1 := hide hm1
  have HM2 := hide hm2
  obtain ⟨CE, hCE⟩ : ∃ c, checkE t = c := ⟨_, rfl⟩
  obtain ⟨KT, hKT⟩ : ∃ c, kindT (leafK T V) t = c := ⟨_, rfl⟩
  rw [hCE] at HCK HG HR
  rw [hKT] at HKD HR
  rw [hm1] at H1 HCA HKD hl1 ⊢
  rw [hm2] at H2 HR HKD hl2 ⊢
  obtain ⟨d, args⟩ := t
  obtain ⟨v0, rfl, hl, hd⟩ := RTx.out h
  obtain ⟨A, cap, rfl⟩ := hl.form
  obtain ⟨m, hmm⟩ : ∃ m, args.length = m := ⟨_, rfl⟩
  rw [hmm] at HX HCK HKD ⊢
  have hB := below_laid (w := w) (.cells ([.int .i64 d.op, .slice A m cap, .int .i64 d.var, .int .i64 d.field, .int .i64 d.kind, .int .i64 d.val.q, .int .i64 d.val.n, .string d.val.s]).toArray 30)
  have HB := hide hB
  have HBX := hide (Bxs.new w ([.int .i64 d.op, .slice A m cap, .int .i64 d.var, .int .i64 d.field, .int .i64 d.kind, .int .i64 d.val.q, .int .i64 d.val.n, .string d.val.s]) 30)
  clear h h1 h2 hl hd hmm hm1 hm2 hET hCE hKT hn hB
  go_enter Try.func7, Try.ntmps7
  go_wp2_with fail
  refine (HCA.out _ (H1.out.keep rd_Sc HB.out)).mono ?_
  rintro e w1 ⟨rfl, hb⟩
  replace HBX := hide (HBX.out.keep hb)
  replace HB := hide (bthen HB.out hb)
  clear hb HCA
  by_cases hE0 : ET = 0
  · have tE : (ET != 0) = false := by rw [bne_eq_false_iff_eq]; exact hE0
    replace HR := hide (show (if 16 < m2 then (0, 5) else if varsOk T V = false then (0, 6) else if CE ≠ 0 then (0, CE) else KT) = R by
      have h9 := HR.out
      rw [if_neg (by simpa using hE0)] at h9
      exact h9)
    by_cases h8 : 16 < m2
    · have t8 : decide ((16 : Int) < (m2 : Int)) = true := decide_eq_true (by omega)
      have t8' : decide (16 < m2) = true := decide_eq_true h8
      have HQ := hide (show (0, 5) = R by rw [← HR.out, if_pos h8])
      clear HR hE0 h8
      go_wp2
      go_ret2
      exact Ret.mk (by rw [← HQ.out]; first | done | rfl) HB.out
    · have t8 : decide ((16 : Int) < (m2 : Int)) = false := decide_eq_false (by omega)
      have t8' : decide (16 < m2) = false := decide_eq_false h8
      replace HR := hide (show (if varsOk T V = false then (0, 6) else if CE ≠ 0 then (0, CE) else KT) = R by
        have h9 := HR.out
        rw [if_neg h8] at h9
        exact h9)
      clear hE0
      go_wp2_with fail
      go_loopw [22] (fun i wr => ∃ (j : Nat), j ≤ m2 ∧ i = .int .i64 j ∧ Hid (varsOk T (V.take j) = true) ∧ Hid (Below w1.heap.size w1 wr)) (fun i _ => m2 - (intOf i).toNat)
      case atStart => exact ⟨0, Nat.zero_le _, rfl, hide rfl, hide (Below.refl _ _)⟩
      case round =>
        obtain ⟨j, hj, rfl, HV, HW⟩ := hrel
        have HBR := hide (bthen HB.out HW.out)
        by_cases hlt : j < m2
        · have hja : j < V.length := by rw [HM2.out]; exact hlt
          obtain ⟨g, off, ys, e2, hg, hyl, hc, rfl⟩ := Lst.at_ H2.out hja
          subst e2
          have hgw : g < w.heap.size := hg
          have k0 := keep1 HBR.out (hc 0 _ rfl)
          have k1 := keep1 HBR.out (hc 1 _ rfl)
          rw [Nat.add_zero] at k0
          have HVS := hide (fun h0 h1 => vars_snoc (T := T) hja HV.out h0 h1)
          have HVB := hide (fun h => vars_bad (T := T) hja h)
          rw [HM1.out] at HVS HVB
          obtain ⟨f, hf⟩ : ∃ f, V[j] = f := ⟨_, rfl⟩
          rw [hf] at HVS HVB k0 k1
          obtain ⟨fn, ft⟩ := f
          simp only at HVS HVB k0 k1
          have hu0 : (0 : Int) ≤ (j : Int) := by omega
          have hu1 : (j : Int) < (m2 : Int) := by omega
          have hba := below_laid (w := wr) (.cells #[.string fn, .int .i64 ft] 65)
          have HBa := hide (bthen HBR.out hba)
          have HWa := hide (bthen HW.out hba)
          have hx9 := cells_lit wr [.string fn, .int .i64 ft] 65
          have c0 := hx9 0 _ rfl
          have c1 := hx9 1 _ rfl
          clear hf hc hyl hg hba hx9 HV HW
          by_cases h0 : ft < 0
          · have t1 : decide (ft < 0) = true := decide_eq_true h0
            have HQ := hide (show (0, 6) = R by rw [← HR.out, if_pos (HVB.out (.inl h0))])
            clear h0 HVS HVB HR
            go_wp2
            go_ret2
            exact Ret.mk (by rw [← HQ.out]; first | done | rfl) HBa.out
          · have t1 : decide (ft < 0) = false := decide_eq_false h0
            by_cases h3 : (m1 : Int) ≤ ft
            · have t3 : decide ((m1 : Int) ≤ ft) = true := decide_eq_true h3
              have HQ := hide (show (0, 6) = R by rw [← HR.out, if_pos (HVB.out (.inr h3))])
              clear h0 h3 HVS HVB HR
              go_wp2
              go_ret2
              exact Ret.mk (by rw [← HQ.out]; first | done | rfl) HBa.out
            · have t3 : decide ((m1 : Int) ≤ ft) = false := decide_eq_false h3
              have HVN := hide (HVS.out (by omega) (by omega))
              clear h0 h3 HVS HVB
              go_wp2
              go_roundw
              case rel => exact ⟨j + 1, by omega, by go_num, HVN, HWa⟩
              case measure => simp [intOf]; omega
        · obtain rfl : j = m2 := by omega
          have hta : V.take j = V := List.take_of_length_le (by rw [HM2.out]; exact Nat.le_refl _)
          have HVA := hide (show varsOk T V = true by rw [← hta]; exact HV.out)
          replace HR := hide (show (if CE ≠ 0 then (0, CE) else KT) = R by
            have h9 := HR.out
            rw [if_neg (by rw [HVA.out]; simp)] at h9
            exact h9)
          replace HKD := hide (fun hg => HKD.out hg (by have := vars_all HVA.out; rw [HM1.out] at this; exact this))
          replace HBX := hide (HBX.out.keep HW.out)
          replace H1 := hide (H1.out.keep rd_Sc HBR.out)
          replace H2 := hide (H2.out.keep rd_Vr HBR.out)
          replace HX := hide (HX.out.grow HBR.out)
          clear hta HV HW HVA HB
          have a0 := HBX.out 0 _ rfl
          have a1 := HBX.out 1 _ rfl
          have a2 := HBX.out 2 _ rfl
          have a3 := HBX.out 3 _ rfl
          have a4 := HBX.out 4 _ rfl
          have a5 := HBX.out 5 _ rfl
          have a6 := HBX.out 6 _ rfl
          have a7 := HBX.out 7 _ rfl
          go_wp2_with fail
          refine (HCK.out _ HX.out).mono ?_
          rintro e w3 ⟨rfl, hb⟩
          replace HBX := hide (HBX.out.keep hb)
          replace H1 := hide (H1.out.keep rd_Sc hb)
          replace H2 := hide (H2.out.keep rd_Vr hb)
          replace HX := hide (HX.out.grow hb)
          have HBF := hide (bthen HBR.out hb)
          clear hb HCK a0 a1 a2 a3 a4 a5 a6 a7 HBR
          by_cases hC0 : CE = 0
          · have tC : (CE != 0) = false := by rw [bne_eq_false_iff_eq]; exact hC0
            have HQ := hide (show KT = R by rw [← HR.out, if_neg (by simpa using hC0)])
            have HKK := hide (HKD.out (HG.out.1 hC0) _ H1.out H2.out HX.out)
            clear HKD HG HR hC0
            have a0 := HBX.out 0 _ rfl
            have a1 := HBX.out 1 _ rfl
            have a2 := HBX.out 2 _ rfl
            have a3 := HBX.out 3 _ rfl
            have a4 := HBX.out 4 _ rfl
            have a5 := HBX.out 5 _ rfl
            have a6 := HBX.out 6 _ rfl
            have a7 := HBX.out 7 _ rfl
            go_wp2_with fail
            refine HKK.out.mono ?_
            rintro e w4 ⟨rfl, hb⟩
            replace HBF := hide (bthen HBF.out hb)
            clear hb a0 a1 a2 a3 a4 a5 a6 a7
            go_wp2
            go_ret2
            exact Ret.mk (by rw [← HQ.out]; first | done | rfl) HBF.out
          · have tC : (CE != 0) = true := by rw [bne_iff_ne]; exact hC0
            have HQ := hide (show (0, CE) = R by rw [← HR.out, if_pos hC0])
            clear HKD HG HR hC0
            go_wp2
            go_ret2
            exact Ret.mk (by rw [← HQ.out]; first | done | rfl) HBF.out
  · have tE : (ET != 0) = true := by rw [bne_iff_ne]; exact hE0
    have HQ := hide (show (0, ET) = R by rw [← HR.out, if_pos hE0])
    clear HR hE0
    go_wp2
    go_ret2
    exact Ret.mk (by rw [← HQ.out]; first | done | rfl) HB.out
end
end Go.Proofs.Ytkcbjnhphekadaa
