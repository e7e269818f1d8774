/- schema.CheckAll: written by genSch.py. The event types of the play; event: numbers, valid, Check. event: Check, Key. -/
import Derived.Test.YtppaiihcaajkaaaGreatKBaseM
import Derived.Maps.Views
import Derived.Maps.OwnSet
import Derived.StringKeys
import Derived.Laws.EntriesVeiled
import Derived.Deep.RegionHeld3
import Derived.Test.YtppaiihcaajkaaaGreatKSeqM
import Derived.Test.YtppaiihcaajkaaaGreatValue
import Derived.Deep.RegionLaw
import Derived.Deep.CutRange
import Derived.Test.YtppaiihcaajkaaaGreatKRcvM
namespace Go.Proofs.YtppaiihcaajkaaaGreat
open Go.RowKit Go.Maps Go.ChangeMaps Go.MapKept Go.WideMaps
set_option linter.unusedVariables false
set_option linter.unusedSimpArgs false
def There {α : Type} (R : World → (Nat → Prop) → List Value → α → Prop) (sz : Nat) (w : World) (v : Value) (l : List α) : Prop := Lst w (· < w.heap.size) sz R v l
theorem There.keep {α : Type} {R : World → (Nat → Prop) → List Value → α → Prop} (hR : Rd R) {sz : Nat} {w w' : World} {v : Value} {l : List α} (h : There R sz w v l) (hb : Below w.heap.size w w') : There R sz w' v l :=
  (Lst.keep hR (Kp.of_below hb) h).more hR fun _ hz => Nat.lt_of_lt_of_le hz hb.size
theorem There.nil {α : Type} {R : World → (Nat → Prop) → List Value → α → Prop} {sz : Nat} {w : World} : There R sz w (.slice none 0 0) [] := Lst.nil
def Bxs (w : World) (F : Nat) (xs : List Value) : Prop := ∀ c u, xs[c]? = some u → w.cell? ⟨F, c, none⟩ = some u
theorem Bxs.keep {w w' : World} {F : Nat} {xs : List Value} (h : Bxs w F xs) (hb : Below w.heap.size w w') : Bxs w' F xs := fun c u hu => keep1 hb (h c u hu)
theorem Bxs.new (w : World) (xs : List Value) (t : TypeId) : Bxs (w.alloc (.cells xs.toArray t)) w.heap.size xs := cells_lit w xs t
structure Fdx where
  name : ByteArray
  kind : Int
structure Scx where
  name : ByteArray
  fields : List Fdx
structure Vrx where
  name : ByteArray
  typ : Int
instance : Inhabited Fdx := ⟨⟨⟨#[]⟩, 0⟩⟩
instance : Inhabited Scx := ⟨⟨⟨#[]⟩, []⟩⟩
instance : Inhabited Vrx := ⟨⟨⟨#[]⟩, 0⟩⟩
def RFd (_ : World) (_ : Nat → Prop) (xs : List Value) (f : Fdx) : Prop := xs = [.string f.name, .int .i64 f.kind] ∧ f.name.size ≤ maxLen
theorem rd_Fd : Rd RFd := ⟨fun _ h => h, fun _ h => h⟩
def RSc (w : World) (Z : Nat → Prop) (xs : List Value) (s : Scx) : Prop := ∃ v, xs = [.string s.name, v] ∧ s.name.size ≤ maxLen ∧ Lst w Z 2 RFd v s.fields
theorem rd_Sc : Rd RSc := ⟨fun hk ⟨v, e, hs, h⟩ => ⟨v, e, hs, h.keep rd_Fd hk⟩, fun hs ⟨v, e, h1, h⟩ => ⟨v, e, h1, h.more rd_Fd hs⟩⟩
def letB (c : Int) : Bool := decide (c = 95) || (decide (97 ≤ c) && decide (c ≤ 122)) || (decide (65 ≤ c) && decide (c ≤ 90))
def digB (c : Int) : Bool := decide (48 ≤ c) && decide (c ≤ 57)
def nameB (s : ByteArray) : Bool := decide (0 < s.size) && decide (s.size ≤ 24) && !digB ((s.data.toList.getD 0 0).toNat : Int) && s.data.toList.all fun c => letB (c.toNat : Int) || digB (c.toNat : Int)
def fldB (s : ByteArray) : Bool := nameB s && !decide (s.toList = [116, 105, 109, 101])
section
variable (w : World)
set_option maxHeartbeats 2000000 in
theorem dig_any (c : Int) : Calls Tryz.prog 80 #[.int .u8 c] w (fun e w' => e = .returned (.bool (digB c)) ∧ w = w') := by
  cases t1 : decide (48 ≤ c) <;> cases t2 : decide (c ≤ 57)
  all_goals
    have hv : digB c = (decide (48 ≤ c) && decide (c ≤ 57)) := rfl
    rw [t1, t2] at hv
    rw [hv]
    clear hv
    go_enter Tryz.func80, Tryz.ntmps80
    go_wp2
    go_ret
    exact ⟨rfl, rfl⟩
set_option maxHeartbeats 4000000 in
theorem let_any (c : Int) : Calls Tryz.prog 81 #[.int .u8 c] w (fun e w' => e = .returned (.bool (letB c)) ∧ w = w') := by
  have hb : (c == 95) = decide (c = 95) := by by_cases h : c = 95 <;> simp [h]
  cases t0 : decide (c = 95) <;> cases t1 : decide (97 ≤ c) <;> cases t2 : decide (c ≤ 122) <;> cases t3 : decide (65 ≤ c) <;> cases t4 : decide (c ≤ 90)
  all_goals
    rw [t0] at hb
    have hv : letB c = (decide (c = 95) || (decide (97 ≤ c) && decide (c ≤ 122)) || (decide (65 ≤ c) && decide (c ≤ 90))) := rfl
    rw [t0, t1, t2, t3, t4] at hv
    rw [hv]
    clear hv t0
    go_enter Tryz.func81, Tryz.ntmps81
    go_wp2
    go_ret
    exact ⟨rfl, rfl⟩
theorem name_all {s : ByteArray} {j : Nat} {f : UInt8 → Bool} (h : j < s.size) (ht : (s.data.toList.take j).all f = true) (hf : f s[j] = true) : (s.data.toList.take (j + 1)).all f = true := by
  rw [List.take_succ_eq_append_getElem (by simpa using h), List.all_append, ht]
  have e : s.data.toList[j]'(by simpa using h) = s[j] := rfl
  rw [e]
  simp only [List.all_cons, hf, List.all_nil, Bool.and_true]
theorem name_bad {s : ByteArray} {j : Nat} {f : UInt8 → Bool} (h : j < s.size) (hf : f s[j] = false) : s.data.toList.all f = false := by
  rw [List.all_eq_false]
  exact ⟨s[j], by have := List.getElem_mem (l := s.data.toList) (n := j) (by simpa using h); exact this, by simp [hf]⟩
set_option maxHeartbeats 4000000 in
theorem name_any (s : ByteArray) (hs : s.size ≤ maxLen) : Calls Tryz.prog 65 #[.string s] w (fun e w' => e = .returned (.bool (nameB s)) ∧ w = w') := by
  unfold maxLen at hs
  obtain ⟨R, hR⟩ : ∃ b, nameB s = b := ⟨_, rfl⟩
  have HR := hide (show (decide (0 < s.size) && decide (s.size ≤ 24) && !digB ((s.data.toList.getD 0 0).toNat : Int) && s.data.toList.all fun c => letB (c.toNat : Int) || digB (c.toNat : Int)) = R from hR)
  rw [hR]
  clear hR
  by_cases h0 : 0 < s.size
  · have t0 : ((s.size : Int) == 0) = false := by rw [beq_eq_false_iff_ne]; omega
    have t0' : (s.size == 0) = false := by rw [beq_eq_false_iff_ne]; omega
    by_cases h1 : s.size ≤ 24
    · have t1 : decide ((24 : Int) < (s.size : Int)) = false := decide_eq_false (by omega)
      have t1' : decide (24 < s.size) = false := decide_eq_false (by omega)
      have hg : s.data.toList.getD 0 0 = s[0] := by
        rw [List.getD_eq_getElem?_getD, List.getElem?_eq_getElem (by simpa using h0)]; rfl
      have HQ := hide (show (!digB (s[0].toNat : Int) && s.data.toList.all fun c => letB (c.toNat : Int) || digB (c.toNat : Int)) = R by
        have := HR.out
        rw [decide_eq_true h0, decide_eq_true h1, hg, Bool.true_and, Bool.true_and] at this
        exact this)
      have HD := hide (fun w => dig_any w (s[0].toNat : Int))
      obtain ⟨d0, hd0⟩ : ∃ b, digB (s[0].toNat : Int) = b := ⟨_, rfl⟩
      rw [hd0] at HQ HD
      clear hg HR hd0
      cases d0
      · have HQ2 := hide (show (s.data.toList.all fun c => letB (c.toNat : Int) || digB (c.toNat : Int)) = R from HQ.out)
        clear HQ
        go_enter Tryz.func65, Tryz.ntmps65
        go_wp2_with fail
        refine (HD.out _).mono ?_
        rintro e w1 ⟨rfl, rfl⟩
        clear HD
        go_wp2_with fail
        go_loop [19] (fun i => ∃ j : Nat, j ≤ s.size ∧ i = .int .i64 j ∧ Hid ((s.data.toList.take j).all (fun c => letB (c.toNat : Int) || digB (c.toNat : Int)) = true)) (fun i => s.size - (intOf i).toNat)
        case atStart => exact ⟨0, Nat.zero_le _, rfl, hide rfl⟩
        case round =>
          obtain ⟨j, hj, rfl, HT⟩ := hrel
          by_cases hlt : j < s.size
          · have HA := hide (fun h => name_all hlt HT.out h)
            have HB := hide (fun h => HQ2.out.symm.trans (name_bad (f := fun c => letB (c.toNat : Int) || digB (c.toNat : Int)) hlt h))
            have HL := hide (fun w => let_any w (s[j].toNat : Int))
            have HD := hide (fun w => dig_any w (s[j].toNat : Int))
            obtain ⟨l, hl⟩ : ∃ b, letB (s[j].toNat : Int) = b := ⟨_, rfl⟩
            obtain ⟨d, hd⟩ : ∃ b, digB (s[j].toNat : Int) = b := ⟨_, rfl⟩
            simp only [hl, hd] at HA HB HL HD
            clear HT hl hd
            cases l
            · cases d
              · have HR := hide (HB.out rfl)
                clear HA HB
                go_wp2_with fail
                refine (HL.out _).mono ?_
                rintro e w1 ⟨rfl, rfl⟩
                go_wp2_with fail
                refine (HD.out _).mono ?_
                rintro e w1 ⟨rfl, rfl⟩
                go_wp2
                go_ret
                exact ⟨by rw [HR.out]; first | done | rfl, rfl⟩
              · have HR := hide (HA.out rfl)
                clear HA HB
                go_wp2_with fail
                refine (HL.out _).mono ?_
                rintro e w1 ⟨rfl, rfl⟩
                go_wp2_with fail
                refine (HD.out _).mono ?_
                rintro e w1 ⟨rfl, rfl⟩
                go_wp2
                go_round
                case rel => exact ⟨j + 1, by omega, by go_num, HR⟩
                case measure => simp [intOf]; omega
            · have HR := hide (HA.out rfl)
              clear HA HB
              go_wp2_with fail
              refine (HL.out _).mono ?_
              rintro e w1 ⟨rfl, rfl⟩
              go_wp2
              go_round
              case rel => exact ⟨j + 1, by omega, by go_num, HR⟩
              case measure => simp [intOf]; omega
          · obtain rfl : j = s.size := by omega
            have hta : s.data.toList.take s.size = s.data.toList := List.take_of_length_le (by simp)
            have HR := hide (show true = R by rw [← HQ2.out, ← hta]; exact HT.out.symm)
            clear hta HT
            go_wp2
            go_ret
            exact ⟨by rw [HR.out]; first | done | rfl, rfl⟩
      · have HQ2 := hide (show false = R from HQ.out)
        clear HQ
        go_enter Tryz.func65, Tryz.ntmps65
        go_wp2_with fail
        refine (HD.out _).mono ?_
        rintro e w1 ⟨rfl, rfl⟩
        go_wp2
        go_ret
        exact ⟨by rw [HQ2.out]; first | done | rfl, rfl⟩
    · have t1 : decide ((24 : Int) < (s.size : Int)) = true := decide_eq_true (by omega)
      have t1' : decide (24 < s.size) = true := decide_eq_true (by omega)
      have HQ := hide (show false = R by rw [← HR.out, decide_eq_false h1]; simp)
      clear HR
      go_enter Tryz.func65, Tryz.ntmps65
      go_wp2
      go_ret
      exact ⟨by rw [HQ.out]; first | done | rfl, rfl⟩
  · have t0 : ((s.size : Int) == 0) = true := by rw [beq_iff_eq]; omega
    have t0' : (s.size == 0) = true := by rw [beq_iff_eq]; omega
    have HQ := hide (show false = R by rw [← HR.out, decide_eq_false h0]; simp)
    clear HR
    go_enter Tryz.func65, Tryz.ntmps65
    go_wp2
    go_ret
    exact ⟨by rw [HQ.out]; first | done | rfl, rfl⟩
set_option maxHeartbeats 2000000 in
theorem fld_any (s : ByteArray) (hs : s.size ≤ maxLen) : Calls Tryz.prog 66 #[.string s] w (fun e w' => e = .returned (.bool (fldB s)) ∧ w = w') := by
  have HN := hide (fun w => name_any w s hs)
  obtain ⟨R, hR⟩ : ∃ b, fldB s = b := ⟨_, rfl⟩
  have HR := hide (show (nameB s && !decide (s.toList = [116, 105, 109, 101])) = R from hR)
  rw [hR]
  obtain ⟨b, hb⟩ : ∃ b, nameB s = b := ⟨_, rfl⟩
  rw [hb] at HN HR
  clear hR hb hs
  cases b
  · have HQ := hide (show false = R from HR.out)
    go_enter Tryz.func66, Tryz.ntmps66
    go_wp2_with fail
    refine (HN.out _).mono ?_
    rintro e w1 ⟨rfl, rfl⟩
    go_wp2
    go_ret
    exact ⟨by rw [HQ.out]; first | done | rfl, rfl⟩
  · by_cases ht : s.toList = [116, 105, 109, 101]
    · have HQ := hide (show false = R by rw [← HR.out, decide_eq_true ht]; rfl)
      have t1 : (s.toList == [116, 105, 109, 101]) = true := by rw [beq_iff_eq]; exact ht
      clear HR
      go_enter Tryz.func66, Tryz.ntmps66
      go_wp2_with fail
      refine (HN.out _).mono ?_
      rintro e w1 ⟨rfl, rfl⟩
      go_wp2
      go_ret
      exact ⟨by rw [HQ.out]; first | done | rfl, rfl⟩
    · have HQ := hide (show true = R by rw [← HR.out, decide_eq_false ht]; rfl)
      have t1 : (s.toList == [116, 105, 109, 101]) = false := by rw [beq_eq_false_iff_ne]; exact ht
      clear HR
      go_enter Tryz.func66, Tryz.ntmps66
      go_wp2_with fail
      refine (HN.out _).mono ?_
      rintro e w1 ⟨rfl, rfl⟩
      go_wp2
      go_ret
      exact ⟨by rw [HQ.out]; first | done | rfl, rfl⟩
end
def heldE (v : Value) : Option (DataW Value × List MemPlace) := some (.held v, [])
abbrev Nm := List UInt8
/-- The map b holds the names L. -/
def Seen (w : World) (b : Nat) (L : List Nm) : Prop := ∃ n D, w.ownsMap Tryz.prog 9 heldE b n D ∧ n ≤ L.length ∧ Maps.IsMap D ∧ ∀ (s : Nm) (z : DataW Value), D.atKey (.string s) z = if s ∈ L then .held (.bool true) else z
theorem str_key : Keyed Tryz.prog 9 := string_keyed Tryz.underlying9
theorem Seen.keep {w w' : World} {b : Nat} {L : List Nm} (h : Seen w b L) (hb : Below w.heap.size w w') : Seen w' b L := by
  obtain ⟨n, D, hown, hn, hm, ha⟩ := h
  exact ⟨n, D, hown.kept (row := none) ⟨hb.os, hb.tape, hb.output, hb.size, fun k hk _ => hb.block k hk⟩ (by simp), hn, hm, ha⟩
theorem Seen.made (w : World) : Seen (w.alloc (.map #[] 0)) w.heap.size [] :=
  ⟨0, _, World.ownsMap_made w Tryz.prog 9 heldE, Nat.le_refl _, ⟨_, rfl⟩, fun s z => by simp [WideAt.atKey_none]⟩
section
variable {ops : Array Oper} {rest : List Oper} {o : Oper} {a : Act} {Q : Exit → Act → World → Prop} {w : World}
theorem wpList_look_set (hg : o.guard = none) (m x : Operand) (hop : o.op = Op.lookup 119 m x false) (b : Nat) (L : List Nm) (s : ByteArray) (hm : a.eval m = .map (some b)) (hx : a.eval x = .string s) (hS : Seen w b L) (hs : s.size ≤ maxLen)
    (hK : wpList Tryz.prog ops Q rest (a.put o.dst (.bool (decide (s.data.toList ∈ L)))) w) : wpList Tryz.prog ops Q (o :: rest) a w := by
  refine wpList_plain hg fun K' hK' => ?_
  obtain ⟨n, D, hown, hn, hmp, ha⟩ := hS
  have hz : (zeroValue 4).run Tryz.prog w = .ok (.bool false) w := by kernel_rfl
  obtain ⟨v, ps, hrun, hv⟩ := hown.lookup str_key Tryz.underlying119 hz (zd := .held (.bool false)) (zp := []) rfl (keyOf_string_mk Tryz.underlying9 hs)
  have he : DataW.held v = _ := (Prod.mk.inj (Option.some.inj hv)).1
  rw [ha] at he
  have hve : v = .bool (decide (s.data.toList ∈ L)) := by
    by_cases h : s.data.toList ∈ L
    · rw [if_pos h] at he; rw [decide_eq_true h]; exact DataW.held.inj he
    · rw [if_neg h] at he; rw [decide_eq_false h]; exact DataW.held.inj he
  unfold Oper.wp
  simp [execOp, hop, hm, hx, hrun, Result.andThen]
  rw [hve]
  exact hK' _ _ hK
theorem wpList_put_set (hg : o.guard = none) (m x v : Operand) (hop : o.op = Op.mapUpdate 119 m x v) (b : Nat) (L : List Nm) (s : ByteArray) (hm : a.eval m = .map (some b)) (hx : a.eval x = .string s) (hv : a.eval v = .bool true) (hS : Seen w b L) (hs : s.size ≤ maxLen) (hL : L.length < 1000) (B : Nat) (hB : B ≤ b) (hBw : B ≤ w.heap.size)
    (hK : ∀ w', Seen w' b (s.data.toList :: L) → w.grownBy w' (some b) → Below B w w' → wpList Tryz.prog ops Q rest (a.put o.dst undef) w') : wpList Tryz.prog ops Q (o :: rest) a w := by
  obtain ⟨n, D, hown, hn, hmp, ha⟩ := hS
  refine wpList_mapUpdate_own _ hg m x v _ hop 9 _ str_key Tryz.underlying119 heldE b n D hm hown (by unfold maxLen; omega) _ _ _ hx hv (keyOf_string_mk Tryz.underlying9 hs) _ [] rfl ?_
  intro w' h1 h2
  refine hK w' ⟨n + 1, _, h1, by simp; omega, ?_, fun t z => ?_⟩ h2 ((Below.refl B w).grown h2 hBw fun k hk => by injection hk with hk; omega)
  · obtain ⟨es, rfl⟩ := hmp
    exact ⟨_, DataW.put_eq _ _ _⟩
  · by_cases ht : t = s.data.toList
    · subst ht
      rw [atKey_put_same hmp (show WideAt.IsKeyLit (.string s.data.toList) from trivial), if_pos (List.mem_cons_self ..)]
    · rw [atKey_put_other (by intro e; injection e with e; exact ht e), ha]
      by_cases h : t ∈ L
      · rw [if_pos h, if_pos (List.mem_cons_of_mem _ h)]
      · rw [if_neg h, if_neg (by simp [ht, h])]
end
def nmOf (s : ByteArray) : Nm := s.data.toList
def fieldsE : List Fdx → List Nm → Int
  | [], _ => 0
  | f :: l, L => if fldB f.name = false then 8 else if nmOf f.name ∈ L then 7 else if f.kind < 0 ∨ 3 ≤ f.kind then 1 else fieldsE l (nmOf f.name :: L)
def schE (s : Scx) : Int := if nameB s.name = false then 8 else if 8 < s.fields.length then 5 else fieldsE s.fields []
def allE : List Scx → List Nm → Int
  | [], _ => 0
  | s :: l, L => if schE s ≠ 0 then schE s else if nmOf s.name ∈ L then 7 else allE l (nmOf s.name :: L)
def typesE (T : List Scx) : Int := if 16 < T.length then 5 else allE T []
theorem fieldsE_drop {l : List Fdx} {L : List Nm} {j : Nat} (h : j < l.length) : fieldsE (l.drop j) L = if fldB l[j].name = false then 8 else if nmOf l[j].name ∈ L then 7 else if l[j].kind < 0 ∨ 3 ≤ l[j].kind then 1 else fieldsE (l.drop (j + 1)) (nmOf l[j].name :: L) := by
  rw [List.drop_eq_getElem_cons h, fieldsE]
theorem allE_drop {l : List Scx} {L : List Nm} {j : Nat} (h : j < l.length) : allE (l.drop j) L = if schE l[j] ≠ 0 then schE l[j] else if nmOf l[j].name ∈ L then 7 else allE (l.drop (j + 1)) (nmOf l[j].name :: L) := by
  rw [List.drop_eq_getElem_cons h, allE]
section
variable (w : World)
set_option maxRecDepth 100000 in
set_option maxHeartbeats 8000000 in
theorem sch_any (s : Scx) (v : Value) (hs : s.name.size ≤ maxLen) (h : There RFd 2 w v s.fields) : Calls Tryz.prog 46 #[.agg #[.string s.name, v]] w (Ret (.int .i64 (schE s)) w) := by
  obtain ⟨R, hR⟩ : ∃ e, schE s = e := ⟨_, rfl⟩
  have HR := hide (show (if nameB s.name = false then 8 else if 8 < s.fields.length then 5 else fieldsE s.fields []) = R from hR)
  rw [hR]
  clear hR
  have HN := hide (fun w => name_any w s.name hs)
  have HT := hide h
  have HTW := HT
  obtain ⟨A, cap, rfl⟩ := h.form
  have hm := h.len
  unfold maxLen at hm
  obtain ⟨m, hmm⟩ : ∃ m, s.fields.length = m := ⟨_, rfl⟩
  have HM := hide hmm
  rw [hmm] at HT HTW HR hm ⊢
  have hx := Bxs.new w [.string s.name, .slice A m cap] 106
  have hB := below_laid (w := w) (.cells #[.string s.name, .slice A m cap] 106)
  have HX := hide hx
  have HB := hide hB
  replace HT := hide (HT.out.keep rd_Fd hB)
  have hmk := @run_makeMap Tryz.prog
  obtain ⟨b0, hb0⟩ : ∃ b, nameB s.name = b := ⟨_, rfl⟩
  rw [hb0] at HN HR
  clear h hmm hx hB hb0
  have a0 := HX.out 0 _ rfl
  have a1 := HX.out 1 _ rfl
  cases b0
  · have HQ := hide (show (8 : Int) = R from HR.out)
    go_enter Tryz.func46, Tryz.ntmps46
    go_wp2_with fail
    refine (HN.out _).mono ?_
    rintro e w1 ⟨rfl, rfl⟩
    go_wp2
    go_ret
    exact Ret.int HQ.out HB.out
  · by_cases h8 : 8 < m
    · have t8 : decide ((8 : Int) < (m : Int)) = true := decide_eq_true (by omega)
      have t8' : decide (8 < m) = true := decide_eq_true h8
      have HQ := hide (show (5 : Int) = R by rw [← HR.out, if_neg (by simp), if_pos h8])
      clear HR
      go_enter Tryz.func46, Tryz.ntmps46
      go_wp2_with fail
      refine (HN.out _).mono ?_
      rintro e w1 ⟨rfl, rfl⟩
      go_wp2
      go_ret
      exact Ret.int HQ.out HB.out
    · have t8 : decide ((8 : Int) < (m : Int)) = false := decide_eq_false (by omega)
      have t8' : decide (8 < m) = false := decide_eq_false h8
      have HQ := hide (show fieldsE s.fields [] = R by rw [← HR.out, if_neg (by simp), if_neg h8])
      clear HR
      go_enter Tryz.func46, Tryz.ntmps46
      go_wp2_with fail
      refine (HN.out _).mono ?_
      rintro e w1 ⟨rfl, rfl⟩
      have HS := hide (Seen.made (w.alloc (.cells #[.string s.name, .slice A m cap] 106)))
      have hbm := below_laid (w := w.alloc (.cells #[.string s.name, .slice A m cap] 106)) (.map #[] 0)
      replace HT := hide (HT.out.keep rd_Fd hbm)
      replace HB := hide (bthen HB.out hbm)
      replace HX := hide (HX.out.keep hbm)
      rw [World.size_alloc] at HS
      clear hbm HN
      go_wp2_with fail
      obtain ⟨w0, hw0⟩ : ∃ w0, ((w.alloc (.cells #[.string s.name, .slice A m cap] 106)).alloc (.map #[] 0)) = w0 := ⟨_, rfl⟩
      rw [hw0] at HS HT HB HX ⊢
      clear hw0 hmk a0 a1
      go_loopw [18] (fun i wr => ∃ (j : Nat) (L : List Nm), j ≤ m ∧ i = .int .i64 j ∧ Hid (Seen wr (w.heap.size + 1) L ∧ L.length = j) ∧ Hid (fieldsE (s.fields.drop j) L = R) ∧ Hid (Below (w.heap.size + 1) w0 wr)) (fun i _ => m - (intOf i).toNat)
      case atStart => exact ⟨0, [], Nat.zero_le _, rfl, hide ⟨HS.out, rfl⟩, hide HQ.out, hide (Below.refl _ _)⟩
      case round =>
        obtain ⟨j, L, hj, rfl, HSe, HE, HW⟩ := hrel
        have HS9 := HS
        clear HS HQ
        by_cases hlt : j < m
        · have hja : j < s.fields.length := by rw [HM.out]; exact hlt
          replace HE := hide ((fieldsE_drop hja).symm.trans HE.out)
          obtain ⟨g, off, ys, e2, hg, hyl, hc, ⟨rfl, hfs⟩⟩ := Lst.at_ HTW.out hja
          subst e2
          have hgw : g < w.heap.size := hg
          have HBR := hide (HB.out.trans (HW.out.mono (by omega)))
          have k0 := keep1 HBR.out (hc 0 _ rfl)
          have k1 := keep1 HBR.out (hc 1 _ rfl)
          rw [Nat.add_zero] at k0
          obtain ⟨f, hf⟩ : ∃ f, s.fields[j] = f := ⟨_, rfl⟩
          rw [hf] at k0 k1 hfs HE
          clear hf hc hyl hg
          obtain ⟨fn, fk⟩ := f
          simp only at k0 k1 hfs HE
          have hu0 : (0 : Int) ≤ (j : Int) := by omega
          have hu1 : (j : Int) < (m : Int) := by omega
          have HFN := hide (fun w => fld_any w fn hfs)
          obtain ⟨fb, hfb⟩ : ∃ b, fldB fn = b := ⟨_, rfl⟩
          rw [hfb] at HFN HE
          have hba := below_laid (w := wr) (.cells #[.string fn, .int .i64 fk] 103)
          have HSa := hide (HSe.out.1.keep hba)
          have HLJ := hide HSe.out.2
          have HBa := hide (bthen HBR.out hba)
          have hx9 := cells_lit wr [.string fn, .int .i64 fk] 103
          have c0 := hx9 0 _ rfl
          have c1 := hx9 1 _ rfl
          have hzw := HW.out.size
          have hz1 : w.heap.size + 1 < w0.heap.size := by
            obtain ⟨n9, D9, ho9, -⟩ := HS9.out
            obtain ⟨es, ck, hb9, -⟩ := ho9
            exact (Array.getElem?_eq_some_iff.1 hb9).1
          have HWa := hide (HW.out.trans (hba.mono (by omega)))
          clear hfb hba hx9 HSe HW
          cases fb
          · have HQ := hide (show (8 : Int) = R by rw [← HE.out, if_pos rfl])
            clear HE
            go_wp2_with fail
            refine (HFN.out _).mono ?_
            rintro e w1 ⟨rfl, rfl⟩
            go_wp2
            go_ret
            exact Ret.int HQ.out HBa.out
          · by_cases hin : nmOf fn ∈ L
            · have HQ := hide (show (7 : Int) = R by rw [← HE.out, if_neg (by simp), if_pos hin])
              have HIN := hide (show decide (fn.data.toList ∈ L) = true from decide_eq_true hin)
              clear HE hin
              go_wp2_with fail
              refine (HFN.out _).mono ?_
              rintro e w1 ⟨rfl, rfl⟩
              go_wp2_with (at_lookup; refine wpList_look_set rfl (.tmp 28) (.tmp 30) (by rfl) (w.heap.size + 1) L fn (by rfl) (by rfl) HSa.out hfs ?_; rw [HIN.out])
              go_ret
              exact Ret.int HQ.out HBa.out
            · have HIN := hide (show decide (fn.data.toList ∈ L) = false from decide_eq_false hin)
              have HE2 := hide (show (if fk < 0 ∨ 3 ≤ fk then 1 else fieldsE (s.fields.drop (j + 1)) (nmOf fn :: L)) = R by
                have h9 := HE.out
                rw [if_neg (by simp), if_neg hin] at h9
                exact h9)
              clear HE hin
              by_cases hk0 : fk < 0
              · have t1 : decide (fk < 0) = true := decide_eq_true hk0
                have HQ := hide (show (1 : Int) = R by rw [← HE2.out, if_pos (.inl hk0)])
                clear HE2 hk0
                go_wp2_with fail
                refine (HFN.out _).mono ?_
                rintro e w1 ⟨rfl, rfl⟩
                go_wp2_with (at_lookup; refine wpList_look_set rfl (.tmp 28) (.tmp 30) (by rfl) (w.heap.size + 1) L fn (by rfl) (by rfl) HSa.out hfs ?_; rw [HIN.out])
                go_ret
                exact Ret.int HQ.out HBa.out
              · have t1 : decide (fk < 0) = false := decide_eq_false hk0
                by_cases hk3 : 3 ≤ fk
                · have t3 : decide (3 ≤ fk) = true := decide_eq_true hk3
                  have HQ := hide (show (1 : Int) = R by rw [← HE2.out, if_pos (.inr hk3)])
                  clear HE2 hk0 hk3
                  go_wp2_with fail
                  refine (HFN.out _).mono ?_
                  rintro e w1 ⟨rfl, rfl⟩
                  go_wp2_with (at_lookup; refine wpList_look_set rfl (.tmp 28) (.tmp 30) (by rfl) (w.heap.size + 1) L fn (by rfl) (by rfl) HSa.out hfs ?_; rw [HIN.out])
                  go_ret
                  exact Ret.int HQ.out HBa.out
                · have t3 : decide (3 ≤ fk) = false := decide_eq_false hk3
                  have HQ := hide (show fieldsE (s.fields.drop (j + 1)) (nmOf fn :: L) = R by rw [← HE2.out, if_neg (by omega)])
                  clear HE2 hk0 hk3
                  go_wp2_with fail
                  refine (HFN.out _).mono ?_
                  rintro e w1 ⟨rfl, rfl⟩
                  go_wp2_with (first
                    | (at_lookup; refine wpList_look_set rfl (.tmp 28) (.tmp 30) (by rfl) (w.heap.size + 1) L fn (by rfl) (by rfl) HSa.out hfs ?_; rw [HIN.out])
                    | (at_mapUpdate; refine wpList_put_set rfl (.tmp 41) (.tmp 43) _ (by rfl) (w.heap.size + 1) L fn (by rfl) (by rfl) (by rfl) HSa.out hfs (by have := HLJ.out; omega) (w.heap.size + 1) (Nat.le_refl _) (by simp; omega) ?_; intro w9 hS9 hg9 hb9))
                  go_roundw
                  case rel => exact ⟨j + 1, nmOf fn :: L, by omega, by go_num, hide ⟨hS9, by simp [HLJ.out]⟩, HQ, hide (HWa.out.trans hb9)⟩
                  case measure => simp [intOf]; omega
        · obtain rfl : j = m := by omega
          have hta : s.fields.drop j = [] := List.drop_of_length_le (by rw [HM.out]; exact Nat.le_refl _)
          have HQ := hide (show (0 : Int) = R by rw [← HE.out, hta]; rfl)
          have HBR := hide (HB.out.trans (HW.out.mono (by omega)))
          clear hta HE
          go_wp2
          go_ret
          exact Ret.int HQ.out HBR.out
end
section
variable (w : World)
set_option maxRecDepth 100000 in
set_option maxHeartbeats 8000000 in
theorem types_any (T : List Scx) (v : Value) (h : There RSc 2 w v T) : Calls Tryz.prog 35 #[v] w (Ret (.int .i64 (typesE T)) w) := by
  obtain ⟨R, hR⟩ : ∃ e, typesE T = e := ⟨_, rfl⟩
  have HR := hide (show (if 16 < T.length then 5 else allE T []) = R from hR)
  rw [hR]
  clear hR
  have HT := hide h
  obtain ⟨A, cap, rfl⟩ := h.form
  have hm := h.len
  unfold maxLen at hm
  obtain ⟨m, hmm⟩ : ∃ m, T.length = m := ⟨_, rfl⟩
  have HM := hide hmm
  rw [hmm] at HT HR hm ⊢
  have hmk := @run_makeMap Tryz.prog
  clear h hmm
  by_cases h8 : 16 < m
  · have t8 : decide ((16 : Int) < (m : Int)) = true := decide_eq_true (by omega)
    have t8' : decide (16 < m) = true := decide_eq_true h8
    have HQ := hide (show (5 : Int) = R by rw [← HR.out, if_pos h8])
    clear HR
    go_enter Tryz.func35, Tryz.ntmps35
    go_wp2
    go_ret
    exact Ret.int HQ.out (Below.refl _ _)
  · have t8 : decide ((16 : Int) < (m : Int)) = false := decide_eq_false (by omega)
    have t8' : decide (16 < m) = false := decide_eq_false h8
    have HQ := hide (show allE T [] = R by rw [← HR.out, if_neg h8])
    clear HR
    go_enter Tryz.func35, Tryz.ntmps35
    go_wp2_with fail
    have HS := hide (Seen.made w)
    have HB := hide (below_laid (w := w) (.map #[] 0))
    have hz1 : w.heap.size < (w.alloc (.map #[] 0)).heap.size := by simp
    obtain ⟨w0, hw0⟩ : ∃ w0, (w.alloc (.map #[] 0)) = w0 := ⟨_, rfl⟩
    rw [hw0] at HS HB hz1 ⊢
    clear hw0 hmk
    go_loopw [13] (fun i wr => ∃ (j : Nat) (L : List Nm), j ≤ m ∧ i = .int .i64 j ∧ Hid (Seen wr w.heap.size L ∧ L.length = j) ∧ Hid (allE (T.drop j) L = R) ∧ Hid (Below w.heap.size w0 wr)) (fun i _ => m - (intOf i).toNat)
    case atStart => exact ⟨0, [], Nat.zero_le _, rfl, hide ⟨HS.out, rfl⟩, hide HQ.out, hide (Below.refl _ _)⟩
    case round =>
      obtain ⟨j, L, hj, rfl, HSe, HE, HW⟩ := hrel
      clear HS HQ
      have HBR := hide (HB.out.trans HW.out)
      by_cases hlt : j < m
      · have hja : j < T.length := by rw [HM.out]; exact hlt
        replace HE := hide ((allE_drop hja).symm.trans HE.out)
        obtain ⟨g, off, ys, e2, hg, hyl, hc, ⟨u, rfl, hns, hl⟩⟩ := Lst.at_ HT.out hja
        subst e2
        have hgw : g < w.heap.size := hg
        have k0 := keep1 HBR.out (hc 0 _ rfl)
        have k1 := keep1 HBR.out (hc 1 _ rfl)
        rw [Nat.add_zero] at k0
        have HL := hide (show There RFd 2 wr u (T[j]).fields from (show There RFd 2 w u (T[j]).fields from hl).keep rd_Fd HBR.out)
        obtain ⟨f, hf⟩ : ∃ f, T[j] = f := ⟨_, rfl⟩
        rw [hf] at k0 hns HE HL
        clear hf hc hyl hg hl
        obtain ⟨A3, cap3, rfl⟩ := HL.out.form
        obtain ⟨n3, hn3⟩ : ∃ n, f.fields.length = n := ⟨_, rfl⟩
        rw [hn3] at k1 HL
        have hu0 : (0 : Int) ≤ (j : Int) := by omega
        have hu1 : (j : Int) < (m : Int) := by omega
        have hba := below_laid (w := wr) (.cells #[.string f.name, .slice A3 n3 cap3] 106)
        have HCK := hide (fun w' hb' => sch_any w' f (.slice A3 n3 cap3) hns (HL.out.keep rd_Fd hb'))
        obtain ⟨E, hE⟩ : ∃ e, schE f = e := ⟨_, rfl⟩
        rw [hE] at HCK HE
        have HSa := hide (HSe.out.1.keep hba)
        have HLJ := hide HSe.out.2
        have HBa := hide (bthen HBR.out hba)
        have hzw := HW.out.size
        have HWa := hide (HW.out.trans (hba.mono (by omega)))
        have HX9 := hide (Bxs.new wr [.string f.name, .slice A3 n3 cap3] 106)
        have HHB := hide hba
        clear hE hba HSe HW hn3
        go_wp2_with fail
        refine (HCK.out _ HHB.out).mono ?_
        rintro e w1 ⟨rfl, hb1⟩
        replace HX9 := hide (HX9.out.keep hb1)
        replace HSa := hide (HSa.out.keep hb1)
        replace HBa := hide (bthen HBa.out hb1)
        replace HWa := hide (HWa.out.trans (hb1.mono (by simp; omega)))
        have hz9 : w.heap.size ≤ w1.heap.size := HBa.out.size
        clear hb1 HHB HCK k0 k1
        have c0 := HX9.out 0 _ rfl
        by_cases hE0 : E = 0
        · have tE : (E != 0) = false := by rw [bne_eq_false_iff_eq]; exact hE0
          by_cases hin : nmOf f.name ∈ L
          · have HQ := hide (show (7 : Int) = R by
              have h9 := HE.out
              rw [if_neg (by simpa using hE0), if_pos hin] at h9
              exact h9)
            have HIN := hide (show decide (f.name.data.toList ∈ L) = true from decide_eq_true hin)
            clear HE hin hE0
            go_wp2_with (at_lookup; refine wpList_look_set rfl (.tmp 22) (.tmp 24) (by rfl) w.heap.size L f.name (by rfl) (by rfl) HSa.out hns ?_; rw [HIN.out])
            go_ret
            exact Ret.int HQ.out HBa.out
          · have HIN := hide (show decide (f.name.data.toList ∈ L) = false from decide_eq_false hin)
            have HQ := hide (show allE (T.drop (j + 1)) (nmOf f.name :: L) = R by
              have h9 := HE.out
              rw [if_neg (by simpa using hE0), if_neg hin] at h9
              exact h9)
            clear HE hin hE0
            go_wp2_with (first
              | (at_lookup; refine wpList_look_set rfl (.tmp 22) (.tmp 24) (by rfl) w.heap.size L f.name (by rfl) (by rfl) HSa.out hns ?_; rw [HIN.out])
              | (at_mapUpdate; refine wpList_put_set rfl (.tmp 26) (.tmp 28) _ (by rfl) w.heap.size L f.name (by rfl) (by rfl) (by rfl) HSa.out hns (by have := HLJ.out; omega) w.heap.size (Nat.le_refl _) hz9 ?_; intro w9 hS9 hg9 hb9))
            go_roundw
            case rel => exact ⟨j + 1, nmOf f.name :: L, by omega, by go_num, hide ⟨hS9, by simp [HLJ.out]⟩, HQ, hide (HWa.out.trans hb9)⟩
            case measure => simp [intOf]; omega
        · have tE : (E != 0) = true := by rw [bne_iff_ne]; exact hE0
          have HQ := hide (show E = R by rw [← HE.out, if_pos hE0])
          clear HE hE0
          go_wp2
          go_ret
          exact Ret.int HQ.out HBa.out
      · obtain rfl : j = m := by omega
        have hta : T.drop j = [] := List.drop_of_length_le (by rw [HM.out]; exact Nat.le_refl _)
        have HQ := hide (show (0 : Int) = R by rw [← HE.out, hta]; rfl)
        clear hta HE
        go_wp2
        go_ret
        exact Ret.int HQ.out HBR.out
end
end Go.Proofs.YtppaiihcaajkaaaGreat

namespace Go.Proofs.YtppaiihcaajkaaaGreat
open Go.RowKit
set_option linter.unusedVariables false
set_option linter.unusedSimpArgs false
def TT : List Scx := [⟨⟨#[65]⟩, [⟨⟨#[115]⟩, 2⟩]⟩]
theorem tt_ok : typesE TT = 0 := by decide +kernel
def numOK (x : Evt) : Prop := (0 ≤ x.a ∧ x.a ≤ 7) ∧ (0 ≤ x.b ∧ x.b ≤ 1099511627776) ∧ (0 ≤ x.d ∧ x.d ≤ 1099511627776)
def valOK (v : V3) : Prop := checkC v.q v.n v.s.size = 0 ∧ v.q = 2
def EvOK (x : Evt) : Prop := numOK x ∧ x.c = 0 ∧ ∃ v, x.vs = [v] ∧ valOK v
/-- The cells of the event types. -/
structure TyC (w : World) (g o h o2 c2 : Nat) : Prop where
  a : w.cell? ⟨g, o, none⟩ = some (.string ⟨#[65]⟩)
  b : w.cell? ⟨g, o + 1, none⟩ = some (.slice (some ⟨h, o2, none⟩) 1 c2)
  c : w.cell? ⟨h, o2, none⟩ = some (.string ⟨#[115]⟩)
  d : w.cell? ⟨h, o2 + 1, none⟩ = some (.int .i64 2)
theorem TyC.keep {w w' : World} {g o h o2 c2 : Nat} (H : TyC w g o h o2 c2) (hb : Below w.heap.size w w') : TyC w' g o h o2 c2 := ⟨keep1 hb H.a, keep1 hb H.b, keep1 hb H.c, keep1 hb H.d⟩
theorem ty_cells {w : World} {v : Value} (h : There RSc 2 w v TT) : ∃ g o c hh o2 c2, v = .slice (some ⟨g, o, none⟩) 1 c ∧ TyC w g o hh o2 c2 := by
  obtain ⟨A, c, rfl⟩ := Lst.form h
  obtain ⟨g, o, xs, rfl, hg, hl, hc, hR⟩ := Lst.at_ h (j := 0) (by decide)
  obtain ⟨v, rfl, hs, hf⟩ := hR
  obtain ⟨A2, c2, rfl⟩ := Lst.form hf
  obtain ⟨g2, o2, ys, rfl, hg2, hl2, hc2, hR2⟩ := Lst.at_ hf (j := 0) (by decide)
  obtain ⟨rfl, -⟩ := hR2
  have k0 := hc 0 _ rfl
  have k1 := hc 1 _ rfl
  have k2 := hc2 0 _ rfl
  have k3 := hc2 1 _ rfl
  simp only [Nat.zero_mul, Nat.add_zero] at k0 k1 k2 k3
  exact ⟨g, o, c, g2, o2, c2, rfl, k0, k1, k2, k3⟩
section
variable (w : World)
set_option maxHeartbeats 4000000 in
theorem trytypes_any : Calls Tryz.prog 23 #[] w (fun e w' => ∃ v, e = .returned v ∧ There RSc 2 w' v TT ∧ Below w.heap.size w w') := by
  go_enter Tryz.func23, Tryz.ntmps23
  go_wp2
  go_ret
  obtain ⟨W1, hW1⟩ : ∃ W1, w.alloc (.cells #[.string ⟨#[115]⟩, .int .i64 2] 103) = W1 := ⟨_, rfl⟩
  have hs1 : W1.heap.size = w.heap.size + 1 := by rw [← hW1]; simp
  refine ⟨_, rfl, ?_, ?_⟩
  · refine ⟨⟨_, 1, rfl, Nat.le_refl _, by unfold maxLen; decide⟩, fun j hj => ?_⟩
    obtain rfl : j = 0 := by simp [TT] at hj; omega
    refine ⟨_, 0, 1, [.string ⟨#[65]⟩, .slice (some ⟨w.heap.size, 0, none⟩) 1 1], rfl, by simp, rfl, fun c u hu => ?_, _, rfl, by simp [TT, maxLen, ByteArray.size], ?_⟩
    · have := cells_lit W1 [.string ⟨#[65]⟩, .slice (some ⟨w.heap.size, 0, none⟩) 1 1] 106 c u hu
      rw [hs1, ← hW1] at this
      simpa using this
    · refine ⟨⟨_, 1, rfl, by simp [TT], by simp [TT, maxLen]⟩, fun j hj => ?_⟩
      obtain rfl : j = 0 := by simp [TT] at hj; omega
      refine ⟨_, 0, 1, [.string ⟨#[115]⟩, .int .i64 2], rfl, by simp; omega, rfl, fun c u hu => ?_, rfl, by simp [TT, maxLen, ByteArray.size]⟩
      have := cells_lit w [.string ⟨#[115]⟩, .int .i64 2] 103 c u hu
      rw [World.cell?_alloc_lt _ _ _ (by simp)]
      simpa using this
  · exact bthen (below_laid _) (below_laid _)
set_option maxRecDepth 100000 in
set_option maxHeartbeats 8000000 in
theorem evnum_any (x : Evt) (A : Option Addr) (c : Nat) : Calls Tryz.prog 85 #[.agg #[.int .i64 x.a, .int .i64 x.b, .int .i64 x.c, .int .i64 x.d, .slice A x.vs.length c]] w (RetZ (numOK x) w) := by
  obtain ⟨P, hP⟩ : ∃ P, numOK x = P := ⟨_, rfl⟩
  have HP := hide (show P ↔ (0 ≤ x.a ∧ x.a ≤ 7) ∧ (0 ≤ x.b ∧ x.b ≤ 1099511627776) ∧ (0 ≤ x.d ∧ x.d ≤ 1099511627776) by rw [← hP]; exact Iff.rfl)
  rw [hP]
  clear hP
  obtain ⟨a, b, c', d, vs⟩ := x
  simp only at HP ⊢
  go_enter Tryz.func85, Tryz.ntmps85
  go_wp2
  all_goals go_ret
  all_goals refine ⟨_, rfl, ?_, below_laid _⟩
  all_goals (rw [HP.out]; constructor <;> intro h)
  all_goals first | omega | (exact absurd h (by decide)) | rfl | (exfalso; omega)
set_option maxRecDepth 100000 in
set_option maxHeartbeats 16000000 in
theorem evvalid_any (v : Value) (hT : There RSc 2 w v TT) (x : Evt) (A : Option Addr) (c : Nat) (hv : Lst w (· < w.heap.size) 3 RV0 (.slice A x.vs.length c) x.vs) : Calls Tryz.prog 70 #[v, .agg #[.int .i64 x.a, .int .i64 x.b, .int .i64 x.c, .int .i64 x.d, .slice A x.vs.length c]] w (RetZ (EvOK x) w) := by
  obtain ⟨g, o, c1, h, o2, c2, rfl, hty⟩ := ty_cells hT
  have HN := hide (fun (w1 : World) => evnum_any w1 x A c)
  have HTY := hide (fun (w1 : World) (hb : Below w.heap.size w w1) => hty.keep hb)
  have HV := hide (fun (w1 : World) (hb : Below w.heap.size w w1) => hv.keep rd_V0 (Kp.of_below (Z := (· < w.heap.size)) hb))
  have HX := hide (Bl.new w [.int .i64 x.a, .int .i64 x.b, .int .i64 x.c, .int .i64 x.d, .slice A x.vs.length c] 51)
  have HB := hide (below_laid (w := w) (.cells #[.int .i64 x.a, .int .i64 x.b, .int .i64 x.c, .int .i64 x.d, .slice A x.vs.length c] 51))
  obtain ⟨P, hP⟩ : ∃ P, EvOK x = P := ⟨_, rfl⟩
  obtain ⟨N, hN⟩ : ∃ N, numOK x = N := ⟨_, rfl⟩
  have HP := hide (show P ↔ N ∧ x.c = 0 ∧ ∃ v, x.vs = [v] ∧ valOK v by rw [← hP, ← hN]; exact Iff.rfl)
  rw [hP]
  rw [hN] at HN
  have hlen := hv.len
  unfold maxLen at hlen
  clear hP hN hT hty hv
  obtain ⟨a, b, c', d, vs⟩ := x
  simp only at HP HN HV HX HB hlen ⊢
  obtain ⟨n, hn⟩ : ∃ n, vs.length = n := ⟨_, rfl⟩
  have HL := hide hn
  simp only [hn] at HN HV HX HB hlen ⊢
  clear hn
  go_enter Tryz.func70, Tryz.ntmps70
  go_upto_region 1 with (fail)
  obtain ⟨W1, hW1⟩ : ∃ W1, w.alloc (.cells #[.int .i64 a, .int .i64 b, .int .i64 c', .int .i64 d, .slice A n c] 51) = W1 := ⟨_, rfl⟩
  rw [hW1] at HX HB ⊢
  clear hW1
  have HN1 := hide (HN.out W1)
  have x0 := HX.out.c 0 _ rfl
  have x1 := HX.out.c 1 _ rfl
  have x2 := HX.out.c 2 _ rfl
  have x3 := HX.out.c 3 _ rfl
  have x4 := HX.out.c 4 _ rfl
  go_wp2_with fail
  refine HN1.out.mono ?_
  rintro e1 w1 ⟨n1, rfl, hn1, hb1⟩
  have HX1 := hide (HX.out.keep hb1)
  have HB1 := hide (bthen HB.out hb1)
  have HNN := hide hn1
  clear hb1 hn1 x0 x1 x2 x3 x4 HX HB HN HN1
  by_cases he : n1 = 0
  · obtain rfl := he
    have HNT := hide (HNN.out.1 rfl)
    have x2 := HX1.out.c 2 _ rfl
    have x4 := HX1.out.c 4 _ rfl
    have y1 := (HTY.out w1 HB1.out).b
    by_cases hc : c' = 0
    · subst hc
      by_cases hn : n = 1
      · subst hn
        obtain ⟨z, hz⟩ : ∃ z, vs = [z] := by
          have := HL.out
          rcases vs with _ | ⟨z, _ | ⟨z2, r⟩⟩ <;> simp at this
          exact ⟨z, rfl⟩
        subst hz
        obtain ⟨g', o', ys, rfl, -, -, hyc, hR⟩ := (HV.out w1 HB1.out).at_ (j := 0) (by simp)
        obtain ⟨rfl, -, hzs⟩ := hR
        have k0 := hyc 0 _ rfl
        have k1 := hyc 1 _ rfl
        have k2 := hyc 2 _ rfl
        simp only [Nat.zero_mul, Nat.add_zero, List.getElem_cons_zero] at k0 k1 k2 hzs
        have HCK := hide (fun (w2 : World) => check_any z.q z.n z.s w2 hzs)
        have HK := hide (And.intro k0 (And.intro k1 k2))
        clear hyc k0 k1 k2 hzs
        go_wp2
        go_loopw [40] (fun i wr => ∃ j : Nat, j ≤ 1 ∧ i = .int .i64 j ∧ Hid (j = 1 → valOK z) ∧ Hid (Below w1.heap.size w1 wr)) (fun i _ => 1 - (intOf i).toNat)
        case atStart => exact ⟨0, by omega, rfl, hide (fun h => absurd h (by decide)), hide (Below.refl _ _)⟩
        case round =>
          obtain ⟨j, hj, rfl, HJ, HBR⟩ := hrel
          rcases (by omega : j = 0 ∨ j = 1) with rfl | rfl
          · have k0 := keep1 HBR.out HK.out.1
            have k1 := keep1 HBR.out HK.out.2.1
            have k2 := keep1 HBR.out HK.out.2.2
            obtain ⟨q, m, s⟩ := z
            simp only at k0 k1 k2 HCK HJ HP
            have HPP := hide (show P ↔ checkC q m s.size = 0 ∧ q = 2 by
              rw [HP.out]
              refine ⟨fun ⟨_, _, v, e, hv⟩ => ?_, fun hv => ⟨HNT.out, by first | trivial | rfl, _, rfl, hv⟩⟩
              injection e with e _
              subst e
              exact hv)
            have HCK1 := hide (HCK.out (wr.alloc (.cells #[.int .i64 q, .int .i64 m, .string s] 72)))
            clear HP HK HCK
            go_wp2_with (go_at_call 86; refine HCK1.out.mono ?_; rintro e2 w2 ⟨rfl, hb2⟩; have HZ2 := hide ((Bl.new wr [.int .i64 q, .int .i64 m, .string s] 72).keep hb2); have HB2 := hide (bthen HBR.out (bthen (below_laid _) hb2)); clear hb2 k0 k1 k2; have q0 := HZ2.out.c 0 _ rfl; have ya := (HTY.out w2 (bthen HB1.out HB2.out)).d; generalize hce : checkC q m s.size = ce; have HCE := hide hce; clear hce; by_cases hc0 : ce = 0; all_goals first | (obtain rfl := hc0) | (have t1 : (ce != 0) = true := bne_iff_ne.2 hc0))
            · have q0' := q0
              by_cases hq : q = 2
              · subst hq
                have HOK := hide (show valOK ⟨2, m, s⟩ from ⟨HCE.out, rfl⟩)
                go_wp2_with fail
                go_region
                all_goals go_wp2_with fail
                go_roundw
                case rel => exact ⟨1, by omega, by first | rfl | go_num, hide (fun _ => HOK.out), hide (by first | exact HB2.out | exact HB2.out.drew)⟩
                case measure => simp [intOf]
              · have t5 : (q != 2) = true := bne_iff_ne.2 hq
                have HF := hide (show ¬ P by rw [HPP.out]; exact fun h => hq h.2)
                go_wp2_with fail
                go_region
                all_goals go_wp2
                all_goals go_ret
                all_goals exact ⟨9, rfl, ⟨fun h => absurd h (by decide), fun h => absurd h HF.out⟩, by first | exact bthen HB1.out HB2.out | exact (bthen HB1.out HB2.out).drew⟩
            · have HF := hide (show ¬ P by rw [HPP.out, HCE.out]; exact fun h => hc0 h.1)
              go_ret
              exact ⟨ce, rfl, ⟨fun h => absurd h hc0, fun h => absurd h HF.out⟩, bthen HB1.out HB2.out⟩
          · have HPT := hide (show P from HP.out.2 ⟨HNT.out, by first | trivial | rfl, z, rfl, HJ.out rfl⟩)
            go_wp2
            go_ret
            exact ⟨0, rfl, ⟨fun _ => HPT.out, fun _ => rfl⟩, bthen HB1.out HBR.out⟩
      · have t2 : ((n : Int) != 1) = true := bne_iff_ne.2 (by omega)
        have HF := hide (show ¬ P by
          rw [HP.out]
          rintro ⟨-, -, v, e, -⟩
          have := HL.out
          rw [e] at this
          exact hn this.symm)
        go_wp2
        go_ret
        exact ⟨15, rfl, ⟨fun h => absurd h (by decide), fun h => absurd h HF.out⟩, HB1.out⟩
    · have HF := hide (show ¬ P by rw [HP.out]; exact fun h => hc h.2.1)
      rcases (by omega : c' < 0 ∨ (0 ≤ c' ∧ 1 ≤ c')) with h | ⟨h, h2⟩
      · have t1 : decide (c' < 0) = true := decide_eq_true h
        go_wp2
        go_ret
        exact ⟨6, rfl, ⟨fun h => absurd h (by decide), fun h => absurd h HF.out⟩, HB1.out⟩
      · have t1 : decide (c' < 0) = false := decide_eq_false (by omega)
        have t2 : decide (1 ≤ c') = true := decide_eq_true h2
        go_wp2
        go_ret
        exact ⟨6, rfl, ⟨fun h => absurd h (by decide), fun h => absurd h HF.out⟩, HB1.out⟩
  · have t1 : (n1 != 0) = true := bne_iff_ne.2 he
    have HF := hide (show ¬ P by rw [HP.out]; exact fun h => he (HNN.out.2 h.1))
    go_wp2
    go_ret
    exact ⟨n1, rfl, ⟨fun h => absurd h he, fun h => absurd h HF.out⟩, HB1.out⟩
end
end Go.Proofs.YtppaiihcaajkaaaGreat

namespace Go.Proofs.YtppaiihcaajkaaaGreat
open Go.RowKit
set_option linter.unusedVariables false
set_option linter.unusedSimpArgs false
section
variable (w : World)
set_option maxRecDepth 100000 in
set_option maxHeartbeats 8000000 in
theorem evcheck_any (v : Value) (hT : There RSc 2 w v TT) (x : Evt) (A : Option Addr) (c : Nat) (hv : Lst w (· < w.heap.size) 3 RV0 (.slice A x.vs.length c) x.vs) : Calls Tryz.prog 52 #[v, .agg #[.int .i64 x.a, .int .i64 x.b, .int .i64 x.c, .int .i64 x.d, .slice A x.vs.length c]] w (RetZ (EvOK x) w) := by
  have HTY := hide (fun (w1 : World) (hb : Below w.heap.size w w1) => types_any w1 TT v (There.keep rd_Sc hT hb))
  have HVA := hide (fun (w1 : World) (hb : Below w.heap.size w w1) => evvalid_any w1 v (There.keep rd_Sc hT hb) x A c (hv.below rd_V0 hb))
  have HX := hide (Bl.new w [.int .i64 x.a, .int .i64 x.b, .int .i64 x.c, .int .i64 x.d, .slice A x.vs.length c] 51)
  have HB := hide (below_laid (w := w) (.cells #[.int .i64 x.a, .int .i64 x.b, .int .i64 x.c, .int .i64 x.d, .slice A x.vs.length c] 51))
  rw [tt_ok] at HTY
  obtain ⟨P, hP⟩ : ∃ P, EvOK x = P := ⟨_, rfl⟩
  rw [hP] at HVA ⊢
  clear hP hT hv
  obtain ⟨a, b, c', d, vs⟩ := x
  simp only at HVA HX HB ⊢
  obtain ⟨n, hn⟩ : ∃ n, vs.length = n := ⟨_, rfl⟩
  simp only [hn] at HVA HX HB ⊢
  clear hn
  go_enter Tryz.func52, Tryz.ntmps52
  go_upto_region 1 with (fail)
  obtain ⟨W1, hW1⟩ : ∃ W1, w.alloc (.cells #[.int .i64 a, .int .i64 b, .int .i64 c', .int .i64 d, .slice A n c] 51) = W1 := ⟨_, rfl⟩
  rw [hW1] at HX HB ⊢
  clear hW1
  have HTY1 := hide (HTY.out W1 HB.out)
  go_wp2_with fail
  refine HTY1.out.mono ?_
  rintro e1 w1 ⟨rfl, hb1⟩
  have HX1 := hide (HX.out.keep hb1)
  have HB1 := hide (bthen HB.out hb1)
  have HVA1 := hide (HVA.out w1 HB1.out)
  clear hb1
  have x0 := HX1.out.c 0 _ rfl
  have x1 := HX1.out.c 1 _ rfl
  have x2 := HX1.out.c 2 _ rfl
  have x3 := HX1.out.c 3 _ rfl
  have x4 := HX1.out.c 4 _ rfl
  go_wp2_with fail
  refine HVA1.out.mono ?_
  rintro e2 w2 ⟨e, rfl, he, hb2⟩
  have HE := hide he
  have HB2 := hide (bthen HB1.out hb2)
  clear he hb2
  go_wp2
  go_ret
  exact ⟨e, rfl, HE.out, HB2.out⟩
/-- A value's cells. -/
def v3c (v : V3) : List Value := [.int .i64 v.q, .int .i64 v.n, .string v.s]
set_option maxRecDepth 100000 in
set_option maxHeartbeats 16000000 in
theorem evkey_any (v : Value) (hT : There RSc 2 w v TT) (kg ko kc : Nat) (hk : w.cell? ⟨kg, ko, none⟩ = some (.int .i64 0)) (x : Evt) (z : V3) (A : Option Addr) (c : Nat) (hv : Lst w (· < w.heap.size) 3 RV0 (.slice A x.vs.length c) x.vs) (hok : EvOK x) (hz : x.vs = [z]) :
    Calls Tryz.prog 53 #[v, .slice (some ⟨kg, ko, none⟩) 1 kc, .agg #[.int .i64 x.a, .int .i64 x.b, .int .i64 x.c, .int .i64 x.d, .slice A x.vs.length c]] w (Ret (.tuple #[.agg #[.int .i64 z.q, .int .i64 z.n, .string z.s], .bool true, .int .i64 0]) w) := by
  have HCK := hide (fun (w1 : World) (hb : Below w.heap.size w w1) => evcheck_any w1 v (There.keep rd_Sc hT hb) x A c (hv.below rd_V0 hb))
  have HOK := hide hok
  have hc0 := hok.2.1
  obtain ⟨g, o, c1, h, o2, c2, rfl, hty⟩ := ty_cells hT
  have HTY := hide (fun (w1 : World) (hb : Below w.heap.size w w1) => hty.keep hb)
  have HKC := hide (fun (w1 : World) (hb : Below w.heap.size w w1) => keep1 hb hk)
  obtain ⟨X1, hX1⟩ : ∃ X, X = w.alloc (.cells #[.int .i64 x.a, .int .i64 x.b, .int .i64 x.c, .int .i64 x.d, .slice A x.vs.length c] 51) := ⟨_, rfl⟩
  have hB1 : Below w.heap.size w X1 := by rw [hX1]; exact below_laid _
  have hsz1 : X1.heap.size = w.heap.size + 1 := by rw [hX1]; simp
  have hbx := Bl.new w [.int .i64 x.a, .int .i64 x.b, .int .i64 x.c, .int .i64 x.d, .slice A x.vs.length c] 51
  rw [← hX1] at hbx
  obtain ⟨W2, hW2⟩ : ∃ X, X = X1.alloc (.cells #[.int .i64 0, .int .i64 0, .string ⟨#[]⟩] 72) := ⟨_, rfl⟩
  have hbz := Bl.new X1 [.int .i64 0, .int .i64 0, .string ⟨#[]⟩] 72
  rw [← hW2, hsz1] at hbz
  have HX := hide (show Bl W2 w.heap.size [.int .i64 x.a, .int .i64 x.b, .int .i64 x.c, .int .i64 x.d, .slice A x.vs.length c] by rw [hW2]; exact hbx.laid _)
  have HZ := hide hbz
  have HB := hide (show Below w.heap.size w W2 by rw [hW2]; exact bthen hB1 (below_laid _))
  have HWW := hide (show (w.alloc (.cells #[.int .i64 x.a, .int .i64 x.b, .int .i64 x.c, .int .i64 x.d, .slice A x.vs.length c] 51)).alloc (.cells #[.int .i64 0, .int .i64 0, .string ⟨#[]⟩] 72) = W2 by rw [hW2, hX1])
  obtain ⟨a, b, c', d, vs⟩ := x
  simp only at hz hc0
  subst hz hc0
  obtain ⟨g', o', ys, hA, -, -, hyc, hR⟩ := hv.at_ (j := 0) (by simp)
  obtain ⟨rfl, -, hzs⟩ := hR
  have HKV := hide (And.intro (hyc 0 _ rfl) (And.intro (hyc 1 _ rfl) (hyc 2 _ rfl)))
  subst hA
  simp only [List.length_singleton, Nat.zero_mul, Nat.add_zero, List.getElem_cons_zero] at HCK HX HWW HKV ⊢
  obtain ⟨q, m, s⟩ := z
  simp only at HKV ⊢
  clear hT hk hv hok hty hB1 hbx hbz hsz1 hX1 hW2 hyc hzs
  go_enter Tryz.func53, Tryz.ntmps53
  go_upto_region 1 with (fail)
  rw [HWW.out]
  clear HWW
  have HCK1 := hide (HCK.out W2 HB.out)
  have x0 := HX.out.c 0 _ rfl
  have x1 := HX.out.c 1 _ rfl
  have x2 := HX.out.c 2 _ rfl
  have x3 := HX.out.c 3 _ rfl
  have x4 := HX.out.c 4 _ rfl
  go_wp2_with fail
  refine HCK1.out.mono ?_
  rintro e1 w1 ⟨e, rfl, he, hb1⟩
  obtain rfl : e = 0 := he.2 HOK.out
  have HX1 := hide (HX.out.keep hb1)
  have HZ1 := hide (HZ.out.keep hb1)
  have HB1 := hide (bthen HB.out hb1)
  clear hb1 he x0 x1 x2 x3 x4 HX HZ HB HCK1 HCK
  have kk := HKC.out w1 HB1.out
  have y1 := (HTY.out w1 HB1.out).b
  go_wp2
  go_loopw [32] (fun i wr => ∃ j : Nat, j ≤ 1 ∧ i = .int .i64 j ∧ wr = w1) (fun i _ => 1 - (intOf i).toNat)
  case atStart => exact ⟨0, by omega, rfl, rfl⟩
  case round =>
    obtain ⟨j, hj, rfl, rfl⟩ := hrel
    rcases (by omega : j = 0 ∨ j = 1) with rfl | rfl
    · go_wp2
      go_roundw
      case rel => exact ⟨1, by omega, by first | rfl | go_num, by first | trivial | rfl⟩
      case measure => simp [intOf]
    · have x2 := HX1.out.c 2 _ rfl
      have x4 := HX1.out.c 4 _ rfl
      have k0 := keep1 HB1.out HKV.out.1
      have k1 := keep1 HB1.out HKV.out.2.1
      have k2 := keep1 HB1.out HKV.out.2.2
      have z0 := HZ1.out.c 0 _ rfl
      have z1 := HZ1.out.c 1 _ rfl
      have z2 := HZ1.out.c 2 _ rfl
      have g0 := HZ1.out.f 0
      have g1 := HZ1.out.f 1
      have g2 := HZ1.out.f 2
      go_wp2
      refine bodyPost_ret (v := .tuple #[.agg #[.int .i64 q, .int .i64 m, .string s], .bool true, .int .i64 0]) (by rw [results_ctt rfl]; go_simp) rfl ?_
      refine ⟨rfl, Off.below (s := w.heap.size) (d := 2) ?_ HB1.out (Nat.le_refl _)⟩
      repeat (first | refine Off.set ?_ (by constructor <;> simp) | exact Off.refl)
end
end Go.Proofs.YtppaiihcaajkaaaGreat
