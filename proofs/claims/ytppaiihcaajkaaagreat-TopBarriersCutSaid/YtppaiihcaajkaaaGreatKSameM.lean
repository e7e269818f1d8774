/- Sets of numbers in a map; reader.checkKey. reader.Route. The reference's SameItem. -/
import Derived.Test.YtppaiihcaajkaaaGreatKReadM
import Derived.Test.YtppaiihcaajkaaaGreatKKeys
namespace Go.Proofs.YtppaiihcaajkaaaGreat
open Go.RowKit Go.Maps Go.ChangeMaps Go.MapKept Go.WideMaps
set_option linter.unusedVariables false
set_option linter.unusedSimpArgs false
/-- The map b holds the numbers L. -/
def SeenI (w : World) (b : Nat) (L : List Int) : Prop := ∃ n D, w.ownsMap Tryz.prog 3 heldE b n D ∧ n ≤ L.length ∧ Maps.IsMap D ∧ ∀ (s : Int) (z : DataW Value), D.atKey (.int .i64 s) z = if s ∈ L then .held (.bool true) else z
theorem int_key : Keyed Tryz.prog 3 := int_keyed Tryz.underlying3
theorem SeenI.keep {w w' : World} {b : Nat} {L : List Int} (h : SeenI w b L) (hb : Below w.heap.size w w') : SeenI w' b L := by
  obtain ⟨n, D, hown, hn, hm, ha⟩ := h
  exact ⟨n, D, hown.kept (row := none) ⟨hb.os, hb.tape, hb.output, hb.size, fun k hk _ => hb.block k hk⟩ (by simp), hn, hm, ha⟩
theorem SeenI.made (w : World) : SeenI (w.alloc (.map #[] 0)) w.heap.size [] :=
  ⟨0, _, World.ownsMap_made w Tryz.prog 3 heldE, Nat.le_refl _, ⟨_, rfl⟩, fun s z => by simp [WideAt.atKey_none]⟩
theorem SeenI.lt {w : World} {b : Nat} {L : List Int} (h : SeenI w b L) : b < w.heap.size := by obtain ⟨n, D, hown, -⟩ := h; exact hown.lt
section
variable {ops : Array Oper} {rest : List Oper} {o : Oper} {a : Act} {Q : Exit → Act → World → Prop} {w : World}
theorem wpList_look_int (hg : o.guard = none) (m x : Operand) (hop : o.op = Op.lookup 127 m x false) (b : Nat) (L : List Int) (s : Int) (hm : a.eval m = .map (some b)) (hx : a.eval x = .int .i64 s) (hS : SeenI w b L) (hs : inI s)
    (hK : wpList Tryz.prog ops Q rest (a.put o.dst (.bool (decide (s ∈ L)))) w) : wpList Tryz.prog ops Q (o :: rest) a w := by
  refine wpList_plain hg fun K' hK' => ?_
  obtain ⟨n, D, hown, hn, hmp, ha⟩ := hS
  have hz : (zeroValue 4).run Tryz.prog w = .ok (.bool false) w := by kernel_rfl
  have hwf : (Lit.int .i64 s).wf = true := by unfold inI at hs; exact WalkArith.wf_i64 (by omega)
  obtain ⟨v, ps, hrun, hv⟩ := hown.lookup int_key Tryz.underlying127 hz (zd := .held (.bool false)) (zp := []) rfl (keyOf_int_mk Tryz.underlying3 hwf)
  have he : DataW.held v = _ := (Prod.mk.inj (Option.some.inj hv)).1
  rw [ha] at he
  have hve : v = .bool (decide (s ∈ L)) := by
    by_cases h : s ∈ L
    · rw [if_pos h] at he; rw [decide_eq_true h]; exact DataW.held.inj he
    · rw [if_neg h] at he; rw [decide_eq_false h]; exact DataW.held.inj he
  unfold Oper.wp
  simp [execOp, hop, hm, hx, hrun, Result.andThen]
  rw [hve]
  exact hK' _ _ hK
theorem wpList_put_int (hg : o.guard = none) (m x v : Operand) (hop : o.op = Op.mapUpdate 127 m x v) (b : Nat) (L : List Int) (s : Int) (hm : a.eval m = .map (some b)) (hx : a.eval x = .int .i64 s) (hv : a.eval v = .bool true) (hS : SeenI w b L) (hs : inI s) (hL : L.length < 1000) (B : Nat) (hB : B ≤ b) (hBw : B ≤ w.heap.size)
    (hK : ∀ w', SeenI w' b (s :: L) → w.grownBy w' (some b) → Below B w w' → wpList Tryz.prog ops Q rest (a.put o.dst undef) w') : wpList Tryz.prog ops Q (o :: rest) a w := by
  obtain ⟨n, D, hown, hn, hmp, ha⟩ := hS
  have hwf : (Lit.int .i64 s).wf = true := by unfold inI at hs; exact WalkArith.wf_i64 (by omega)
  refine wpList_mapUpdate_own _ hg m x v _ hop 3 _ int_key Tryz.underlying127 heldE b n D hm hown (by unfold maxLen; omega) _ _ _ hx hv (keyOf_int_mk Tryz.underlying3 hwf) _ [] rfl ?_
  intro w' h1 h2
  refine hK w' ⟨n + 1, _, h1, by simp; omega, ?_, fun t z => ?_⟩ h2 ((Below.refl B w).grown h2 hBw fun k hk => by injection hk with hk; omega)
  · obtain ⟨es, rfl⟩ := hmp
    exact ⟨_, DataW.put_eq _ _ _⟩
  · by_cases ht : t = s
    · subst ht
      rw [atKey_put_same hmp (show WideAt.IsKeyLit (.int .i64 t) from trivial), if_pos (List.mem_cons_self ..)]
    · rw [atKey_put_other (by intro e; injection e with e; exact ht (by first | exact e | assumption)), ha]
      by_cases h : t ∈ L
      · rw [if_pos h, if_pos (List.mem_cons_of_mem _ h)]
      · rw [if_neg h, if_neg (by simp [ht, h])]
end
section
variable (w : World)
set_option maxRecDepth 100000 in
set_option maxHeartbeats 16000000 in
theorem ckey_any (v : Value) (hT : There RSc 2 w v TT) (kg ko kc : Nat) (hk : w.cell? ⟨kg, ko, none⟩ = some (.int .i64 0)) : Calls Tryz.prog 50 #[v, .slice (some ⟨kg, ko, none⟩) 1 kc] w (Ret (.int .i64 0) w) := by
  obtain ⟨g, o, c1, h, o2, c2, rfl, hty⟩ := ty_cells hT
  have t1 := hty.b
  have HK := hide hk
  have HT1 := hide t1
  clear hT hty
  go_enter Tryz.func50, Tryz.ntmps50
  go_wp2
  go_loopw [17] (fun ix wr => ∃ j : Nat, j ≤ 1 ∧ ix = .int .i64 j ∧ Hid (wr = w)) (fun ix _ => 1 - (intOf ix).toNat)
  case atStart => exact ⟨0, by omega, rfl, hide rfl⟩
  case round =>
    obtain ⟨j, hj, rfl, HW⟩ := hrel
    have hw := HW.out
    subst hw
    have hjc : j = 0 ∨ j = 1 := by omega
    rcases hjc with rfl | rfl
    · have k0 := HK.out
      have t1 := HT1.out
      go_wp2
      go_roundw
      case rel => exact ⟨1, by omega, by go_num, hide (by trivial)⟩
      case measure => simp [intOf]
    · go_wp2
      go_ret
      exact ⟨rfl, Below.refl _ _⟩
end
end Go.Proofs.YtppaiihcaajkaaaGreat

namespace Go.Proofs.YtppaiihcaajkaaaGreat
open Go.RowKit Go.Maps Go.ChangeMaps Go.MapKept Go.WideMaps
set_option linter.unusedVariables false
set_option linter.unusedSimpArgs false
def wkrI (e : Evt) : Int := match e.vs with | z :: _ => hashV z.q z.n z.s % 16 * 2 / 16 | [] => 0
/-- The workers of an item. -/
def routeI (x : Itm) : List Int := if x.k = 0 then [wkrI x.e] else [0, 1]
def evL (k : Int) : Nat → List Int
  | 0 => []
  | _ + 1 => [k]
theorem wkr_eq {e : Evt} {z : V3} (h : e.vs = [z]) : workerV (hashV z.q z.n z.s % 16) 2 = wkrI e ∧ workerE (hashV z.q z.n z.s % 16) 2 = 0 := by
  have h1 : 0 ≤ hashV z.q z.n z.s % 16 ∧ hashV z.q z.n z.s % 16 < 16 ∧ (1 : Int) ≤ 2 ∧ (2 : Int) ≤ 8 := by omega
  unfold workerV workerE wkrI
  rw [if_pos h1, if_pos h1, h]
  exact ⟨rfl, rfl⟩
theorem wkrI_two (e : Evt) : wkrI e = 0 ∨ wkrI e = 1 := by
  unfold wkrI
  split
  · rename_i z _ _
    have := hashV_range z.q z.n z.s
    omega
  · exact .inl rfl
def revL : Nat → List Int
  | 0 => []
  | n + 1 => (n : Int) :: revL n
def outL (L : List Int) : Nat → List Int
  | 0 => []
  | n + 1 => outL L n ++ (if (n : Int) ∈ L then [(n : Int)] else [])
theorem outL_len (L : List Int) : ∀ n, (outL L n).length ≤ n
  | 0 => Nat.le_refl _
  | n + 1 => by
    have := outL_len L n
    unfold outL
    split <;> simp <;> omega
theorem outL_all : outL (revL 2) 2 = [0, 1] := by decide
theorem outL_one {k : Int} (h : k = 0 ∨ k = 1) : outL [k] 2 = [k] := by rcases h with rfl | rfl <;> decide
def RetRt (l : List Int) (w : World) (e : Ending) (w' : World) : Prop := ∃ v, e = .returned (.tuple #[v, .int .i64 0]) ∧ Lst w' (fun k => w.heap.size ≤ k ∧ k < w'.heap.size) 1 RIn v l ∧ Below w.heap.size w w'
theorem lst_one {α : Type} {R : World → (Nat → Prop) → List Value → α → Prop} {w : World} {Z : Nat → Prop} {g : Nat} {ys : List Value} {y : α} (h : Bl w g ys) (hR : R w Z ys y) (hZ : Z g) : Lst w Z ys.length R (.slice (some ⟨g, 0, none⟩) [y].length 1) [y] := by
  refine ⟨⟨_, _, rfl, Nat.le_refl _, by unfold maxLen; simp⟩, fun j hj => ?_⟩
  obtain rfl : j = 0 := by simp at hj; omega
  exact ⟨g, 0, 1, ys, rfl, hZ, rfl, fun c u hu => by rw [Nat.zero_add, Nat.zero_mul, Nat.zero_add]; exact h.c c u hu, hR⟩
theorem qsw_one {x : Itm} (h : ItemOK x) : QsW [⟨0, 0, [x]⟩] := by
  refine ⟨by simp, fun j hj => ?_, fun q hq y hy => ?_, fun q hq => ?_⟩
  · obtain rfl : j = 0 := by simp at hj; omega
    exact ⟨rfl, rfl⟩
  · rw [List.mem_singleton.1 hq] at hy
    rw [List.mem_singleton.1 hy]; exact h
  · rw [List.mem_singleton.1 hq]; simp
/-- A map is no row. -/
theorem grown_seen {w w' : World} {v : Value} {b base : Nat} {l : List Int} {L : List Int} {Y : Nat → Prop} (hg : w.grownBy w' v.ownBlock) (h : Gq w Y base 3 1 RIn v l) (hS : SeenI w b L) : SeenI w' b L := by
  obtain ⟨n, D, hown, hr⟩ := hS
  refine ⟨n, D, hown.kept hg (fun e => ?_), hr⟩
  obtain ⟨es, clock, hb, -⟩ := hown
  obtain ⟨xs, ho, -⟩ := h
  rcases ho.2 with ⟨rfl, -⟩ | ⟨g, cap, cur, rfl, -, hgc, -⟩
  · cases e
  · injection e with e
    subst e
    rw [hb] at hgc
    cases hgc
section
variable (w : World)
set_option maxRecDepth 100000 in
set_option maxHeartbeats 32000000 in
theorem route_any (W0 : World) (hW : Below W0.heap.size W0 w) (v : Value) (hT : There RSc 2 w v TT) (gk ok ck gi oi ci : Nat) (hk1 : w.cell? ⟨gk, ok, none⟩ = some (.slice (some ⟨gi, oi, none⟩) 1 ci)) (hk2 : w.cell? ⟨gi, oi, none⟩ = some (.int .i64 0))
    (x : Itm) (A : Option Addr) (c : Nat) (hE : VsE W0 A c x.e) (hN : NumI x) (hI : ItemOK x) (hev : x.k = 0 → EvOK x.e) :
    Calls Tryz.prog 38 #[v, .slice (some ⟨gk, ok, none⟩) 1 ck, .int .i64 2, .agg #[.int .i64 x.k, .int .i64 x.e.a, .int .i64 x.e.b, .int .i64 x.e.c, .int .i64 x.e.d, .slice A x.e.vs.length c, .int .i64 x.n]] w (RetRt (routeI x) w) := by
  obtain ⟨i0, hi, hz0, hz1, hz2⟩ := info_parts iq_int
  have HTY := hide (fun (w1 : World) (hb : Below w.heap.size w w1) => types_any w1 TT v (There.keep rd_Sc hT hb))
  rw [tt_ok] at HTY
  have HCK := hide (fun (w1 : World) (hb : Below w.heap.size w w1) => ckey_any w1 v (There.keep rd_Sc hT hb) gi oi ci (keep1 hb hk2))
  have HRI := hide (show ∀ (W : World) (Z : Nat → Prop), RIt W0 W Z [.int .i64 x.k, .int .i64 x.e.a, .int .i64 x.e.b, .int .i64 x.e.c, .int .i64 x.e.d, .slice A x.e.vs.length c, .int .i64 x.n] x from fun W Z => ⟨A, c, rfl, hE, hN⟩)
  have HCC := hide (fun (w1 : World) (g : Nat) (c1 : Nat) (qs : List Que) (hl : Lst w1 (· < w1.heap.size) 3 (RQu W0) (.slice (some ⟨g, 0, none⟩) qs.length c1) qs) (hok : QsW qs) => ccheckw_any w1 W0 qs (some ⟨g, 0, none⟩) c1 hl hok)
  have HIO := hide hI
  have HEO := hide hev
  have hv0 : Lst w (· < w.heap.size) 3 RV0 (.slice A x.e.vs.length c) x.e.vs := Lst.below rd_V0 hE hW
  have HEC := hide (fun (w1 : World) (hb : Below w.heap.size w w1) => evcheck_any w1 v (There.keep rd_Sc hT hb) x.e A c (hv0.below rd_V0 hb))
  have HEK := hide (fun (w1 : World) (hb : Below w.heap.size w w1) (z : V3) (hok : EvOK x.e) (hz : x.e.vs = [z]) => evkey_any w1 v (There.keep rd_Sc hT hb) gi oi ci (keep1 hb hk2) x.e z A c (hv0.below rd_V0 hb) hok hz)
  have HK1 := hide hk1
  have HK2 := hide hk2
  have HX := hide (Bl.new w [.int .i64 x.k, .int .i64 x.e.a, .int .i64 x.e.b, .int .i64 x.e.c, .int .i64 x.e.d, .slice A x.e.vs.length c, .int .i64 x.n] 58)
  have HB := hide (below_laid (w := w) (.cells #[.int .i64 x.k, .int .i64 x.e.a, .int .i64 x.e.b, .int .i64 x.e.c, .int .i64 x.e.d, .slice A x.e.vs.length c, .int .i64 x.n] 58))
  clear hW hT hk1 hk2 hE hN hI hev hv0
  go_enter Tryz.func38, Tryz.ntmps38
  go_upto_region 1 with (fail)
  obtain ⟨W1, hW1⟩ : ∃ W1, w.alloc (.cells #[.int .i64 x.k, .int .i64 x.e.a, .int .i64 x.e.b, .int .i64 x.e.c, .int .i64 x.e.d, .slice A x.e.vs.length c, .int .i64 x.n] 58) = W1 := ⟨_, rfl⟩
  rw [hW1] at HX HB ⊢
  clear hW1
  have HTY1 := hide (HTY.out W1 HB.out)
  go_wp2_with fail
  refine HTY1.out.mono ?_
  rintro e2 w2 ⟨rfl, hb2⟩
  have HX2 := hide (HX.out.keep hb2)
  have HB2 := hide (bthen HB.out hb2)
  clear hb2 HTY1 HTY HX HB
  go_wp2
  go_loopw [39] (fun ix wr => ∃ j : Nat, j ≤ 1 ∧ ix = .int .i64 j ∧ Hid (Bl wr w.heap.size [.int .i64 x.k, .int .i64 x.e.a, .int .i64 x.e.b, .int .i64 x.e.c, .int .i64 x.e.d, .slice A x.e.vs.length c, .int .i64 x.n]) ∧ Hid (Below w.heap.size w wr)) (fun ix _ => 1 - (intOf ix).toNat)
  case atStart => exact ⟨0, by omega, rfl, HX2, HB2⟩
  case round =>
    clear HX2 HB2
    obtain ⟨j, hj, rfl, HX3, HB3⟩ := hrel
    have hjc : j = 0 ∨ j = 1 := by omega
    rcases hjc with rfl | rfl
    · have k1 := keep1 HB3.out HK1.out
      have HCK3 := hide (HCK.out wr HB3.out)
      go_wp2_with fail
      refine HCK3.out.mono ?_
      rintro e4 w4 ⟨rfl, hb4⟩
      have HX4 := hide (HX3.out.keep hb4)
      have HB4 := hide (bthen HB3.out hb4)
      clear hb4 HCK3
      go_wp2_with fail
      go_roundw
      case rel => exact ⟨1, by omega, by go_num, HX4, HB4⟩
      case measure => simp [intOf]
    · have e1 : ((1 : Nat) : Int) = 1 := rfl
      simp only [e1]
      clear e1
      have x0 := HX3.out.c 0 _ rfl
      have x1 := HX3.out.c 1 _ rfl
      have x2 := HX3.out.c 2 _ rfl
      have x3 := HX3.out.c 3 _ rfl
      have x4 := HX3.out.c 4 _ rfl
      have x5 := HX3.out.c 5 _ rfl
      have x6 := HX3.out.c 6 _ rfl
      go_wp2_with fail
      obtain ⟨W5, hW5⟩ : ∃ W5, wr.alloc (.cells #[.int .i64 x.k, .int .i64 x.e.a, .int .i64 x.e.b, .int .i64 x.e.c, .int .i64 x.e.d, .slice A x.e.vs.length c, .int .i64 x.n] 58) = W5 := ⟨_, rfl⟩
      obtain ⟨W6, hW6⟩ : ∃ W6, W5.alloc (.cells #[.int .i64 0, .int .i64 0, .slice (some ⟨wr.heap.size, 0, none⟩) 1 1] 88) = W6 := ⟨_, rfl⟩
      have hs5 : W5.heap.size = wr.heap.size + 1 := by rw [← hW5]; simp
      have hs6 : W6.heap.size = wr.heap.size + 2 := by rw [← hW6]; simp [hs5]
      have HI6 := hide (show Bl W6 wr.heap.size [.int .i64 x.k, .int .i64 x.e.a, .int .i64 x.e.b, .int .i64 x.e.c, .int .i64 x.e.d, .slice A x.e.vs.length c, .int .i64 x.n] by rw [← hW6, ← hW5]; exact (Bl.new wr _ _).laid _)
      have HQ6 := hide (show Bl W6 (wr.heap.size + 1) [.int .i64 0, .int .i64 0, .slice (some ⟨wr.heap.size, 0, none⟩) 1 1] by rw [← hW6, ← hs5]; exact Bl.new W5 _ _)
      have HB6 := hide (show Below w.heap.size w W6 by rw [← hW6, ← hW5]; exact bthen (bthen HB3.out (below_laid _)) (below_laid _))
      have HX6 := hide (show Bl W6 w.heap.size [.int .i64 x.k, .int .i64 x.e.a, .int .i64 x.e.b, .int .i64 x.e.c, .int .i64 x.e.d, .slice A x.e.vs.length c, .int .i64 x.n] by rw [← hW6, ← hW5]; exact (HX3.out.laid _).laid _)
      rw [hW5, hW6]
      clear hW5 hW6 x0 x1 x2 x3 x4 x5 x6 HX3 HB3
      have HC6 := hide (show Calls Tryz.prog 51 #[.slice (some ⟨wr.heap.size + 1, 0, none⟩) 1 1] W6 (Ret (.int .i64 0) W6) from HCC.out W6 (wr.heap.size + 1) 1 [⟨0, 0, [x]⟩] (lst_one (y := (⟨0, 0, [x]⟩ : Que)) HQ6.out ⟨_, rfl, lst_one HI6.out (HRI.out _ _) HI6.out.lt, inI0, inI0⟩ HQ6.out.lt) (qsw_one HIO.out))
      clear HI6 HQ6 HCC
      refine HC6.out.mono ?_
      rintro e7 w7 ⟨rfl, hb7⟩
      have HX7 := hide (HX6.out.keep hb7)
      have HB7 := hide (bthen HB6.out hb7)
      have hz7 := hb7.size
      clear hb7 HC6 HX6 HB6
      have hmk := @run_makeMap Tryz.prog
      go_upto_region 19 with (fail)
      clear hmk
      obtain ⟨W8, hW8⟩ : ∃ W8, w7.alloc (.map #[] 0) = W8 := ⟨_, rfl⟩
      have HS8 := hide (show SeenI W8 w7.heap.size [] by rw [← hW8]; exact SeenI.made w7)
      have HX8 := hide (show Bl W8 w.heap.size [.int .i64 x.k, .int .i64 x.e.a, .int .i64 x.e.b, .int .i64 x.e.c, .int .i64 x.e.d, .slice A x.e.vs.length c, .int .i64 x.n] by rw [← hW8]; exact HX7.out.laid _)
      have HB8 := hide (show Below w.heap.size w W8 by rw [← hW8]; exact bthen HB7.out (below_laid _))
      have hw7 := HX7.out.lt
      rw [hW8]
      clear hW8 HX7 HB7
      have x0 := HX8.out.c 0 _ rfl
      by_cases hk : x.k = 0
      · have hkb : (x.k != 0) = false := by simp [hk]
        have HRL0 := hide (show routeI x = [wkrI x.e] from if_pos hk)
        have HEV := hide (HEO.out hk)
        clear hk
        have HRL := hide (show outL [wkrI x.e] 2 = routeI x by rw [HRL0.out, outL_one (wkrI_two x.e)])
        have x1 := HX8.out.c 1 _ rfl
        have x2 := HX8.out.c 2 _ rfl
        have x3 := HX8.out.c 3 _ rfl
        have x4 := HX8.out.c 4 _ rfl
        have x5 := HX8.out.c 5 _ rfl
        have HEC8 := hide (HEC.out W8 HB8.out)
        go_wp2_with fail
        refine HEC8.out.mono ?_
        rintro e9 w9 ⟨n9, rfl, hn9, hb9⟩
        obtain rfl : n9 = 0 := hn9.2 HEV.out
        have HS9 := hide (HS8.out.keep hb9)
        have HX9 := hide (HX8.out.keep hb9)
        have HB9 := hide (bthen HB8.out hb9)
        clear hn9 hb9 HEC8 HS8 HX8 HB8 x0 x1 x2 x3 x4 x5
        go_wp2
        go_loopw [84] (fun ix wr => ∃ j : Nat, j ≤ 1 ∧ ix = .int .i64 j ∧ Hid (SeenI wr w7.heap.size (evL (wkrI x.e) j)) ∧ Hid (Bl wr w.heap.size [.int .i64 x.k, .int .i64 x.e.a, .int .i64 x.e.b, .int .i64 x.e.c, .int .i64 x.e.d, .slice A x.e.vs.length c, .int .i64 x.n]) ∧ Hid (Below w.heap.size w wr)) (fun ix _ => 1 - (intOf ix).toNat)
        case atStart => exact ⟨0, by omega, rfl, HS9, HX9, HB9⟩
        case round =>
          clear HS9 HX9 HB9
          obtain ⟨j, hj, rfl, HS, HX, HB⟩ := hrel
          have hjc : j = 0 ∨ j = 1 := by omega
          rcases hjc with rfl | rfl
          · obtain ⟨z, hz, hzv⟩ := HEV.out.2.2
            have HEK1 := hide (HEK.out wr HB.out z HEV.out hz)
            have HWK := hide (wkr_eq hz)
            have HGR := hide (fun (w1 : World) => group_any z.q z.n z.s w1 (by have := (checkC_okH hzv.1).2; unfold maxLen; omega))
            have HWR := hide (fun (w1 : World) => worker_any (hashV z.q z.n z.s % 16) 2 w1)
            rw [hzv.1] at HGR
            rw [HWK.out.1, HWK.out.2] at HWR
            obtain ⟨zq, zn, zs⟩ := z
            simp only at HEK1 HGR HWR
            obtain ⟨K, hK⟩ : ∃ K, wkrI x.e = K := ⟨_, rfl⟩
            have HKK := hide (show inI K by rw [← hK]; unfold inI; rcases wkrI_two x.e with h | h <;> omega)
            rw [hK] at HS HWR HRL ⊢
            obtain ⟨H, hH⟩ : ∃ H, hashV zq zn zs % 16 = H := ⟨_, rfl⟩
            rw [hH] at HGR HWR
            clear hK hH hz hzv HWK
            have k1 := keep1 HB.out HK1.out
            have x1 := HX.out.c 1 _ rfl
            have x2 := HX.out.c 2 _ rfl
            have x3 := HX.out.c 3 _ rfl
            have x4 := HX.out.c 4 _ rfl
            have x5 := HX.out.c 5 _ rfl
            go_wp2_with fail
            refine HEK1.out.mono ?_
            rintro e4 w4 ⟨rfl, hb4⟩
            have HS4 := hide (HS.out.keep hb4)
            have HX4 := hide (HX.out.keep hb4)
            have HB4 := hide (bthen HB.out hb4)
            clear hb4 HEK1 x1 x2 x3 x4 x5 k1
            go_wp2_with fail
            refine (HGR.out _).mono ?_
            rintro e5 w5 ⟨rfl, hb5⟩
            have HS5 := hide ((HS4.out.keep (below_laid _)).keep hb5)
            have HX5 := hide ((HX4.out.laid _).keep hb5)
            have HB5 := hide (bthen (bthen HB4.out (below_laid _)) hb5)
            clear hb5
            go_wp2_with fail
            refine (HWR.out _).mono ?_
            rintro e6 w6 ⟨rfl, hb6⟩
            have HS6 := hide (HS5.out.keep hb6)
            have HX6 := hide (HX5.out.keep hb6)
            have HB6 := hide (bthen HB5.out hb6)
            have HSZ := hide HB6.out.size
            clear hb6
            go_wp2_with (at_mapUpdate; go_loud (refine wpList_put_int rfl (.tmp 113) (.tmp 114) _ (by rfl) w7.heap.size (evL K 0) K (by simp [Act.eval]) (by simp [Act.eval]) (by rfl) HS6.out HKK.out (by simp [evL]) (w.heap.size + 1) (by omega) (by have := HX6.out.lt; omega) ?_; intro w9 hS9 hg9 hb9; have HS9 := hide hS9; have HX9 := hide (HX6.out.grown hg9 (by intro e; injection e with e; omega)); have HB9 := hide (HB6.out.trans (hb9.mono (Nat.le_succ _))); clear hS9 hg9 hb9))
            go_roundw
            case rel => exact ⟨1, by omega, by go_num, HS9, HX9, HB9⟩
            case measure => simp [intOf]
          · have e1 : ((1 : Nat) : Int) = 1 := rfl
            simp only [e1]
            clear e1
            have HS9 := hide (show SeenI wr w7.heap.size [wkrI x.e] from HS.out)
            have HB9 := HB
            clear HS HB HX
            go_wp2
            go_loopw [27, 117] (fun v9 ix wr => ∃ j : Nat, j ≤ 2 ∧ ix = .int .i64 j ∧ Hid (Gq wr (fun b => w.heap.size ≤ b) w.heap.size 3 1 RIn v9 (outL [wkrI x.e] j)) ∧ Hid (SeenI wr w7.heap.size [wkrI x.e]) ∧ Hid (Below w.heap.size w wr)) (fun _ ix _ => 2 - (intOf ix).toNat)
            case atStart => exact ⟨0, by omega, rfl, hide Gq.nil, HS9, HB9⟩
            case round =>
              clear HS9 HB9
              obtain ⟨j, hj, rfl, HG, HS, HB⟩ := hrel
              by_cases hlt : j < 2
              · have hu0 : (0 : Int) ≤ (j : Int) := by omega
                have hu1 : (j : Int) < 2 := by omega
                have hij : inI (j : Int) := by unfold inI; omega
                have HIJ := hide hij
                have hg := HG.out
                obtain ⟨A9, c9, e9⟩ := hg.form
                subst e9
                obtain ⟨n9, hn9⟩ : ∃ n9, (outL [wkrI x.e] j).length = n9 := ⟨_, rfl⟩
                have HN9 := hide hn9
                rw [hn9] at HG ⊢
                clear hg hn9
                by_cases hm : (j : Int) ∈ [wkrI x.e]
                · have HM := hide hm
                  clear hm
                  have HGL := hide (HG.out.keep rd_In (below_laid (.cells #[.int .i64 (j : Int)] 3)))
                  have HBL := hide (Nat.le_trans HB.out.size (below_laid (w := wr) (.cells #[.int .i64 (j : Int)] 3)).size)
                  go_wp2_with first
                    | (at_lookup; refine wpList_look_int rfl (.tmp 120) (.tmp 121) (by rfl) w7.heap.size [wkrI x.e] (j : Int) (by simp [Act.eval]) (by simp [Act.eval]) HS.out HIJ.out ?_; rw [decide_eq_true HM.out])
                    | (at_builtin; go_loud (refine wpList_append_gq rd_In rfl _ _ 30 rfl (fun b => w.heap.size ≤ b) w.heap.size 3 i0 _ 1 8 Tryz.underlying30 hi hz0 hz1 hz2 rfl (by decide) (.slice A9 n9 c9) (outL [wkrI x.e] j) (by simp [Act.eval]) HGL.out wr.heap.size (by simp [Act.eval]) [.int .i64 (j : Int)] rfl (cells_lit wr [.int .i64 (j : Int)] 3) (by simp [Value.oneCell']) (j : Int) ⟨rfl, HIJ.out⟩ (fun b hb => Nat.le_trans HBL.out hb) (by have := outL_len [wkrI x.e] j; omega) (by decide) HBL.out ?_; intro v8 w8 hg8 hgr hbl; have HG8 := hide hg8; have HB8 := hide (HB.out.trans (((below_laid (w := wr) (.cells #[.int .i64 (j : Int)] 3)).mono HB.out.size).trans hbl)); have HS8 := hide (grown_seen hgr HGL.out (HS.out.keep (below_laid _))); clear hg8 hgr hbl))
                  go_roundw
                  case rel => exact ⟨j + 1, by omega, by go_num, by rw [outL, if_pos HM.out]; exact HG8, HS8, HB8⟩
                  case measure => simp [intOf]; omega
                · have HM := hide hm
                  clear hm
                  go_wp2_with (at_lookup; refine wpList_look_int rfl (.tmp 120) (.tmp 121) (by rfl) w7.heap.size [wkrI x.e] (j : Int) (by simp [Act.eval]) (by simp [Act.eval]) HS.out HIJ.out ?_; rw [decide_eq_false HM.out])
                  go_roundw
                  case rel => exact ⟨j + 1, by omega, by go_num, by rw [outL, if_neg HM.out, List.append_nil]; exact HG, HS, HB⟩
                  case measure => simp [intOf]; omega
              · obtain rfl : j = 2 := by omega
                go_wp2
                go_ret2
                exact ⟨_, rfl, by rw [← HRL.out]; exact HG.out.lst rd_In (by decide) (by have := outL_len [wkrI x.e] 2; unfold maxLen; omega), HB.out⟩
      · have hkb : (x.k != 0) = true := by simp [hk]
        have HRL := hide (show outL (revL 2) 2 = routeI x by rw [outL_all, routeI, if_neg hk])
        clear hk
        go_wp2
        go_loopw [69] (fun ix wr => ∃ j : Nat, j ≤ 2 ∧ ix = .int .i64 j ∧ Hid (SeenI wr w7.heap.size (revL j)) ∧ Hid (Below w.heap.size w wr)) (fun ix _ => 2 - (intOf ix).toNat)
        case atStart => exact ⟨0, by omega, rfl, HS8, HB8⟩
        case round =>
          clear HS8 HB8 HX8 x0
          obtain ⟨j, hj, rfl, HS, HB⟩ := hrel
          by_cases hlt : j < 2
          · have hu0 : (0 : Int) ≤ (j : Int) := by omega
            have hu1 : (j : Int) < 2 := by omega
            have HIJ := hide (show inI (j : Int) by unfold inI; omega)
            have HLJ := hide (show (revL j).length < 1000 by rcases (show j = 0 ∨ j = 1 by omega) with rfl | rfl <;> decide)
            have HSZ := hide HB.out.size
            go_wp2_with (at_mapUpdate; refine wpList_put_int rfl (.tmp 72) (.tmp 73) _ (by rfl) w7.heap.size (revL j) (j : Int) (by simp [Act.eval]) (by simp [Act.eval]) (by rfl) HS.out HIJ.out HLJ.out w.heap.size (by omega) HSZ.out ?_; intro w9 hS9 hg9 hb9; have HS9 := hide hS9; have HB9 := hide (HB.out.trans hb9); clear hS9 hg9 hb9)
            go_roundw
            case rel => exact ⟨j + 1, by omega, by go_num, HS9, HB9⟩
            case measure => simp [intOf]; omega
          · obtain rfl : j = 2 := by omega
            have e2 : ((2 : Nat) : Int) = 2 := rfl
            simp only [e2]
            clear e2
            have HS9 := HS
            have HB9 := HB
            clear HS HB
            go_wp2
            go_loopw [27, 117] (fun v9 ix wr => ∃ j : Nat, j ≤ 2 ∧ ix = .int .i64 j ∧ Hid (Gq wr (fun b => w.heap.size ≤ b) w.heap.size 3 1 RIn v9 (outL (revL 2) j)) ∧ Hid (SeenI wr w7.heap.size (revL 2)) ∧ Hid (Below w.heap.size w wr)) (fun _ ix _ => 2 - (intOf ix).toNat)
            case atStart => exact ⟨0, by omega, rfl, hide Gq.nil, HS9, HB9⟩
            case round =>
              clear HS9 HB9
              obtain ⟨j, hj, rfl, HG, HS, HB⟩ := hrel
              by_cases hlt : j < 2
              · have hu0 : (0 : Int) ≤ (j : Int) := by omega
                have hu1 : (j : Int) < 2 := by omega
                have hij : inI (j : Int) := by unfold inI; omega
                have HIJ := hide hij
                have hg := HG.out
                obtain ⟨A9, c9, e9⟩ := hg.form
                subst e9
                obtain ⟨n9, hn9⟩ : ∃ n9, (outL (revL 2) j).length = n9 := ⟨_, rfl⟩
                have HN9 := hide hn9
                rw [hn9] at HG ⊢
                clear hg hn9
                by_cases hm : (j : Int) ∈ (revL 2)
                · have HM := hide hm
                  clear hm
                  have HGL := hide (HG.out.keep rd_In (below_laid (.cells #[.int .i64 (j : Int)] 3)))
                  have HBL := hide (Nat.le_trans HB.out.size (below_laid (w := wr) (.cells #[.int .i64 (j : Int)] 3)).size)
                  go_wp2_with first
                    | (at_lookup; refine wpList_look_int rfl (.tmp 120) (.tmp 121) (by rfl) w7.heap.size (revL 2) (j : Int) (by simp [Act.eval]) (by simp [Act.eval]) HS.out HIJ.out ?_; rw [decide_eq_true HM.out])
                    | (at_builtin; go_loud (refine wpList_append_gq rd_In rfl _ _ 30 rfl (fun b => w.heap.size ≤ b) w.heap.size 3 i0 _ 1 8 Tryz.underlying30 hi hz0 hz1 hz2 rfl (by decide) (.slice A9 n9 c9) (outL (revL 2) j) (by simp [Act.eval]) HGL.out wr.heap.size (by simp [Act.eval]) [.int .i64 (j : Int)] rfl (cells_lit wr [.int .i64 (j : Int)] 3) (by simp [Value.oneCell']) (j : Int) ⟨rfl, HIJ.out⟩ (fun b hb => Nat.le_trans HBL.out hb) (by have := outL_len (revL 2) j; omega) (by decide) HBL.out ?_; intro v8 w8 hg8 hgr hbl; have HG8 := hide hg8; have HB8 := hide (HB.out.trans (((below_laid (w := wr) (.cells #[.int .i64 (j : Int)] 3)).mono HB.out.size).trans hbl)); have HS8 := hide (grown_seen hgr HGL.out (HS.out.keep (below_laid _))); clear hg8 hgr hbl))
                  go_roundw
                  case rel => exact ⟨j + 1, by omega, by go_num, by rw [outL, if_pos HM.out]; exact HG8, HS8, HB8⟩
                  case measure => simp [intOf]; omega
                · have HM := hide hm
                  clear hm
                  go_wp2_with (at_lookup; refine wpList_look_int rfl (.tmp 120) (.tmp 121) (by rfl) w7.heap.size (revL 2) (j : Int) (by simp [Act.eval]) (by simp [Act.eval]) HS.out HIJ.out ?_; rw [decide_eq_false HM.out])
                  go_roundw
                  case rel => exact ⟨j + 1, by omega, by go_num, by rw [outL, if_neg HM.out, List.append_nil]; exact HG, HS, HB⟩
                  case measure => simp [intOf]; omega
              · obtain rfl : j = 2 := by omega
                go_wp2
                go_ret2
                exact ⟨_, rfl, by rw [← HRL.out]; exact HG.out.lst rd_In (by decide) (by have := outL_len (revL 2) 2; unfold maxLen; omega), HB.out⟩
end
end Go.Proofs.YtppaiihcaajkaaaGreat

namespace Go.Proofs.YtppaiihcaajkaaaGreat
open Go.RowKit
set_option linter.unusedVariables false
set_option linter.unusedSimpArgs false
/-- A call that returns whether p. -/
def RetIff (p : Prop) (w : World) (e : Ending) (w' : World) : Prop := ∃ b : Bool, (b = true ↔ p) ∧ e = .returned (.bool b) ∧ Below w.heap.size w w'
theorem RetIff.yes {p : Prop} {w w' : World} (h : p) (hb : Below w.heap.size w w') : RetIff p w (.returned (.bool true)) w' := ⟨true, by simp [h], rfl, hb⟩
theorem RetIff.no {p : Prop} {w w' : World} (h : ¬ p) (hb : Below w.heap.size w w') : RetIff p w (.returned (.bool false)) w' := ⟨false, by simp [h], rfl, hb⟩
theorem take_eq {α : Type} {l m : List α} {j : Nat} (hj : j < l.length) (hj' : j < m.length) (h : l.take j = m.take j) (hx : l[j] = m[j]) : l.take (j + 1) = m.take (j + 1) := by
  rw [List.take_succ_eq_append_getElem hj, List.take_succ_eq_append_getElem hj', h, hx]
theorem toList_inj {s t : ByteArray} (h : s.toList = t.toList) : s = t := by
  rw [Lib.toList_data, Lib.toList_data] at h
  rcases s with ⟨⟨a⟩⟩
  rcases t with ⟨⟨b⟩⟩
  simp at h
  rw [h]
theorem two_new (W : World) (xs ys : List Value) (t u : TypeId) : Bl ((W.alloc (.cells xs.toArray t)).alloc (.cells ys.toArray u)).drew W.heap.size xs ∧ Bl ((W.alloc (.cells xs.toArray t)).alloc (.cells ys.toArray u)).drew (W.heap.size + 1) ys ∧ Below W.heap.size W ((W.alloc (.cells xs.toArray t)).alloc (.cells ys.toArray u)).drew := by
  have hs : (W.alloc (.cells xs.toArray t)).heap.size = W.heap.size + 1 := by simp
  refine ⟨((Bl.new W xs t).laid _).drew, ?_, (bthen (below_laid _) (below_laid _)).drew⟩
  have := Bl.new (W.alloc (.cells xs.toArray t)) ys u
  rw [hs] at this
  exact this.drew
section
variable (w : World)
set_option maxRecDepth 100000 in
set_option maxHeartbeats 16000000 in
theorem same_any (x y : Itm) (A B : Option Addr) (ca cb : Nat) {Z Y : Nat → Prop} (hv : Lst w Z 3 RV0 (.slice A x.e.vs.length ca) x.e.vs) (hu : Lst w Y 3 RV0 (.slice B y.e.vs.length cb) y.e.vs) (hz : ∀ k, Z k → k < w.heap.size) (hy : ∀ k, Y k → k < w.heap.size) :
    Calls Tryz.prog 12 #[.agg #[.int .i64 x.k, .int .i64 x.e.a, .int .i64 x.e.b, .int .i64 x.e.c, .int .i64 x.e.d, .slice A x.e.vs.length ca, .int .i64 x.n], .agg #[.int .i64 y.k, .int .i64 y.e.a, .int .i64 y.e.b, .int .i64 y.e.c, .int .i64 y.e.d, .slice B y.e.vs.length cb, .int .i64 y.n]] w (RetIff (x = y) w) := by
  have HV := hide (fun (w1 : World) (hb : Below w.heap.size w w1) => hv.keep rd_V0 (Kp.of_below hb |>.less hz))
  have HU := hide (fun (w1 : World) (hb : Below w.heap.size w w1) => hu.keep rd_V0 (Kp.of_below hb |>.less hy))
  have hml := hv.len
  unfold maxLen at hml
  clear hv hu hz hy
  obtain ⟨k, ⟨a, b, c, d, vs⟩, n⟩ := x
  obtain ⟨k', ⟨a', b', c', d', us⟩, n'⟩ := y
  simp only at HV HU hml ⊢
  obtain ⟨PP, hPP⟩ : ∃ PP, ((⟨k, ⟨a, b, c, d, vs⟩, n⟩ : Itm) = ⟨k', ⟨a', b', c', d', us⟩, n'⟩) = PP := ⟨_, rfl⟩
  have HPP := hide (show PP ↔ (k = k' ∧ n = n' ∧ a = a' ∧ b = b' ∧ c = c' ∧ d = d' ∧ vs = us) by
    rw [← hPP]
    exact ⟨fun e => by injection e with e1 e2 e3; injection e2 with e4 e5 e6 e7 e8; exact ⟨e1, e3, e4, e5, e6, e7, e8⟩, fun ⟨e1, e2, e3, e4, e5, e6, e7⟩ => by subst e1 e2 e3 e4 e5 e6 e7; rfl⟩)
  rw [hPP]
  clear hPP
  obtain ⟨m, hm⟩ : ∃ m, vs.length = m := ⟨_, rfl⟩
  obtain ⟨m', hm'⟩ : ∃ m', us.length = m' := ⟨_, rfl⟩
  have HM := hide hm
  have HM' := hide hm'
  simp only [hm, hm'] at HV HU hml ⊢
  clear hm hm'
  obtain ⟨X1, hX1⟩ : ∃ X1, w.alloc (.cells #[.int .i64 k, .int .i64 a, .int .i64 b, .int .i64 c, .int .i64 d, .slice A m ca, .int .i64 n] 58) = X1 := ⟨_, rfl⟩
  obtain ⟨W2, hW2⟩ : ∃ W2, X1.alloc (.cells #[.int .i64 k', .int .i64 a', .int .i64 b', .int .i64 c', .int .i64 d', .slice B m' cb, .int .i64 n'] 58) = W2 := ⟨_, rfl⟩
  have hs1 : X1.heap.size = w.heap.size + 1 := by rw [← hX1]; simp
  have HX := hide (show Bl W2 w.heap.size [.int .i64 k, .int .i64 a, .int .i64 b, .int .i64 c, .int .i64 d, .slice A m ca, .int .i64 n] by rw [← hW2, ← hX1]; exact (Bl.new w _ _).laid _)
  have HY := hide (show Bl W2 (w.heap.size + 1) [.int .i64 k', .int .i64 a', .int .i64 b', .int .i64 c', .int .i64 d', .slice B m' cb, .int .i64 n'] by rw [← hW2, ← hs1]; exact Bl.new X1 _ _)
  have HB := hide (show Below w.heap.size w W2 by rw [← hW2, ← hX1]; exact bthen (below_laid _) (below_laid _))
  have HWW := hide (show (w.alloc (.cells #[.int .i64 k, .int .i64 a, .int .i64 b, .int .i64 c, .int .i64 d, .slice A m ca, .int .i64 n] 58)).alloc (.cells #[.int .i64 k', .int .i64 a', .int .i64 b', .int .i64 c', .int .i64 d', .slice B m' cb, .int .i64 n'] 58) = W2 by rw [hX1, hW2])
  clear hs1 hX1 hW2
  go_enter Tryz.func12, Tryz.ntmps12
  go_upto_region 1 with (fail)
  rw [HWW.out]
  clear HWW
  have x1 := HX.out.c 1 _ rfl
  have x2 := HX.out.c 2 _ rfl
  have x3 := HX.out.c 3 _ rfl
  have x4 := HX.out.c 4 _ rfl
  have x5 := HX.out.c 5 _ rfl
  have y1 := HY.out.c 1 _ rfl
  have y2 := HY.out.c 2 _ rfl
  have y3 := HY.out.c 3 _ rfl
  have y4 := HY.out.c 4 _ rfl
  have y5 := HY.out.c 5 _ rfl
  have lx := HX.out.lt
  have ly := HY.out.lt
  go_cut [5, 6] from 8 to 11 (fun p q wx => ∃ b5 b6 : Nat, p = .pointer (some ⟨b5, 0, none⟩) ∧ q = .pointer (some ⟨b6, 0, none⟩) ∧ Hid (Bl wx b5 [.int .i64 a, .int .i64 b, .int .i64 c, .int .i64 d, .slice A m ca] ∧ Bl wx b6 [.int .i64 a', .int .i64 b', .int .i64 c', .int .i64 d', .slice B m' cb] ∧ Below W2.heap.size W2 wx))
  case first =>
    go_region
    all_goals go_wp2_with fail
    all_goals go_meet
    all_goals first
      | with_reducible exact ⟨W2.heap.size, W2.heap.size + 1, rfl, rfl, hide (two_new W2 [.int .i64 a, .int .i64 b, .int .i64 c, .int .i64 d, .slice A m ca] [.int .i64 a', .int .i64 b', .int .i64 c', .int .i64 d', .slice B m' cb] 51 51)⟩
      | with_reducible exact ⟨W2.heap.size + 1, W2.heap.size, rfl, rfl, hide ⟨(two_new W2 [.int .i64 a', .int .i64 b', .int .i64 c', .int .i64 d', .slice B m' cb] [.int .i64 a, .int .i64 b, .int .i64 c, .int .i64 d, .slice A m ca] 51 51).2.1, (two_new W2 [.int .i64 a', .int .i64 b', .int .i64 c', .int .i64 d', .slice B m' cb] [.int .i64 a, .int .i64 b, .int .i64 c, .int .i64 d, .slice A m ca] 51 51).1, (two_new W2 [.int .i64 a', .int .i64 b', .int .i64 c', .int .i64 d', .slice B m' cb] [.int .i64 a, .int .i64 b, .int .i64 c, .int .i64 d, .slice A m ca] 51 51).2.2⟩⟩
  case rest =>
    obtain ⟨b5, b6, rfl, rfl, HH⟩ := hcut
    obtain ⟨W4, hW4⟩ : ∃ W4, wc = W4 := ⟨_, rfl⟩
    rw [hW4] at HH ⊢
    have H5 := hide HH.out.1
    have H6 := hide HH.out.2.1
    have HX4 := hide (HX.out.keep HH.out.2.2)
    have HY4 := hide (HY.out.keep HH.out.2.2)
    have HB4 := hide (bthen HB.out HH.out.2.2)
    clear HH hW4 x1 x2 x3 x4 x5 y1 y2 y3 y4 y5 HX HY HB lx ly
    have x0 := HX4.out.c 0 _ rfl
    have x6 := HX4.out.c 6 _ rfl
    have y0 := HY4.out.c 0 _ rfl
    have y6 := HY4.out.c 6 _ rfl
    have p0 := H5.out.c 0 _ rfl
    have q0 := H6.out.c 0 _ rfl
    have p1 := H5.out.c 1 _ rfl
    have q1 := H6.out.c 1 _ rfl
    have p2 := H5.out.c 2 _ rfl
    have q2 := H6.out.c 2 _ rfl
    have p3 := H5.out.c 3 _ rfl
    have q3 := H6.out.c 3 _ rfl
    have p4 := H5.out.c 4 _ rfl
    have q4 := H6.out.c 4 _ rfl
    by_cases ek : k = k'
    · subst ek
      by_cases en : n = n'
      · subst en
        by_cases ea : a = a'
        · subst ea
          by_cases eb : b = b'
          · subst eb
            by_cases ec : c = c'
            · subst ec
              by_cases ed : d = d'
              · subst ed
                by_cases em : m = m'
                · subst em
                  go_wp2
                  go_loopw [7] (fun i wr => ∃ j : Nat, j ≤ m ∧ i = .int .i64 j ∧ Hid (vs.take j = us.take j) ∧ Hid (Below W4.heap.size W4 wr)) (fun i _ => m - (intOf i).toNat)
                  case atStart => exact ⟨0, by omega, rfl, hide rfl, hide (Below.refl _ _)⟩
                  case round =>
                    obtain ⟨j, hj, rfl, HE, HBR⟩ := hrel
                    have p4 := keep1 HBR.out p4
                    have q4 := keep1 HBR.out q4
                    have HB4 := hide (bthen HB4.out HBR.out)
                    by_cases hlt : j < m
                    · have hjl : j < vs.length := by rw [HM.out]; exact hlt
                      have hjk : j < us.length := by rw [HM'.out]; exact hlt
                      obtain ⟨g, off, xs, e2, hg, hxl, hc, hR⟩ := (HV.out wr HB4.out).at_ hjl
                      cases e2
                      obtain ⟨g', off', ys, e3, hg', hyl, hc', hR'⟩ := (HU.out wr HB4.out).at_ hjk
                      cases e3
                      have HYS := hide (fun h => take_eq hjl hjk HE.out h)
                      have HNO : Hid (vs[j] ≠ us[j] → ¬ PP) := hide (fun h e => h (by have := HPP.out.1 e; have hvu : vs = us := (by first | exact this | exact this.2.2.2.2.2.2); subst hvu; rfl))
                      obtain ⟨x, hx⟩ : ∃ x, vs[j] = x := ⟨_, rfl⟩
                      obtain ⟨y, hy⟩ : ∃ y, us[j] = y := ⟨_, rfl⟩
                      rw [hx] at hR HYS HNO
                      rw [hy] at hR' HYS HNO
                      obtain ⟨rfl, -, -⟩ := hR
                      obtain ⟨rfl, -, -⟩ := hR'
                      have k0 := hc 0 _ rfl
                      have k1 := hc 1 _ rfl
                      have k2 := hc 2 _ rfl
                      have m0 := hc' 0 _ rfl
                      have m1 := hc' 1 _ rfl
                      have m2 := hc' 2 _ rfl
                      rw [Nat.add_zero] at k0 m0
                      have hu0 : (0 : Int) ≤ (j : Int) := by omega
                      have hu1 : (j : Int) < (m : Int) := by omega
                      obtain ⟨xq, xn, xt⟩ := x
                      obtain ⟨yq, yn, yt⟩ := y
                      simp only at k0 k1 k2 m0 m1 m2
                      clear hx hy hc hxl hc' hyl
                      by_cases c1 : xq = yq
                      · subst c1
                        by_cases c2 : xn = yn
                        · subst c2
                          by_cases c3 : xt.toList = yt.toList
                          · obtain rfl : xt = yt := toList_inj c3
                            have HE2 := hide (HYS.out rfl)
                            clear c3
                            go_wp2_with fail
                            go_region
                            all_goals
                              go_wp2
                              go_roundw
                              case rel => exact ⟨j + 1, by omega, by go_num, HE2, hide HBR.out.drew⟩
                              case measure => simp [intOf]; omega
                          · have HF := hide (HNO.out (fun h => c3 (by injection h with _ _ h; rw [h])))
                            go_wp2_with fail
                            go_region
                            all_goals
                              go_wp2
                              go_ret
                              exact RetIff.no HF.out HB4.out.drew
                        · have HF := hide (HNO.out (fun h => c2 (by injection h)))
                          go_wp2_with fail
                          go_region
                          all_goals
                            go_wp2
                            go_ret
                            exact RetIff.no HF.out HB4.out.drew
                      · have HF := hide (HNO.out (fun h => c1 (by injection h)))
                        go_wp2_with fail
                        go_region
                        all_goals
                          go_wp2
                          go_ret
                          exact RetIff.no HF.out HB4.out.drew
                    · obtain rfl : j = m := by omega
                      have HF := hide (show vs = us by
                        have := HE.out
                        rwa [List.take_of_length_le (by rw [HM.out]; exact Nat.le_refl _), List.take_of_length_le (by rw [HM'.out]; exact Nat.le_refl _)] at this)
                      go_wp2
                      go_ret
                      exact RetIff.yes (by have h := HPP.out; first | exact h.2 HF.out | exact h.2 ⟨rfl, rfl, rfl, rfl, rfl, rfl, HF.out⟩ | (simp [HF.out] at h; exact h)) HB4.out
                · have t1 : ((m : Int) != (m' : Int)) = true := bne_iff_ne.2 (by omega)
                  have HF := hide (show ¬ PP by have h := HPP.out; first | exact h | (simp [(show ¬ vs = us from fun h => em (by rw [← HM.out, ← HM'.out, h]))] at h; exact h))
                  go_wp2_with fail
                  go_ret
                  exact RetIff.no HF.out HB4.out
              · have HF := hide (show ¬ PP by have h := HPP.out; first | exact h | (simp [ed] at h; exact h))
                go_wp2_with fail
                go_ret
                exact RetIff.no HF.out HB4.out
            · have HF := hide (show ¬ PP by have h := HPP.out; first | exact h | (simp [ec] at h; exact h))
              go_wp2_with fail
              go_ret
              exact RetIff.no HF.out HB4.out
          · have HF := hide (show ¬ PP by have h := HPP.out; first | exact h | (simp [eb] at h; exact h))
            go_wp2_with fail
            go_ret
            exact RetIff.no HF.out HB4.out
        · have HF := hide (show ¬ PP by have h := HPP.out; first | exact h | (simp [ea] at h; exact h))
          go_wp2_with fail
          go_ret
          exact RetIff.no HF.out HB4.out
      · have HF := hide (show ¬ PP by have h := HPP.out; first | exact h | (simp [en] at h; exact h))
        go_wp2_with fail
        go_ret
        exact RetIff.no HF.out HB4.out
    · have HF := hide (show ¬ PP by have h := HPP.out; first | exact h | (simp [ek] at h; exact h))
      go_wp2_with fail
      go_ret
      exact RetIff.no HF.out HB4.out
end
end Go.Proofs.YtppaiihcaajkaaaGreat
