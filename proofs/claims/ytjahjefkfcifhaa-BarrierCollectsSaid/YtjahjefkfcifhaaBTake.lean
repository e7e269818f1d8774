/- Take, by its answer; the ways out of the reference's Take that fail. -/
import Derived.Test.YtjahjefkfcifhaaBReg2
namespace Go.Proofs.Ytjahjefkfcifhaa
open Go.RowKit Go.Shelf
set_option linter.unusedVariables false
set_option linter.unusedSimpArgs false

theorem results_ctt {fn : Func} {p u s : Tmp} {ty : TypeId} (h : fn.results = #[.cell p ty, .tmp u, .tmp s]) (tmps : Array Value) (P : Program) (w : World) :
    (results fn tmps).run P w =
      ((asAddr (tmps.getD p undef)).run P w).andThen fun a w₁ => ((loadVar ty a).run P w₁).andThen fun v w₂ => .ok (.tuple #[v, tmps.getD u undef, tmps.getD s undef]) w₂ := by
  simp only [results, h]
  simp [Sem.run_bind, Result.andThen]
theorem results_ccc {fn : Func} {p u s : Tmp} {ty tu ts : TypeId} (h : fn.results = #[.cell p ty, .cell u tu, .cell s ts]) (tmps : Array Value) (P : Program) (w : World) :
    (results fn tmps).run P w =
      ((asAddr (tmps.getD p undef)).run P w).andThen fun a w₁ => ((loadVar ty a).run P w₁).andThen fun v w₂ =>
        ((asAddr (tmps.getD u undef)).run P w₂).andThen fun a' w₃ => ((loadVar tu a').run P w₃).andThen fun v' w₄ =>
          ((asAddr (tmps.getD s undef)).run P w₄).andThen fun a'' w₅ => ((loadVar ts a'').run P w₅).andThen fun v'' w₆ => .ok (.tuple #[v, v', v'']) w₆ := by
  simp only [results, h]
  simp [Sem.run_bind, Result.andThen]

theorem step_frozen {w1 w2 : World} (xs : List Value) {t : TypeId} (hb2 : Below (w1.alloc (.cells xs.toArray t)).heap.size (w1.alloc (.cells xs.toArray t)) w2) (j : Nat) : w2.frozen? ⟨w1.heap.size, j, none⟩ = false := by
  rw [hb2.frozen (p := ⟨w1.heap.size, j, none⟩) (by simp)]
  unfold World.frozen?
  rw [show (⟨w1.heap.size, j, none⟩ : Addr).block = w1.heap.size from rfl, heap_alloc_new]
  simp

def setT (l : List Bool) (i : Int) : List Bool := l.set i.toNat true
def takE (n : Int) (l : List Bool) (i num : Int) : Int := if ¬ inp n l i = 0 then inp n l i else if l.getD i.toNat false = true then 21 else if ¬ num = n + 1 then 22 else if n = 1099511627776 then 17 else 0
def takL (n : Int) (l : List Bool) (i num : Int) : List Bool := if takE n l i num = 0 then (if has false (setT l i) = true then setT l i else falses l.length) else []
def takN (n : Int) (l : List Bool) (i num : Int) : Int := if takE n l i num = 0 then (if has false (setT l i) = true then n else num) else 0
def takA (n : Int) (l : List Bool) (i num : Int) : Bool := if takE n l i num = 0 then !has false (setT l i) else false

theorem tak_bad {n : Int} {l : List Bool} {i num : Int} (h : ¬ takE n l i num = 0) : takL n l i num = [] ∧ takN n l i num = 0 ∧ takA n l i num = false := ⟨if_neg h, if_neg h, if_neg h⟩
theorem tak_part {n : Int} {l : List Bool} {i num : Int} (h : takE n l i num = 0) (h2 : has false (setT l i) = true) : takL n l i num = setT l i ∧ takN n l i num = n ∧ takA n l i num = false := by
  simp [takL, takN, takA, h, h2]
theorem tak_full {n : Int} {l : List Bool} {i num : Int} (h : takE n l i num = 0) (h2 : has false (setT l i) = false) : takL n l i num = falses l.length ∧ takN n l i num = num ∧ takA n l i num = true := by
  simp [takL, takN, takA, h, h2]
theorem tak_zero {n : Int} {l : List Bool} {i num : Int} (h : takE n l i num = 0) : inp n l i = 0 ∧ l.getD i.toNat false = false ∧ num = n + 1 ∧ ¬ n = 1099511627776 := by
  unfold takE at h
  split at h
  · rename_i h1; exact absurd h h1
  · split at h
    · cases h
    · split at h
      · cases h
      · split at h
        · cases h
        · rename_i h1 h2 h3 h4
          exact ⟨by omega, by simpa using h2, by omega, h4⟩

/-- What Take hands back. -/
def RetTak (w : World) (n : Int) (l : List Bool) (i num : Int) (e : Ending) (w' : World) : Prop := RetAl w (takN n l i num) (takL n l i num) #[.bool (takA n l i num), .int .i64 (takE n l i num)] e w'
theorem ret_bad {w w' : World} {n : Int} {l : List Bool} {i num c : Int} (hc : takE n l i num = c) (h : ¬ c = 0) (hb : Below w.heap.size w w') :
    RetTak w n l i num (.returned (.tuple #[.agg #[.int .i64 0, .slice none 0 0], .bool false, .int .i64 c])) w' := by
  subst hc
  obtain ⟨h1, h2, h3⟩ := tak_bad h
  unfold RetTak
  rw [h1, h2, h3]
  exact ⟨_, rfl, row_nil _ _, hb⟩

set_option maxHeartbeats 1000000 in
theorem rtake_chk (n : Int) (A : Option Addr) (cap : Nat) (l : List Bool) (i num : Int) (w : World) (hl : l.length ≤ 1000) (hv : Row w w.heap.size 1 (.slice A l.length cap) l.length (bools l)) (hc : ¬ chk n l = 0) :
    Calls Try.prog 17 #[.agg #[.int .i64 n, .slice A l.length cap], .int .i64 i, .int .i64 num] w (RetTak w n l i num) := by
  have HV := hide ((hv.laid (.cells #[.int .i64 n, .slice A l.length cap] 24)).laid (.cells #[.int .i64 0, .slice none 0 0] 24))
  clear hv
  have HK := hide (@rcheck_any n (.slice A l.length cap) l)
  have HE : Hid (takE n l i num = chk n l) := hide (by unfold takE; rw [show inp n l i = chk n l by unfold inp; rw [if_neg hc], if_pos hc])
  have t1 : (chk n l != 0) = true := by rw [bne_iff_ne]; exact hc
  have HN := hide hc
  clear hc
  generalize chk n l = c at *
  go_enter Try.func17, Try.ntmps17
  go_wp2_with fail
  refine (HK.out _ hl HV.out).mono ?_
  rintro e w1 ⟨rfl, hb⟩
  have hb0 : Below (w.alloc (.cells #[.int .i64 n, .slice A l.length cap] 24)).heap.size (w.alloc (.cells #[.int .i64 n, .slice A l.length cap] 24)) w1 := bthen ((Below.refl _ _).alloc (Nat.le_refl _) _) hb
  obtain ⟨hb', hz, hx⟩ := step_box [.int .i64 n, .slice A l.length cap] hb0
  have x0 := hx 0 _ rfl
  have x1 := hx 1 _ rfl
  obtain ⟨-, hz2, hx2⟩ := step_box [.int .i64 0, .slice none 0 0] hb
  have y0 := hx2 0 _ rfl
  have y1 := hx2 1 _ rfl
  have z0 := step_frozen [.int .i64 0, .slice none 0 0] hb 0
  have z1 := step_frozen [.int .i64 0, .slice none 0 0] hb 1
  rw [World.size_alloc] at y0 y1 hz2 z0 z1
  go_wp2
  refine bodyPost_ret (v := .tuple #[.agg #[.int .i64 0, .slice none 0 0], .bool false, .int .i64 (c)]) (by rw [results_ctt rfl]; go_simp) rfl ?_; exact ret_bad HE.out HN.out ((hb'.setCell (p := ⟨w.heap.size + 1, 0, none⟩) (by simp) _).setCell (p := ⟨w.heap.size + 1, 1, none⟩) (by simp) _)
set_option maxHeartbeats 1000000 in
theorem rtake_out (n : Int) (A : Option Addr) (cap : Nat) (l : List Bool) (i num : Int) (w : World) (hl : l.length ≤ 1000) (hv : Row w w.heap.size 1 (.slice A l.length cap) l.length (bools l)) (hc : chk n l = 0) (hi : ¬ (0 ≤ i ∧ i < (l.length : Int))) :
    Calls Try.prog 17 #[.agg #[.int .i64 n, .slice A l.length cap], .int .i64 i, .int .i64 num] w (RetTak w n l i num) := by
  have HV := hide ((hv.laid (.cells #[.int .i64 n, .slice A l.length cap] 24)).laid (.cells #[.int .i64 0, .slice none 0 0] 24))
  clear hv
  have HK := hide (@rcheck_any n (.slice A l.length cap) l)
  rw [hc] at HK
  have HE : Hid (takE n l i num = 32) := hide (by unfold takE; rw [show inp n l i = 32 by unfold inp; rw [if_pos hc, if_neg hi]]; rfl)
  have HN := hide hi
  clear hc hi
  go_enter Try.func17, Try.ntmps17
  go_wp2_with fail
  refine (HK.out _ hl HV.out).mono ?_
  rintro e w1 ⟨rfl, hb⟩
  have hb0 : Below (w.alloc (.cells #[.int .i64 n, .slice A l.length cap] 24)).heap.size (w.alloc (.cells #[.int .i64 n, .slice A l.length cap] 24)) w1 := bthen ((Below.refl _ _).alloc (Nat.le_refl _) _) hb
  obtain ⟨hb', hz, hx⟩ := step_box [.int .i64 n, .slice A l.length cap] hb0
  have x0 := hx 0 _ rfl
  have x1 := hx 1 _ rfl
  obtain ⟨-, hz2, hx2⟩ := step_box [.int .i64 0, .slice none 0 0] hb
  have y0 := hx2 0 _ rfl
  have y1 := hx2 1 _ rfl
  have z0 := step_frozen [.int .i64 0, .slice none 0 0] hb 0
  have z1 := step_frozen [.int .i64 0, .slice none 0 0] hb 1
  rw [World.size_alloc] at y0 y1 hz2 z0 z1
  rcases (by omega : i < 0 ∨ 0 ≤ i) with h0 | h0
  · have t1 : decide (i < 0) = true := decide_eq_true h0
    clear h0
    go_wp2
    refine bodyPost_ret (v := .tuple #[.agg #[.int .i64 0, .slice none 0 0], .bool false, .int .i64 (32)]) (by rw [results_ctt rfl]; go_simp) rfl ?_; exact ret_bad HE.out (by decide) ((hb'.setCell (p := ⟨w.heap.size + 1, 0, none⟩) (by simp) _).setCell (p := ⟨w.heap.size + 1, 1, none⟩) (by simp) _)
  · have t1 : decide (i < 0) = false := decide_eq_false (by omega)
    have t2 : decide ((l.length : Int) ≤ i) = true := decide_eq_true (by have := HN.out; omega)
    clear h0
    go_wp2
    refine bodyPost_ret (v := .tuple #[.agg #[.int .i64 0, .slice none 0 0], .bool false, .int .i64 (32)]) (by rw [results_ctt rfl]; go_simp) rfl ?_; exact ret_bad HE.out (by decide) ((hb'.setCell (p := ⟨w.heap.size + 1, 0, none⟩) (by simp) _).setCell (p := ⟨w.heap.size + 1, 1, none⟩) (by simp) _)
/-- The flag of the input is set in a copy's row. -/
theorem set_row {w : World} {base g c : Nat} {l : List Bool} {k : Nat} (h : w.ownsRow base 4 1 (.slice (some ⟨g, 0, none⟩) l.length c) l.length (bools l)) (hk : k < l.length) :
    Row (w.setCell ⟨g, k, none⟩ (.bool true)) w.heap.size 1 (.slice (some ⟨g, 0, none⟩) (l.set k true).length c) (l.set k true).length (bools (l.set k true)) := by
  obtain ⟨g', c', e, hb, hg, hnc, hc⟩ := own_cells h (by omega)
  cases e
  refine ⟨by simp [bools], .inr ⟨g, 0, c, rfl, hg, by simpa using hnc, fun j u hj => ?_⟩⟩
  rw [Nat.zero_add]
  by_cases e : j = k
  · subst e
    have hu : u = .bool true := by simp [bools, hk] at hj; exact hj.symm
    rw [hu]
    exact World.cell?_setCell_same' _ _ _ (by rw [hc j _ (by simp [bools, hk]; rfl)]; rfl)
  · rw [World.cell?_setCell_other _ _ _ _ (by intro e'; injection e' with _ e' _; exact e e'.symm)]
    refine hc j u ?_
    simpa [bools, List.getElem?_set, Ne.symm e] using hj

theorem row_set_other {w : World} {B sz m n g off c : Nat} {xs : List Value} (h : Row w B sz (.slice (some ⟨g, off, none⟩) m c) n xs) {a : Addr} (ha : a.block ≠ g) (u : Value) : Row (w.setCell a u) B sz (.slice (some ⟨g, off, none⟩) m c) n xs := by
  refine ⟨h.1, ?_⟩
  rcases h.2 with ⟨h0, _⟩ | ⟨g', off', cap', e, hg, hn, hc⟩
  · cases h0
  · cases e
    exact .inr ⟨g, off, c, rfl, hg, hn, fun j u' hj => by rw [World.cell?_setCell_other _ _ _ _ (by rintro rfl; exact ha rfl)]; exact hc j u' hj⟩

set_option maxHeartbeats 1000000 in
theorem rtake_in (n : Int) (A : Option Addr) (cap : Nat) (l : List Bool) (k : Nat) (num : Int) (w : World) (hl : l.length ≤ 1000) (hv : Row w w.heap.size 1 (.slice A l.length cap) l.length (bools l)) (hc : chk n l = 0) (hk : k < l.length) :
    Calls Try.prog 17 #[.agg #[.int .i64 n, .slice A l.length cap], .int .i64 (k : Int), .int .i64 num] w (RetTak w n l k num) := by
  have HV := hide ((hv.laid (.cells #[.int .i64 n, .slice A l.length cap] 24)).laid (.cells #[.int .i64 0, .slice none 0 0] 24))
  clear hv
  have HK := hide (@rcheck_any n (.slice A l.length cap) l)
  rw [hc] at HK
  have hin := inp_eq (i := (k : Int)) hc (by omega)
  have hr := (chk_zero hc).2.1
  have t1 : decide ((k : Int) < 0) = false := decide_eq_false (by omega)
  have t2 : decide (l.length ≤ k) = false := decide_eq_false (by omega)
  have HG : Hid (l.getD k false = l[k]) := hide (by simp [hk])
  have HE : Hid (takE n l k num = if l[k] = true then 21 else if ¬ num = n + 1 then 22 else if n = 1099511627776 then 17 else 0) := hide (by unfold takE; rw [if_neg (by rw [hin]; simp), Int.toNat_natCast, HG.out])
  clear hin hc
  go_enter Try.func17, Try.ntmps17
  go_wp2_with fail
  refine (HK.out _ hl HV.out).mono ?_
  rintro e w1 ⟨rfl, hb⟩
  have hb0 : Below (w.alloc (.cells #[.int .i64 n, .slice A l.length cap] 24)).heap.size (w.alloc (.cells #[.int .i64 n, .slice A l.length cap] 24)) w1 := bthen ((Below.refl _ _).alloc (Nat.le_refl _) _) hb
  obtain ⟨hb', hz, hx⟩ := step_box [.int .i64 n, .slice A l.length cap] hb0
  have x0 := hx 0 _ rfl
  have x1 := hx 1 _ rfl
  obtain ⟨-, hz2, hx2⟩ := step_box [.int .i64 0, .slice none 0 0] hb
  have y0 := hx2 0 _ rfl
  have y1 := hx2 1 _ rfl
  have z0 := step_frozen [.int .i64 0, .slice none 0 0] hb 0
  have z1 := step_frozen [.int .i64 0, .slice none 0 0] hb 1
  rw [World.size_alloc] at y0 y1 hz2 z0 z1
  obtain ⟨g, off, cap', e1, hg, hcell⟩ := HV.out.flag hb hk
  cases e1
  have HR := hide (HV.out.grow hb)
  have hg1 : g < w1.heap.size := Nat.lt_of_lt_of_le hg hb.size
  clear hx hx2 hb hb0
  cases hlk : l[k]
  · rw [hlk] at hcell HE
    by_cases hnum : num = n + 1
    · by_cases hmax : n = 1099511627776
      · have HC : Hid (takE n l k num = 17) := hide (by rw [HE.out, if_neg (by decide), if_neg (by omega), if_pos hmax])
        have u1 : (num != n + 1) = false := by rw [bne_eq_false_iff_eq]; exact hnum
        have u2 : (n == 1099511627776) = true := by rw [beq_iff_eq]; exact hmax
        clear hnum hmax
        go_wp2
        refine bodyPost_ret (v := .tuple #[.agg #[.int .i64 0, .slice none 0 0], .bool false, .int .i64 (17)]) (by rw [results_ctt rfl]; go_simp) rfl ?_; exact ret_bad HC.out (by decide) ((hb'.setCell (p := ⟨w.heap.size + 1, 0, none⟩) (by simp) _).setCell (p := ⟨w.heap.size + 1, 1, none⟩) (by simp) _)
      · have HC : Hid (takE n l k num = 0) := hide (by rw [HE.out, if_neg (by decide), if_neg (by omega), if_neg hmax])
        have u1 : (num != n + 1) = false := by rw [bne_eq_false_iff_eq]; exact hnum
        have u2 : (n == 1099511627776) = false := by rw [beq_eq_false_iff_ne]; exact hmax
        clear hnum hmax
        go_wp2
        refine (wpIn_wide (n := 10)).1 ?_
        obtain ⟨g2, off2, cap2, e2, -, -, hcs⟩ := HR.out.at_ (by omega)
        cases e2
        refine region_rtake ⟨rfl, by kernel_rfl, ⟨_, rfl, rfl, rfl, rfl⟩, ⟨_, rfl, rfl, rfl, rfl, (by kernel_rfl)⟩, ⟨_, rfl, rfl, rfl, rfl⟩, ⟨_, rfl, rfl, rfl, rfl⟩, ⟨_, rfl, rfl, rfl, rfl, (by kernel_rfl)⟩, ⟨_, rfl, rfl, rfl, rfl, (by kernel_rfl), (by kernel_rfl)⟩, ⟨_, rfl, rfl, rfl, rfl, (by kernel_rfl), (by kernel_rfl)⟩, ⟨_, rfl, rfl, rfl, rfl⟩, ⟨_, rfl, rfl, rfl, rfl, (by kernel_rfl), (by kernel_rfl)⟩⟩ _ w1 rfl w.heap.size g off cap n l hl (by omega) rfl hz hg1 x0 x1 hcs ?_
        intro u B v w2 hCo
        have HBl := hide hCo.below
        have hB := hCo.ge
        have bx0 : w2.cell? ⟨B, 0, none⟩ = some (.int .i64 n) := by simp [World.cell?, hCo.box]
        have bx1 : w2.cell? ⟨B, 1, none⟩ = some v := by simp [World.cell?, hCo.box]
        obtain ⟨gv, cv, rfl, hgv, hgl, -, hcv⟩ := own_cells hCo.own (by omega)
        have ck := hcv k _ (by simp [bools, hk]; rfl)
        rw [hlk] at ck
        have fk : w2.frozen? ⟨gv, k, none⟩ = false := by
          obtain ⟨_, h2⟩ := hCo.own
          rcases h2 with ⟨h2, _⟩ | ⟨g', cap', cur, h2, _, h3, _⟩
          · cases h2
          · cases h2; simp [World.frozen?, h3]
        have HS := hide (set_row hCo.own hk)
        have hne : B ≠ gv := fun e => box_not_row (cs := [.int .i64 n, .slice (some ⟨gv, 0, none⟩) l.length cv]) hCo.own hCo.box (by rw [e]; rfl)
        clear hcs hcv hCo
        have hB3 : Below w1.heap.size w1 (w2.setCell ⟨gv, k, none⟩ (.bool true)) := HBl.out.setCell (p := ⟨gv, k, none⟩) hgv _
        have bx0' : (w2.setCell ⟨gv, k, none⟩ (.bool true)).cell? ⟨B, 0, none⟩ = some (.int .i64 n) := by rw [World.cell?_setCell_other _ _ _ _ (by intro e'; injection e' with e' _ _; exact hne (by first | exact e' | exact e'.symm))]; exact bx0
        have bx1' : (w2.setCell ⟨gv, k, none⟩ (.bool true)).cell? ⟨B, 1, none⟩ = some (.slice (some ⟨gv, 0, none⟩) l.length cv) := by rw [World.cell?_setCell_other _ _ _ _ (by intro e'; injection e' with e' _ _; exact hne (by first | exact e' | exact e'.symm))]; exact bx1
        have hs3 : (w2.setCell ⟨gv, k, none⟩ (.bool true)).heap.size = w2.heap.size := by simp [World.setCell]
        have HS3 : Hid (Row (w2.setCell ⟨gv, k, none⟩ (.bool true)) (w2.setCell ⟨gv, k, none⟩ (.bool true)).heap.size 1 (.slice (some ⟨gv, 0, none⟩) l.length cv) (setT l k).length (bools (setT l k))) := hide (by
          have := HS.out; unfold setT; rw [Int.toNat_natCast, hs3]; simpa using this)
        have hlT : (setT l (k : Int)).length = l.length := by simp [setT]
        simp only [Act.put]
        go_wp2
        clear bx0 bx1 ck fk HS HBl hgl hs3
        generalize w2.setCell ⟨gv, k, none⟩ (.bool true) = w3 at *
        have HB3 := hide hB3
        have c0 := ((bcell hB3).1 _ 0 hz2).trans y0
        have c1 := ((bcell hB3).1 _ 1 hz2).trans y1
        have d0 := ((bcell hB3).2 _ 0 hz2).trans z0
        have d1 := ((bcell hB3).2 _ 1 hz2).trans z1
        have c2 := ((bcell hB3).1 _ 1 hz).trans x1
        have hsz3 := hB3.size
        have hz3 : w.heap.size + 1 < w3.heap.size := by omega
        have hz3' : w.heap.size < w3.heap.size := by omega
        clear hB3 x0 x1 y0 y1 z0 z1
        cases hh : has false (setT l k)
        · have q : decide ((((setT l k).count true : Nat) : Int) < (l.length : Int)) = false := by
            have := count_all.2 hh
            rw [hlT] at this
            exact decide_eq_false (by omega)
          have q' : decide ((setT l k).count true < l.length) = false := by simpa using q
          have HP := hide (tak_full HC.out hh)
          go_quiet ((go_at_call 28; exact Calls.quiet_of_same ((count_any _ (setT l k) _ (by rw [hlT]; exact hl) (HS3.out.grow (below_drewN (Below.refl _ _) _))).mono (fun _ _ h => ⟨h.1, h.2.symm⟩))))
          have hmk := make_bools l.length hl
          have hz4 : w.heap.size + 1 < (w3.drewN nq).heap.size := hz3
          have hB4 : Below (w3.drewN nq).heap.size (w3.drewN nq) ((w3.drewN nq).alloc (.cells (bools (falses l.length)).toArray 4)) := (Below.refl _ _).alloc (Nat.le_refl _) _
          have p0 := ((bcell hB4).1 _ 0 hz4).trans c0
          have p1 := ((bcell hB4).1 _ 1 hz4).trans c1
          have r0 := ((bcell hB4).2 _ 0 hz4).trans d0
          have r1 := ((bcell hB4).2 _ 1 hz4).trans d1
          clear hB4
          go_wp2
          refine bodyPost_ret (v := .tuple #[.agg #[.int .i64 num, .slice (some ⟨w3.heap.size, 0, none⟩) l.length l.length], .bool true, .int .i64 0]) (by rw [results_ctt rfl]; go_simp) rfl ?_
          unfold RetTak
          rw [HP.out.1, HP.out.2.1, HP.out.2.2, HC.out]
          refine ⟨_, rfl, ?_, ?_⟩
          · have hr0 := row_new' (w := w3.drewN nq) l.length 4 (Below.refl _ _)
            have hr1 := row_set_other (row_set_other hr0 (a := ⟨w.heap.size + 1, 0, none⟩) (by show w.heap.size + 1 ≠ w3.heap.size; omega) (.int .i64 num)) (a := ⟨w.heap.size + 1, 1, none⟩) (by show w.heap.size + 1 ≠ w3.heap.size; omega) (.slice (some ⟨w3.heap.size, 0, none⟩) l.length l.length)
            rw [show (w3.drewN nq).heap.size = w3.heap.size from rfl] at hr1
            refine Row.more hr1 ?_
            simp [World.setCell]
          · have hq : Below w.heap.size w (w3.drewN nq) := below_drewN (hb'.trans (HB3.out.mono hb'.size)) nq
            exact ((hq.alloc (by show w.heap.size ≤ w3.heap.size; omega) _).setCell (p := ⟨w.heap.size + 1, 0, none⟩) (by simp) _).setCell (p := ⟨w.heap.size + 1, 1, none⟩) (by simp) _
        · have q : decide ((((setT l k).count true : Nat) : Int) < (l.length : Int)) = true := by
            have h1 : (setT l (k : Int)).count true ≤ (setT l (k : Int)).length := List.count_le_length
            have h2 : ¬ (((setT l (k : Int)).count true : Nat) : Int) = ((setT l (k : Int)).length : Int) := fun e => by have := count_all.1 e; rw [hh] at this; cases this
            exact decide_eq_true (by omega)
          have q' : decide ((setT l k).count true < l.length) = true := by simpa using q
          have HP := hide (tak_part HC.out hh)
          go_quiet ((go_at_call 28; exact Calls.quiet_of_same ((count_any _ (setT l k) _ (by rw [hlT]; exact hl) (HS3.out.grow (below_drewN (Below.refl _ _) _))).mono (fun _ _ h => ⟨h.1, h.2.symm⟩))))
          go_wp2
          refine bodyPost_ret (v := .tuple #[.agg #[.int .i64 n, .slice (some ⟨gv, 0, none⟩) l.length cv], .bool false, .int .i64 0]) (by rw [results_ctt rfl]; go_simp) rfl ?_
          unfold RetTak
          rw [HP.out.1, HP.out.2.1, HP.out.2.2, HC.out]
          refine ⟨_, rfl, ?_, ?_⟩
          · have hr0 := HS3.out.grow (below_drewN (Below.refl _ _) nq)
            exact (row_set_other (row_set_other hr0 (a := ⟨w.heap.size + 1, 0, none⟩) (by show w.heap.size + 1 ≠ gv; omega) _) (a := ⟨w.heap.size + 1, 1, none⟩) (by show w.heap.size + 1 ≠ gv; omega) _).more (by simp [World.setCell])
          · have hq : Below w.heap.size w (w3.drewN nq) := below_drewN (hb'.trans (HB3.out.mono hb'.size)) nq
            exact (hq.setCell (p := ⟨w.heap.size + 1, 0, none⟩) (by simp) _).setCell (p := ⟨w.heap.size + 1, 1, none⟩) (by simp) _
    · have HC : Hid (takE n l k num = 22) := hide (by rw [HE.out, if_neg (by decide), if_pos hnum])
      have u1 : (num != n + 1) = true := by rw [bne_iff_ne]; exact hnum
      clear hnum
      go_wp2
      refine bodyPost_ret (v := .tuple #[.agg #[.int .i64 0, .slice none 0 0], .bool false, .int .i64 (22)]) (by rw [results_ctt rfl]; go_simp) rfl ?_; exact ret_bad HC.out (by decide) ((hb'.setCell (p := ⟨w.heap.size + 1, 0, none⟩) (by simp) _).setCell (p := ⟨w.heap.size + 1, 1, none⟩) (by simp) _)
  · rw [hlk] at hcell HE
    have HC : Hid (takE n l k num = 21) := hide (by rw [HE.out, if_pos rfl])
    go_wp2
    refine bodyPost_ret (v := .tuple #[.agg #[.int .i64 0, .slice none 0 0], .bool false, .int .i64 (21)]) (by rw [results_ctt rfl]; go_simp) rfl ?_; exact ret_bad HC.out (by decide) ((hb'.setCell (p := ⟨w.heap.size + 1, 0, none⟩) (by simp) _).setCell (p := ⟨w.heap.size + 1, 1, none⟩) (by simp) _)

theorem rtake_any (n : Int) (v : Value) (l : List Bool) (i num : Int) (w : World) (hl : l.length ≤ 1000) (hv : Row w w.heap.size 1 v l.length (bools l)) :
    Calls Try.prog 17 #[.agg #[.int .i64 n, v], .int .i64 i, .int .i64 num] w (RetTak w n l i num) := by
  obtain ⟨A, cap, rfl⟩ := hv.form
  by_cases hc : chk n l = 0
  · by_cases hi : 0 ≤ i ∧ i < (l.length : Int)
    · obtain ⟨k, rfl⟩ := Int.eq_ofNat_of_zero_le hi.1
      exact rtake_in n A cap l k num w hl hv hc (by omega)
    · exact rtake_out n A cap l i num w hl hv hc hi
  · exact rtake_chk n A cap l i num w hl hv hc
end Go.Proofs.Ytjahjefkfcifhaa
