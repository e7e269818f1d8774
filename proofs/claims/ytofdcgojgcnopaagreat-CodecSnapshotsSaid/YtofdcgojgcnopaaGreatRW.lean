/- The writer of the reference in memory: a struct with a string and an error; number, length, text. -/
import Derived.Test.YtofdcgojgcnopaaGreatRN
import Derived.Deep.RegionWith
namespace Go.Proofs.YtofdcgojgcnopaaGreat
open Go.RowKit Go.Lib
set_option linter.unusedVariables false
set_option linter.unusedSimpArgs false
theorem keepf {W w' : World} (hB : Below W.heap.size W w') {p : Addr} (hp : p.block < W.heap.size) (h : W.frozen? p = false) : w'.frozen? p = false := (hB.frozen hp).trans h
structure Rw (w : World) (F : Nat) (o : Bs) (e : Int) : Prop where
  c0 : w.cell? ⟨F, 0, none⟩ = some (.string (bstr o))
  c1 : w.cell? ⟨F, 1, none⟩ = some (.int .i64 e)
  f0 : w.frozen? ⟨F, 0, none⟩ = false
  f1 : w.frozen? ⟨F, 1, none⟩ = false
/-- Nothing but the block F has turned. -/
structure Rt (F : Nat) (w w' : World) : Prop where
  low : Below F w w'
  kp : Kp (· ≠ F) w w'
section
variable {F : Nat} {w w' w'' : World} {o : Bs} {e : Int}
theorem Rw.lt (h : Rw w F o e) : F < w.heap.size := World.block_lt_of_cell? w ⟨F, 0, none⟩ h.c0
theorem Rw.keep (h : Rw w F o e) (hb : Below w.heap.size w w') : Rw w' F o e :=
  ⟨keep1 hb h.c0, keep1 hb h.c1, (hb.frozen (p := ⟨F, 0, none⟩) h.lt).trans h.f0, (hb.frozen (p := ⟨F, 1, none⟩) h.lt).trans h.f1⟩
theorem Rw.laid (h : Rw w F o e) (ob : Obj) : Rw (w.alloc ob) F o e := h.keep (below_laid ob)
theorem Rt.refl : Rt F w w := ⟨Below.refl _ _, Kp.refl⟩
theorem Rt.trans (h : Rt F w w') (h' : Rt F w' w'') : Rt F w w'' := ⟨h.low.trans h'.low, h.kp.trans h'.kp⟩
theorem Rt.of_below (hb : Below w.heap.size w w') (hF : F ≤ w.heap.size) : Rt F w w' := ⟨hb.mono hF, Kp.of_below hb⟩
theorem Rt.laid (h : Rw w F o e) (ob : Obj) : Rt F w (w.alloc ob) := Rt.of_below (below_laid ob) (Nat.le_of_lt h.lt)
theorem Rt.undrew (h : Rt F w.drew w') : Rt F w w' := ⟨below_undrew h.low, h.kp⟩
theorem Rw.set (h : Rw w F o e) (o' : Bs) : Rw (w.setCell ⟨F, 0, none⟩ (.string (bstr o'))) F o' e ∧ Rt F w (w.setCell ⟨F, 0, none⟩ (.string (bstr o'))) := by
  refine ⟨⟨World.cell?_setCell_same' _ _ _ (by rw [h.c0]; rfl), ?_, ?_, ?_⟩, (Below.refl _ _).setCell (p := ⟨F, 0, none⟩) (Nat.le_refl _) _, Kp.set ⟨F, 0, none⟩ _ (fun b hb => hb)⟩
  · rw [World.cell?_setCell_other _ _ _ _ (by intro e'; injection e' with _ e' _; cases e')]; exact h.c1
  · rw [World.frozen?_setCell]; exact h.f0
  · rw [World.frozen?_setCell]; exact h.f1
theorem Rw.fail (h : Rw w F o e) (e' : Int) : Rw (w.setCell ⟨F, 1, none⟩ (.int .i64 e')) F o e' ∧ Rt F w (w.setCell ⟨F, 1, none⟩ (.int .i64 e')) := by
  refine ⟨⟨?_, World.cell?_setCell_same' _ _ _ (by rw [h.c1]; rfl), ?_, ?_⟩, (Below.refl _ _).setCell (p := ⟨F, 1, none⟩) (Nat.le_refl _) _, Kp.set ⟨F, 1, none⟩ _ (fun b hb => hb)⟩
  · rw [World.cell?_setCell_other _ _ _ _ (by intro e'; injection e' with _ e' _; cases e')]; exact h.c0
  · rw [World.frozen?_setCell]; exact h.f0
  · rw [World.frozen?_setCell]; exact h.f1
/-- A box of the reference. -/
def Rx (F : Nat) (w : World) (b : Nat) (xs : List Value) : Prop := b ≠ F ∧ ∀ c u, xs[c]? = some u → w.cell? ⟨b, c, none⟩ = some u
theorem Rx.keep {b : Nat} {xs : List Value} (h : Rx F w b xs) (ht : Rt F w w') : Rx F w' b xs := ⟨h.1, fun c u hu => ht.kp.cell (p := ⟨b, c, none⟩) h.1 (h.2 c u hu)⟩
theorem Rx.new (h : Rw w F o e) (xs : List Value) (t : TypeId) : Rx F (w.alloc (.cells xs.toArray t)) w.heap.size xs := ⟨by have := h.lt; omega, cells_lit w xs t⟩
end
/-- A call behind which o is written. -/
def RwX (F : Nat) (o : Bs) (e : Int) (w : World) (en : Ending) (w' : World) : Prop := en = .returned (.tuple #[]) ∧ Rw w' F o e ∧ Rt F w w'
/-- A call that writes r behind o. -/
def Rws (F : Nat) (r : Ex Bs) (n : Nat) (o : Bs) (e : Int) (w : World) (en : Ending) (w' : World) : Prop := en = .returned (.tuple #[]) ∧ ∃ o' e', Wd r n o e o' e' ∧ Rw w' F o' e' ∧ Rt F w w'
section
variable (F : Nat) (o : Bs) (e : Int) (w : World)
set_option maxRecDepth 100000 in
set_option maxHeartbeats 4000000 in
theorem rlength_any (m : Nat) (hm : m ≤ 9223372036854775807) (h : Rw w F o e) (ho : o.length + 10 ≤ 1000000000) :
    Calls Tryz.prog 42 #[.pointer (some ⟨F, 0, none⟩), .int .i64 (m : Int)] w (RwX F (o ++ num m) (if e = 0 ∧ 4096 < m then 5 else e) w) := by
  have HN := hide (fun w => rnum_any w (m : Int) (by unfold inI; omega))
  have HNL : Hid ((num (m : Int)).length ≤ 10) := hide (num_len (by unfold inI; omega))
  have hct := bstr_cat o (num m)
  have hsz : (bstr o).size + (bstr (num m)).size ≤ 9223372036854775807 := by rw [bstr_size, bstr_size]; have := HNL.out; omega
  have HW := hide h
  by_cases hc : e = 0 ∧ 4096 < m
  · obtain ⟨rfl, hc2⟩ := hc
    have t1 : decide ((4096 : Int) < (m : Int)) = true := decide_eq_true (by omega)
    have c0 := (h.fail 5).1.c0
    have c1 := h.c1
    have f1 := h.f1
    have f0 := (h.fail 5).1.f0
    have hF := (h.fail 5).1.lt
    have HFL := hide (h.fail 5)
    rw [if_pos ⟨rfl, hc2⟩]
    clear h
    go_enter Tryz.func42, Tryz.ntmps42
    go_wp2_with fail
    obtain ⟨wa, hwa⟩ : ∃ wa, w.setCell ⟨F, 1, none⟩ (.int .i64 5) = wa := ⟨_, rfl⟩
    rw [hwa] at c0 f0 hF HFL ⊢
    clear hwa c1 f1
    go_region_with (first | (go_at_call 72; refine (HN.out _).mono ?_; rintro en w2 ⟨rfl, hb'⟩; have hb : Below wa.heap.size wa w2 := below_undrew hb'; have c0' := keep1 hb c0; have f0' := keepf hb hF f0))
    all_goals
      have HS := hide ((HFL.out.1.keep hb).set (o ++ num m))
      have HB := hide (Rt.of_below hb (Nat.le_of_lt hF))
      clear hb hb' c0 f0
      go_wp2
      go_end0
      exact ⟨rfl, HS.out.1, (HFL.out.2.trans HB.out).trans HS.out.2⟩
  · rw [if_neg hc]
    have c0 := h.c0
    have c1 := h.c1
    have f0 := h.f0
    have hF := h.lt
    clear h
    by_cases he : e = 0
    · have t1 : decide ((4096 : Int) < (m : Int)) = false := decide_eq_false (fun hh => hc ⟨he, by omega⟩)
      have t2 : (e == 0) = true := beq_iff_eq.2 he
      clear he hc
      go_enter Tryz.func42, Tryz.ntmps42
      go_wp2_with fail
      go_region_with (first | (go_at_call 72; refine (HN.out _).mono ?_; rintro en w2 ⟨rfl, hb'⟩; have hb : Below w.heap.size w w2 := below_undrew hb'; have c0' := keep1 hb c0; have f0' := keepf hb hF f0))
      all_goals
        have HS := hide ((HW.out.keep hb).set (o ++ num m))
        have HB := hide (Rt.of_below hb (Nat.le_of_lt hF))
        clear hb hb' c0 f0
        go_wp2
        go_end0
        exact ⟨rfl, HS.out.1, HB.out.trans HS.out.2⟩
    · have t2 : (e == 0) = false := beq_eq_false_iff_ne.2 he
      clear he hc
      go_enter Tryz.func42, Tryz.ntmps42
      go_wp2_with fail
      go_region_with (first | (go_at_call 72; refine (HN.out _).mono ?_; rintro en w2 ⟨rfl, hb'⟩; have hb : Below w.heap.size w w2 := below_undrew hb'; have c0' := keep1 hb c0; have f0' := keepf hb hF f0))
      all_goals
        have HS := hide ((HW.out.keep hb).set (o ++ num m))
        have HB := hide (Rt.of_below hb (Nat.le_of_lt hF))
        clear hb hb' c0 f0
        go_wp2
        go_end0
        exact ⟨rfl, HS.out.1, HB.out.trans HS.out.2⟩
set_option maxRecDepth 100000 in
set_option maxHeartbeats 4000000 in
theorem rtext_any (s : ByteArray) (hs : s.size ≤ 1000000) : Calls Tryz.prog 74 #[.string s] w (Ret (.string (bstr (num s.size ++ s.data.toList))) w) := by
  have HN := hide (fun w => rnum_any w (s.size : Int) (by unfold inI; omega))
  have hct : bstr (num s.size) ++ s = bstr (num s.size ++ s.data.toList) := by rw [← bstr_cat, bstr_of]
  have hsz : (bstr (num s.size)).size + s.size ≤ 9223372036854775807 := by rw [bstr_size]; have := num_len (n := s.size) (by unfold inI; omega); omega
  go_enter Tryz.func74, Tryz.ntmps74
  go_wp2_with fail
  refine (HN.out _).mono ?_
  rintro en w1 ⟨rfl, hb⟩
  go_wp2
  go_ret
  exact Ret.mk rfl hb
set_option maxRecDepth 100000 in
set_option maxHeartbeats 4000000 in
theorem rnumber_any (l : List Int) (b cap : Nat) (hl : ∀ x ∈ l, inI x) (hB : Rx F w b (ints l)) (h : Rw w F o e) (hn : l.length ≤ 1000) (ho : o.length + 10 * l.length ≤ 1000000000) :
    Calls Tryz.prog 41 #[.pointer (some ⟨F, 0, none⟩), .slice (some ⟨b, 0, none⟩) l.length cap] w (RwX F (o ++ l.flatMap num) e w) := by
  have HB := hide hB
  have HL := hide hl
  have HW := hide h
  obtain ⟨m, hm⟩ : ∃ m, l.length = m := ⟨_, rfl⟩
  rw [hm] at hn ho ⊢
  have HM := hide hm
  clear h hB hl hm
  go_enter Tryz.func41, Tryz.ntmps41
  go_wp2
  go_loopw [4] (fun i wr => ∃ j : Nat, j ≤ m ∧ i = .int .i64 j ∧ Hid (Rw wr F (o ++ (l.take j).flatMap num) e ∧ Rt F w wr ∧ (o ++ (l.take j).flatMap num).length ≤ o.length + 10 * j)) (fun i _ => m - (intOf i).toNat)
  case atStart => exact ⟨0, by omega, rfl, hide ⟨by simpa using HW.out, Rt.refl, by simp⟩⟩
  case round =>
    obtain ⟨j, hj, rfl, HR⟩ := hrel
    by_cases hlt : j < m
    · have hjl : j < l.length := by rw [HM.out]; exact hlt
      have hb := HB.out.keep HR.out.2.1
      have d0 : wr.cell? ⟨b, j, none⟩ = some (.int .i64 l[j]) := hb.2 j _ (by simp [ints, hjl])
      have HX := hide (HL.out l[j] (List.getElem_mem hjl))
      have HS : Hid (o ++ (l.take (j + 1)).flatMap num = o ++ (l.take j).flatMap num ++ num l[j]) := hide (by rw [List.take_succ_eq_append_getElem hjl, List.flatMap_append]; simp)
      obtain ⟨x, hx⟩ : ∃ x, l[j] = x := ⟨_, rfl⟩
      rw [hx] at d0 HX HS
      have hu0 : (0 : Int) ≤ (j : Int) := by omega
      have hu1 : (j : Int) < (m : Int) := by omega
      clear hb hx
      obtain ⟨o1, ho1⟩ : ∃ o1, o ++ (l.take j).flatMap num = o1 := ⟨_, rfl⟩
      rw [ho1] at HR HS
      have HNL := hide (num_len HX.out)
      have hct := bstr_cat o1 (num x)
      have hsz : (bstr o1).size + (bstr (num x)).size ≤ 9223372036854775807 := by rw [bstr_size, bstr_size]; have := HNL.out; have := HR.out.2.2; omega
      have HN := hide (fun w => rnum_any w x HX.out)
      have c0 := HR.out.1.c0
      have f0 := HR.out.1.f0
      have hF := HR.out.1.lt
      clear ho1
      go_wp2_with fail
      go_region_with (first | (go_at_call 72; refine (HN.out _).mono ?_; rintro en w2 ⟨rfl, hb'⟩; have hb : Below wr.heap.size wr w2 := below_undrew hb'; have c0' := keep1 hb c0; have d0' := keep1 hb d0; have f0' := keepf hb hF f0))
      all_goals
        have hset := (HR.out.1.keep hb).set (o1 ++ num x)
        have HR2 : Hid (Rw (w2.setCell ⟨F, 0, none⟩ (.string (bstr (o1 ++ num x)))) F (o ++ (l.take (j + 1)).flatMap num) e ∧ Rt F w (w2.setCell ⟨F, 0, none⟩ (.string (bstr (o1 ++ num x)))) ∧ (o ++ (l.take (j + 1)).flatMap num).length ≤ o.length + 10 * (j + 1)) := hide (by
          rw [HS.out]
          refine ⟨hset.1, (HR.out.2.1.trans (Rt.of_below hb (Nat.le_of_lt hF))).trans hset.2, ?_⟩
          rw [List.length_append]
          have := HNL.out
          have := HR.out.2.2
          omega)
        clear hset hb hb' c0 d0 f0
        go_wp2
        go_roundw
        case rel => exact ⟨j + 1, by omega, by go_num, HR2⟩
        case measure => simp [intOf]; omega
    · obtain rfl : j = m := by omega
      go_wp2
      go_end0
      have := HR.out
      rw [List.take_of_length_le (by rw [HM.out]; exact Nat.le_refl _)] at this
      exact ⟨rfl, this.1, this.2.1⟩
end
end Go.Proofs.YtofdcgojgcnopaaGreat
