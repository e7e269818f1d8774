/- The examples of the chapter. -/
import Derived.Test.YtgppohelgmadoaaAROf
namespace Go.Proofs.Ytgppohelgmadoaa
open Go.RowKit
set_option linter.unusedVariables false
set_option linter.unusedSimpArgs false
theorem of_any (k : Int) (L : List V3) (o : V3) (w : World) (v : Value) (hm : L.length ≤ 9223372036854775807) (ho : o.s.size ≤ maxLen) (hsz : L.length ≤ 4096 → ∀ x ∈ L, x.s.size ≤ maxLen) (hv : ∃ A cap, v = .slice A L.length cap) (hr : L.length ≤ 4096 → Row w w.heap.size 3 v L.length (flat L)) :
    Calls Try.prog 15 #[.int .i64 k, v, .agg #[.int .i64 o.q, .int .i64 o.n, .string o.s]] w (Ret (.tuple #[V3.v (ofV k L o), .int .i64 (ofE k L o)]) w) := by
  cases hk : knownB k
  · exact of_no k L o w v (.inl hk) hm hv
  · by_cases hl : L.length ≤ 4096
    · exact of_yes k L o w v hk hl ho (hsz hl) (hr hl)
    · exact of_no k L o w v (.inr (by omega)) hm hv
theorem rof_any (k : Int) (L : List V3) (o : V3) (w : World) (v : Value) (hm : L.length ≤ 9223372036854775807) (ho : o.s.size ≤ maxLen) (hsz : L.length ≤ 4096 → ∀ x ∈ L, x.s.size ≤ maxLen) (hv : ∃ A cap, v = .slice A L.length cap) (hr : L.length ≤ 4096 → Row w w.heap.size 3 v L.length (flat L)) :
    Calls Try.prog 16 #[.int .i64 k, v, .agg #[.int .i64 o.q, .int .i64 o.n, .string o.s]] w (Ret (.tuple #[V3.v (ofV k L o), .int .i64 (ofE k L o)]) w) := by
  cases hk : knownB k
  · exact rof_no k L o w v (.inl hk) hm hv
  · by_cases hl : L.length ≤ 4096
    · exact rof_yes k L o w v hk hl ho (hsz hl) (hr hl)
    · exact rof_no k L o w v (.inr (by omega)) hm hv

def num (n : Int) : V3 := ⟨0, n, ⟨#[]⟩⟩
theorem flat_app (L M : List V3) : flat (L ++ M) = flat L ++ flat M := by simp [flat]
theorem info_value : (Try.prog.info? 23).map (fun i => (i.zero, i.size, i.bytes)) = some (some (.agg #[.int .i64 0, .int .i64 0, .string ⟨#[]⟩]), 3, 32) := by kernel_rfl

set_option maxHeartbeats 1000000 in
theorem numbers_any (l : List Int) (v : Value) (w : World) (hl : l.length ≤ 1000) (hv : Row w w.heap.size 1 v l.length (ints l)) :
    Calls Try.prog 29 #[v] w fun e w' => ∃ u, e = .returned u ∧ Row w' w'.heap.size 3 u l.length (flat (l.map num)) ∧ Below w.heap.size w w' := by
  obtain ⟨i0, hi0, hz0, hz1, hz2⟩ := info_parts info_value
  obtain ⟨A, cap, rfl⟩ := hv.form
  have HV := hide hv
  clear hv
  obtain ⟨m, hm⟩ : ∃ m, l.length = m := ⟨_, rfl⟩
  rw [hm] at HV hl ⊢
  have HM := hide hm
  clear hm
  go_enter Try.func29, Try.ntmps29
  go_wp2
  go_loopw [3, 4] (fun v i wr => ∃ k : Nat, k ≤ m ∧ i = .int .i64 k ∧ wr.ownsRow w.heap.size 23 3 v k (flat ((l.take k).map num)) ∧ Below w.heap.size w wr) (fun _ i _ => m - (intOf i).toNat)
  case atStart => exact ⟨0, by omega, rfl, World.ownsRow_nil _ _ _ _, Below.refl _ _⟩
  case round =>
    obtain ⟨k, hk, rfl, hown, hB⟩ := hrel
    have hsz := hB.size
    by_cases hlt : k < m
    · have hkl : k < l.length := by rw [HM.out]; exact hlt
      obtain ⟨g, off, cap', e', hg, -, hcell⟩ := HV.out.at_ (by omega)
      cases e'
      have c1 : wr.cell? ⟨g, off + k, none⟩ = some (.int .i64 l[k]) := ((bcell hB).1 _ _ hg).trans (hcell k _ (by simp [ints, hkl]))
      have HS : Hid (flat ((l.take (k + 1)).map num) = flat ((l.take k).map num) ++ [.int .i64 0, .int .i64 l[k], .string ⟨#[]⟩]) := hide (by
        rw [List.take_succ_eq_append_getElem hkl, List.map_append, flat_app]; rfl)
      generalize l[k] = z at *
      clear hcell
      go_wp2_with (at_builtin; refine wpList_append_one rfl _ _ 33 rfl w.heap.size 23 i0 _ 32 Try.underlying33 hi0 hz0 [.int .i64 0, .int .i64 z, .string ⟨#[]⟩] hz1 hz2 rfl (by simp) _ _ _ rfl hown _ rfl (by simp [Value.oneCell']) ?c1 (by decide) ?c2 ?_; (case c1 => omega); (case c2 => omega); intro v2 w2 hown2 hb2 _)
      go_roundw
      case rel => exact ⟨k + 1, by omega, by go_num, by rw [HS.out]; exact hown2, hB.trans hb2⟩
      case measure => simp [intOf]; omega
    · obtain rfl : k = m := by omega
      have HT : Hid (l.take k = l) := hide (List.take_of_length_le (by rw [HM.out]; exact Nat.le_refl _))
      go_wp2
      go_ret
      rw [HT.out] at hown
      exact ⟨_, rfl, Row.of_own hown, hB⟩

set_option maxHeartbeats 1000000 in
theorem is_yes (k : Int) (L : List V3) (n : Int) (v : Value) (w : World) (hl : L.length ≤ 4096) (hsz : ∀ x ∈ L, x.s.size ≤ maxLen) (hr : Row w w.heap.size 3 v L.length (flat L)) (he : ofE k L (num 9) = 0) (hv : ofV k L (num 9) = num n) :
    Calls Try.prog 30 #[.int .i64 k, v, .int .i64 n] w (Ret (.bool true) w) := by
  have HO := hide (fun w' hr' => of_any k L (num 9) w' v (by omega) (by decide) (fun _ => hsz) hr.form (fun _ => hr'))
  rw [he, hv] at HO
  have HR := hide hr
  clear he hv
  obtain ⟨A, cap, rfl⟩ := hr.form
  clear hr hsz
  simp only [num] at HO
  go_enter Try.func30, Try.ntmps30
  go_wp2_with fail
  refine (HO.out _ HR.out).mono ?_
  rintro e w1 ⟨rfl, hb⟩
  go_wp2
  go_ret
  exact Ret.bool rfl (bthen hb (below_laid _))

def l3 : List V3 := [num 3, num (-1), num 5]
theorem w0 : ofE 0 l3 (num 9) = 0 ∧ ofV 0 l3 (num 9) = num 3 := ⟨by kernel_rfl, by kernel_rfl⟩
theorem w1 : ofE 1 l3 (num 9) = 0 ∧ ofV 1 l3 (num 9) = num 7 := ⟨by kernel_rfl, by kernel_rfl⟩
theorem w2 : ofE 2 l3 (num 9) = 0 ∧ ofV 2 l3 (num 9) = num (-1) := ⟨by kernel_rfl, by kernel_rfl⟩
theorem w3 : ofE 3 l3 (num 9) = 0 ∧ ofV 3 l3 (num 9) = num 5 := ⟨by kernel_rfl, by kernel_rfl⟩
theorem w4 : ofE 4 l3 (num 9) = 0 ∧ ofV 4 l3 (num 9) = num 3 := ⟨by kernel_rfl, by kernel_rfl⟩
theorem w5 : ofE 5 l3 (num 9) = 0 ∧ ofV 5 l3 (num 9) = num 5 := ⟨by kernel_rfl, by kernel_rfl⟩
theorem w6 : ofE 1 [] (num 9) = 0 ∧ ofV 1 [] (num 9) = num 0 := ⟨by kernel_rfl, by kernel_rfl⟩
theorem w7 : ofE 2 [] (num 9) = 0 ∧ ofV 2 [] (num 9) = num 9 := ⟨by kernel_rfl, by kernel_rfl⟩
def txt : V3 := ⟨2, 0, ⟨#[97]⟩⟩
theorem w8 : ofE 4 [txt] txt = 0 ∧ ofV 4 [txt] txt = txt := ⟨by kernel_rfl, by kernel_rfl⟩
theorem w9 : ofE 2 [txt] V3.z = 9 ∧ ofV 2 [txt] V3.z = V3.z := ⟨by kernel_rfl, by kernel_rfl⟩
theorem w10 : mgE ⟨1, 2, 0, 2, ⟨#[]⟩⟩ ⟨1, 1, 0, 5, ⟨#[]⟩⟩ = 0 ∧ mg ⟨1, 2, 0, 2, ⟨#[]⟩⟩ ⟨1, 1, 0, 5, ⟨#[]⟩⟩ = ⟨1, 3, 0, 7, ⟨#[]⟩⟩ := ⟨by kernel_rfl, by kernel_rfl⟩

set_option maxRecDepth 100000 in
set_option maxHeartbeats 2000000 in
theorem awake_any (w : World) : Calls Try.prog 13 #[] w (Ret (.bool true) w) := by
  go_enter Try.func13, Try.ntmps13
  go_wp2_with fail
  refine (numbers_any [3, -1, 5] _ _ (by decide) (Row.of_own (own_lit w [.int .i64 3, .int .i64 (-1), .int .i64 5] 3 0 1 3 (by omega) rfl (by decide)))).mono ?_
  rintro e wa ⟨u, rfl, hR, hb⟩
  have HB := hide (bel1 hb)
  have HL := hide (show Row wa wa.heap.size 3 u l3.length (flat l3) from hR)
  obtain ⟨A, cap, rfl⟩ := hR.form
  clear hb hR
  go_wp2_with fail
  refine (is_yes 0 l3 3 _ _ (by decide) (by decide +kernel) HL.out w0.1 w0.2).mono ?_
  rintro e w' ⟨rfl, hb⟩
  have HB := hide (bthen HB.out hb)
  have HL := hide (HL.out.grow hb)
  clear hb
  go_wp2_with fail
  refine (is_yes 1 l3 7 _ _ (by decide) (by decide +kernel) HL.out w1.1 w1.2).mono ?_
  rintro e w' ⟨rfl, hb⟩
  have HB := hide (bthen HB.out hb)
  have HL := hide (HL.out.grow hb)
  clear hb
  go_wp2_with fail
  refine (is_yes 2 l3 (-1) _ _ (by decide) (by decide +kernel) HL.out w2.1 w2.2).mono ?_
  rintro e w' ⟨rfl, hb⟩
  have HB := hide (bthen HB.out hb)
  have HL := hide (HL.out.grow hb)
  clear hb
  go_wp2_with fail
  refine (is_yes 3 l3 5 _ _ (by decide) (by decide +kernel) HL.out w3.1 w3.2).mono ?_
  rintro e w' ⟨rfl, hb⟩
  have HB := hide (bthen HB.out hb)
  have HL := hide (HL.out.grow hb)
  clear hb
  go_wp2_with fail
  refine (is_yes 4 l3 3 _ _ (by decide) (by decide +kernel) HL.out w4.1 w4.2).mono ?_
  rintro e w' ⟨rfl, hb⟩
  have HB := hide (bthen HB.out hb)
  have HL := hide (HL.out.grow hb)
  clear hb
  go_wp2_with fail
  refine (is_yes 5 l3 5 _ _ (by decide) (by decide +kernel) HL.out w5.1 w5.2).mono ?_
  rintro e w' ⟨rfl, hb⟩
  have HB := hide (bthen HB.out hb)
  have HL := hide (HL.out.grow hb)
  clear hb
  go_wp2_with fail
  refine (is_yes 1 [] 0 _ _ (by decide) (by simp) ⟨rfl, .inl ⟨rfl, rfl⟩⟩ w6.1 w6.2).mono ?_
  rintro e wb ⟨rfl, hb⟩
  have HB := hide (bthen HB.out hb)
  clear hb
  go_wp2_with fail
  refine (is_yes 2 [] 9 _ _ (by decide) (by simp) ⟨rfl, .inl ⟨rfl, rfl⟩⟩ w7.1 w7.2).mono ?_
  rintro e wc ⟨rfl, hb⟩
  have HB := hide (bthen HB.out hb)
  clear hb
  have HO1 := hide (of_any 4 [txt] txt ((wc.alloc (.cells #[.int .i64 2, .int .i64 0, .string ⟨#[97]⟩] 23)).alloc (.cells #[.int .i64 2, .int .i64 0, .string ⟨#[97]⟩] 23)) (.slice (some ⟨wc.heap.size + 1, 0, none⟩) 1 1) (by decide) (by decide) (fun _ => by decide +kernel) ⟨_, _, rfl⟩ (fun _ => by
    have h := Row.of_own (own_lit (wc.alloc (.cells #[.int .i64 2, .int .i64 0, .string ⟨#[97]⟩] 23)) [.int .i64 2, .int .i64 0, .string ⟨#[97]⟩] 23 0 3 1 (by omega) rfl (by decide))
    rw [World.size_alloc (w := wc)] at h
    exact h))
  rw [w8.1, w8.2] at HO1
  go_wp2_with fail
  refine HO1.out.mono ?_
  rintro e wd ⟨rfl, hb⟩
  obtain ⟨⟨a0, a1, a2⟩, -⟩ := (((Box3.new wc txt 23).keep (below_laid (.cells #[.int .i64 2, .int .i64 0, .string ⟨#[97]⟩] 23))).keep hb)
  have hz := World.block_lt_of_cell? wd _ a0
  have hz : wc.heap.size < wd.heap.size := hz
  have HB := hide (bthen (bthen (bthen HB.out (below_laid _)) (below_laid _)) hb)
  simp only [txt] at a0 a1 a2 ⊢
  clear hb HO1
  have HO2 := hide (of_any 2 [txt] V3.z ((wd.alloc (.cells #[.int .i64 2, .int .i64 0, .string ⟨#[97]⟩] 23)).alloc (.cells #[.int .i64 2, .int .i64 0, .string ⟨#[97]⟩] 23)) (.slice (some ⟨wd.heap.size + 1, 0, none⟩) 1 1) (by decide) (by decide) (fun _ => by decide +kernel) ⟨_, _, rfl⟩ (fun _ => by
    have h := Row.of_own (own_lit (wd.alloc (.cells #[.int .i64 2, .int .i64 0, .string ⟨#[97]⟩] 23)) [.int .i64 2, .int .i64 0, .string ⟨#[97]⟩] 23 0 3 1 (by omega) rfl (by decide))
    rw [World.size_alloc (w := wd)] at h
    exact h))
  rw [w9.1, w9.2] at HO2
  have a0' := keep1 (@below_laid wd (.cells #[.int .i64 2, .int .i64 0, .string ⟨#[97]⟩] 23)) a0
  have a1' := keep1 (@below_laid wd (.cells #[.int .i64 2, .int .i64 0, .string ⟨#[97]⟩] 23)) a1
  have a2' := keep1 (@below_laid wd (.cells #[.int .i64 2, .int .i64 0, .string ⟨#[97]⟩] 23)) a2
  go_wp2_with fail
  refine HO2.out.mono ?_
  rintro e we ⟨rfl, hb⟩
  have hbe := bthen (bthen (below_laid _) (below_laid _)) hb
  obtain ⟨⟨b0, b1, b2⟩, -⟩ := (((Box3.new wd ⟨2, 0, ⟨#[97]⟩⟩ 23).keep (below_laid (.cells #[.int .i64 2, .int .i64 0, .string ⟨#[97]⟩] 23))).keep hb)
  simp only [V3.z] at b0 b1 b2 ⊢
  replace a0 := keep1 hbe a0
  replace a1 := keep1 hbe a1
  replace a2 := keep1 hbe a2
  have hze := hbe.size
  have HB := hide (bthen HB.out hbe)
  clear hb HO2 hbe a0' a1' a2'
  have HO3 := hide (fun w => merge_any w ⟨1, 2, 0, 2, ⟨#[]⟩⟩ ⟨1, 1, 0, 5, ⟨#[]⟩⟩ (by decide) (by decide))
  rw [w10.1, w10.2] at HO3
  go_wp2_with fail
  refine (HO3.out _).mono ?_
  rintro e wf ⟨rfl, hb⟩
  have hbf := bel1 hb
  replace a0 := keep1 hbf a0
  replace a1 := keep1 hbf a1
  replace a2 := keep1 hbf a2
  replace b0 := keep1 hbf b0
  replace b1 := keep1 hbf b1
  replace b2 := keep1 hbf b2
  have HB := hide (bthen HB.out hbf)
  have hb9 := @below_laid wf (.cells #[.int .i64 1, .int .i64 3, .int .i64 0, .int .i64 7, .string ⟨#[]⟩] 25)
  replace a0 := keep1 hb9 a0
  replace a1 := keep1 hb9 a1
  replace a2 := keep1 hb9 a2
  replace b0 := keep1 hb9 b0
  replace b1 := keep1 hb9 b1
  replace b2 := keep1 hb9 b2
  have HB := hide (bthen HB.out hb9)
  clear hb hbf hb9
  go_wp2
  go_ret
  exact Ret.bool rfl HB.out
end Go.Proofs.Ytgppohelgmadoaa
