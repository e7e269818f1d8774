/- Inputs, of the program and of the reference. -/
import Derived.Test.YtjahjefkfcifhaaBFree
namespace Go.Proofs.Ytjahjefkfcifhaa
open Go.RowKit Go.Shelf
set_option linter.unusedVariables false
set_option linter.unusedSimpArgs false
attribute [local go_sem] Oper.semAt_some

/-- The free inputs among the first k, as numbers. -/
def selI (l : List Bool) (k : Nat) : List Int := (sel l k).map fun g => (g.val : Int)
theorem selI_hit {l : List Bool} {k : Nat} (h : k < 8) (hk : l.getD k true = false) : selI l (k + 1) = selI l k ++ [(k : Int)] := by unfold selI; rw [sel_hit h hk]; simp
theorem selI_miss {l : List Bool} {k : Nat} (h : k < 8) (hk : l.getD k true = true) : selI l (k + 1) = selI l k := by unfold selI; rw [sel_miss h hk]
theorem selI_len (l : List Bool) (k : Nat) : (selI l k).length ≤ k := by unfold selI; rw [List.length_map]; exact sel_len l k
/-- What Inputs hands back. -/
def insL (n : Int) (l : List Bool) : List Int := if chk n l = 0 then selI l l.length else []

/-- A list of integers, and a number. -/
def RetRow (w : World) (xs : List Int) (c : Int) (e : Ending) (w' : World) : Prop :=
  ∃ v, e = .returned (.tuple #[v, .int .i64 c]) ∧ Row w' w'.heap.size 1 v xs.length (ints xs) ∧ Below w.heap.size w w'

theorem info_int : (Try.prog.info? 3).map (fun i => (i.zero, i.size, i.bytes)) = some (some (.int .i64 0), 1, 8) := by kernel_rfl

set_option maxHeartbeats 1000000 in
theorem rinputs_any (n : Int) (v : Value) (l : List Bool) (w : World) (hl : l.length ≤ 1000) (hv : Row w w.heap.size 1 v l.length (bools l)) :
    Calls Try.prog 24 #[.agg #[.int .i64 n, v]] w (RetRow w (insL n l) (chk n l)) := by
  obtain ⟨A, cap, rfl⟩ := hv.form
  have HV := hide (hv.laid (.cells #[.int .i64 n, .slice A l.length cap] 24))
  clear hv
  have HK := hide (@rcheck_any n (.slice A l.length cap) l)
  by_cases hc : chk n l = 0
  · obtain ⟨i0, hi0, hz0, hz1, hz2⟩ := info_parts info_int
    rw [hc] at HK
    rw [show insL n l = selI l l.length from if_pos hc, hc]
    have h8 := (chk_zero hc).1
    clear hc
    obtain ⟨m, hm⟩ : ∃ m, l.length = m := ⟨_, rfl⟩
    rw [hm] at HV HK hl h8 ⊢
    have HM := hide hm
    clear hm
    go_enter Try.func24, Try.ntmps24
    go_wp2_with fail
    refine (HK.out _ hl HV.out).mono ?_
    rintro e w1 ⟨rfl, hb⟩
    obtain ⟨hb', hz, hx⟩ := step_box [.int .i64 n, .slice A m cap] hb
    have x1 := hx 1 _ rfl
    obtain ⟨g, off, cap', e1, hg, _, hcell⟩ := (HV.out.grow hb).at_ h8.1
    cases e1
    have HC := hide hcell
    clear hx hb hcell
    go_wp2
    go_loopw [5, 6] (fun v i wr => ∃ k : Nat, k ≤ m ∧ i = .int .i64 k ∧ wr.ownsRow w1.heap.size 3 1 v (selI l k).length (ints (selI l k)) ∧ Below w1.heap.size w1 wr) (fun _ i _ => m - (intOf i).toNat)
    case atStart => exact ⟨0, by omega, rfl, World.ownsRow_nil _ _ _ _, Below.refl _ _⟩
    case round =>
      obtain ⟨k, hk, rfl, hown, hB⟩ := hrel
      have hsz := hB.size
      have hln := selI_len l k
      have y1 : wr.cell? ⟨w.heap.size, 1, none⟩ = some (.slice (some ⟨g, off, none⟩) m cap) := ((bcell hB).1 _ _ hz).trans x1
      by_cases hlt : k < m
      · have hkl : k < l.length := by rw [HM.out]; exact hlt
        have c1 : wr.cell? ⟨g, off + k, none⟩ = some (.bool l[k]) := ((bcell hB).1 _ _ hg).trans (HC.out k _ (by simp [bools, hkl]))
        have hget : Hid (l.getD k true = l[k]) := hide (by simp [hkl])
        obtain ⟨z, hz⟩ : ∃ z, l[k] = z := ⟨_, rfl⟩
        rw [hz] at c1 hget
        clear hz
        cases z
        · have HS := hide (selI_hit (by omega) hget.out)
          go_wp2_with (at_builtin; refine wpList_append_one rfl _ _ 43 rfl w1.heap.size 3 i0 _ 8 Try.underlying43 hi0 hz0 [.int .i64 (k : Int)] hz1 hz2 rfl (by simp) _ _ _ rfl hown _ rfl (by simp [Value.oneCell']) ?c1 (by decide) ?c2 ?_; (case c1 => omega); (case c2 => omega); intro v2 w2 hown2 hb2 _)
          go_roundw
          case rel => exact ⟨k + 1, by omega, by go_num, by rw [HS.out, ints_app, List.length_append]; exact hown2, hB.trans hb2⟩
          case measure => simp [intOf]; omega
        · have HS := hide (selI_miss (by omega) hget.out)
          go_wp2
          go_roundw
          case rel => exact ⟨k + 1, by omega, by go_num, by rw [HS.out]; exact hown, hB⟩
          case measure => simp [intOf]; omega
      · obtain rfl : k = m := by omega
        go_wp2
        go_ret2
        exact ⟨_, rfl, Row.of_own hown, hb'.trans (hB.mono hb'.size)⟩
  · have HI : Hid (insL n l = []) := hide (if_neg hc)
    have t1 : (chk n l != 0) = true := by rw [bne_iff_ne]; exact hc
    clear hc
    generalize chk n l = c at *
    go_enter Try.func24, Try.ntmps24
    go_wp2_with fail
    refine (HK.out _ hl HV.out).mono ?_
    rintro e w1 ⟨rfl, hb⟩
    obtain ⟨hb', hz, hx⟩ := step_box [.int .i64 n, .slice A l.length cap] hb
    go_wp2
    go_ret2
    exact ⟨_, rfl, by rw [HI.out]; exact ⟨rfl, Or.inl ⟨rfl, rfl⟩⟩, hb'⟩
end Go.Proofs.Ytjahjefkfcifhaa
