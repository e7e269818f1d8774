/- value.Compare. -/
import Derived.Test.YtbendimkejndiaaTCmp2
import Derived.Lib.Bytealg
namespace Go.Proofs.Ytbendimkejndiaa
open Go.RowKit
set_option linter.unusedVariables false
set_option linter.unusedSimpArgs false
def cmpS (s t : ByteArray) : Int := Lib.compareBytes s.data.toList t.data.toList
def cmpV (x y : V3) : Int := or2 (cmpI x.q y.q) (or2 (cmpI x.n y.n) (cmpS x.s y.s))
set_option maxRecDepth 100000 in
set_option maxHeartbeats 1000000 in
theorem bcmp_any (s t : ByteArray) (w : World) : Calls Try.prog 47 #[.string s, .string t] w (RetS (.int .i64 (cmpS s t)) w) := by
  go_enter Try.func47, Try.ntmps47
  go_wp2
  rw [run_callFunc_extern Try.func62 (by kernel_rfl) (by kernel_rfl) (by kernel_rfl) (e := Extern.BytealgCompare.compare) (by kernel_rfl), Lib.run_compareString]
  simp only [Result.andThen]
  rw [Oper.upon_value]
  go_wp2
  go_ret
  exact ⟨rfl, rfl⟩
set_option maxHeartbeats 1000000 in
theorem scmp_any (s t : ByteArray) (w : World) : Calls Try.prog 33 #[.string s, .string t] w (RetS (.int .i64 (cmpS s t)) w) := by
  have HC := hide bcmp_any
  go_enter Try.func33, Try.ntmps33
  go_wp2_with (go_at_call 47; refine (HC.out _ _ _).mono ?_; rintro e w' ⟨rfl, rfl⟩)
  go_ret
  exact ⟨rfl, rfl⟩
section
variable (q n q' n' : Int) (s s' : ByteArray) (w : World)
set_option maxHeartbeats 1000000 in
theorem vc1_any : Calls Try.prog 30 #[.agg #[.int .i64 q, .int .i64 n, .string s], .agg #[.int .i64 q', .int .i64 n', .string s']] w (RetG (.int .i64 (cmpI q q')) w) := by
  have HC := hide ccmp_any
  go_enter Try.func30, Try.ntmps30
  go_wp2_with (go_at_call 31; refine (HC.out _ _ _).mono ?_; rintro e w' ⟨rfl, rfl⟩)
  go_ret
  exact ⟨rfl, ((GR.refl _).alloc _).alloc _⟩
set_option maxHeartbeats 1000000 in
theorem vc2_any : Calls Try.prog 32 #[.agg #[.int .i64 q, .int .i64 n, .string s], .agg #[.int .i64 q', .int .i64 n', .string s']] w (RetG (.int .i64 (cmpI n n')) w) := by
  have HC := hide ccmp_any
  go_enter Try.func32, Try.ntmps32
  go_wp2_with (go_at_call 31; refine (HC.out _ _ _).mono ?_; rintro e w' ⟨rfl, rfl⟩)
  go_ret
  exact ⟨rfl, ((GR.refl _).alloc _).alloc _⟩
set_option maxRecDepth 100000 in
set_option maxHeartbeats 4000000 in
theorem vcmp_any : Calls Try.prog 17 #[.agg #[.int .i64 q, .int .i64 n, .string s], .agg #[.int .i64 q', .int .i64 n', .string s']] w (RetG (.int .i64 (or2 (cmpI q q') (or2 (cmpI n n') (cmpS s s')))) w) := by
  have HC1 := hide vc1_any
  have HC2 := hide vc2_any
  have HCS := hide scmp_any
  have hY := fun (k : Nat) (u : Value) h => keep1 (bthen (below_laid (.cells #[.int .i64 q', .int .i64 n', .string s'] 38)) (below_laid (.cells #[.func (.func 30) #[] #[], .func (.func 32) #[] #[]] 43))) (cells_lit w [.int .i64 q, .int .i64 n, .string s] 38 k u h)
  have hZ := fun (k : Nat) (u : Value) h => keep1 (below_laid (.cells #[.func (.func 30) #[] #[], .func (.func 32) #[] #[]] 43)) (cells_lit (w.alloc (.cells #[.int .i64 q, .int .i64 n, .string s] 38)) [.int .i64 q', .int .i64 n', .string s'] 38 k u h)
  have hF := cells_lit ((w.alloc (.cells #[.int .i64 q, .int .i64 n, .string s] 38)).alloc (.cells #[.int .i64 q', .int .i64 n', .string s'] 38)) [.func (.func 30) #[] #[], .func (.func 32) #[] #[]] 43
  rw [World.size_alloc] at hZ
  rw [World.size_alloc, World.size_alloc] at hF
  have y0 := hY 0 _ rfl
  have y1 := hY 1 _ rfl
  have y2 := hY 2 _ rfl
  have z0 := hZ 0 _ rfl
  have z1 := hZ 1 _ rfl
  have z2 := hZ 2 _ rfl
  have f0 := hF 0 _ rfl
  have f1 := hF 1 _ rfl
  clear hY hZ hF
  have HB := hide ((((GR.refl w).alloc (.cells #[.int .i64 q, .int .i64 n, .string s] 38)).alloc (.cells #[.int .i64 q', .int .i64 n', .string s'] 38)).alloc (.cells #[.func (.func 30) #[] #[], .func (.func 32) #[] #[]] 43))
  go_enter Try.func17, Try.ntmps17
  go_wp2
  obtain ⟨W3, hW⟩ : ∃ W3, ((w.alloc (.cells #[.int .i64 q, .int .i64 n, .string s] 38)).alloc (.cells #[.int .i64 q', .int .i64 n', .string s'] 38)).alloc (.cells #[.func (.func 30) #[] #[], .func (.func 32) #[] #[]] 43) = W3 := ⟨_, rfl⟩
  rw [hW] at HB y0 y1 y2 z0 z1 z2 f0 f1 ⊢
  clear hW
  have HY := hide (And.intro y0 (And.intro y1 (And.intro y2 (And.intro z0 (And.intro z1 (And.intro z2 (And.intro f0 f1)))))))
  clear y0 y1 y2 z0 z1 z2 f0 f1
  go_loopw [10] (fun i wr => ∃ j : Nat, j ≤ 2 ∧ i = .int .i64 j ∧ Hid (0 < j → cmpI q q' = 0) ∧ Hid (1 < j → cmpI n n' = 0) ∧ Hid (GR W3 wr)) (fun i _ => 2 - (intOf i).toNat)
  case atStart => exact ⟨0, by omega, rfl, hide (fun h => absurd h (by decide)), hide (fun h => absurd h (by decide)), hide (GR.refl _)⟩
  case round =>
    obtain ⟨j, hj, rfl, H0, H1, HG⟩ := hrel
    obtain ⟨y0, y1, y2, z0, z1, z2, f0, f1⟩ := HY.out
    have y0 := keepG HG.out y0
    have y1 := keepG HG.out y1
    have y2 := keepG HG.out y2
    have z0 := keepG HG.out z0
    have z1 := keepG HG.out z1
    have z2 := keepG HG.out z2
    have f0 := keepG HG.out f0
    have f1 := keepG HG.out f1
    have HB := hide (HB.out.trans HG.out)
    have hjc : j = 0 ∨ j = 1 ∨ j = 2 := by omega
    rcases hjc with rfl | rfl | rfl
    · obtain ⟨c, hc⟩ : ∃ c, cmpI q q' = c := ⟨_, rfl⟩
      have HC := hide (fun w => vc1_any q n q' n' s s' w)
      rw [hc] at HC
      by_cases e : c = 0
      · subst e
        have HCQ := hide hc
        clear hc
        go_wp2_with (go_at_call 30; refine (HC.out _).mono ?_; rintro e w' ⟨rfl, hg⟩)
        go_roundw
        case rel => refine ⟨1, by omega, by go_num, hide ?_, hide ?_, hide (HG.out.trans hg)⟩ <;> (intros; first | exact HCQ.out | (rename_i h; exact absurd h (by decide)))
        case measure => simp [intOf]
      · have t3 : (c != 0) = true := bne_iff_ne.2 e
        have HE : Hid (or2 (cmpI q q') (or2 (cmpI n n') (cmpS s s')) = c) := hide (by rw [hc]; simp [or2, e])
        rw [HE.out]
        clear hc
        go_wp2_with (go_at_call 30; refine (HC.out _).mono ?_; rintro e w' ⟨rfl, hg⟩)
        go_ret
        exact ⟨rfl, HB.out.trans hg⟩
    · obtain ⟨c, hc⟩ : ∃ c, cmpI n n' = c := ⟨_, rfl⟩
      have HC := hide (fun w => vc2_any q n q' n' s s' w)
      rw [hc] at HC
      by_cases e : c = 0
      · subst e
        have HCQ := hide hc
        clear hc
        go_wp2_with (go_at_call 32; refine (HC.out _).mono ?_; rintro e w' ⟨rfl, hg⟩)
        go_roundw
        case rel => exact ⟨2, by omega, by go_num, hide (fun _ => H0.out (by decide)), hide (fun _ => HCQ.out), hide (HG.out.trans hg)⟩
        case measure => simp [intOf]
      · have t3 : (c != 0) = true := bne_iff_ne.2 e
        have HE : Hid (or2 (cmpI q q') (or2 (cmpI n n') (cmpS s s')) = c) := hide (by rw [hc, H0.out (by decide)]; simp [or2, e])
        rw [HE.out]
        clear hc
        go_wp2_with (go_at_call 32; refine (HC.out _).mono ?_; rintro e w' ⟨rfl, hg⟩)
        go_ret
        exact ⟨rfl, HB.out.trans hg⟩
    · have HE : Hid (or2 (cmpI q q') (or2 (cmpI n n') (cmpS s s')) = cmpS s s') := hide (by rw [H0.out (by decide), H1.out (by decide)]; simp [or2])
      go_wp2_with (go_at_call 33; refine (HCS.out _ _ _).mono ?_; rintro e w' ⟨rfl, rfl⟩)
      go_ret
      exact ⟨by rw [HE.out]; rfl, HB.out⟩
end
end Go.Proofs.Ytbendimkejndiaa
