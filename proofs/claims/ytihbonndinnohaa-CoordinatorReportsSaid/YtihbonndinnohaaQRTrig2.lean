/- Trigger of the reference. -/
import Derived.Test.YtihbonndinnohaaQRTrig
import Derived.Deep.RegionHeld3
namespace Go.Proofs.Ytihbonndinnohaa
open Go.RowKit
set_option linter.unusedVariables false
set_option linter.unusedSimpArgs false
def MadeN {α : Type} (H : Nat) (sz : Nat) (R : World → (Nat → Prop) → List Value → α → Prop) (n : Nat) (l : List α) : World → Value → Prop := fun w v => ∃ b, v = .slice (some ⟨b, 0, none⟩) n n ∧ H ≤ b ∧ Lst w (· = b) sz R v l
def AggZ (H : Nat) (nx : Int) (A : Option Addr) (nr cap k : Nat) : World → Value → Prop := fun w v => ∃ b2 b3, v = .agg #[.int .i64 nx, .slice A nr cap, .slice (some ⟨b2, 0, none⟩) k k, .slice (some ⟨b3, 0, none⟩) k k] ∧ H ≤ b2 ∧ H ≤ b3 ∧ Lst w (· = b2) 2 ROq (.slice (some ⟨b2, 0, none⟩) k k) (List.replicate k Oq.z) ∧ Lst w (· = b3) 1 RBq (.slice (some ⟨b3, 0, none⟩) k k) (List.replicate k false)
def PtrN (H : Nat) (xs : List Value) : World → Value → Prop := fun w v => ∃ g, v = .pointer (some ⟨g, 0, none⟩) ∧ H ≤ g ∧ Bl w g xs
theorem stb_made {α : Type} {H sz n : Nat} {R : World → (Nat → Prop) → List Value → α → Prop} {l : List α} (hR : Rd R) : Stb (MadeN H sz R n l) := fun _ _ _ hb ⟨b, e, h1, h2⟩ => ⟨b, e, h1, h2.keep hR (Kp.of_below hb)⟩
theorem stb_aggz {H : Nat} {nx : Int} {A : Option Addr} {nr cap k : Nat} : Stb (AggZ H nx A nr cap k) := fun _ _ _ hb ⟨b2, b3, e, h1, h2, h3, h4⟩ => ⟨b2, b3, e, h1, h2, h3.keep rd_Oq (Kp.of_below hb), h4.keep rd_Bq (Kp.of_below hb)⟩
theorem stb_ptr {H : Nat} {xs : List Value} : Stb (PtrN H xs) := fun _ _ _ hb ⟨g, e, h1, h2⟩ => ⟨g, e, h1, h2.keep hb⟩
theorem Bl.keep' {w w' : World} {b : Nat} {xs : List Value} (h : Bl w b xs) (hb : Below w.heap.size w w') : Bl w' b xs := h.keep hb
def RowN (L H : Nat) (m : Nat) (l : List Aq) : World → Value → Prop := fun w v => (∃ B q, v = .slice B m q) ∧ Gq w (fun b => b ≠ L + 1) H 51 4 RAq v l
def RowA (L H : Nat) (nx du : Int) (m : Nat) (l : List Aq) : World → Value → Prop := fun w v => ∃ B q, v = .agg #[.int .i64 (nx + 1), .slice B m q, .int .i64 du] ∧ Gq w (fun b => b ≠ L + 1) H 51 4 RAq (.slice B m q) l
def LitN (ys : List Value) : World → Value → Prop := fun w v => ∃ g, v = .slice (some ⟨g, 0, none⟩) 1 1 ∧ ∀ j u, ys[j]? = some u → w.cell? ⟨g, j, none⟩ = some u
theorem stb_row {L H m : Nat} {l : List Aq} : Stb (RowN L H m l) := fun _ _ _ hb ⟨h1, h2⟩ => ⟨h1, h2.keep rd_Aq hb⟩
theorem stb_rowa {L H m : Nat} {nx du : Int} {l : List Aq} : Stb (RowA L H nx du m l) := fun _ _ _ hb ⟨B, q, e, h⟩ => ⟨B, q, e, h.keep rd_Aq hb⟩
theorem stb_lit {ys : List Value} : Stb (LitN ys) := fun _ _ _ hb ⟨g, e, h⟩ => ⟨g, e, fun j u hu => keep1 hb (h j u hu)⟩
section
variable {P : Program}
theorem wp_append_gq {α : Type} {R : World → (Nat → Prop) → List Value → α → Prop} (hR : Rd R) {o : Oper} {a : Act} {K : Act → World → Prop} {Q : Exit → Act → World → Prop} {W : World} (s x : Operand) (t : TypeId)
    (ho : o.op = .call { callee := .builtin .append, args := #[s, x], argTypes := #[t, t] })
    (Y : Nat → Prop) (base : Nat) (e : TypeId) (i : TypeInfo) (z : Value) (sz bytes : Nat) (ht : P.underlying t = some (.slice e)) (hi : P.info? e = some i) (hz : i.zero = some z)
    (hsize : i.size = sz) (hby : i.bytes = bytes) (hzs : z.cells.size = sz) (hsz : 0 < sz)
    (v : Value) (l : List α) (hs : a.eval s = v) (hg : Gq W Y base e sz R v l)
    (g : Nat) (hx : a.eval x = .slice (some ⟨g, 0, none⟩) 1 1) (ys : List Value) (hyl : ys.length = sz) (hcell : ∀ j u, ys[j]? = some u → W.cell? ⟨g, j, none⟩ = some u) (h1 : ∀ y ∈ ys, y.oneCell' = true)
    (y : α) (hy : R W (fun b => Y b ∧ b < W.heap.size ∧ v.ownBlock ≠ some b) ys y) (hY : ∀ b, W.heap.size ≤ b → Y b)
    (hn : l.length < 1099511627776) (hb100 : bytes ≤ 128) (hbase : base ≤ W.heap.size)
    (h : ∀ v' w', Gq w' Y base e sz R v' (l ++ [y]) → W.grownBy w' v.ownBlock → Below base W w' → K (a.put o.dst v') w') :
    Oper.wp P o a W K Q := by
  subst hyl
  obtain ⟨xs, hown, hyv, hel⟩ := hg
  obtain ⟨v', w', hr, hown', hgr, h3, hat⟩ := run_append_own_at (P := P) W base t o.type e i z ys.length bytes ht hi hz hsize hby hzs hsz v _ _ hown ⟨g, 0, none⟩ 1 1 ys (by simp)
    (fun j u hj => by
      rw [show (⟨g, 0, none⟩ : Addr).add j = ⟨g, j, none⟩ by unfold Addr.add; split <;> simp_all]
      exact hcell j u hj) h1 (by unfold maxLen; omega)
    (by calc (l.length + 1) * bytes ≤ 1099511627776 * 128 := Nat.mul_le_mul (by omega) hb100
          _ ≤ 140737488355328 := by omega) hbase
  have hbel : Below base W w' := (Below.refl base W).grown hgr hbase (fun k hk => (hown.lt k hk).1)
  have hfin := h v' w' (Gq.snoc hR hown hyv hel rfl hy hown' ⟨hgr.size, fun b hb hlt => hgr.block b hlt (fun e => hb e.symm)⟩ (by
    rcases hat with h | h
    · exact .inl h
    · exact .inr ⟨_, h, Nat.le_refl _⟩) hY) hgr hbel
  unfold Oper.wp execOp
  simp only [ho, resolve, invoke, builtin, Sem.run_bind, Sem.run_pure, Result.andThen_ok, List.map_toArray, List.map_cons, List.map_nil, hs, hx, hr]
  exact hfin
end
section
variable (w : World) (c : Cq)
set_option maxRecDepth 100000 in
set_option maxHeartbeats 16000000 in
theorem rtrig_good (v rv : Value) (rds : List Rq) (n : Int) (h : CoV w v c) (hr : Lq w 6 RRq rv rds) (hgood : trigE c rds.length n = 0) : Calls Try.prog 12 #[v, rv, .int .i64 n] w (RetC2 w (trigC c rds n) (trigN c rds.length n) (trigE c rds.length n)) := by
  have HC : Hid (trigC c rds n = ⟨c.next + 1, c.atts ++ [newA c rds n.toNat], c.dur⟩) := hide (by unfold trigC; rw [if_pos hgood])
  have HN : Hid (trigN c rds.length n = c.next) := hide (by unfold trigN; rw [if_pos hgood])
  rw [hgood]
  have hc : chkQ c = 0 := by
    unfold trigE at hgood
    by_cases hc : chkQ c = 0
    · exact hc
    · rw [if_pos hc] at hgood; exact hgood
  have hfit : fitQ c rds.length n = 0 := by unfold trigE at hgood; rwa [if_neg (by simp [hc])] at hgood
  obtain ⟨p1, p2, p3, p4, p5⟩ := fit0 hfit
  obtain ⟨b1, b2, b3, b4, b5, b6⟩ := chk0 hc
  obtain ⟨k, rfl⟩ : ∃ k : Nat, n = (k : Int) := ⟨n.toNat, by omega⟩
  rw [Int.toNat_natCast] at HC
  obtain ⟨A', cap', rfl⟩ := hr.form
  obtain ⟨u, rfl, hl, hq1, hq2⟩ := id h
  obtain ⟨A, cap, rfl⟩ := hl.form
  have HB := hide (show Below w.heap.size w ((w.alloc (.cells #[.int .i64 c.next, .slice A c.atts.length cap, .int .i64 c.dur] 24)).alloc (.cells #[.int .i64 0, .slice none 0 0, .int .i64 0] 24)) from bA_alloc (below_laid _) _)
  have HX := hide ((Bl.new w [.int .i64 c.next, .slice A c.atts.length cap, .int .i64 c.dur] 24).laid (.cells #[.int .i64 0, .slice none 0 0, .int .i64 0] 24))
  have HY := hide (show Bl ((w.alloc (.cells #[.int .i64 c.next, .slice A c.atts.length cap, .int .i64 c.dur] 24)).alloc (.cells #[.int .i64 0, .slice none 0 0, .int .i64 0] 24)) (w.heap.size + 1) [.int .i64 0, .slice none 0 0, .int .i64 0] by have := Bl.new (w.alloc (.cells #[.int .i64 c.next, .slice A c.atts.length cap, .int .i64 c.dur] 24)) [.int .i64 0, .slice none 0 0, .int .i64 0] 24; simpa using this)
  have HK := hide (rchk_any ((w.alloc (.cells #[.int .i64 c.next, .slice A c.atts.length cap, .int .i64 c.dur] 24)).alloc (.cells #[.int .i64 0, .slice none 0 0, .int .i64 0] 24)) c _ ((h.laid _).laid _))
  rw [hc] at HK
  have HQ := hide (And.intro hq1 hq2)
  have HRR := hide hr
  have HCH := hide hc
  obtain ⟨cells, hraw, hlen, hel⟩ := lst_raw one_Aq hl
  have HAT := hide (fun (w' : World) (hb : Below w.heap.size w w') => show Calls Try.prog 35 #[.slice A c.atts.length cap] w' (RetCp w' 51 4 cells) by
    have := ratts_any w' A cap cells (by rw [hlen]; exact Lq.grow rd_Wq hraw hb) (by omega)
    rwa [hlen] at this)
  have HEL := hide (And.intro hlen hel)
  obtain ⟨i0, hi0, hz0, hz1, hz2⟩ := info_parts iq_attempt
  obtain ⟨i1, hi1, hz10, hz11, hz12⟩ := info_parts iq_operator
  obtain ⟨i2, hi2, hz20, hz21, hz22⟩ := info_parts iq_bool
  obtain ⟨nr, hnr⟩ : ∃ n, rds.length = n := ⟨_, rfl⟩
  rw [hnr] at HN HRR p1 p3 ⊢
  have HNR := hide hnr
  have HWR : Hid (IntKind.i64.wrap (c.next + 1) = c.next + 1) := hide (by rw [IntKind.wrap_i64]; omega)
  have t1 : decide ((nr : Int) < 1) = false := decide_eq_false (by omega)
  have t2 : decide ((8 : Int) < (nr : Int)) = false := decide_eq_false (by omega)
  have t3 : decide ((k : Int) < 1) = false := decide_eq_false (by omega)
  have t4 : decide ((8 : Int) < (k : Int)) = false := decide_eq_false (by omega)
  have t6 : (c.next == 1099511627776) = false := by rw [beq_eq_false_iff_ne]; exact p5
  clear hgood hfit hc h hr hnr hraw hlen hel hq1 hq2
  have hmx := hl.len
  unfold maxLen at hmx
  have hfirst : 0 < c.atts.length → ∃ g off, A = some ⟨g, off, none⟩ ∧ ∃ A1 A3 c1 c3, w.cell? ⟨g, off + 1, none⟩ = some (.slice A1 nr c1) ∧ w.cell? ⟨g, off + 3, none⟩ = some (.slice A3 k c3) := fun h0 => by
    obtain ⟨g, off, xs, eA, -⟩ := Lst.at_ hl (j := 0) h0
    subst eA
    obtain ⟨hg, A1, A2, A3, c1, c2, c3, ha⟩ := att_at hl h0
    rw [Nat.zero_mul, Nat.add_zero] at ha
    have k1 := ha.k1
    have k3 := ha.k3
    have h3 := p3 h0
    rw [show (attQ c 0).rds.length = nr from h3.1] at k1
    rw [show (attQ c 0).hv.length = k by omega] at k3
    exact ⟨g, off, rfl, A1, A3, c1, c3, k1, k3⟩
  obtain ⟨m, hm⟩ : ∃ m, c.atts.length = m := ⟨_, rfl⟩
  rw [hm] at HB HX HY HK HAT hfirst b5 p4 hmx ⊢
  have HM := hide hm
  have t7 : ((m : Int) == 256) = false := by rw [beq_eq_false_iff_ne]; omega
  clear hl hm p3 b6
  rcases Nat.eq_zero_or_pos m with h0 | h0
  · have m1 : decide (0 < m) = false := decide_eq_false (by omega)
    have m2 : decide ((0 : Int) < (m : Int)) = false := decide_eq_false (by omega)
    have hm0 : (m : Int) ≤ 256 := by omega
    clear hfirst h0
    go_enter Try.func12, Try.ntmps12
    go_wp2_with fail
    refine HK.out.mono ?_
    rintro e w1 ⟨rfl, hb⟩
    replace HX := hide (HX.out.keep hb)
    replace HY := hide (HY.out.keep hb)
    replace HB := hide (bthen HB.out hb)
    clear hb
    obtain ⟨x, -, zx⟩ := HX.out
    obtain ⟨y, v, zy⟩ := HY.out
    have x0 := x 0 _ rfl
    have x1 := x 1 _ rfl
    have x2 := x 2 _ rfl
    have y0 := y 0 _ rfl
    have y1 := y 1 _ rfl
    have y2 := y 2 _ rfl
    have v0 := v 0
    have v1 := v 1
    have v2 := v 2
    clear x y v zx
    go_upto_region 12 with (fail)
    have hH : w.heap.size + 1 < w1.heap.size := zy
    clear x0 x1 x2 y0 y1 y2 v0 v1 v2 zy
    have hb0 : Below w1.heap.size w1 w1 := Below.refl _ _
    refine wp_region_grow 9 [69, 70, 71, 72, 73, 74, 75, 76, 10] [Fix (.pointer (some ⟨w.heap.size, 0, none⟩)), Fix (.int .i64 c.next), Fix (.slice A' nr cap'), Fix (.int .i64 k), MadeN w1.heap.size 2 ROq k (List.replicate k Oq.z), Fix (.int .i64 k), MadeN w1.heap.size 1 RBq k (List.replicate k false), AggZ w1.heap.size c.next A' nr cap' k, PtrN w1.heap.size [.int .i64 0, .slice none 0 0, .slice none 0 0, .slice none 0 0]] (by kernel_rfl) (by kernel_rfl) (by kernel_rfl) (by kernel_rfl) (by kernel_rfl) ?_ ?_ ?_
    · intro p hp
      simp only [List.mem_cons, List.not_mem_nil, or_false] at hp
      rcases hp with rfl | rfl | rfl | rfl | rfl | rfl | rfl | rfl | rfl
      all_goals first | exact stb_fix _ | exact stb_made rd_Oq | exact stb_made rd_Bq | exact stb_aggz | exact stb_ptr
    · intro j o hj ho x w5 hb hd
      have hjc : j = 0 ∨ j = 1 ∨ j = 2 ∨ j = 3 ∨ j = 4 ∨ j = 5 ∨ j = 6 ∨ j = 7 ∨ j = 8 := by omega
      rcases hjc with rfl | rfl | rfl | rfl | rfl | rfl | rfl | rfl | rfl
      all_goals obtain rfl := Option.some.inj ho
      all_goals generalize hK : (fun (a' : Act) (w' : World) => _) = K
      all_goals simp only [puts]
      · go_simp
        rw [← hK]
        exact ⟨.pointer (some ⟨w.heap.size, 0, none⟩), (by simp only [puts]; go_simp), Below.refl _ _, rfl⟩
      · have e : x 69 = .pointer (some ⟨w.heap.size, 0, none⟩) := hd 0 (by kernel_rfl)
        have x0 := keep1 hb (HX.out.c 0 _ rfl)
        go_simp
        rw [← hK]
        exact ⟨.int .i64 c.next, (by simp only [puts]; go_simp), Below.refl _ _, rfl⟩
      · go_simp
        rw [← hK]
        exact ⟨.slice A' nr cap', (by simp only [puts]; go_simp), Below.refl _ _, rfl⟩
      · go_simp
        rw [← hK]
        exact ⟨.int .i64 k, (by simp only [puts]; go_simp), Below.refl _ _, rfl⟩
      · have e : x 72 = .int .i64 k := hd 3 (by kernel_rfl)
        have hw5 := hb.size
        have hmk := run_make (P := Try.prog) w5 48 42 i1 _ Try.underlying48 hi1 hz10 .i64 .i64 (k : Int) (k : Int) (by omega) (Int.le_refl _) (by rw [hz12]; omega) (by omega)
        rw [Int.toNat_natCast, hz11] at hmk
        go_simp
        rw [← hK]
        exact ⟨.slice (some ⟨w5.heap.size, 0, none⟩) k k, (by simp only [puts]; go_simp), below_laid _, _, rfl, hw5, made_lst (sz := 2) rfl rfl (by decide) (by unfold maxLen; omega) (Below.refl _ _) rfl ⟨_, _, rfl, Lst.nil, Lst.nil, Nat.zero_le _, Nat.zero_le _⟩⟩
      · go_simp
        rw [← hK]
        exact ⟨.int .i64 k, (by simp only [puts]; go_simp), Below.refl _ _, rfl⟩
      · have e : x 74 = .int .i64 k := hd 5 (by kernel_rfl)
        have hw5 := hb.size
        have hmk := run_make (P := Try.prog) w5 49 4 i2 _ Try.underlying49 hi2 hz20 .i64 .i64 (k : Int) (k : Int) (by omega) (Int.le_refl _) (by rw [hz22]; omega) (by omega)
        rw [Int.toNat_natCast, hz21] at hmk
        go_simp
        rw [← hK]
        exact ⟨.slice (some ⟨w5.heap.size, 0, none⟩) k k, (by simp only [puts]; go_simp), below_laid _, _, rfl, hw5, made_lst (sz := 1) rfl rfl (by decide) (by unfold maxLen; omega) (by rw [Nat.mul_one]; exact Below.refl _ _) rfl rfl⟩
      · have e29 : x 70 = .int .i64 c.next := hd 1 (by kernel_rfl)
        have e31 : x 71 = .slice A' nr cap' := hd 2 (by kernel_rfl)
        obtain ⟨b2, e33, hb2, L2⟩ : MadeN w1.heap.size 2 ROq k (List.replicate k Oq.z) w5 (x 73) := hd 4 (by kernel_rfl)
        obtain ⟨b3, e35, hb3, L3⟩ : MadeN w1.heap.size 1 RBq k (List.replicate k false) w5 (x 75) := hd 6 (by kernel_rfl)
        rw [e33] at L2
        rw [e35] at L3
        have HL := hide (And.intro L2 L3)
        clear L2 L3
        go_simp
        rw [← hK]
        exact ⟨.agg #[.int .i64 c.next, .slice A' nr cap', .slice (some ⟨b2, 0, none⟩) k k, .slice (some ⟨b3, 0, none⟩) k k], (by simp only [puts]; go_simp), Below.refl _ _, b2, b3, rfl, hb2, hb3, HL.out.1, HL.out.2⟩
      · have hw5 := hb.size
        go_simp
        rw [← hK]
        exact ⟨.pointer (some ⟨w5.heap.size, 0, none⟩), (by simp only [puts]; go_simp), below_laid _, w5.heap.size, rfl, hw5, Bl.new w5 [.int .i64 0, .slice none 0 0, .slice none 0 0, .slice none 0 0] _⟩
    · intro x w2 hb hP
      obtain ⟨b2, b3, e76, hb2, hb3, L2, L3⟩ : AggZ w1.heap.size c.next A' nr cap' k w2 (x 76) := hP 7 (by decide)
      obtain ⟨g, e10, hg, hG⟩ : PtrN w1.heap.size [.int .i64 0, .slice none 0 0, .slice none 0 0, .slice none 0 0] w2 (x 10) := hP 8 (by decide)
      have ne2 : g ≠ b2 := by
        obtain ⟨-, ys, -, hc2, vv, uu, rfl, hvv, -⟩ := L2.at1 (j := 0) (by rw [List.length_replicate]; omega)
        rintro rfl
        have h1 := hc2 0 _ rfl
        have h2 := hG.c 0 _ rfl
        obtain ⟨Av, cv, rfl⟩ := hvv.form
        rw [Nat.zero_mul, Nat.add_zero] at h1
        rw [h1] at h2
        cases h2
      have ne3 : g ≠ b3 := by
        obtain ⟨-, ys, -, hc3, hr3⟩ := L3.at1 (j := 0) (by rw [List.length_replicate]; omega)
        obtain ⟨z3, hr3'⟩ : ∃ z, ys = [.bool z] := ⟨_, hr3⟩
        subst hr3'
        rintro rfl
        have h1 := hc3 0 _ rfl
        have h2 := hG.c 0 _ rfl
        rw [Nat.zero_mul, Nat.add_zero] at h1
        rw [h1] at h2
        cases h2
      have gc0 := hG.c 0 _ rfl
      have gc1 := hG.c 1 _ rfl
      have gc2 := hG.c 2 _ rfl
      have gc3 := hG.c 3 _ rfl
      have gf0 := hG.f 0
      have gf1 := hG.f 1
      have gf2 := hG.f 2
      have gf3 := hG.f 3
      have HG4 := hide ((((hG.put (k := 0) (by simp) (.int .i64 c.next)).put (k := 1) (by simp) (.slice A' nr cap')).put (k := 2) (by simp) (.slice (some ⟨b2, 0, none⟩) k k)).put (k := 3) (by simp) (.slice (some ⟨b3, 0, none⟩) k k))
      have hzw2 := hb.size
      have kz : ∀ {Z : Nat → Prop}, (∀ b, Z b → b ≠ g) → Kp Z w2 ((((w2.setCell ⟨g, 0, none⟩ (.int .i64 c.next)).setCell ⟨g, 1, none⟩ (.slice A' nr cap')).setCell ⟨g, 2, none⟩ (.slice (some ⟨b2, 0, none⟩) k k)).setCell ⟨g, 3, none⟩ (.slice (some ⟨b3, 0, none⟩) k k)) := fun hz =>
        (((Kp.set ⟨g, 0, none⟩ _ hz).trans (Kp.set ⟨g, 1, none⟩ _ hz)).trans (Kp.set ⟨g, 2, none⟩ _ hz)).trans (Kp.set ⟨g, 3, none⟩ _ hz)
      have HX2 := hide ((((HX.out.keep hb).far (p := ⟨g, 0, none⟩) (by show g ≠ w.heap.size; omega) (.int .i64 c.next)).far (p := ⟨g, 1, none⟩) (by show g ≠ w.heap.size; omega) (.slice A' nr cap')).far (p := ⟨g, 2, none⟩) (by show g ≠ w.heap.size; omega) (.slice (some ⟨b2, 0, none⟩) k k) |>.far (p := ⟨g, 3, none⟩) (by show g ≠ w.heap.size; omega) (.slice (some ⟨b3, 0, none⟩) k k))
      have HY2 := hide ((((HY.out.keep hb).far (p := ⟨g, 0, none⟩) (by show g ≠ w.heap.size + 1; omega) (.int .i64 c.next)).far (p := ⟨g, 1, none⟩) (by show g ≠ w.heap.size + 1; omega) (.slice A' nr cap')).far (p := ⟨g, 2, none⟩) (by show g ≠ w.heap.size + 1; omega) (.slice (some ⟨b2, 0, none⟩) k k) |>.far (p := ⟨g, 3, none⟩) (by show g ≠ w.heap.size + 1; omega) (.slice (some ⟨b3, 0, none⟩) k k))
      have HB2 := hide (((((bthen HB.out hb).setCell (p := ⟨g, 0, none⟩) (by show w.heap.size ≤ g; omega) (.int .i64 c.next)).setCell (p := ⟨g, 1, none⟩) (by show w.heap.size ≤ g; omega) (.slice A' nr cap')).setCell (p := ⟨g, 2, none⟩) (by show w.heap.size ≤ g; omega) (.slice (some ⟨b2, 0, none⟩) k k)).setCell (p := ⟨g, 3, none⟩) (by show w.heap.size ≤ g; omega) (.slice (some ⟨b3, 0, none⟩) k k))
      have HRA := hide (show RAq ((((w2.setCell ⟨g, 0, none⟩ (.int .i64 c.next)).setCell ⟨g, 1, none⟩ (.slice A' nr cap')).setCell ⟨g, 2, none⟩ (.slice (some ⟨b2, 0, none⟩) k k)).setCell ⟨g, 3, none⟩ (.slice (some ⟨b3, 0, none⟩) k k)) (fun b => b < w.heap.size ∨ b = b2 ∨ b = b3) [.int .i64 c.next, .slice A' nr cap', .slice (some ⟨b2, 0, none⟩) k k, .slice (some ⟨b3, 0, none⟩) k k] (newA c rds k) from
        ⟨_, _, _, rfl, ((Lst.keep rd_Rq ((Kp.of_below (bthen HB.out hb)).trans (kz fun b hbl => by omega)) HRR.out).more rd_Rq fun b h => .inl h), ((L2.keep rd_Oq (kz fun b hbl => by rw [hbl]; exact ne2.symm)).more rd_Oq fun b h => .inr (.inl h)), ((L3.keep rd_Bq (kz fun b hbl => by rw [hbl]; exact ne3.symm)).more rd_Bq fun b h => .inr (.inr h)), HQ.out.1⟩)
      have h23 : b2 < w2.heap.size ∧ b3 < w2.heap.size := by
        obtain ⟨-, ys, hl2, hc2, -⟩ := L2.at1 (j := 0) (by rw [List.length_replicate]; omega)
        obtain ⟨-, zs, hl3, hc3, -⟩ := L3.at1 (j := 0) (by rw [List.length_replicate]; omega)
        exact ⟨World.block_lt_of_cell? w2 _ (hc2 0 ys[0] (List.getElem?_eq_getElem (by omega))), World.block_lt_of_cell? w2 _ (hc3 0 zs[0] (List.getElem?_eq_getElem (by omega)))⟩
      clear hP hG L2 L3 hb
      simp only [puts, Act.put, List.setIfInBounds_toArray, List.set_cons_succ, List.set_cons_zero, List.drop]
      go_upto_region 13 with (fail)
      obtain ⟨w3, hw3⟩ : ∃ x, (((w2.setCell ⟨g, 0, none⟩ (.int .i64 c.next)).setCell ⟨g, 1, none⟩ (.slice A' nr cap')).setCell ⟨g, 2, none⟩ (.slice (some ⟨b2, 0, none⟩) k k)).setCell ⟨g, 3, none⟩ (.slice (some ⟨b3, 0, none⟩) k k) = x := ⟨_, rfl⟩
      have hz3 : w3.heap.size = w2.heap.size := by rw [← hw3]; simp [World.setCell]
      have hz3' : w2.heap.size ≤ w3.heap.size := by omega
      rw [hw3] at HG4 HX2 HY2 HB2 HRA ⊢
      have HE10 := hide e10
      clear hz3 hw3 gc0 gc1 gc2 gc3 gf0 gf1 gf2 gf3 kz e76 e10
      have hle3 : w.heap.size ≤ w3.heap.size := HB2.out.size
      have hlt3 : w.heap.size + 1 < w3.heap.size := by omega
      have x0 := HX2.out.c 0 _ rfl
      have x1 := HX2.out.c 1 _ rfl
      have x2 := HX2.out.c 2 _ rfl
      have g0 := HG4.out.c 0 _ rfl
      have g1 := HG4.out.c 1 _ rfl
      have g2 := HG4.out.c 2 _ rfl
      have g3 := HG4.out.c 3 _ rfl
      have y0 := HY2.out.c 0 _ rfl
      have y1 := HY2.out.c 1 _ rfl
      have y2 := HY2.out.c 2 _ rfl
      have ngy : g ≠ w.heap.size + 1 := by omega
      have hwr := HWR.out
      have e10 := HE10.out
      have HONE := hide (show ∀ y ∈ ([.int .i64 c.next, .slice A' nr cap', .slice (some ⟨b2, 0, none⟩) k k, .slice (some ⟨b3, 0, none⟩) k k] : List Value), y.oneCell' = true from fun y hy => by simp at hy; rcases hy with rfl | rfl | rfl | rfl <;> rfl)
      go_region_held3 (fun w' => w'.cell? ⟨w.heap.size, 0, none⟩ = some (.int .i64 c.next) ∧ w'.cell? ⟨w.heap.size, 1, none⟩ = some (.slice A m cap) ∧ w'.cell? ⟨w.heap.size, 2, none⟩ = some (.int .i64 c.dur) ∧ w'.cell? ⟨g, 0, none⟩ = some (.int .i64 c.next) ∧ w'.cell? ⟨g, 1, none⟩ = some (.slice A' nr cap') ∧ w'.cell? ⟨g, 2, none⟩ = some (.slice (some ⟨b2, 0, none⟩) k k) ∧ w'.cell? ⟨g, 3, none⟩ = some (.slice (some ⟨b3, 0, none⟩) k k))
        (first
          | with_reducible exact ⟨keep1 hk9 x0, keep1 hk9 x1, keep1 hk9 x2, keep1 hk9 g0, keep1 hk9 g1, keep1 hk9 g2, keep1 hk9 g3⟩
          | with_reducible exact ⟨keep1 hk x0, keep1 hk x1, keep1 hk x2, keep1 hk g0, keep1 hk g1, keep1 hk g2, keep1 hk g3⟩
          | with_reducible exact ⟨keep1 (bA_alloc hk _) x0, keep1 (bA_alloc hk _) x1, keep1 (bA_alloc hk _) x2, keep1 (bA_alloc hk _) g0, keep1 (bA_alloc hk _) g1, keep1 (bA_alloc hk _) g2, keep1 (bA_alloc hk _) g3⟩
          | exact ⟨((((HX2.out.keep hk9).far (p := ⟨w.heap.size + 1, 0, none⟩) (by show w.heap.size + 1 ≠ w.heap.size; omega) _).far (p := ⟨w.heap.size + 1, 1, none⟩) (by show w.heap.size + 1 ≠ w.heap.size; omega) _).far (p := ⟨w.heap.size + 1, 2, none⟩) (by show w.heap.size + 1 ≠ w.heap.size; omega) _).c 0 _ rfl, ((((HX2.out.keep hk9).far (p := ⟨w.heap.size + 1, 0, none⟩) (by show w.heap.size + 1 ≠ w.heap.size; omega) _).far (p := ⟨w.heap.size + 1, 1, none⟩) (by show w.heap.size + 1 ≠ w.heap.size; omega) _).far (p := ⟨w.heap.size + 1, 2, none⟩) (by show w.heap.size + 1 ≠ w.heap.size; omega) _).c 1 _ rfl, ((((HX2.out.keep hk9).far (p := ⟨w.heap.size + 1, 0, none⟩) (by show w.heap.size + 1 ≠ w.heap.size; omega) _).far (p := ⟨w.heap.size + 1, 1, none⟩) (by show w.heap.size + 1 ≠ w.heap.size; omega) _).far (p := ⟨w.heap.size + 1, 2, none⟩) (by show w.heap.size + 1 ≠ w.heap.size; omega) _).c 2 _ rfl, ((((HG4.out.keep hk9).far (p := ⟨w.heap.size + 1, 0, none⟩) (by show w.heap.size + 1 ≠ g; omega) _).far (p := ⟨w.heap.size + 1, 1, none⟩) (by show w.heap.size + 1 ≠ g; omega) _).far (p := ⟨w.heap.size + 1, 2, none⟩) (by show w.heap.size + 1 ≠ g; omega) _).c 0 _ rfl, ((((HG4.out.keep hk9).far (p := ⟨w.heap.size + 1, 0, none⟩) (by show w.heap.size + 1 ≠ g; omega) _).far (p := ⟨w.heap.size + 1, 1, none⟩) (by show w.heap.size + 1 ≠ g; omega) _).far (p := ⟨w.heap.size + 1, 2, none⟩) (by show w.heap.size + 1 ≠ g; omega) _).c 1 _ rfl, ((((HG4.out.keep hk9).far (p := ⟨w.heap.size + 1, 0, none⟩) (by show w.heap.size + 1 ≠ g; omega) _).far (p := ⟨w.heap.size + 1, 1, none⟩) (by show w.heap.size + 1 ≠ g; omega) _).far (p := ⟨w.heap.size + 1, 2, none⟩) (by show w.heap.size + 1 ≠ g; omega) _).c 2 _ rfl, ((((HG4.out.keep hk9).far (p := ⟨w.heap.size + 1, 0, none⟩) (by show w.heap.size + 1 ≠ g; omega) _).far (p := ⟨w.heap.size + 1, 1, none⟩) (by show w.heap.size + 1 ≠ g; omega) _).far (p := ⟨w.heap.size + 1, 2, none⟩) (by show w.heap.size + 1 ≠ g; omega) _).c 3 _ rfl⟩
          | (go_keep; done))
        (first
          | (go_at_call 35; refine (HAT.out _ HB2.out.drew).mono ?_; rintro en wa ⟨V1, rfl, ho, hbc⟩; have hk : Below w3.heap.size w3 wa := below_undrew hbc; have hG : Gq wa (fun b => b ≠ w.heap.size + 1) w3.heap.size 51 4 RAq V1 c.atts := Gq.of_copy rd_Aq (w0 := w) ho HEL.out.1 HEL.out.2 (HB2.out.trans (hk.mono hle3)) hle3 (fun b hb' => by omega); obtain ⟨B1, q1, hV⟩ := hG.form; rw [HM.out] at hV; subst hV; have HGX := hide (hG.keep rd_Aq (below_laid (.cells #[.int .i64 c.next, .slice A' nr cap', .slice (some ⟨b2, 0, none⟩) k k, .slice (some ⟨b3, 0, none⟩) k k] 51))); have HLO := hide hG.low; have HCX := hide (cells_lit wa [.int .i64 c.next, .slice A' nr cap', .slice (some ⟨b2, 0, none⟩) k k, .slice (some ⟨b3, 0, none⟩) k k] 51); have hmark : True := trivial; have hkx : Below w3.heap.size w3 (wa.alloc (.cells #[.int .i64 c.next, .slice A' nr cap', .slice (some ⟨b2, 0, none⟩) k k, .slice (some ⟨b3, 0, none⟩) k k] 51)) := bA_alloc hk _; clear ho hbc hG)
          | (go_at_call 35; refine (HAT.out _ ((HB2.out.alloc hle3 _).drew)).mono ?_; rintro en wa ⟨V1, rfl, ho, hbc'⟩; have hbc : Below (w3.alloc (.cells #[.int .i64 c.next, .slice A' nr cap', .slice (some ⟨b2, 0, none⟩) k k, .slice (some ⟨b3, 0, none⟩) k k] 51)).heap.size (w3.alloc (.cells #[.int .i64 c.next, .slice A' nr cap', .slice (some ⟨b2, 0, none⟩) k k, .slice (some ⟨b3, 0, none⟩) k k] 51)) wa := below_undrew hbc'; have hk : Below w3.heap.size w3 wa := bthen (below_laid _) hbc; have hG : Gq wa (fun b => b ≠ w.heap.size + 1) w3.heap.size 51 4 RAq V1 c.atts := Gq.of_copy rd_Aq (w0 := w) (own_more ho (by show w3.heap.size ≤ (w3.alloc (.cells #[.int .i64 c.next, .slice A' nr cap', .slice (some ⟨b2, 0, none⟩) k k, .slice (some ⟨b3, 0, none⟩) k k] 51)).heap.size; exact (below_laid _).size)) HEL.out.1 HEL.out.2 (HB2.out.trans (hk.mono hle3)) hle3 (fun b hb' => by omega); obtain ⟨B1, q1, hV⟩ := hG.form; rw [HM.out] at hV; subst hV; have HGX := hide hG; have hkx := hk; have HLO := hide hG.low; have HCX := hide (show ∀ j u, ([.int .i64 c.next, .slice A' nr cap', .slice (some ⟨b2, 0, none⟩) k k, .slice (some ⟨b3, 0, none⟩) k k] : List Value)[j]? = some u → wa.cell? ⟨w3.heap.size, j, none⟩ = some u from fun j u hu => keep1 hbc (cells_lit w3 [.int .i64 c.next, .slice A' nr cap', .slice (some ⟨b2, 0, none⟩) k k, .slice (some ⟨b3, 0, none⟩) k k] 51 j u hu)); have hmark : True := trivial; clear ho hbc hbc' hG)
          | (clear hmark; refine step_append_gq rd_Aq (by rfl) (.tmp 82) (.tmp 84) 22 (by rfl) (fun b => b ≠ w.heap.size + 1) w3.heap.size 51 i0 _ 4 80 Try.underlying22 hi0 hz0 hz1 hz2 (by rfl) (by decide) (.slice B1 m q1) c.atts (by rfl) HGX.out _ (by rfl) [.int .i64 c.next, .slice A' nr cap', .slice (some ⟨b2, 0, none⟩) k k, .slice (some ⟨b3, 0, none⟩) k k] rfl HCX.out HONE.out (newA c rds k) (rd_Aq.more (fun b hz => ⟨by omega, by have := hkx.size; omega, fun e => by have := (HLO.out b e).1; omega⟩) (rd_Aq.keep (Kp.lowBelow hkx (fun b hz => by omega)) HRA.out)) (fun b hb' => by have := hkx.size; omega) (by have := HM.out; omega) (by decide) hkx.size ?_; intro v9 w9 hg9 hgr9 hb9; obtain ⟨B9, q9, hv9⟩ := hg9.form; rw [List.length_append, List.length_singleton, HM.out] at hv9; subst hv9; have hk9 : Below w3.heap.size w3 w9 := hkx.trans hb9; have HG9 := hide hg9; have yy0 := keep1 hk9 y0; have yy1 := keep1 hk9 y1; have yy2 := keep1 hk9 y2; have vv0 := ((bcell hk9).2 (w.heap.size + 1) 0 hlt3).trans (HY2.out.f 0); have vv1 := ((bcell hk9).2 (w.heap.size + 1) 1 hlt3).trans (HY2.out.f 1); have vv2 := ((bcell hk9).2 (w.heap.size + 1) 2 hlt3).trans (HY2.out.f 2); clear hg9 hgr9 hb9))
      all_goals
        go_wp2
        refine bodyPost_ret (v := .tuple #[.agg #[.int .i64 (c.next + 1), .slice B9 (m + 1) q9, .int .i64 c.dur], .int .i64 c.next, .int .i64 0]) (by rw [results_ctt rfl]; go_simp) rfl ?_
        refine ⟨_, by rw [HN.out], ?_, ((((HB2.out.trans (hk9.mono hle3)).setCell (p := ⟨w.heap.size + 1, 0, none⟩) (Nat.le_succ _) _).setCell (p := ⟨w.heap.size + 1, 1, none⟩) (Nat.le_succ _) _).setCell (p := ⟨w.heap.size + 1, 2, none⟩) (Nat.le_succ _) _)⟩
        rw [HC.out]
        have hq := HQ.out
        unfold inQ at hq
        exact ⟨_, rfl, lst_set3 rd_Aq (HG9.out.lst rd_Aq (by decide) (by rw [List.length_append, HM.out]; simp; unfold maxLen; omega)) (fun b hb => hb.1) (fun b hb => hb.2) _ _ _, by unfold inQ; exact ⟨by simp only; omega, by simp only; omega⟩, by unfold inQ; exact hq.2⟩
  · obtain ⟨gg, off, eA, A1, A3, c1, c3, k1, k3⟩ := hfirst h0
    subst eA
    have m1 : decide (0 < m) = true := decide_eq_true h0
    have m2 : decide ((0 : Int) < (m : Int)) = true := decide_eq_true (by omega)
    have m3 : (0 : Int) < (m : Int) := by omega
    have e1 : ((nr : Int) != (nr : Int)) = false := by simp
    clear hfirst h0
    go_enter Try.func12, Try.ntmps12
    go_wp2_with fail
    refine HK.out.mono ?_
    rintro e w1 ⟨rfl, hb⟩
    replace HX := hide (HX.out.keep hb)
    replace HY := hide (HY.out.keep hb)
    replace HB := hide (bthen HB.out hb)
    clear hb
    obtain ⟨x, -, zx⟩ := HX.out
    obtain ⟨y, v, zy⟩ := HY.out
    have x0 := x 0 _ rfl
    have x1 := x 1 _ rfl
    have x2 := x 2 _ rfl
    have y0 := y 0 _ rfl
    have y1 := y 1 _ rfl
    have y2 := y 2 _ rfl
    have v0 := v 0
    have v1 := v 1
    have v2 := v 2
    clear x y v zx
    replace k1 := keep1 HB.out k1
    replace k3 := keep1 HB.out k3
    go_upto_region 12 with (fail)
    have hH : w.heap.size + 1 < w1.heap.size := zy
    clear x0 x1 x2 y0 y1 y2 v0 v1 v2 zy
    have hb0 : Below w1.heap.size w1 w1 := Below.refl _ _
    refine wp_region_grow 9 [69, 70, 71, 72, 73, 74, 75, 76, 10] [Fix (.pointer (some ⟨w.heap.size, 0, none⟩)), Fix (.int .i64 c.next), Fix (.slice A' nr cap'), Fix (.int .i64 k), MadeN w1.heap.size 2 ROq k (List.replicate k Oq.z), Fix (.int .i64 k), MadeN w1.heap.size 1 RBq k (List.replicate k false), AggZ w1.heap.size c.next A' nr cap' k, PtrN w1.heap.size [.int .i64 0, .slice none 0 0, .slice none 0 0, .slice none 0 0]] (by kernel_rfl) (by kernel_rfl) (by kernel_rfl) (by kernel_rfl) (by kernel_rfl) ?_ ?_ ?_
    · intro p hp
      simp only [List.mem_cons, List.not_mem_nil, or_false] at hp
      rcases hp with rfl | rfl | rfl | rfl | rfl | rfl | rfl | rfl | rfl
      all_goals first | exact stb_fix _ | exact stb_made rd_Oq | exact stb_made rd_Bq | exact stb_aggz | exact stb_ptr
    · intro j o hj ho x w5 hb hd
      have hjc : j = 0 ∨ j = 1 ∨ j = 2 ∨ j = 3 ∨ j = 4 ∨ j = 5 ∨ j = 6 ∨ j = 7 ∨ j = 8 := by omega
      rcases hjc with rfl | rfl | rfl | rfl | rfl | rfl | rfl | rfl | rfl
      all_goals obtain rfl := Option.some.inj ho
      all_goals generalize hK : (fun (a' : Act) (w' : World) => _) = K
      all_goals simp only [puts]
      · go_simp
        rw [← hK]
        exact ⟨.pointer (some ⟨w.heap.size, 0, none⟩), (by simp only [puts]; go_simp), Below.refl _ _, rfl⟩
      · have e : x 69 = .pointer (some ⟨w.heap.size, 0, none⟩) := hd 0 (by kernel_rfl)
        have x0 := keep1 hb (HX.out.c 0 _ rfl)
        go_simp
        rw [← hK]
        exact ⟨.int .i64 c.next, (by simp only [puts]; go_simp), Below.refl _ _, rfl⟩
      · go_simp
        rw [← hK]
        exact ⟨.slice A' nr cap', (by simp only [puts]; go_simp), Below.refl _ _, rfl⟩
      · go_simp
        rw [← hK]
        exact ⟨.int .i64 k, (by simp only [puts]; go_simp), Below.refl _ _, rfl⟩
      · have e : x 72 = .int .i64 k := hd 3 (by kernel_rfl)
        have hw5 := hb.size
        have hmk := run_make (P := Try.prog) w5 48 42 i1 _ Try.underlying48 hi1 hz10 .i64 .i64 (k : Int) (k : Int) (by omega) (Int.le_refl _) (by rw [hz12]; omega) (by omega)
        rw [Int.toNat_natCast, hz11] at hmk
        go_simp
        rw [← hK]
        exact ⟨.slice (some ⟨w5.heap.size, 0, none⟩) k k, (by simp only [puts]; go_simp), below_laid _, _, rfl, hw5, made_lst (sz := 2) rfl rfl (by decide) (by unfold maxLen; omega) (Below.refl _ _) rfl ⟨_, _, rfl, Lst.nil, Lst.nil, Nat.zero_le _, Nat.zero_le _⟩⟩
      · go_simp
        rw [← hK]
        exact ⟨.int .i64 k, (by simp only [puts]; go_simp), Below.refl _ _, rfl⟩
      · have e : x 74 = .int .i64 k := hd 5 (by kernel_rfl)
        have hw5 := hb.size
        have hmk := run_make (P := Try.prog) w5 49 4 i2 _ Try.underlying49 hi2 hz20 .i64 .i64 (k : Int) (k : Int) (by omega) (Int.le_refl _) (by rw [hz22]; omega) (by omega)
        rw [Int.toNat_natCast, hz21] at hmk
        go_simp
        rw [← hK]
        exact ⟨.slice (some ⟨w5.heap.size, 0, none⟩) k k, (by simp only [puts]; go_simp), below_laid _, _, rfl, hw5, made_lst (sz := 1) rfl rfl (by decide) (by unfold maxLen; omega) (by rw [Nat.mul_one]; exact Below.refl _ _) rfl rfl⟩
      · have e29 : x 70 = .int .i64 c.next := hd 1 (by kernel_rfl)
        have e31 : x 71 = .slice A' nr cap' := hd 2 (by kernel_rfl)
        obtain ⟨b2, e33, hb2, L2⟩ : MadeN w1.heap.size 2 ROq k (List.replicate k Oq.z) w5 (x 73) := hd 4 (by kernel_rfl)
        obtain ⟨b3, e35, hb3, L3⟩ : MadeN w1.heap.size 1 RBq k (List.replicate k false) w5 (x 75) := hd 6 (by kernel_rfl)
        rw [e33] at L2
        rw [e35] at L3
        have HL := hide (And.intro L2 L3)
        clear L2 L3
        go_simp
        rw [← hK]
        exact ⟨.agg #[.int .i64 c.next, .slice A' nr cap', .slice (some ⟨b2, 0, none⟩) k k, .slice (some ⟨b3, 0, none⟩) k k], (by simp only [puts]; go_simp), Below.refl _ _, b2, b3, rfl, hb2, hb3, HL.out.1, HL.out.2⟩
      · have hw5 := hb.size
        go_simp
        rw [← hK]
        exact ⟨.pointer (some ⟨w5.heap.size, 0, none⟩), (by simp only [puts]; go_simp), below_laid _, w5.heap.size, rfl, hw5, Bl.new w5 [.int .i64 0, .slice none 0 0, .slice none 0 0, .slice none 0 0] _⟩
    · intro x w2 hb hP
      obtain ⟨b2, b3, e76, hb2, hb3, L2, L3⟩ : AggZ w1.heap.size c.next A' nr cap' k w2 (x 76) := hP 7 (by decide)
      obtain ⟨g, e10, hg, hG⟩ : PtrN w1.heap.size [.int .i64 0, .slice none 0 0, .slice none 0 0, .slice none 0 0] w2 (x 10) := hP 8 (by decide)
      have ne2 : g ≠ b2 := by
        obtain ⟨-, ys, -, hc2, vv, uu, rfl, hvv, -⟩ := L2.at1 (j := 0) (by rw [List.length_replicate]; omega)
        rintro rfl
        have h1 := hc2 0 _ rfl
        have h2 := hG.c 0 _ rfl
        obtain ⟨Av, cv, rfl⟩ := hvv.form
        rw [Nat.zero_mul, Nat.add_zero] at h1
        rw [h1] at h2
        cases h2
      have ne3 : g ≠ b3 := by
        obtain ⟨-, ys, -, hc3, hr3⟩ := L3.at1 (j := 0) (by rw [List.length_replicate]; omega)
        obtain ⟨z3, hr3'⟩ : ∃ z, ys = [.bool z] := ⟨_, hr3⟩
        subst hr3'
        rintro rfl
        have h1 := hc3 0 _ rfl
        have h2 := hG.c 0 _ rfl
        rw [Nat.zero_mul, Nat.add_zero] at h1
        rw [h1] at h2
        cases h2
      have gc0 := hG.c 0 _ rfl
      have gc1 := hG.c 1 _ rfl
      have gc2 := hG.c 2 _ rfl
      have gc3 := hG.c 3 _ rfl
      have gf0 := hG.f 0
      have gf1 := hG.f 1
      have gf2 := hG.f 2
      have gf3 := hG.f 3
      have HG4 := hide ((((hG.put (k := 0) (by simp) (.int .i64 c.next)).put (k := 1) (by simp) (.slice A' nr cap')).put (k := 2) (by simp) (.slice (some ⟨b2, 0, none⟩) k k)).put (k := 3) (by simp) (.slice (some ⟨b3, 0, none⟩) k k))
      have hzw2 := hb.size
      have kz : ∀ {Z : Nat → Prop}, (∀ b, Z b → b ≠ g) → Kp Z w2 ((((w2.setCell ⟨g, 0, none⟩ (.int .i64 c.next)).setCell ⟨g, 1, none⟩ (.slice A' nr cap')).setCell ⟨g, 2, none⟩ (.slice (some ⟨b2, 0, none⟩) k k)).setCell ⟨g, 3, none⟩ (.slice (some ⟨b3, 0, none⟩) k k)) := fun hz =>
        (((Kp.set ⟨g, 0, none⟩ _ hz).trans (Kp.set ⟨g, 1, none⟩ _ hz)).trans (Kp.set ⟨g, 2, none⟩ _ hz)).trans (Kp.set ⟨g, 3, none⟩ _ hz)
      have HX2 := hide ((((HX.out.keep hb).far (p := ⟨g, 0, none⟩) (by show g ≠ w.heap.size; omega) (.int .i64 c.next)).far (p := ⟨g, 1, none⟩) (by show g ≠ w.heap.size; omega) (.slice A' nr cap')).far (p := ⟨g, 2, none⟩) (by show g ≠ w.heap.size; omega) (.slice (some ⟨b2, 0, none⟩) k k) |>.far (p := ⟨g, 3, none⟩) (by show g ≠ w.heap.size; omega) (.slice (some ⟨b3, 0, none⟩) k k))
      have HY2 := hide ((((HY.out.keep hb).far (p := ⟨g, 0, none⟩) (by show g ≠ w.heap.size + 1; omega) (.int .i64 c.next)).far (p := ⟨g, 1, none⟩) (by show g ≠ w.heap.size + 1; omega) (.slice A' nr cap')).far (p := ⟨g, 2, none⟩) (by show g ≠ w.heap.size + 1; omega) (.slice (some ⟨b2, 0, none⟩) k k) |>.far (p := ⟨g, 3, none⟩) (by show g ≠ w.heap.size + 1; omega) (.slice (some ⟨b3, 0, none⟩) k k))
      have HB2 := hide (((((bthen HB.out hb).setCell (p := ⟨g, 0, none⟩) (by show w.heap.size ≤ g; omega) (.int .i64 c.next)).setCell (p := ⟨g, 1, none⟩) (by show w.heap.size ≤ g; omega) (.slice A' nr cap')).setCell (p := ⟨g, 2, none⟩) (by show w.heap.size ≤ g; omega) (.slice (some ⟨b2, 0, none⟩) k k)).setCell (p := ⟨g, 3, none⟩) (by show w.heap.size ≤ g; omega) (.slice (some ⟨b3, 0, none⟩) k k))
      have HRA := hide (show RAq ((((w2.setCell ⟨g, 0, none⟩ (.int .i64 c.next)).setCell ⟨g, 1, none⟩ (.slice A' nr cap')).setCell ⟨g, 2, none⟩ (.slice (some ⟨b2, 0, none⟩) k k)).setCell ⟨g, 3, none⟩ (.slice (some ⟨b3, 0, none⟩) k k)) (fun b => b < w.heap.size ∨ b = b2 ∨ b = b3) [.int .i64 c.next, .slice A' nr cap', .slice (some ⟨b2, 0, none⟩) k k, .slice (some ⟨b3, 0, none⟩) k k] (newA c rds k) from
        ⟨_, _, _, rfl, ((Lst.keep rd_Rq ((Kp.of_below (bthen HB.out hb)).trans (kz fun b hbl => by omega)) HRR.out).more rd_Rq fun b h => .inl h), ((L2.keep rd_Oq (kz fun b hbl => by rw [hbl]; exact ne2.symm)).more rd_Oq fun b h => .inr (.inl h)), ((L3.keep rd_Bq (kz fun b hbl => by rw [hbl]; exact ne3.symm)).more rd_Bq fun b h => .inr (.inr h)), HQ.out.1⟩)
      have h23 : b2 < w2.heap.size ∧ b3 < w2.heap.size := by
        obtain ⟨-, ys, hl2, hc2, -⟩ := L2.at1 (j := 0) (by rw [List.length_replicate]; omega)
        obtain ⟨-, zs, hl3, hc3, -⟩ := L3.at1 (j := 0) (by rw [List.length_replicate]; omega)
        exact ⟨World.block_lt_of_cell? w2 _ (hc2 0 ys[0] (List.getElem?_eq_getElem (by omega))), World.block_lt_of_cell? w2 _ (hc3 0 zs[0] (List.getElem?_eq_getElem (by omega)))⟩
      clear hP hG L2 L3 hb
      simp only [puts, Act.put, List.setIfInBounds_toArray, List.set_cons_succ, List.set_cons_zero, List.drop]
      go_upto_region 13 with (fail)
      obtain ⟨w3, hw3⟩ : ∃ x, (((w2.setCell ⟨g, 0, none⟩ (.int .i64 c.next)).setCell ⟨g, 1, none⟩ (.slice A' nr cap')).setCell ⟨g, 2, none⟩ (.slice (some ⟨b2, 0, none⟩) k k)).setCell ⟨g, 3, none⟩ (.slice (some ⟨b3, 0, none⟩) k k) = x := ⟨_, rfl⟩
      have hz3 : w3.heap.size = w2.heap.size := by rw [← hw3]; simp [World.setCell]
      have hz3' : w2.heap.size ≤ w3.heap.size := by omega
      rw [hw3] at HG4 HX2 HY2 HB2 HRA ⊢
      have HE10 := hide e10
      clear hz3 hw3 gc0 gc1 gc2 gc3 gf0 gf1 gf2 gf3 kz e76 e10
      have hle3 : w.heap.size ≤ w3.heap.size := HB2.out.size
      have hlt3 : w.heap.size + 1 < w3.heap.size := by omega
      have x0 := HX2.out.c 0 _ rfl
      have x1 := HX2.out.c 1 _ rfl
      have x2 := HX2.out.c 2 _ rfl
      have g0 := HG4.out.c 0 _ rfl
      have g1 := HG4.out.c 1 _ rfl
      have g2 := HG4.out.c 2 _ rfl
      have g3 := HG4.out.c 3 _ rfl
      have y0 := HY2.out.c 0 _ rfl
      have y1 := HY2.out.c 1 _ rfl
      have y2 := HY2.out.c 2 _ rfl
      have ngy : g ≠ w.heap.size + 1 := by omega
      have hwr := HWR.out
      have e10 := HE10.out
      have HONE := hide (show ∀ y ∈ ([.int .i64 c.next, .slice A' nr cap', .slice (some ⟨b2, 0, none⟩) k k, .slice (some ⟨b3, 0, none⟩) k k] : List Value), y.oneCell' = true from fun y hy => by simp at hy; rcases hy with rfl | rfl | rfl | rfl <;> rfl)
      go_region_held3 (fun w' => w'.cell? ⟨w.heap.size, 0, none⟩ = some (.int .i64 c.next) ∧ w'.cell? ⟨w.heap.size, 1, none⟩ = some (.slice (some ⟨gg, off, none⟩) m cap) ∧ w'.cell? ⟨w.heap.size, 2, none⟩ = some (.int .i64 c.dur) ∧ w'.cell? ⟨g, 0, none⟩ = some (.int .i64 c.next) ∧ w'.cell? ⟨g, 1, none⟩ = some (.slice A' nr cap') ∧ w'.cell? ⟨g, 2, none⟩ = some (.slice (some ⟨b2, 0, none⟩) k k) ∧ w'.cell? ⟨g, 3, none⟩ = some (.slice (some ⟨b3, 0, none⟩) k k))
        (first
          | with_reducible exact ⟨keep1 hk9 x0, keep1 hk9 x1, keep1 hk9 x2, keep1 hk9 g0, keep1 hk9 g1, keep1 hk9 g2, keep1 hk9 g3⟩
          | with_reducible exact ⟨keep1 hk x0, keep1 hk x1, keep1 hk x2, keep1 hk g0, keep1 hk g1, keep1 hk g2, keep1 hk g3⟩
          | with_reducible exact ⟨keep1 (bA_alloc hk _) x0, keep1 (bA_alloc hk _) x1, keep1 (bA_alloc hk _) x2, keep1 (bA_alloc hk _) g0, keep1 (bA_alloc hk _) g1, keep1 (bA_alloc hk _) g2, keep1 (bA_alloc hk _) g3⟩
          | exact ⟨((((HX2.out.keep hk9).far (p := ⟨w.heap.size + 1, 0, none⟩) (by show w.heap.size + 1 ≠ w.heap.size; omega) _).far (p := ⟨w.heap.size + 1, 1, none⟩) (by show w.heap.size + 1 ≠ w.heap.size; omega) _).far (p := ⟨w.heap.size + 1, 2, none⟩) (by show w.heap.size + 1 ≠ w.heap.size; omega) _).c 0 _ rfl, ((((HX2.out.keep hk9).far (p := ⟨w.heap.size + 1, 0, none⟩) (by show w.heap.size + 1 ≠ w.heap.size; omega) _).far (p := ⟨w.heap.size + 1, 1, none⟩) (by show w.heap.size + 1 ≠ w.heap.size; omega) _).far (p := ⟨w.heap.size + 1, 2, none⟩) (by show w.heap.size + 1 ≠ w.heap.size; omega) _).c 1 _ rfl, ((((HX2.out.keep hk9).far (p := ⟨w.heap.size + 1, 0, none⟩) (by show w.heap.size + 1 ≠ w.heap.size; omega) _).far (p := ⟨w.heap.size + 1, 1, none⟩) (by show w.heap.size + 1 ≠ w.heap.size; omega) _).far (p := ⟨w.heap.size + 1, 2, none⟩) (by show w.heap.size + 1 ≠ w.heap.size; omega) _).c 2 _ rfl, ((((HG4.out.keep hk9).far (p := ⟨w.heap.size + 1, 0, none⟩) (by show w.heap.size + 1 ≠ g; omega) _).far (p := ⟨w.heap.size + 1, 1, none⟩) (by show w.heap.size + 1 ≠ g; omega) _).far (p := ⟨w.heap.size + 1, 2, none⟩) (by show w.heap.size + 1 ≠ g; omega) _).c 0 _ rfl, ((((HG4.out.keep hk9).far (p := ⟨w.heap.size + 1, 0, none⟩) (by show w.heap.size + 1 ≠ g; omega) _).far (p := ⟨w.heap.size + 1, 1, none⟩) (by show w.heap.size + 1 ≠ g; omega) _).far (p := ⟨w.heap.size + 1, 2, none⟩) (by show w.heap.size + 1 ≠ g; omega) _).c 1 _ rfl, ((((HG4.out.keep hk9).far (p := ⟨w.heap.size + 1, 0, none⟩) (by show w.heap.size + 1 ≠ g; omega) _).far (p := ⟨w.heap.size + 1, 1, none⟩) (by show w.heap.size + 1 ≠ g; omega) _).far (p := ⟨w.heap.size + 1, 2, none⟩) (by show w.heap.size + 1 ≠ g; omega) _).c 2 _ rfl, ((((HG4.out.keep hk9).far (p := ⟨w.heap.size + 1, 0, none⟩) (by show w.heap.size + 1 ≠ g; omega) _).far (p := ⟨w.heap.size + 1, 1, none⟩) (by show w.heap.size + 1 ≠ g; omega) _).far (p := ⟨w.heap.size + 1, 2, none⟩) (by show w.heap.size + 1 ≠ g; omega) _).c 3 _ rfl⟩
          | (go_keep; done))
        (first
          | (go_at_call 35; refine (HAT.out _ HB2.out.drew).mono ?_; rintro en wa ⟨V1, rfl, ho, hbc⟩; have hk : Below w3.heap.size w3 wa := below_undrew hbc; have hG : Gq wa (fun b => b ≠ w.heap.size + 1) w3.heap.size 51 4 RAq V1 c.atts := Gq.of_copy rd_Aq (w0 := w) ho HEL.out.1 HEL.out.2 (HB2.out.trans (hk.mono hle3)) hle3 (fun b hb' => by omega); obtain ⟨B1, q1, hV⟩ := hG.form; rw [HM.out] at hV; subst hV; have HGX := hide (hG.keep rd_Aq (below_laid (.cells #[.int .i64 c.next, .slice A' nr cap', .slice (some ⟨b2, 0, none⟩) k k, .slice (some ⟨b3, 0, none⟩) k k] 51))); have HLO := hide hG.low; have HCX := hide (cells_lit wa [.int .i64 c.next, .slice A' nr cap', .slice (some ⟨b2, 0, none⟩) k k, .slice (some ⟨b3, 0, none⟩) k k] 51); have hmark : True := trivial; have hkx : Below w3.heap.size w3 (wa.alloc (.cells #[.int .i64 c.next, .slice A' nr cap', .slice (some ⟨b2, 0, none⟩) k k, .slice (some ⟨b3, 0, none⟩) k k] 51)) := bA_alloc hk _; clear ho hbc hG)
          | (go_at_call 35; refine (HAT.out _ ((HB2.out.alloc hle3 _).drew)).mono ?_; rintro en wa ⟨V1, rfl, ho, hbc'⟩; have hbc : Below (w3.alloc (.cells #[.int .i64 c.next, .slice A' nr cap', .slice (some ⟨b2, 0, none⟩) k k, .slice (some ⟨b3, 0, none⟩) k k] 51)).heap.size (w3.alloc (.cells #[.int .i64 c.next, .slice A' nr cap', .slice (some ⟨b2, 0, none⟩) k k, .slice (some ⟨b3, 0, none⟩) k k] 51)) wa := below_undrew hbc'; have hk : Below w3.heap.size w3 wa := bthen (below_laid _) hbc; have hG : Gq wa (fun b => b ≠ w.heap.size + 1) w3.heap.size 51 4 RAq V1 c.atts := Gq.of_copy rd_Aq (w0 := w) (own_more ho (by show w3.heap.size ≤ (w3.alloc (.cells #[.int .i64 c.next, .slice A' nr cap', .slice (some ⟨b2, 0, none⟩) k k, .slice (some ⟨b3, 0, none⟩) k k] 51)).heap.size; exact (below_laid _).size)) HEL.out.1 HEL.out.2 (HB2.out.trans (hk.mono hle3)) hle3 (fun b hb' => by omega); obtain ⟨B1, q1, hV⟩ := hG.form; rw [HM.out] at hV; subst hV; have HGX := hide hG; have hkx := hk; have HLO := hide hG.low; have HCX := hide (show ∀ j u, ([.int .i64 c.next, .slice A' nr cap', .slice (some ⟨b2, 0, none⟩) k k, .slice (some ⟨b3, 0, none⟩) k k] : List Value)[j]? = some u → wa.cell? ⟨w3.heap.size, j, none⟩ = some u from fun j u hu => keep1 hbc (cells_lit w3 [.int .i64 c.next, .slice A' nr cap', .slice (some ⟨b2, 0, none⟩) k k, .slice (some ⟨b3, 0, none⟩) k k] 51 j u hu)); have hmark : True := trivial; clear ho hbc hbc' hG)
          | (clear hmark; refine step_append_gq rd_Aq (by rfl) (.tmp 82) (.tmp 84) 22 (by rfl) (fun b => b ≠ w.heap.size + 1) w3.heap.size 51 i0 _ 4 80 Try.underlying22 hi0 hz0 hz1 hz2 (by rfl) (by decide) (.slice B1 m q1) c.atts (by rfl) HGX.out _ (by rfl) [.int .i64 c.next, .slice A' nr cap', .slice (some ⟨b2, 0, none⟩) k k, .slice (some ⟨b3, 0, none⟩) k k] rfl HCX.out HONE.out (newA c rds k) (rd_Aq.more (fun b hz => ⟨by omega, by have := hkx.size; omega, fun e => by have := (HLO.out b e).1; omega⟩) (rd_Aq.keep (Kp.lowBelow hkx (fun b hz => by omega)) HRA.out)) (fun b hb' => by have := hkx.size; omega) (by have := HM.out; omega) (by decide) hkx.size ?_; intro v9 w9 hg9 hgr9 hb9; obtain ⟨B9, q9, hv9⟩ := hg9.form; rw [List.length_append, List.length_singleton, HM.out] at hv9; subst hv9; have hk9 : Below w3.heap.size w3 w9 := hkx.trans hb9; have HG9 := hide hg9; have yy0 := keep1 hk9 y0; have yy1 := keep1 hk9 y1; have yy2 := keep1 hk9 y2; have vv0 := ((bcell hk9).2 (w.heap.size + 1) 0 hlt3).trans (HY2.out.f 0); have vv1 := ((bcell hk9).2 (w.heap.size + 1) 1 hlt3).trans (HY2.out.f 1); have vv2 := ((bcell hk9).2 (w.heap.size + 1) 2 hlt3).trans (HY2.out.f 2); clear hg9 hgr9 hb9))
      all_goals
        go_wp2
        refine bodyPost_ret (v := .tuple #[.agg #[.int .i64 (c.next + 1), .slice B9 (m + 1) q9, .int .i64 c.dur], .int .i64 c.next, .int .i64 0]) (by rw [results_ctt rfl]; go_simp) rfl ?_
        refine ⟨_, by rw [HN.out], ?_, ((((HB2.out.trans (hk9.mono hle3)).setCell (p := ⟨w.heap.size + 1, 0, none⟩) (Nat.le_succ _) _).setCell (p := ⟨w.heap.size + 1, 1, none⟩) (Nat.le_succ _) _).setCell (p := ⟨w.heap.size + 1, 2, none⟩) (Nat.le_succ _) _)⟩
        rw [HC.out]
        have hq := HQ.out
        unfold inQ at hq
        exact ⟨_, rfl, lst_set3 rd_Aq (HG9.out.lst rd_Aq (by decide) (by rw [List.length_append, HM.out]; simp; unfold maxLen; omega)) (fun b hb => hb.1) (fun b hb => hb.2) _ _ _, by unfold inQ; exact ⟨by simp only; omega, by simp only; omega⟩, by unfold inQ; exact hq.2⟩
theorem rtrig_any (v rv : Value) (rds : List Rq) (n : Int) (h : CoV w v c) (hr : Lq w 6 RRq rv rds) : Calls Try.prog 12 #[v, rv, .int .i64 n] w (RetC2 w (trigC c rds n) (trigN c rds.length n) (trigE c rds.length n)) := by
  by_cases hg : trigE c rds.length n = 0
  · exact rtrig_good w c v rv rds n h hr hg
  · exact rtrig_bad w c v rv rds n h hr hg
end
end Go.Proofs.Ytihbonndinnohaa
