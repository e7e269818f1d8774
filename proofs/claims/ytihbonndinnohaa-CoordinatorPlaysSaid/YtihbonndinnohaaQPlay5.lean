/- The law's function CoordinatorPlays. -/
import Derived.Test.YtihbonndinnohaaQPlay4
namespace Go.Proofs.Ytihbonndinnohaa
open Go.RowKit
set_option linter.unusedVariables false
set_option linter.unusedSimpArgs false
structure Sp where
  k : Nat
  w : Nat
instance : Inhabited Sp := ⟨⟨0, 0⟩⟩
def RSp (_ : World) (_ : Nat → Prop) (xs : List Value) (s : Sp) : Prop := xs = [.int .u8 (s.k : Int), .int .u8 (s.w : Int)] ∧ s.k < 256 ∧ s.w < 256
theorem rd_Sp : Rd RSp := ⟨fun _ h => h, fun _ h => h⟩
theorem madeCells_1 (x : Value) (n : Nat) : madeCells #[x] n = (List.replicate n x).toArray := by
  apply Array.ext
  · simp [madeCells]
  · intro i h1 h2
    simp [madeCells, Nat.mod_one]
theorem make_ints (n : Nat) (hn : n ≤ 1000) (w : World) : (Instr.makeSlice 39 (.int .i64 (n : Int)) (.int .i64 (n : Int))).run Try.prog w = .ok (.slice (some ⟨w.heap.size, 0, none⟩) n n) (w.alloc (.cells (madeCells #[.int .i64 0] n) 3)) := by
  obtain ⟨i0, hi0, hz0, hz1, hz2⟩ := info_parts iq_int
  have hr := run_make (P := Try.prog) w 39 3 i0 _ Try.underlying39 hi0 hz0 .i64 .i64 (n : Int) (n : Int) (by omega) (by omega) (by rw [hz2]; omega) (by omega)
  rw [hz1] at hr
  simp only [Int.toNat_natCast, Nat.mul_one, Value.cells] at hr
  exact hr
theorem made_bl (w : World) (n : Nat) (t : TypeId) : Bl (w.alloc (.cells (madeCells #[.int .i64 0] n) t)) w.heap.size (nums (List.replicate n 0)) := by
  rw [madeCells_1]
  have : nums (List.replicate n 0) = List.replicate n (.int .i64 0) := by simp [nums]
  rw [this]
  exact Bl.new w _ t
theorem st_bare {du : Nat} {D E : List Nat} : stQ (du + 1) du D = stQ (du + 1) du E := by simp [stQ]
theorem op_num {p d : Nat} : mk1 (100 * (p : Int) + (d : Int) + 1) = opN (100 * p + (d + 1)) := mk1_opN
/-- A coordinator that a call has returned, behind a block more. -/
theorem zn_laid {Y : Nat → Prop} {wy wz : World} {V : Value} {c : Cq} (h : CoVz wz (Zn Y wy wz) V c) (o : Obj) : CoVz (wz.alloc o) (Zn Y wy (wz.alloc o)) V c :=
  (h.keep (Kp.of_below (below_laid o))).more fun x hx => hx.elim (fun h => .inl h) (fun h => .inr ⟨h.1, by rw [World.size_alloc]; omega⟩)
/-- A coordinator that lies in a box behind a call: the state of the play, and what it will be. -/
structure Pn (w wx : World) (b e nx du : Nat) (D : List Nat) (A : Option Addr) (al q : Nat) (bd nx' du' : Nat) (D' : List Nat) (A' : Option Addr) (al' q' : Nat) : Prop where
  pw : Pw w wx b e nx du D A al q
  bd : Bl wx bd [.int .i64 (nx' : Int), .slice A' al' q', .int .i64 (du' : Int)]
  co : CoVz wx (fun x => x ≠ b ∧ x ≠ e ∧ x < wx.heap.size) (.agg #[.int .i64 (nx' : Int), .slice A' al' q', .int .i64 (du' : Int)]) (stQ nx' du' D')
theorem Pn.mk' {w wx wy wz : World} {b e nx du : Nat} {D : List Nat} {A : Option Addr} {al q : Nat} {nx' du' : Nat} {D' : List Nat} {A' : Option Addr} {al' q' : Nat} (h : Pw w wx b e nx du D A al q) (h1 : Below wx.heap.size wx wy) (h2 : Below wy.heap.size wy wz)
    (hV : CoVz wz (Zn (fun x => x ≠ b ∧ x ≠ e ∧ x < wy.heap.size) wy wz) (.agg #[.int .i64 (nx' : Int), .slice A' al' q', .int .i64 (du' : Int)]) (stQ nx' du' D')) (t : TypeId) :
    Pn w (wz.alloc (.cells #[.int .i64 (nx' : Int), .slice A' al' q', .int .i64 (du' : Int)] t)) b e nx du D A al q wz.heap.size nx' du' D' A' al' q' := by
  have hy := h.keep h1
  have hz := hy.keep h2
  refine ⟨hz.keep (below_laid _), Bl.new wz [.int .i64 (nx' : Int), .slice A' al' q', .int .i64 (du' : Int)] t, ?_⟩
  refine (hV.keep (Kp.of_below (below_laid _))).more fun x hx => ?_
  rw [World.size_alloc]
  have := hy.bx.lt
  have := hy.dn.lt
  have := h2.size
  rcases hx with h | h
  · exact ⟨h.1, h.2.1, by omega⟩
  · exact ⟨by omega, by omega, by omega⟩
theorem Pn.keep {w wx wy : World} {b e nx du : Nat} {D : List Nat} {A : Option Addr} {al q : Nat} {bd nx' du' : Nat} {D' : List Nat} {A' : Option Addr} {al' q' : Nat} (h : Pn w wx b e nx du D A al q bd nx' du' D' A' al' q') (hb : Below wx.heap.size wx wy) : Pn w wy b e nx du D A al q bd nx' du' D' A' al' q' :=
  ⟨h.pw.keep hb, h.bd.keep hb, (h.co.keep (Kp.of_below hb)).more fun x hx => ⟨hx.1, hx.2.1, Nat.lt_of_lt_of_le hx.2.2 hb.size⟩⟩
/-- The box is stored. -/
structure Ps (w wx : World) (b e nx du : Nat) (D D' : List Nat) (A : Option Addr) (al q : Nat) : Prop where
  bx : Bl wx b [.int .i64 (nx : Int), .slice A al q, .int .i64 (du : Int)]
  dn : Bl wx e (nums D)
  co : CoVz wx (fun x => x ≠ b ∧ x ≠ e ∧ x < wx.heap.size) (.agg #[.int .i64 (nx : Int), .slice A al q, .int .i64 (du : Int)]) (stQ nx du D')
  be : Below w.heap.size w wx
  lo : w.heap.size ≤ b
  le : w.heap.size ≤ e
  ne : b ≠ e
theorem Ps.pw {w wx : World} {b e nx du : Nat} {D : List Nat} {A : Option Addr} {al q : Nat} (h : Ps w wx b e nx du D D A al q) : Pw w wx b e nx du D A al q := ⟨h.bx, h.dn, h.co, h.be, h.lo, h.le, h.ne⟩
theorem Ps.turn {w wx : World} {b e nx du : Nat} {D : List Nat} {A : Option Addr} {al q : Nat} {k x : Nat} (h : Ps w wx b e nx du D (D.set k x) A al q) (hk : k < D.length) : Pw w (wx.setCell ⟨e, k, none⟩ (.int .i64 (x : Int))) b e nx du (D.set k x) A al q :=
  Pw.turn h.bx h.dn hk h.co h.be h.lo h.le h.ne
theorem Pn.store {w wx : World} {b e nx du : Nat} {D : List Nat} {A : Option Addr} {al q : Nat} {bd nx' du' : Nat} {D' : List Nat} {A' : Option Addr} {al' q' : Nat} (h : Pn w wx b e nx du D A al q bd nx' du' D' A' al' q') :
    Ps w (((wx.setCell ⟨b, 0, none⟩ (.int .i64 (nx' : Int))).setCell ⟨b, 1, none⟩ (.slice A' al' q')).setCell ⟨b, 2, none⟩ (.int .i64 (du' : Int))) b e nx' du' D D' A' al' q' := by
  have hs : (((wx.setCell ⟨b, 0, none⟩ (.int .i64 (nx' : Int))).setCell ⟨b, 1, none⟩ (.slice A' al' q')).setCell ⟨b, 2, none⟩ (.int .i64 (du' : Int))).heap.size = wx.heap.size := by simp [World.setCell]
  have hK : Kp (fun x => x ≠ b ∧ x ≠ e ∧ x < wx.heap.size) wx (((wx.setCell ⟨b, 0, none⟩ (.int .i64 (nx' : Int))).setCell ⟨b, 1, none⟩ (.slice A' al' q')).setCell ⟨b, 2, none⟩ (.int .i64 (du' : Int))) :=
    ((Kp.set ⟨b, 0, none⟩ _ fun x hx => hx.1).trans (Kp.set ⟨b, 1, none⟩ _ fun x hx => hx.1)).trans (Kp.set ⟨b, 2, none⟩ _ fun x hx => hx.1)
  have h2 := h.pw
  refine ⟨((h2.bx.put (k := 0) (by simp) _).put (k := 1) (by simp) _).put (k := 2) (by simp) _, ((h2.dn.far (p := ⟨b, 0, none⟩) h2.ne _).far (p := ⟨b, 1, none⟩) h2.ne _).far (p := ⟨b, 2, none⟩) h2.ne _, ?_, ?_, h2.lo, h2.le, h2.ne⟩
  · rw [hs]; exact h.co.keep hK
  · exact ((h2.be.setCell (p := ⟨b, 0, none⟩) h2.lo _).setCell (p := ⟨b, 1, none⟩) h2.lo _).setCell (p := ⟨b, 2, none⟩) h2.lo _
theorem fill_set {D : List Nat} {t du : Nat} (ht : t < D.length) : (List.replicate t du ++ D.drop t).set t du = List.replicate (t + 1) du ++ D.drop (t + 1) := by
  rw [List.set_append_right _ _ (by simp)]
  simp only [List.length_replicate, Nat.sub_self]
  rw [List.drop_eq_getElem_cons ht, List.set_cons_zero, List.replicate_succ', List.append_assoc]
  rfl
theorem Pw.fill {w wx : World} {b e du t : Nat} {D : List Nat} {A : Option Addr} {al q : Nat} (h : Pw w wx b e (du + 1) du (List.replicate t du ++ D.drop t) A al q) (ht : t < D.length) : Pw w (wx.setCell ⟨e, t, none⟩ (.int .i64 (du : Int))) b e (du + 1) du (List.replicate (t + 1) du ++ D.drop (t + 1)) A al q := by
  have := Ps.turn (k := t) (x := du) (D := List.replicate t du ++ D.drop t) ⟨h.bx, h.dn, (by rw [st_bare (E := List.replicate t du ++ D.drop t)]; exact h.co), h.be, h.lo, h.le, h.ne⟩ (by simp; omega)
  rwa [fill_set ht] at this
theorem p_repz {wx : World} {nx du : Nat} {D : List Nat} {A : Option Addr} {al q : Nat} {Y : Nat → Prop} (h : CoVz wx Y (.agg #[.int .i64 (nx : Int), .slice A al q, .int .i64 (du : Int)]) (stQ nx du D)) (hY : ∀ x, Y x → x < wx.heap.size) (hi : IP nx du D) {k : Nat} (hk : k < D.length) (hlt : D.getD k 0 + 1 < nx) {xs : List Value} (ho : ROq wx (· < wx.heap.size) xs (opN (100 * k + (D.getD k 0 + 1)))) :
    Calls Try.prog 18 #[.agg #[.int .i64 (nx : Int), .slice A al q, .int .i64 (du : Int)], .int .i64 ((D.getD k 0 + 1 : Nat) : Int), .int .i64 (k : Int), .agg xs.toArray] wx (RetP1 wx Y nx du (D.set k (D.getD k 0 + 1)) 0) := by
  obtain ⟨e1, e2⟩ := rep_st hi hk
  rw [if_pos hlt] at e1
  refine (report_z wx _ _ _ ((D.getD k 0 + 1 : Nat) : Int) (k : Int) _ xs h hY ho (by simp [opN]) (by simp [opN])).mono ?_
  rintro r w' ⟨V, rfl, hV, hb⟩
  rw [(e2 hlt).1] at hV
  rw [e1]
  obtain ⟨A', q', rfl⟩ := coz_form hV
  exact ⟨A', _, q', rfl, hV, hb⟩
/-- The box was made before the call came back; then it is stored. -/
theorem Pn.mk3 {w wA wy wz : World} {b e nx du : Nat} {D : List Nat} {A : Option Addr} {al q bd : Nat} {nx' du' : Nat} {D' : List Nat} {A' : Option Addr} {al' q' : Nat} {z0 z1 z2 : Value} (h : Pw w wA b e nx du D A al q) (hk : Below wA.heap.size wA wz) (hb : Bl wz bd [z0, z1, z2]) (hA : wA.heap.size ≤ bd) (hy : bd < wy.heap.size) (hAy : wA.heap.size ≤ wy.heap.size)
    (hV : CoVz wz (Zn (fun x => x ≠ b ∧ x ≠ e ∧ x < wA.heap.size) wy wz) (.agg #[.int .i64 (nx' : Int), .slice A' al' q', .int .i64 (du' : Int)]) (stQ nx' du' D')) :
    Pn w (((wz.setCell ⟨bd, 0, none⟩ (.int .i64 (nx' : Int))).setCell ⟨bd, 1, none⟩ (.slice A' al' q')).setCell ⟨bd, 2, none⟩ (.int .i64 (du' : Int))) b e nx du D A al q bd nx' du' D' A' al' q' := by
  have hs : (((wz.setCell ⟨bd, 0, none⟩ (.int .i64 (nx' : Int))).setCell ⟨bd, 1, none⟩ (.slice A' al' q')).setCell ⟨bd, 2, none⟩ (.int .i64 (du' : Int))).heap.size = wz.heap.size := by simp [World.setCell]
  have h1 := h.bx.lt
  have h2 := h.dn.lt
  have h3 := hk.size
  have hz : ∀ x, Zn (fun x => x ≠ b ∧ x ≠ e ∧ x < wA.heap.size) wy wz x → x ≠ b ∧ x ≠ e ∧ x < wz.heap.size ∧ x ≠ bd := fun x hx => hx.elim (fun h => ⟨h.1, h.2.1, by omega, by omega⟩) (fun h => ⟨by omega, by omega, h.2, by omega⟩)
  refine ⟨h.keep (((hk.setCell (p := ⟨bd, 0, none⟩) hA _).setCell (p := ⟨bd, 1, none⟩) hA _).setCell (p := ⟨bd, 2, none⟩) hA _), ((hb.put (k := 0) (by simp) _).put (k := 1) (by simp) _).put (k := 2) (by simp) _, ?_⟩
  rw [hs]
  exact (hV.keep (((Kp.set ⟨bd, 0, none⟩ _ fun x hx => (hz x hx).2.2.2).trans (Kp.set ⟨bd, 1, none⟩ _ fun x hx => (hz x hx).2.2.2)).trans (Kp.set ⟨bd, 2, none⟩ _ fun x hx => (hz x hx).2.2.2))).more fun x hx => ⟨(hz x hx).1, (hz x hx).2.1, (hz x hx).2.2.1⟩
theorem Pn.mk4 {w wA wy wz : World} {b e nx du : Nat} {D : List Nat} {A : Option Addr} {al q : Nat} {nx' du' : Nat} {D' : List Nat} {A' : Option Addr} {al' q' : Nat} (h : Pw w wA b e nx du D A al q) (h1 : Below wA.heap.size wA wy) (h2 : Below wy.heap.size wy wz)
    (hV : CoVz wz (Zn (fun x => x ≠ b ∧ x ≠ e ∧ x < wA.heap.size) wy wz) (.agg #[.int .i64 (nx' : Int), .slice A' al' q', .int .i64 (du' : Int)]) (stQ nx' du' D')) (t : TypeId) :
    Pn w (wz.alloc (.cells #[.int .i64 (nx' : Int), .slice A' al' q', .int .i64 (du' : Int)] t)) b e nx du D A al q wz.heap.size nx' du' D' A' al' q' :=
  Pn.mk' h h1 h2 (hV.more fun x hx => hx.elim (fun h => .inl ⟨h.1, h.2.1, Nat.lt_of_lt_of_le h.2.2 h1.size⟩) .inr) t
theorem roq_laid {w : World} {xs : List Value} {o : Oq} (h : ROq w (· < w.heap.size) xs o) (ob : Obj) : ROq (w.alloc ob) (· < (w.alloc ob).heap.size) xs o := rd_Oq.more (fun _ hx => Nat.lt_of_lt_of_le hx (below_laid ob).size) (rd_Oq.keep (Kp.of_below (below_laid ob)) h)
section
variable (w : World)
set_option maxRecDepth 100000 in
set_option maxHeartbeats 8000000 in
theorem plays_long (a : Nat) (ha : a < 256) (S : Option Addr) (cap : Nat) (l : List Sp) (hl : Lq w 2 RSp (.slice S l.length cap) l) (hm : 40 < l.length) : Calls Try.prog 8 #[.int .u8 (a : Int), .slice S l.length cap] w (Ret (.bool true) w) := by
  obtain ⟨m, hmm⟩ : ∃ m, l.length = m := ⟨_, rfl⟩
  rw [hmm] at hl hm ⊢
  have t1 : decide ((40 : Int) < (m : Int)) = true := decide_eq_true (by omega)
  have t2 : decide (40 < m) = true := decide_eq_true (by omega)
  clear hl hmm
  go_enter Try.func8, Try.ntmps8
  go_wp2_with fail
  refine (awake_any _).mono ?_
  rintro r w1 ⟨rfl, hb⟩
  go_wp2
  go_ret
  exact Ret.bool rfl hb
set_option maxRecDepth 100000 in
set_option maxHeartbeats 16000000 in
theorem plays_main (a : Nat) (ha : a < 256) (S : Option Addr) (cap : Nat) (l : List Sp) (hl : Lq w 2 RSp (.slice S l.length cap) l) (hm : l.length ≤ 40) : Calls Try.prog 8 #[.int .u8 (a : Int), .slice S l.length cap] w (Ret (.bool true) w) := by
  have HL := hide hl
  obtain ⟨m, hmm⟩ : ∃ m, l.length = m := ⟨_, rfl⟩
  have HM := hide hmm
  rw [hmm] at HL hm ⊢
  have t1 : decide ((40 : Int) < (m : Int)) = false := decide_eq_false (by omega)
  have t2 : decide (40 < m) = false := decide_eq_false (by omega)
  clear hl hmm
  go_enter Try.func8, Try.ntmps8
  go_wp2_with fail
  refine (begin_any _).mono ?_
  rintro r w1 ⟨V, rfl, hV, hb⟩
  obtain ⟨A0, q0, rfl⟩ := coz_form hV.z
  obtain ⟨n, hn⟩ : ∃ n : Nat, 1 + a % 3 = n := ⟨_, rfl⟩
  have HWL : Hid (Pw w ((w1.alloc (.cells #[.int .i64 1, .slice A0 0 q0, .int .i64 0] 24)).alloc (.cells (madeCells #[.int .i64 0] n) 3)) w1.heap.size (w1.heap.size + 1) 1 0 (List.replicate n 0) A0 0 q0) := hide (by
    have b1 := below_laid (w := w1) (.cells #[.int .i64 1, .slice A0 0 q0, .int .i64 0] 24)
    have b2 := below_laid (w := w1.alloc (.cells #[.int .i64 1, .slice A0 0 q0, .int .i64 0] 24)) (.cells (madeCells #[.int .i64 0] n) 3)
    have hs := hb.size
    have hd := made_bl (w1.alloc (.cells #[.int .i64 1, .slice A0 0 q0, .int .i64 0] 24)) n 3
    rw [World.size_alloc] at hd
    refine ⟨(Bl.new w1 [.int .i64 1, .slice A0 0 q0, .int .i64 0] 24).keep b2, hd, ?_, bthen hb (bthen b1 b2), hs, by omega, by omega⟩
    exact (hV.z.keep (Kp.of_below (bthen b1 b2))).more fun x hx => ⟨by omega, by omega, by simp; omega⟩)
  have hn1 : 1 ≤ n := by omega
  have hn3 : n ≤ 3 := by omega
  have HI0 : Hid (IP 1 0 (List.replicate n 0)) := hide ⟨by simpa using hn1, by simpa using hn3, by omega, fun k hk => Nat.zero_le _, fun k hk => by rw [List.length_replicate] at hk; simp [List.getD_eq_getElem?_getD, hk], by omega⟩
  have en : (1 : Int) + (a : Int) % 3 = (n : Int) := by omega
  have HB1 := hide hb
  clear hV hb
  go_upto_region 6 with (fail)
  clear en hn ha
  have hmk := make_ints n (by omega) (w1.alloc (.cells #[.int .i64 1, .slice A0 0 q0, .int .i64 0] 24))
  go_wp2
  go_loopw [7, 8, 36] (fun x7 x8 i wr => ∃ j nx du D A al q, j ≤ m ∧ i = .int .i64 (j : Nat) ∧ x7 = .int .i64 (nx : Nat) ∧ x8 = .int .i64 (du : Nat) ∧ nx ≤ 1 + j ∧ Hid (D.length = n) ∧ Hid (IP nx du D) ∧ Hid (Pw w wr w1.heap.size (w1.heap.size + 1) nx du D A al q)) (fun _ _ i _ => m - (intOf i).toNat)
  case atStart => exact ⟨0, 1, 0, _, _, _, _, Nat.zero_le _, rfl, rfl, rfl, Nat.le_refl _, hide (List.length_replicate ..), HI0, HWL⟩
  case round =>
    clear HWL HI0
    obtain ⟨j, nx, du, D, A, al, q, hj, rfl, rfl, rfl, hnx, HD, HI, HW⟩ := hrel
    by_cases hlt : j < m
    · obtain ⟨g, off, xs, eS, hg, hxl, hc, hr, h1, h2⟩ := Lst.at_ HL.out (j := j) (by rw [HM.out]; exact hlt)
      subst eS
      obtain ⟨sk, hsk⟩ : ∃ k, (l[j]'(by rw [HM.out]; exact hlt)).k = k := ⟨_, rfl⟩
      obtain ⟨sw, hsw⟩ : ∃ k, (l[j]'(by rw [HM.out]; exact hlt)).w = k := ⟨_, rfl⟩
      rw [hsk, hsw] at hr
      rw [hsk] at h1
      rw [hsw] at h2
      subst hr
      have hgw : g < w.heap.size := hg
      have s0 := keep1 HW.out.be (hc 0 _ rfl)
      have s1 := keep1 HW.out.be (hc 1 _ rfl)
      rw [Nat.add_zero] at s0
      clear hc hxl hg hsk hsw
      have hu0 : (0 : Int) ≤ (j : Int) := by omega
      have hu1 : (j : Int) < (m : Int) := by omega
      have hwlt : w.heap.size ≤ wr.heap.size := HW.out.be.size
      have HP := hide (HW.out.keep (below_laid (.cells #[.int .u8 (sk : Int), .int .u8 (sw : Int)] 71)))
      obtain ⟨p, hp⟩ : ∃ p, sw % n = p := ⟨_, rfl⟩
      have hpn : p < n := by rw [← hp]; exact Nat.mod_lt _ (by omega)
      have ep : (sw : Int) % (n : Int) = (p : Int) := by rw [← hp]; simp
      obtain ⟨kk, ek⟩ : ∃ k : Int, (sk : Int) % 4 = k := ⟨_, rfl⟩
      have hk4 : kk = 0 ∨ kk = 1 ∨ kk = 2 ∨ kk = 3 := by omega
      have hfew := HI.out.few
      have hdn := HI.out.dn
      clear hp
      go_upto_region 22 with (fail)
      rw [ep]
      obtain ⟨wA, hwA⟩ : ∃ z, wr.alloc (.cells #[.int .u8 (sk : Int), .int .u8 (sw : Int)] 71) = z := ⟨_, rfl⟩
      rw [hwA] at HP ⊢
      have hlw := HP.out.be.size
      have hbw := HP.out.bx.lt
      have hbw2 := HP.out.dn.lt
      clear hwA s0 s1 HW ep hgw HL hwlt h1 h2
      rcases hk4 with rfl | rfl | rfl | rfl
      · have t0 : ((sk : Int) % 4 == 0) = true := by rw [beq_iff_eq]; exact ek
        obtain ⟨ny, hny⟩ : ∃ z, nx + 1 = z := ⟨_, rfl⟩
        have en : (nx : Int) + 1 = (ny : Int) := by omega
        obtain ⟨-, -, -, hI2⟩ := trig_st HI.out (by omega)
        have HT := hide (p_trig (HP.out.keep (below_laid (.cells #[.int .i64 0, .int .i64 (nx : Int), .int .i64 0, .slice none 0 0, .slice none 0 0, .int .i64 0] 68))) HI.out (by omega) (rds_lst wA 68 (nx : Int)))
        rw [HD.out, hny] at HT
        rw [hny] at hI2
        have HI2 := hide hI2
        have x0 := HP.out.bx.c 0 _ rfl
        have x1 := HP.out.bx.c 1 _ rfl
        have x2 := HP.out.bx.c 2 _ rfl
        clear hI2
        go_wp2_with fail
        refine HT.out.mono ?_
        rintro r w4 ⟨A', al', q', rfl, hV, hb4⟩
        have HN := hide (Pn.mk' HP.out (below_laid (.cells #[.int .i64 0, .int .i64 (nx : Int), .int .i64 0, .slice none 0 0, .slice none 0 0, .int .i64 0] 68)) hb4 hV 24)
        clear x0 x1 x2 hV hb4 HT
        go_upto_region 26 with (fail)
        obtain ⟨w5, hw5⟩ : ∃ z, w4.alloc (.cells #[.int .i64 (ny : Int), .slice A' al' q', .int .i64 (du : Int)] 24) = z := ⟨_, rfl⟩
        obtain ⟨bd, hbd⟩ : ∃ z, w4.heap.size = z := ⟨_, rfl⟩
        rw [hw5, hbd] at HN ⊢
        clear hw5 hbd
        have HM2 := hide HN.out.store.pw
        obtain ⟨wz, hwz⟩ : ∃ z, (((w5.setCell ⟨w1.heap.size, 0, none⟩ (.int .i64 (ny : Int))).setCell ⟨w1.heap.size, 1, none⟩ (.slice A' al' q')).setCell ⟨w1.heap.size, 2, none⟩ (.int .i64 (du : Int))) = z := ⟨_, rfl⟩
        rw [hwz] at HM2
        have x0 := HN.out.pw.bx.c 0 _ rfl
        have x1 := HN.out.pw.bx.c 1 _ rfl
        have x2 := HN.out.pw.bx.c 2 _ rfl
        have f0 := HN.out.pw.bx.f 0
        have f1 := HN.out.pw.bx.f 1
        have f2 := HN.out.pw.bx.f 2
        have d0 := HN.out.bd.c 0 _ rfl
        have d1 := HN.out.bd.c 1 _ rfl
        have d2 := HN.out.bd.c 2 _ rfl
        go_upto_region 40 with (fail)
        clear x0 x1 x2 f0 f1 f2 d0 d1 d2 hwz en HN
        have HC := hide (p_chk HM2.out HI2.out)
        have x0 := HM2.out.bx.c 0 _ rfl
        have x1 := HM2.out.bx.c 1 _ rfl
        have x2 := HM2.out.bx.c 2 _ rfl
        go_wp2_with fail
        refine HC.out.mono ?_
        rintro r wv ⟨rfl, hbv⟩
        have HQ2 := hide (HM2.out.keep hbv)
        clear x0 x1 x2 hbv HC
        have x0 := HQ2.out.bx.c 0 _ rfl
        have x1 := HQ2.out.bx.c 1 _ rfl
        have x2 := HQ2.out.bx.c 2 _ rfl
        have HRL := hide (ready_law wv _ _ _ _ n _ _ _ HQ2.out.cov HQ2.out.dn HI2.out)
        rw [HD.out] at HRL
        go_wp2_with fail
        refine HRL.out.mono ?_
        rintro r wu ⟨rfl, hbu⟩
        have HQ3 := hide (HQ2.out.keep hbu)
        clear x0 x1 x2 hbu HRL HQ2
        go_wp2
        go_roundw
        case rel => exact ⟨j + 1, ny, du, _, _, _, _, by omega, by go_num, by go_num, by go_num, by omega, HD, HI2, HQ3⟩
        case measure => simp [intOf]; omega
      · have t0 : ((sk : Int) % 4 == 0) = false := by rw [beq_eq_false_iff_ne]; omega
        have t3 : ((sk : Int) % 4 == 1) = true := by rw [beq_iff_eq]; exact ek
        rw [ek]
        clear ek t0 t3
        have hD9 : p < D.length := by rw [HD.out]; exact hpn
        obtain ⟨d, hd⟩ : ∃ d, D.getD p 0 = d := ⟨_, rfl⟩
        have e0 := HP.out.dn.c p _ (nums_at hD9)
        have hdb := HI.out.hi p hD9
        obtain ⟨x, hx⟩ : ∃ z, d + 1 = z := ⟨_, rfl⟩
        have en : (d : Int) + 1 = (x : Int) := by omega
        rw [hd] at e0 hdb
        have hp0 : (0 : Int) ≤ (p : Int) := by omega
        have hp1 : (p : Int) < (n : Int) := by omega
        have hp3 : (p : Int) ≤ 3 := by omega
        have hd3 : (d : Int) ≤ 100 := by omega
        have hd4 : (0 : Int) ≤ (d : Int) := by omega
        have hx3 : (x : Int) ≤ 101 := by omega
        by_cases hlt2 : x < nx
        · have HT := hide (fun (wy : World) (h : Below wA.heap.size wA wy) (xs : List Value) (ho : ROq wy (· < wy.heap.size) xs (opN (100 * p + (D.getD p 0 + 1)))) (z : Int) (hz : z = ((D.getD p 0 + 1 : Nat) : Int)) => show Calls Try.prog 18 #[.agg #[.int .i64 (nx : Int), .slice A al q, .int .i64 (du : Int)], .int .i64 z, .int .i64 (p : Int), .agg xs.toArray] wy (RetP1 wy (fun x => x ≠ w1.heap.size ∧ x ≠ w1.heap.size + 1 ∧ x < wA.heap.size) nx du (D.set p (D.getD p 0 + 1)) 0) by
            subst hz
            exact p_repz (HP.out.co.keep (Kp.of_below h)) (fun x hx => Nat.lt_of_lt_of_le hx.2.2 h.size) HI.out (k := p) hD9 (by rw [hd, hx]; exact hlt2) (xs := xs) ho)
          have HI2 := hide ((rep_st HI.out hD9).2 (by rw [hd, hx]; exact hlt2)).2
          have HOP : Hid (mk1 (IntKind.i64.wrap (IntKind.i64.wrap (IntKind.i64.wrap (100 * (p : Int)) + (d : Int)) + 1)) = opN (100 * p + (D.getD p 0 + 1))) := hide (by
            rw [hd, show IntKind.i64.wrap (100 * (p : Int)) = 100 * (p : Int) by rw [IntKind.wrap_i64]; omega, show IntKind.i64.wrap (100 * (p : Int) + (d : Int)) = 100 * (p : Int) + (d : Int) by rw [IntKind.wrap_i64]; omega, show IntKind.i64.wrap (100 * (p : Int) + (d : Int) + 1) = 100 * (p : Int) + (d : Int) + 1 by rw [IntKind.wrap_i64]; omega]
            exact op_num)
          rw [hd, hx] at HT HI2 HOP
          have HD2 : Hid ((D.set p x).length = n) := hide (by rw [List.length_set]; exact HD.out)
          have HDP := hide hD9
          have HDD := hide hd
          have te : decide ((x : Int) < (nx : Int)) = true := decide_eq_true (by omega)
          have te' : decide (x < nx) = true := decide_eq_true hlt2
          clear hd hx
          go_upto_region 28 with (fail)
          have x0 := HP.out.bx.c 0 _ rfl
          have x1 := HP.out.bx.c 1 _ rfl
          have x2 := HP.out.bx.c 2 _ rfl
          go_cut [16, 17] from 96 to 115 (fun p16 p17 wx => p17 = .int .i64 0 ∧ ∃ bd, p16 = .pointer (some ⟨bd, 0, none⟩) ∧ Hid (∃ A' al' q', Pn w wx w1.heap.size (w1.heap.size + 1) nx du D A al q bd nx du (D.set p x) A' al' q'))
          case first =>
            go_region_held3 (fun w' => w'.cell? ⟨w1.heap.size, 0, none⟩ = some (.int .i64 (nx : Int)) ∧ w'.cell? ⟨w1.heap.size, 1, none⟩ = some (.slice A al q) ∧ w'.cell? ⟨w1.heap.size, 2, none⟩ = some (.int .i64 (du : Int)) ∧ w'.cell? ⟨w1.heap.size + 1, p, none⟩ = some (.int .i64 (d : Int)))
              (first
                | with_reducible exact ⟨keep1 hk x0, keep1 hk x1, keep1 hk x2, keep1 hk e0⟩
                | with_reducible exact ⟨keep1 (bA_alloc hk _) x0, keep1 (bA_alloc hk _) x1, keep1 (bA_alloc hk _) x2, keep1 (bA_alloc hk _) e0⟩
                | (go_keep; done))
              (first
                | (go_at_call 29; refine (opr_any _ _).mono ?_; rintro e wo ⟨g9, rfl, hro, hbo'⟩; have hk : Below wA.heap.size wA wo := below_undrew hbo'; rw [HOP.out] at hro; have xo0 := keep1 hk x0; have xo1 := keep1 hk x1; have xo2 := keep1 hk x2; have xo3 := keep1 hk e0; have HRo := hide hro; have HBo := hide hk; have hs9 := hk.size; have hso : wA.heap.size ≤ wo.heap.size := hs9; have ho0 : w1.heap.size < wo.heap.size := (by omega); have ho1 : w1.heap.size + 1 < wo.heap.size := (by omega); clear hro hbo' hs9)
                | (go_at_call 29; refine (opr_any _ _).mono ?_; rintro e wo ⟨g9, rfl, hro, hbo'⟩; have hk : Below wA.heap.size wA wo := (by first | exact below_undrew (bthen (below_laid _) hbo') | exact bthen (below_laid _) (below_undrew hbo') | exact bthen (below_laid _) hbo'); rw [HOP.out] at hro; have xo0 := keep1 hk x0; have xo1 := keep1 hk x1; have xo2 := keep1 hk x2; have xo3 := keep1 hk e0; have HRo := hide hro; have HBo := hide hk; have hs9 := hk.size; have hso : wA.heap.size ≤ wo.heap.size := hs9; have ho0 : w1.heap.size < wo.heap.size := (by omega); have ho1 : w1.heap.size + 1 < wo.heap.size := (by omega); have HBX := hide (show Bl wo wA.heap.size [.int .i64 0, .slice none 0 0, .int .i64 0] from (by first | exact (Bl.new wA.drew [.int .i64 0, .slice none 0 0, .int .i64 0] 24).keep hbo' | exact (Bl.new wA [.int .i64 0, .slice none 0 0, .int .i64 0] 24).drew.keep hbo' | exact (Bl.new wA [.int .i64 0, .slice none 0 0, .int .i64 0] 24).keep hbo')); have hxo : wA.heap.size < wo.heap.size := HBX.out.lt; clear hro hbo' hs9)
                | (go_at_call 18; refine (HT.out _ (by first | with_reducible exact HBo.out | with_reducible exact bA_alloc HBo.out _) [.slice (some ⟨g9, 0, none⟩) 1 1, .slice none 0 0] (by first | with_reducible exact HRo.out | with_reducible exact roq_laid HRo.out _) _ (by first | exact en | (simp only [IntKind.wrap_i64]; omega))).mono ?_; rintro e wp ⟨A', al', q', rfl, hV, hbp⟩; have HV := hide hV; have HBP := hide hbp; have hk9 : Below wA.heap.size wA wp := (by first | with_reducible exact bthen HBo.out hbp | with_reducible exact bthen (bA_alloc HBo.out _) hbp); replace hk := hk9; have xp0 := keep1 hk x0; have xp1 := keep1 hk x1; have xp2 := keep1 hk x2; have xp3 := keep1 hk e0; have hs7 := hk.size; have ne0 : wp.heap.size ≠ w1.heap.size := (by omega); have ne1 : wp.heap.size ≠ w1.heap.size + 1 := (by omega); have ne2 : wo.heap.size ≠ w1.heap.size := (by omega); have ne3 : wo.heap.size ≠ w1.heap.size + 1 := (by omega); have ne4 : wA.heap.size ≠ w1.heap.size := (by omega); have ne5 : wA.heap.size ≠ w1.heap.size + 1 := (by omega); have hb9 : wo.heap.size ≤ wp.heap.size := (by have h9 := hbp.size; (try simp at h9); omega); (try (have HBQ : Hid (Bl wp wo.heap.size [.int .i64 0, .slice none 0 0, .int .i64 0]) := hide (by with_reducible exact (Bl.new wo [.int .i64 0, .slice none 0 0, .int .i64 0] 24).keep hbp); have HBQc0 := HBQ.out.c 0 _ rfl; have HBQf0 := HBQ.out.f 0; have HBQc1 := HBQ.out.c 1 _ rfl; have HBQf1 := HBQ.out.f 1; have HBQc2 := HBQ.out.c 2 _ rfl; have HBQf2 := HBQ.out.f 2)); (try (have HBR : Hid (Bl wp wA.heap.size [.int .i64 0, .slice none 0 0, .int .i64 0]) := hide (by with_reducible exact HBX.out.keep hbp); have HBRc0 := HBR.out.c 0 _ rfl; have HBRf0 := HBR.out.f 0; have HBRc1 := HBR.out.c 1 _ rfl; have HBRf1 := HBR.out.f 1; have HBRc2 := HBR.out.c 2 _ rfl; have HBRf2 := HBR.out.f 2)); clear hV hbp hk9))
            all_goals
              go_wp2_with fail
              go_meet
              first
                | exact ⟨rfl, _, rfl, hide ⟨_, _, _, Pn.mk4 HP.out HBo.out HBP.out HV.out _⟩⟩
                | exact ⟨rfl, _, rfl, hide ⟨_, _, _, Pn.mk3 HP.out (bthen HBo.out HBP.out) (HBX.out.keep HBP.out) (by omega) (by omega) (by omega) HV.out⟩⟩
                | exact ⟨rfl, _, rfl, hide ⟨_, _, _, Pn.mk3 HP.out (bthen (bA_alloc HBo.out _) HBP.out) ((Bl.new wo [.int .i64 0, .slice none 0 0, .int .i64 0] _).keep HBP.out) (by omega) (by simp) (by simp; omega) HV.out⟩⟩
          case rest =>
            clear x0 x1 x2 e0
            obtain ⟨rfl, bd, rfl, HH⟩ := hcut
            obtain ⟨A', al', q', hN⟩ := HH.out
            obtain ⟨w5, rfl⟩ : ∃ z, z = wc := ⟨_, rfl⟩
            have HN := hide hN
            clear HH hN HT HOP
            have e0 := HN.out.pw.dn.c p _ (nums_at HDP.out)
            rw [HDD.out] at e0
            have HS := hide HN.out.store
            obtain ⟨w6, hw6⟩ : ∃ z, (((w5.setCell ⟨w1.heap.size, 0, none⟩ (.int .i64 (nx : Int))).setCell ⟨w1.heap.size, 1, none⟩ (.slice A' al' q')).setCell ⟨w1.heap.size, 2, none⟩ (.int .i64 (du : Int))) = z := ⟨_, rfl⟩
            rw [hw6] at HS
            have x0 := HN.out.pw.bx.c 0 _ rfl
            have x1 := HN.out.pw.bx.c 1 _ rfl
            have x2 := HN.out.pw.bx.c 2 _ rfl
            have f0 := HN.out.pw.bx.f 0
            have f1 := HN.out.pw.bx.f 1
            have f2 := HN.out.pw.bx.f 2
            have d0 := HN.out.bd.c 0 _ rfl
            have d1 := HN.out.bd.c 1 _ rfl
            have d2 := HN.out.bd.c 2 _ rfl
            go_upto_region 33 with (fail)
            clear x0 x1 x2 f0 f1 f2 d0 d1 d2 hw6 e0 HN
            have e0 := HS.out.dn.c p _ (nums_at HDP.out)
            rw [HDD.out] at e0
            have ef := HS.out.dn.f p
            have HM2 := hide (HS.out.turn HDP.out)
            obtain ⟨wz, hwz⟩ : ∃ z, w6.setCell ⟨w1.heap.size + 1, p, none⟩ (.int .i64 (x : Int)) = z := ⟨_, rfl⟩
            rw [hwz] at HM2
            go_upto_region 40 with (fail)
            clear hwz e0 ef HS en te te'
            have HC := hide (p_chk HM2.out HI2.out)
            have x0 := HM2.out.bx.c 0 _ rfl
            have x1 := HM2.out.bx.c 1 _ rfl
            have x2 := HM2.out.bx.c 2 _ rfl
            go_wp2_with fail
            refine HC.out.mono ?_
            rintro r wv ⟨rfl, hbv⟩
            have HQ2 := hide (HM2.out.keep hbv)
            clear x0 x1 x2 hbv HC
            have x0 := HQ2.out.bx.c 0 _ rfl
            have x1 := HQ2.out.bx.c 1 _ rfl
            have x2 := HQ2.out.bx.c 2 _ rfl
            have HRL := hide (ready_law wv _ _ _ _ n _ _ _ HQ2.out.cov HQ2.out.dn HI2.out)
            rw [HD2.out] at HRL
            go_wp2_with fail
            refine HRL.out.mono ?_
            rintro r wu ⟨rfl, hbu⟩
            have HQ3 := hide (HQ2.out.keep hbu)
            clear x0 x1 x2 hbu HRL HQ2
            go_wp2
            go_roundw
            case rel => exact ⟨j + 1, nx, du, _, _, _, _, by omega, by go_num, by go_num, by go_num, by omega, HD2, HI2, HQ3⟩
            case measure => simp [intOf]; omega
        · have HT := hide (fun (wy : World) (h : Below wA.heap.size wA wy) (xs : List Value) (ho : ROq wy (· < wy.heap.size) xs (opN (100 * p + (D.getD p 0 + 1)))) (z : Int) (hz : z = ((D.getD p 0 + 1 : Nat) : Int)) => show Calls Try.prog 18 #[.agg #[.int .i64 (nx : Int), .slice A al q, .int .i64 (du : Int)], .int .i64 z, .int .i64 (p : Int), .agg xs.toArray] wy (RetF1 wy 6) by
            subst hz
            exact p_rep6 (HP.out.keep h) HI.out (k := p) hD9 (by rw [hd, hx]; exact hlt2) (xs := xs) ho)
          have HOP : Hid (mk1 (IntKind.i64.wrap (IntKind.i64.wrap (IntKind.i64.wrap (100 * (p : Int)) + (d : Int)) + 1)) = opN (100 * p + (D.getD p 0 + 1))) := hide (by
            rw [hd, show IntKind.i64.wrap (100 * (p : Int)) = 100 * (p : Int) by rw [IntKind.wrap_i64]; omega, show IntKind.i64.wrap (100 * (p : Int) + (d : Int)) = 100 * (p : Int) + (d : Int) by rw [IntKind.wrap_i64]; omega, show IntKind.i64.wrap (100 * (p : Int) + (d : Int) + 1) = 100 * (p : Int) + (d : Int) + 1 by rw [IntKind.wrap_i64]; omega]
            exact op_num)
          have HDD := hide hd
          rw [hd, hx] at HT HOP
          have HDP := hide hD9
          have te : decide ((x : Int) < (nx : Int)) = false := decide_eq_false (by omega)
          have te' : decide (x < nx) = false := decide_eq_false hlt2
          clear hd hx
          go_upto_region 28 with (fail)
          have x0 := HP.out.bx.c 0 _ rfl
          have x1 := HP.out.bx.c 1 _ rfl
          have x2 := HP.out.bx.c 2 _ rfl
          go_cut [17] from 96 to 115 (fun p17 wx => p17 = .int .i64 6 ∧ Hid (Pw w wx w1.heap.size (w1.heap.size + 1) nx du D A al q))
          case first =>
            go_region_held3 (fun w' => w'.cell? ⟨w1.heap.size, 0, none⟩ = some (.int .i64 (nx : Int)) ∧ w'.cell? ⟨w1.heap.size, 1, none⟩ = some (.slice A al q) ∧ w'.cell? ⟨w1.heap.size, 2, none⟩ = some (.int .i64 (du : Int)) ∧ w'.cell? ⟨w1.heap.size + 1, p, none⟩ = some (.int .i64 (d : Int)))
              (first
                | with_reducible exact ⟨keep1 hk x0, keep1 hk x1, keep1 hk x2, keep1 hk e0⟩
                | with_reducible exact ⟨keep1 (bA_alloc hk _) x0, keep1 (bA_alloc hk _) x1, keep1 (bA_alloc hk _) x2, keep1 (bA_alloc hk _) e0⟩
                | (go_keep; done))
              (first
                | (go_at_call 29; refine (opr_any _ _).mono ?_; rintro e wo ⟨g9, rfl, hro, hbo'⟩; have hk : Below wA.heap.size wA wo := below_undrew hbo'; rw [HOP.out] at hro; have xo0 := keep1 hk x0; have xo1 := keep1 hk x1; have xo2 := keep1 hk x2; have xo3 := keep1 hk e0; have HRo := hide hro; have HBo := hide hk; have hs9 := hk.size; have hso : wA.heap.size ≤ wo.heap.size := hs9; have ho0 : w1.heap.size < wo.heap.size := (by omega); have ho1 : w1.heap.size + 1 < wo.heap.size := (by omega); clear hro hbo' hs9)
                | (go_at_call 29; refine (opr_any _ _).mono ?_; rintro e wo ⟨g9, rfl, hro, hbo'⟩; have hk : Below wA.heap.size wA wo := (by first | exact below_undrew (bthen (below_laid _) hbo') | exact bthen (below_laid _) (below_undrew hbo') | exact bthen (below_laid _) hbo'); rw [HOP.out] at hro; have xo0 := keep1 hk x0; have xo1 := keep1 hk x1; have xo2 := keep1 hk x2; have xo3 := keep1 hk e0; have HRo := hide hro; have HBo := hide hk; have hs9 := hk.size; have hso : wA.heap.size ≤ wo.heap.size := hs9; have ho0 : w1.heap.size < wo.heap.size := (by omega); have ho1 : w1.heap.size + 1 < wo.heap.size := (by omega); have HBX := hide (show Bl wo wA.heap.size [.int .i64 0, .slice none 0 0, .int .i64 0] from (by first | exact (Bl.new wA.drew [.int .i64 0, .slice none 0 0, .int .i64 0] 24).keep hbo' | exact (Bl.new wA [.int .i64 0, .slice none 0 0, .int .i64 0] 24).drew.keep hbo' | exact (Bl.new wA [.int .i64 0, .slice none 0 0, .int .i64 0] 24).keep hbo')); have hxo : wA.heap.size < wo.heap.size := HBX.out.lt; clear hro hbo' hs9)
                | (go_at_call 18; refine (HT.out _ (by first | with_reducible exact HBo.out | with_reducible exact bA_alloc HBo.out _) [.slice (some ⟨g9, 0, none⟩) 1 1, .slice none 0 0] (by first | with_reducible exact HRo.out | with_reducible exact roq_laid HRo.out _) _ (by first | exact en | (simp only [IntKind.wrap_i64]; omega))).mono ?_; rintro e wp ⟨n9, d9, A', al', q', rfl, hbp⟩; have HBP := hide hbp; have hk9 : Below wA.heap.size wA wp := (by first | with_reducible exact bthen HBo.out hbp | with_reducible exact bthen (bA_alloc HBo.out _) hbp); replace hk := hk9; have xp0 := keep1 hk x0; have xp1 := keep1 hk x1; have xp2 := keep1 hk x2; have xp3 := keep1 hk e0; have hs7 := hk.size; have ne0 : wp.heap.size ≠ w1.heap.size := (by omega); have ne1 : wp.heap.size ≠ w1.heap.size + 1 := (by omega); have ne2 : wo.heap.size ≠ w1.heap.size := (by omega); have ne3 : wo.heap.size ≠ w1.heap.size + 1 := (by omega); have ne4 : wA.heap.size ≠ w1.heap.size := (by omega); have ne5 : wA.heap.size ≠ w1.heap.size + 1 := (by omega); have hb9 : wo.heap.size ≤ wp.heap.size := (by have h9 := hbp.size; (try simp at h9); omega); (try (have HBQ : Hid (Bl wp wo.heap.size [.int .i64 0, .slice none 0 0, .int .i64 0]) := hide (by with_reducible exact (Bl.new wo [.int .i64 0, .slice none 0 0, .int .i64 0] 24).keep hbp); have HBQc0 := HBQ.out.c 0 _ rfl; have HBQf0 := HBQ.out.f 0; have HBQc1 := HBQ.out.c 1 _ rfl; have HBQf1 := HBQ.out.f 1; have HBQc2 := HBQ.out.c 2 _ rfl; have HBQf2 := HBQ.out.f 2)); (try (have HBR : Hid (Bl wp wA.heap.size [.int .i64 0, .slice none 0 0, .int .i64 0]) := hide (by with_reducible exact HBX.out.keep hbp); have HBRc0 := HBR.out.c 0 _ rfl; have HBRf0 := HBR.out.f 0; have HBRc1 := HBR.out.c 1 _ rfl; have HBRf1 := HBR.out.f 1; have HBRc2 := HBR.out.c 2 _ rfl; have HBRf2 := HBR.out.f 2)); clear hbp hk9))
            all_goals
              go_wp2_with fail
              go_meet
              first
                | exact ⟨rfl, hide (HP.out.keep (bA_alloc hk _))⟩
                | exact ⟨rfl, hide (HP.out.keep (((hk.setCell (by show wA.heap.size ≤ _; first | exact Nat.le_refl _ | omega) _).setCell (by show wA.heap.size ≤ _; first | exact Nat.le_refl _ | omega) _).setCell (by show wA.heap.size ≤ _; first | exact Nat.le_refl _ | omega) _))⟩
          case rest =>
            clear x0 x1 x2 e0
            obtain ⟨rfl, HN⟩ := hcut
            obtain ⟨w5, rfl⟩ : ∃ z, z = wc := ⟨_, rfl⟩
            clear HT HOP
            have e0 := HN.out.dn.c p _ (nums_at HDP.out)
            rw [HDD.out] at e0
            go_upto_region 40 with (fail)
            clear e0 en te te'
            have HC := hide (p_chk HN.out HI.out)
            have x0 := HN.out.bx.c 0 _ rfl
            have x1 := HN.out.bx.c 1 _ rfl
            have x2 := HN.out.bx.c 2 _ rfl
            go_wp2_with fail
            refine HC.out.mono ?_
            rintro r wv ⟨rfl, hbv⟩
            have HQ2 := hide (HN.out.keep hbv)
            clear x0 x1 x2 hbv HC
            have x0 := HQ2.out.bx.c 0 _ rfl
            have x1 := HQ2.out.bx.c 1 _ rfl
            have x2 := HQ2.out.bx.c 2 _ rfl
            have HRL := hide (ready_law wv _ _ _ _ n _ _ _ HQ2.out.cov HQ2.out.dn HI.out)
            rw [HD.out] at HRL
            go_wp2_with fail
            refine HRL.out.mono ?_
            rintro r wu ⟨rfl, hbu⟩
            have HQ3 := hide (HQ2.out.keep hbu)
            clear x0 x1 x2 hbu HRL HQ2
            go_wp2
            go_roundw
            case rel => exact ⟨j + 1, nx, du, _, _, _, _, by omega, by go_num, by go_num, by go_num, by omega, HD, HI, HQ3⟩
            case measure => simp [intOf]; omega
      · have t0 : ((sk : Int) % 4 == 0) = false := by rw [beq_eq_false_iff_ne]; omega
        have t3 : ((sk : Int) % 4 == 1) = false := by rw [beq_eq_false_iff_ne]; omega
        have t4 : ((sk : Int) % 4 == 2) = true := by rw [beq_iff_eq]; exact ek
        obtain ⟨dv, hdv⟩ : ∃ z, du + 1 = z := ⟨_, rfl⟩
        have en : (du : Int) + 1 = (dv : Int) := by omega
        cases hmin : minD D du with
        | true =>
          have HT := hide (p_fin HP.out HI.out hmin)
          have HI2 := hide ((fin_st HI.out).2 hmin).2
          rw [hdv] at HT HI2
          have x0 := HP.out.bx.c 0 _ rfl
          have x1 := HP.out.bx.c 1 _ rfl
          have x2 := HP.out.bx.c 2 _ rfl
          go_wp2_with fail
          refine HT.out.mono ?_
          rintro r w4 ⟨A', al', q', rfl, hV, hb4⟩
          have HN := hide (Pn.mk' HP.out (Below.refl _ _) hb4 hV 24)
          clear x0 x1 x2 hV hb4 HT
          go_upto_region 36 with (fail)
          obtain ⟨w5, hw5⟩ : ∃ z, w4.alloc (.cells #[.int .i64 (nx : Int), .slice A' al' q', .int .i64 (dv : Int)] 24) = z := ⟨_, rfl⟩
          obtain ⟨bd, hbd⟩ : ∃ z, w4.heap.size = z := ⟨_, rfl⟩
          rw [hw5, hbd] at HN ⊢
          clear hw5 hbd
          have HMN := hide (min_any w5 _ n D HN.out.pw.dn HI.out.n1 HI.out.n3 (fun k hk => by have := HI.out.hi k hk; omega))
          rw [HD.out] at HMN
          go_wp2_with fail
          refine HMN.out.mono ?_
          rintro r w6 ⟨v, rfl, hv, hb6⟩
          have tt : decide ((du : Int) < (v : Int)) = true := (isMin_min hv).trans hmin
          have tt' : decide (du < v) = true := by rw [← tt]; exact decide_eq_decide.2 (by omega)
          replace HN := hide (HN.out.keep hb6)
          clear hv hb6 HMN hmin
          go_upto_region 39 with (fail)
          have HM2 := hide HN.out.store.pw
          obtain ⟨wz, hwz⟩ : ∃ z, (((w6.setCell ⟨w1.heap.size, 0, none⟩ (.int .i64 (nx : Int))).setCell ⟨w1.heap.size, 1, none⟩ (.slice A' al' q')).setCell ⟨w1.heap.size, 2, none⟩ (.int .i64 (dv : Int))) = z := ⟨_, rfl⟩
          rw [hwz] at HM2
          have x0 := HN.out.pw.bx.c 0 _ rfl
          have x1 := HN.out.pw.bx.c 1 _ rfl
          have x2 := HN.out.pw.bx.c 2 _ rfl
          have f0 := HN.out.pw.bx.f 0
          have f1 := HN.out.pw.bx.f 1
          have f2 := HN.out.pw.bx.f 2
          have d0 := HN.out.bd.c 0 _ rfl
          have d1 := HN.out.bd.c 1 _ rfl
          have d2 := HN.out.bd.c 2 _ rfl
          go_upto_region 40 with (fail)
          clear x0 x1 x2 f0 f1 f2 d0 d1 d2 hwz en HN tt tt'
          have HC := hide (p_chk HM2.out HI2.out)
          have x0 := HM2.out.bx.c 0 _ rfl
          have x1 := HM2.out.bx.c 1 _ rfl
          have x2 := HM2.out.bx.c 2 _ rfl
          go_wp2_with fail
          refine HC.out.mono ?_
          rintro r wv ⟨rfl, hbv⟩
          have HQ2 := hide (HM2.out.keep hbv)
          clear x0 x1 x2 hbv HC
          have x0 := HQ2.out.bx.c 0 _ rfl
          have x1 := HQ2.out.bx.c 1 _ rfl
          have x2 := HQ2.out.bx.c 2 _ rfl
          have HRL := hide (ready_law wv _ _ _ _ n _ _ _ HQ2.out.cov HQ2.out.dn HI2.out)
          rw [HD.out] at HRL
          go_wp2_with fail
          refine HRL.out.mono ?_
          rintro r wu ⟨rfl, hbu⟩
          have HQ3 := hide (HQ2.out.keep hbu)
          clear x0 x1 x2 hbu HRL HQ2
          go_wp2
          go_roundw
          case rel => exact ⟨j + 1, nx, dv, _, _, _, _, by omega, by go_num, by go_num, by go_num, by omega, HD, HI2, HQ3⟩
          case measure => simp [intOf]; omega
        | false =>
          obtain ⟨E, hE0, hT⟩ := p_fin6 HP.out HI.out hmin
          have HT := hide hT
          have te : (E == 0) = false := by rw [beq_eq_false_iff_ne]; exact hE0
          rw [hdv] at HT
          have x0 := HP.out.bx.c 0 _ rfl
          have x1 := HP.out.bx.c 1 _ rfl
          have x2 := HP.out.bx.c 2 _ rfl
          clear hT hE0
          go_wp2_with fail
          refine HT.out.mono ?_
          rintro r w4 ⟨n9, d9, A', al', q', rfl, hb4⟩
          have HN := hide (HP.out.keep (bA_alloc hb4 (.cells #[.int .i64 n9, .slice A' al' q', .int .i64 d9] 24)))
          clear x0 x1 x2 hb4 HT
          go_upto_region 36 with (fail)
          obtain ⟨w5, hw5⟩ : ∃ z, w4.alloc (.cells #[.int .i64 n9, .slice A' al' q', .int .i64 d9] 24) = z := ⟨_, rfl⟩
          rw [hw5] at HN ⊢
          clear hw5
          have HMN := hide (min_any w5 _ n D HN.out.dn HI.out.n1 HI.out.n3 (fun k hk => by have := HI.out.hi k hk; omega))
          rw [HD.out] at HMN
          go_wp2_with fail
          refine HMN.out.mono ?_
          rintro r w6 ⟨v, rfl, hv, hb6⟩
          have tt : decide ((du : Int) < (v : Int)) = false := (isMin_min hv).trans hmin
          have tt' : decide (du < v) = false := by rw [← tt]; exact decide_eq_decide.2 (by omega)
          replace HN := hide (HN.out.keep hb6)
          clear hv hb6 HMN hmin
          go_upto_region 40 with (fail)
          clear en tt tt' te
          have HC := hide (p_chk HN.out HI.out)
          have x0 := HN.out.bx.c 0 _ rfl
          have x1 := HN.out.bx.c 1 _ rfl
          have x2 := HN.out.bx.c 2 _ rfl
          go_wp2_with fail
          refine HC.out.mono ?_
          rintro r wv ⟨rfl, hbv⟩
          have HQ2 := hide (HN.out.keep hbv)
          clear x0 x1 x2 hbv HC
          have x0 := HQ2.out.bx.c 0 _ rfl
          have x1 := HQ2.out.bx.c 1 _ rfl
          have x2 := HQ2.out.bx.c 2 _ rfl
          have HRL := hide (ready_law wv _ _ _ _ n _ _ _ HQ2.out.cov HQ2.out.dn HI.out)
          rw [HD.out] at HRL
          go_wp2_with fail
          refine HRL.out.mono ?_
          rintro r wu ⟨rfl, hbu⟩
          have HQ3 := hide (HQ2.out.keep hbu)
          clear x0 x1 x2 hbu HRL HQ2
          go_wp2
          go_roundw
          case rel => exact ⟨j + 1, nx, du, _, _, _, _, by omega, by go_num, by go_num, by go_num, by omega, HD, HI, HQ3⟩
          case measure => simp [intOf]; omega
      · have t0 : ((sk : Int) % 4 == 0) = false := by rw [beq_eq_false_iff_ne]; omega
        have t3 : ((sk : Int) % 4 == 1) = false := by rw [beq_eq_false_iff_ne]; omega
        have t4 : ((sk : Int) % 4 == 2) = false := by rw [beq_eq_false_iff_ne]; omega
        by_cases hj3 : 0 < j % 3
        · have t5 : decide ((0 : Int) < (j : Int) % 3) = true := decide_eq_true (by omega)
          have t5' : decide (0 < j % 3) = true := decide_eq_true hj3
          go_upto_region 40 with (fail)
          have HC := hide (p_chk HP.out HI.out)
          have x0 := HP.out.bx.c 0 _ rfl
          have x1 := HP.out.bx.c 1 _ rfl
          have x2 := HP.out.bx.c 2 _ rfl
          go_wp2_with fail
          refine HC.out.mono ?_
          rintro r wv ⟨rfl, hbv⟩
          have HQ2 := hide (HP.out.keep hbv)
          clear x0 x1 x2 hbv HC
          have x0 := HQ2.out.bx.c 0 _ rfl
          have x1 := HQ2.out.bx.c 1 _ rfl
          have x2 := HQ2.out.bx.c 2 _ rfl
          have HRL := hide (ready_law wv _ _ _ _ n _ _ _ HQ2.out.cov HQ2.out.dn HI.out)
          rw [HD.out] at HRL
          go_wp2_with fail
          refine HRL.out.mono ?_
          rintro r wu ⟨rfl, hbu⟩
          have HQ3 := hide (HQ2.out.keep hbu)
          clear x0 x1 x2 hbu HRL HQ2
          go_wp2
          go_roundw
          case rel => exact ⟨j + 1, nx, du, _, _, _, _, by omega, by go_num, by go_num, by go_num, by omega, HD, HI, HQ3⟩
          case measure => simp [intOf]; omega
        · have t5 : decide ((0 : Int) < (j : Int) % 3) = false := decide_eq_false (by omega)
          have t5' : decide (0 < j % 3) = false := decide_eq_false hj3
          obtain ⟨dv, hdv⟩ : ∃ z, du + 1 = z := ⟨_, rfl⟩
          have en : (du : Int) + 1 = (dv : Int) := by omega
          have HT := hide (p_can HP.out HI.out)
          have HI2 := hide (can_st HI.out).2
          rw [hdv] at HT HI2
          rw [HD.out] at HI2
          have HDV := hide hdv
          have x0 := HP.out.bx.c 0 _ rfl
          have x1 := HP.out.bx.c 1 _ rfl
          have x2 := HP.out.bx.c 2 _ rfl
          go_wp2_with fail
          refine HT.out.mono ?_
          rintro r w4 ⟨A', al', q', rfl, hV, hb4⟩
          have HN := hide (Pn.mk' HP.out (Below.refl _ _) hb4 hV 24)
          clear x0 x1 x2 hV hb4 HT
          go_upto_region 16 with (fail)
          obtain ⟨w5, hw5⟩ : ∃ z, w4.alloc (.cells #[.int .i64 (dv : Int), .slice A' al' q', .int .i64 (du : Int)] 24) = z := ⟨_, rfl⟩
          obtain ⟨bd, hbd⟩ : ∃ z, w4.heap.size = z := ⟨_, rfl⟩
          rw [hw5, hbd] at HN ⊢
          clear hw5 hbd
          have HM2 := hide HN.out.store.pw
          obtain ⟨wz, hwz⟩ : ∃ z, (((w5.setCell ⟨w1.heap.size, 0, none⟩ (.int .i64 (dv : Int))).setCell ⟨w1.heap.size, 1, none⟩ (.slice A' al' q')).setCell ⟨w1.heap.size, 2, none⟩ (.int .i64 (du : Int))) = z := ⟨_, rfl⟩
          rw [hwz] at HM2
          have x0 := HN.out.pw.bx.c 0 _ rfl
          have x1 := HN.out.pw.bx.c 1 _ rfl
          have x2 := HN.out.pw.bx.c 2 _ rfl
          have f0 := HN.out.pw.bx.f 0
          have f1 := HN.out.pw.bx.f 1
          have f2 := HN.out.pw.bx.f 2
          have d0 := HN.out.bd.c 0 _ rfl
          have d1 := HN.out.bd.c 1 _ rfl
          have d2 := HN.out.bd.c 2 _ rfl
          go_upto_region 17 with (fail)
          clear x0 x1 x2 f0 f1 f2 d0 d1 d2 hwz en HN
          go_wp2
          go_loopw [64] (fun i wq => ∃ t : Nat, t ≤ n ∧ i = .int .i64 t ∧ Hid (Pw w wq w1.heap.size (w1.heap.size + 1) dv du (List.replicate t du ++ D.drop t) A' al' q')) (fun i _ => n - (intOf i).toNat)
          case atStart => exact ⟨0, Nat.zero_le _, rfl, hide (by simpa using HM2.out)⟩
          case round =>
            clear HM2
            obtain ⟨t, ht, rfl, HM3⟩ := hrel
            by_cases hlt3 : t < n
            · have hu2 : (0 : Int) ≤ (t : Int) := by omega
              have hu3 : (t : Int) < (n : Int) := by omega
              have htl : t < (List.replicate t du ++ D.drop t).length := by have := HD.out; simp; omega
              have e0 := HM3.out.dn.c t _ (nums_at htl)
              have ef := HM3.out.dn.f t
              obtain ⟨y9, hy9⟩ : ∃ y, (List.replicate t du ++ D.drop t).getD t 0 = y := ⟨_, rfl⟩
              rw [hy9] at e0
              clear hy9
              have HX : Hid (Pw w (wr.setCell ⟨w1.heap.size + 1, t, none⟩ (.int .i64 (du : Int))) w1.heap.size (w1.heap.size + 1) dv du (List.replicate (t + 1) du ++ D.drop (t + 1)) A' al' q') := hide (by
                have h9 := HM3.out
                rw [← HDV.out] at h9 ⊢
                exact h9.fill (by have := HD.out; omega))
              clear htl
              go_wp2
              go_roundw
              case rel => exact ⟨t + 1, by omega, by go_num, HX⟩
              case measure => simp [intOf]; omega
            · obtain rfl : n = t := by omega
              have HM4 : Hid (Pw w wr w1.heap.size (w1.heap.size + 1) dv du (List.replicate n du) A' al' q') := hide (by
                have h9 := HM3.out
                rw [List.drop_eq_nil_of_le (by rw [HD.out]; exact Nat.le_refl _), List.append_nil] at h9
                exact h9)
              have HD2 : Hid ((List.replicate n du).length = n) := hide (List.length_replicate ..)
              clear HM3
              go_upto_region 40 with (fail)
              have HC := hide (p_chk HM4.out HI2.out)
              have x0 := HM4.out.bx.c 0 _ rfl
              have x1 := HM4.out.bx.c 1 _ rfl
              have x2 := HM4.out.bx.c 2 _ rfl
              go_wp2_with fail
              refine HC.out.mono ?_
              rintro r wv ⟨rfl, hbv⟩
              have HQ2 := hide (HM4.out.keep hbv)
              clear x0 x1 x2 hbv HC
              have x0 := HQ2.out.bx.c 0 _ rfl
              have x1 := HQ2.out.bx.c 1 _ rfl
              have x2 := HQ2.out.bx.c 2 _ rfl
              have HRL := hide (ready_law wv _ _ _ _ n _ _ _ HQ2.out.cov HQ2.out.dn HI2.out)
              rw [HD2.out] at HRL
              go_wp2_with fail
              refine HRL.out.mono ?_
              rintro r wu ⟨rfl, hbu⟩
              have HQ3 := hide (HQ2.out.keep hbu)
              clear x0 x1 x2 hbu HRL HQ2
              go_wp2
              go_roundw
              case rel => exact ⟨j + 1, dv, du, _, _, _, _, by omega, by go_num, by go_num, by go_num, by omega, HD2, HI2, HQ3⟩
              case measure => simp [intOf]; omega
    · obtain rfl : j = m := by omega
      go_wp2_with fail
      refine (awake_any _).mono ?_
      rintro r w3 ⟨rfl, hb3⟩
      have HB3 := hide (bthen HW.out.be hb3)
      go_wp2
      go_ret
      exact Ret.bool rfl HB3.out
end
end Go.Proofs.Ytihbonndinnohaa
