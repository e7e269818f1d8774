/- Lists that a reader makes in a field of a struct of its own. The reference's takeEvents. -/
import Derived.Test.YtofdcgojgcnopaaGreatDGrow
import Derived.Test.YtofdcgojgcnopaaGreatDTake
import Derived.Deep.RegionLaw
import Derived.Test.YtofdcgojgcnopaaGreatDRel
import Derived.Test.YtofdcgojgcnopaaGreatDRVal
namespace Go.Proofs.YtofdcgojgcnopaaGreat
open Go.RowKit
set_option linter.unusedVariables false
set_option linter.unusedSimpArgs false
theorem Rw.drew {w : World} {F : Nat} {s : Bs} {e : Int} (h : Rw w F s e) : Rw w.drew F s e := ⟨h.c0, h.c1, h.f0, h.f1⟩
/-- Nothing but the blocks F and b has turned, of what there was. -/
structure Rt2 (F b : Nat) (w w' : World) : Prop where
  low : Below F w w'
  kp : Kp (fun x => x ≠ F ∧ x ≠ b) w w'
section
variable {F b : Nat} {w w' w'' : World}
theorem Rt2.refl : Rt2 F b w w := ⟨Below.refl _ _, Kp.refl⟩
theorem Rt2.of (h : Rt F w w') : Rt2 F b w w' := ⟨h.low, h.kp.less fun _ h => h.1⟩
theorem Rt2.trans (h : Rt2 F b w w') (h' : Rt2 F b w' w'') : Rt2 F b w w'' := ⟨h.low.trans h'.low, h.kp.trans h'.kp⟩
theorem Rt2.below (h : Rt2 F b w w') (hb : Below w.heap.size w' w'') (hF : F ≤ w.heap.size) : Rt2 F b w w'' :=
  ⟨h.low.trans (hb.mono hF), ⟨Nat.le_trans h.kp.1 hb.size, fun x hz hl => (hb.block x hl).trans (h.kp.2 x hz hl)⟩⟩
theorem Rt2.set (h : Rt2 F b w w') (hF : F ≤ b) (c : Nat) (u : Value) : Rt2 F b w (w'.setCell ⟨b, c, none⟩ u) := by
  have hk : Kp (fun x => x ≠ F ∧ x ≠ b) w' (w'.setCell ⟨b, c, none⟩ u) := Kp.set ⟨b, c, none⟩ u (fun d hd => hd.2)
  exact ⟨h.low.setCell (p := ⟨b, c, none⟩) hF _, h.kp.trans hk⟩
/-- A box that is laid later than w0. -/
theorem Rt.then2 {w0 : World} (h : Rt F w0 w) (hb : w0.heap.size ≤ b) (h2 : Rt2 F b w w') : Rt F w0 w' :=
  ⟨h.low.trans h2.low, Nat.le_trans h.kp.1 h2.kp.1, fun x hz hl => (h2.kp.2 x ⟨hz, by omega⟩ (Nat.lt_of_lt_of_le hl h.kp.1)).trans (h.kp.2 x hz hl)⟩
theorem Bo.keep2 {r : Nat} {x : Value} {xs : List Value} (h : Bo F w r (x :: xs)) (hr : r ≠ b) (ht : Rt2 F b w w') : Bo F w' r (x :: xs) := by
  have hb := ht.kp.2 r ⟨h.1, hr⟩ h.lt
  exact ⟨h.1, fun c u hu => (World.cell?_of_block (w := w) (a := ⟨r, c, none⟩) hb).trans (h.2.1 c u hu), fun c hc => (World.frozen?_of_block (w := w) (a := ⟨r, c, none⟩) hb).trans (h.2.2 c hc)⟩
theorem Bo.low {r B : Nat} {xs : List Value} (h : Bo F w r xs) (hb : Below B w w') (hr : r < B) : Bo F w' r xs :=
  ⟨h.1, fun c u hu => (hb.cell (p := ⟨r, c, none⟩) hr).trans (h.2.1 c u hu), fun c hc => (hb.frozen (p := ⟨r, c, none⟩) hr).trans (h.2.2 c hc)⟩
theorem Bo.undrew {r : Nat} {xs : List Value} (h : Bo F w.drew r xs) : Bo F w r xs := h
end
section
variable {α : Type} {R : World → (Nat → Prop) → List Value → α → Prop} {w w' : World} {base sz : Nat} {te : TypeId} {v v' : Value} {l : List α}
/-- A store below base. -/
theorem Grw.set (hR : Rd R) (h : Grw w base te sz R v l) {b : Nat} (hb : b < base) (c : Nat) (u : Value) : Grw (w.setCell ⟨b, c, none⟩ u) base te sz R v l := by
  obtain ⟨cells, hown, hlen, hel⟩ := h
  have hsz : (w.setCell ⟨b, c, none⟩ u).heap.size = w.heap.size := by simp [World.setCell]
  refine ⟨cells, hown.kept (row := some b) ⟨rfl, rfl, rfl, by rw [hsz]; exact Nat.le_refl _, fun k _ hk => Below.heap_setCell w ⟨b, c, none⟩ u k (fun hh => hk (by rw [hh]))⟩ ?_, hlen, fun j hj => ?_⟩
  · cases hv : v.ownBlock with
    | none => exact .inl rfl
    | some k => exact .inr (fun hh => by have := (hown.lt k hv).1; injection hh with hh; omega)
  · obtain ⟨xs, h1, h2, h3⟩ := hel j hj
    refine ⟨xs, h1, h2, ?_⟩
    rw [hsz]
    exact hR.keep (Kp.set ⟨b, c, none⟩ u fun x hx => by show x ≠ b; have := hx.1; omega) h3
theorem Grw.undrew (h : Grw w.drew base te sz R v l) (hR : Rd R) : Grw w base te sz R v l := by
  obtain ⟨cells, hown, hlen, hel⟩ := h
  refine ⟨cells, hown, hlen, fun j hj => ?_⟩
  obtain ⟨xs, h1, h2, h3⟩ := hel j hj
  have h4 : R w (fun b => base ≤ b ∧ b < w.drew.heap.size ∧ v.ownBlock ≠ some b) xs l[j] := hR.keep (w := w.drew) ⟨Nat.le_refl _, fun _ _ _ => rfl⟩ h3
  exact ⟨xs, h1, h2, h4⟩
theorem Grw.form (h : Grw w base te sz R v l) : ∃ A cap, v = .slice A l.length cap := by
  obtain ⟨cells, hown, -⟩ := h
  rcases hown.2 with ⟨rfl, h0⟩ | ⟨g, cap, cur, rfl, -⟩
  · exact ⟨none, 0, by rw [h0]⟩
  · exact ⟨_, _, rfl⟩
end
section
variable {P : Program}
/-- append of one element that a composite literal has just laid, at a step of a drawn region: the list grows. -/
theorem step_append_grw {α : Type} {R : World → (Nat → Prop) → List Value → α → Prop} (hR : Rd R) (hl : Rl R) {ops : Array Oper} {o : Oper} {a : Act} {K : Act → World → Prop} {Q : Exit → Act → World → Prop} {E : Prop} {wr : World} (hgd : o.guard = none) (s x : Operand) (t : TypeId)
    (ho : o.op = .call { callee := .builtin .append, args := #[s, x], argTypes := #[t, t] })
    (base : Nat) (e : TypeId) (i : TypeInfo) (z : Value) (bytes : Nat) (ht : P.underlying t = some (.slice e)) (hi : P.info? e = some i) (hz : i.zero = some z)
    (ys : List Value) (hsize : i.size = ys.length) (hby : i.bytes = bytes) (hzs : z.cells.size = ys.length) (hsz : 0 < ys.length)
    (v : Value) (l : List α) (hs : a.eval s = v) (hg : Grw wr base e ys.length R v l)
    (te : TypeId) (hx : a.eval x = .slice (some ⟨wr.heap.size, 0, none⟩) 1 1) (h1 : ∀ y ∈ ys, y.oneCell' = true)
    (y : α) {w0 : World} (hy : R wr (w0.heap.size ≤ ·) ys y) (h0 : base ≤ w0.heap.size) (hv : ∀ k, v.ownBlock = some k → k < w0.heap.size)
    (hn : l.length < 1099511627776) (hb100 : bytes ≤ 128) (hbase : base ≤ wr.heap.size)
    (h : ∀ v' w', Grw w' base e ys.length R v' (l ++ [y]) → Below base wr w' → wr.heap.size ≤ w'.heap.size → K (a.put o.dst v') w') :
    if Region.wanted o (yielded ops a.tmps) = true then Oper.wp P o a (wr.alloc (.cells ys.toArray te)) K Q else E := by
  have hw : Region.wanted o (yielded ops a.tmps) = true := by simp [Region.wanted, hgd]
  rw [if_pos hw]
  obtain ⟨cells, hown, hlen, hel⟩ := hg
  obtain ⟨v', w', hr, hown', hg, h3, hat⟩ := run_append_own_at (P := P) (wr.alloc (.cells ys.toArray te)) base t o.type e i z ys.length bytes ht hi hz hsize hby hzs hsz v _ _ (hown.alloc _) ⟨wr.heap.size, 0, none⟩ 1 1 ys (by simp)
    (fun j u hj => by
      rw [show (⟨wr.heap.size, 0, none⟩ : Addr).add j = ⟨wr.heap.size, j, none⟩ by unfold Addr.add; split <;> simp_all]
      rw [World.cell?_alloc_at _ _ _ _ rfl]
      simpa using hj) h1 (by unfold maxLen; omega)
    (by calc (l.length + 1) * bytes ≤ 1099511627776 * 128 := Nat.mul_le_mul (by omega) hb100
          _ ≤ 140737488355328 := by omega) (by simp; omega)
  have hbel : Below base wr w' := ((Below.refl base wr).alloc hbase _).grown hg (by simp; omega) (fun k hk => (hown.lt k hk).1)
  have hfin := h v' w' (Grw.snoc hR hl hown hlen hel rfl hy h0 hv hown' ((Kp.alloc _).trans ⟨hg.size, fun b hb hlt => hg.block b hlt (fun e => hb e.symm)⟩) (by
    rcases hat with h | h
    · exact .inl h
    · exact .inr ⟨_, h, by simp⟩)) hbel hbel.size
  unfold Oper.wp execOp
  simp only [ho, resolve, invoke, builtin, Sem.run_bind, Sem.run_pure, Result.andThen_ok, List.map_toArray, List.map_cons, List.map_nil, hs, hx, hr]
  exact hfin
end
/-- The length of a list. -/
def pCount : Ps Int := pBind pnum fun n => if n < 0 ∨ 4096 < n then pErr 5 else pRet n
def RCt (_ : World) (v : Value) (n : Int) : Prop := v = .int .i64 n ∧ 0 ≤ n ∧ n ≤ 4096
theorem pL_count {α : Type} (p : Ps α) (s : Bs) : pL p s = pBind pCount (fun n => pMany p n.toNat) s := by
  unfold pL pCount pBind
  cases pnum s with
  | error c => rfl
  | ok x =>
    obtain ⟨n, r⟩ := x
    simp only
    by_cases h : n < 0 ∨ 4096 < n
    · rw [if_pos h, if_pos h]; rfl
    · rw [if_neg h, if_neg h]; rfl
theorem De.counted {α : Type} {p : Ps α} {s s1 s' : Bs} {e e1 e' n : Int} {l : List α} {j : Nat} (h : De pCount s e n s1 e1) (hm : De (pMany p j) s1 e1 l s' e') (hj : (j : Int) ≤ n) (hx : n ≤ (j : Int) ∨ e' ≠ 0) : De (pL p) s e l s' e' := by
  have := h.bind (q := fun n => pMany p n.toNat) (hm.many (m := n.toNat) (by omega) (hx.imp (fun h => by omega) id))
  exact ⟨this.1, this.2.1, fun h0 => by rw [pL_count]; exact this.2.2 h0⟩
section
variable (F : Nat) (s : Bs) (e : Int) (w : World)
set_option maxRecDepth 100000 in
set_option maxHeartbeats 4000000 in
theorem rcount_any (hs : s.length ≤ 100000000) (h : Rw w F s e) : Calls Tryz.prog 55 #[.pointer (some ⟨F, 0, none⟩)] w (Rds F pCount RCt s e w) := by
  have HI := hide (rtake_any F s e w hs h)
  clear h
  go_enter Tryz.func55, Tryz.ntmps55
  go_wp2_with fail
  refine HI.out.mono ?_
  rintro en w1 ⟨_, n, s1, e1, rfl, ⟨rfl, hn⟩, hd, hw, ht⟩
  have HD := hide hd
  have HW := hide hw
  have HT := hide ht
  clear hd hw ht
  unfold inI at hn
  by_cases hbad : n < 0 ∨ 4096 < n
  · have HF := hide (rfail_any F s1 e1 w1 5 HW.out)
    have HDE := hide (HD.out.bind (q := fun n => if n < 0 ∨ 4096 < n then pErr 5 else pRet n) (De.errl (e := e1) (0 : Int) (Nat.le_refl _) (by rw [if_pos hbad]; rfl) (by decide : (5 : Int) ≠ 0)))
    obtain ⟨e2, he2⟩ : ∃ e2, (if e1 = 0 then 5 else e1) = e2 := ⟨_, rfl⟩
    rw [he2] at HF HDE
    clear he2
    rcases hbad with hb1 | hb1
    all_goals
      go_wp2_with fail
      refine HF.out.mono ?_
      rintro en w2 ⟨rfl, hw, ht⟩
      have HW2 := hide hw
      have HT2 := hide (HT.out.trans ht)
      clear hw ht
      go_wp2
      go_ret
      exact ⟨_, 0, s1, e2, rfl, ⟨rfl, by omega, by omega⟩, HDE.out, HW2.out, HT2.out⟩
  · have HDE := hide (HD.out.bind (q := fun n => if n < 0 ∨ 4096 < n then pErr 5 else pRet n) (show De _ s1 e1 n s1 e1 by rw [if_neg hbad]; exact De.ret n))
    have hb1 : 0 ≤ n := by omega
    have hb2 : n ≤ 4096 := by omega
    go_wp2
    go_ret
    exact ⟨_, n, s1, e1, rfl, ⟨rfl, hb1, hb2⟩, HDE.out, HW.out, HT.out⟩
end
end Go.Proofs.YtofdcgojgcnopaaGreat

namespace Go.Proofs.YtofdcgojgcnopaaGreat
open Go.RowKit
set_option linter.unusedVariables false
set_option linter.unusedSimpArgs false
section
variable (F : Nat) (s : Bs) (e : Int) (w : World)
set_option maxRecDepth 100000 in
set_option maxHeartbeats 16000000 in
theorem rtE_any (hs : s.length ≤ 100000000) (h : Rw w F s e) : Calls Tryz.prog 84 #[.pointer (some ⟨F, 0, none⟩)] w (Rds F (pL pEv) (RLs 5 REv0 w.heap.size) s e w) := by
  have HI := hide (rcount_any F s e w hs h)
  have hF := h.lt
  obtain ⟨i0E, hi0E, hz0E, hz1E, hz2E⟩ := info_parts info_event
  obtain ⟨i0V, hi0V, hz0V, hz1V, hz2V⟩ := info_parts info_value
  clear h
  go_enter Tryz.func84, Tryz.ntmps84
  go_wp2_with fail
  refine HI.out.mono ?_
  rintro en w2 ⟨_, n, sA, eA, rfl, ⟨rfl, hn0, hn1⟩, hd, hw, ht⟩
  have HD := hide hd
  have HW := hide hw
  have HT := hide ht
  have hl := hd.1
  clear hd hw ht HI
  go_wp2
  go_loopw [3, 5] (fun v i wr => ∃ j : Nat, i = .int .i64 j ∧ Hid (∃ l s' e', Rw wr F s' e' ∧ Rt F w wr ∧ Grw wr w.heap.size 88 5 REv0 v l ∧ De (pMany pEv j) sA eA l s' e' ∧ l.length = j ∧ (j : Int) ≤ n ∧ s'.length ≤ s.length)) (fun _ i _ => (n - intOf i).toNat)
  case atStart => exact ⟨0, rfl, hide ⟨[], sA, eA, HW.out, HT.out, Grw.nil, De.nil (Nat.le_refl _) (fun _ => rfl), rfl, by omega, by omega⟩⟩
  case round =>
    clear HW HT
    obtain ⟨jo, rfl, HR⟩ := hrel
    obtain ⟨lo, so, eo, hw, ht, hg, hd, hj, hjn, hsl⟩ := HR.out
    obtain ⟨wo, rfl⟩ : ∃ wo : World, wo = wr := ⟨_, rfl⟩
    have HWo := hide hw
    have HTo := hide ht
    have HGo := hide hg
    have HDEo := hide hd
    have HJo := hide hj
    have hjn2 := hjn
    have hslo := hsl
    have c1 := hw.c1
    have hwo : w.heap.size ≤ wo.heap.size := ht.kp.1
    have hFo : F < wo.heap.size := hw.lt
    clear hw ht hg hd hj HR hjn hsl
    by_cases hlt : (jo : Int) < n
    · by_cases he : eo = 0
      · subst he
        have hlow := HGo.out.low
        have HLOWo := hide hlow
        have hleno : lo.length < 1099511627776 := by have := HJo.out; omega
        clear hlow
        have HCL := hide (rtake_any F so 0 wo (by omega) HWo.out)
        go_wp2_with fail
        refine HCL.out.mono ?_
        rintro en w1 ⟨_, x1, s1, e1, rfl, ⟨rfl, hg⟩, hd, hw, ht⟩
        have HD1 := hide hd
        have hl1 : s1.length ≤ so.length := hd.1
        have HQ1 := hide hg
        have HT := hide ht
        have HW := hide hw
        clear hd hw ht hg HCL
        have HCL := hide (rtake_any F s1 e1 w1 (by omega) HW.out)
        go_wp2_with fail
        refine HCL.out.mono ?_
        rintro en w2 ⟨_, x2, s2, e2, rfl, ⟨rfl, hg⟩, hd, hw, ht⟩
        have HD2 := hide hd
        have hl2 : s2.length ≤ s1.length := hd.1
        have HQ2 := hide hg
        replace HT := hide (HT.out.trans ht)
        have HW := hide hw
        clear hd hw ht hg HCL
        have HCL := hide (rtake_any F s2 e2 w2 (by omega) HW.out)
        go_wp2_with fail
        refine HCL.out.mono ?_
        rintro en w3 ⟨_, x3, s3, e3, rfl, ⟨rfl, hg⟩, hd, hw, ht⟩
        have HD3 := hide hd
        have hl3 : s3.length ≤ s2.length := hd.1
        have HQ3 := hide hg
        replace HT := hide (HT.out.trans ht)
        have HW := hide hw
        clear hd hw ht hg HCL
        have HCL := hide (rtake_any F s3 e3 w3 (by omega) HW.out)
        go_wp2_with fail
        refine HCL.out.mono ?_
        rintro en w4 ⟨_, x4, s4, e4, rfl, ⟨rfl, hg⟩, hd, hw, ht⟩
        have HD4 := hide hd
        have hl4 : s4.length ≤ s3.length := hd.1
        have HQ4 := hide hg
        replace HT := hide (HT.out.trans ht)
        have HW := hide hw
        clear hd hw ht hg HCL
        have hwl := HW.out.lt
        have hz4 := HT.out.kp.1
        have HB := hide (Bo.new hwl [.int .i64 x1, .int .i64 x2, .int .i64 x3, .int .i64 x4, .slice none 0 0] 88)
        replace HT := hide (HT.out.trans (Rt.laid HW.out (.cells #[.int .i64 x1, .int .i64 x2, .int .i64 x3, .int .i64 x4, .slice none 0 0] 88)))
        have HCL := hide (rcount_any F s4 e4 (w4.alloc (.cells #[.int .i64 x1, .int .i64 x2, .int .i64 x3, .int .i64 x4, .slice none 0 0] 88)) (by omega) (HW.out.laid _))
        go_wp2_with fail
        refine HCL.out.mono ?_
        rintro en wc ⟨_, m, s5, e5, rfl, ⟨rfl, hm0, hm1⟩, hd, hw, ht⟩
        have HD5 := hide hd
        have hl5 : s5.length ≤ s4.length := hd.1
        replace HT := hide (HT.out.trans ht)
        replace HB := hide (HB.out.keep ht)
        replace HW := hide hw
        have hwc : wo.heap.size ≤ wc.heap.size := HT.out.kp.1
        clear hd hw ht HCL c1
        go_wp2
        go_loopw [8] (fun i wr => ∃ j : Nat, i = .int .i64 j ∧ Hid (∃ u l s' e', Rw wr F s' e' ∧ Rt2 F w4.heap.size wc wr ∧ Bo F wr w4.heap.size [.int .i64 x1, .int .i64 x2, .int .i64 x3, .int .i64 x4, u] ∧ Grw wr wc.heap.size 49 3 RV0 u l ∧ De (pMany pV j) s5 e5 l s' e' ∧ l.length = j ∧ (j : Int) ≤ m ∧ s'.length ≤ s5.length)) (fun i _ => (m - intOf i).toNat)
        case atStart => exact ⟨0, rfl, hide ⟨_, [], s5, e5, HW.out, Rt2.refl, HB.out, Grw.nil, De.nil (Nat.le_refl _) (fun _ => rfl), rfl, by omega, Nat.le_refl _⟩⟩
        case round =>
          have HWo := HW
          have HTo2 := HT
          have HBo := HB
          clear HW HT HB
          obtain ⟨j, rfl, HR⟩ := hrel
          obtain ⟨u, l, s', e', hw, ht, hb, hg, hd, hj, hjn, hsl⟩ := HR.out
          obtain ⟨A, cp, rfl⟩ := hg.form
          have HW := hide hw
          have HT2 := hide ht
          have HB := hide hb
          have HG := hide hg
          have HDE := hide hd
          have HJ := hide hj
          have c1 := hw.c1
          have hwF : F < wr.heap.size := hw.lt
          have hcw : wc.heap.size ≤ wr.heap.size := ht.kp.1
          have hbl : w4.heap.size < wc.heap.size := HBo.out.lt
          have hFc : F < wc.heap.size := HWo.out.lt
          clear hw ht hg hd hj hb HR
          by_cases hlt : (j : Int) < m
          · by_cases he : e' = 0
            · subst he
              have hlow := HG.out.low
              have HLOW := hide hlow
              have hlen : l.length < 1099511627776 := by have := HJ.out; omega
              have bq := HB.out.2.1 4 _ rfl
              have fq := HB.out.2.2 4 (by simp)
              have tok1 : True := trivial
              clear hlow
              go_wp2_with fail
              go_region_law (first | (refine step_append_grw rd_V0 rl_V0 rfl _ _ 86 rfl wc.heap.size 49 i0V _ 32 Tryz.underlying86 hi0V hz0V [.int .i64 y1.q, .int .i64 y1.n, .string y1.s] hz1V hz2V rfl (by simp) (.slice A l.length cp) _ (by rfl) (HG.out.keep rd_V0 ht1 hFc) _ (by rfl) (by simp [Value.oneCell']) (⟨y1.q, y1.n, y1.s⟩ : V3) (show RV0 wa1 (wr.heap.size ≤ ·) [.int .i64 y1.q, .int .i64 y1.n, .string y1.s] (⟨y1.q, y1.n, y1.s⟩ : V3) from ⟨rfl, hg1, Nat.le_trans hxz1 (by decide)⟩) hcw HLOW.out hlen (by decide) (Nat.le_trans hcw ht1.kp.1) ?_; intro v2 w9 hg9 hb9 hs9; obtain ⟨A9, c9, hv9⟩ := hg9.form; simp only [List.length_append, List.length_cons, List.length_nil, Nat.zero_add] at hv9; subst hv9; have bx9 := bx1.low hb9 (by omega); have bq9 := bx9.2.1 4 _ rfl; have fq9 := bx9.2.2 4 (by simp)) | (go_simp; go_at_call 58; have _t := tok1; refine (rtv_any F s' 0 _ (by omega) HW.out.drew).mono ?_; rintro en wa1 ⟨_, y1, sa1, ea1, rfl, ⟨rfl, hg1, hxz1⟩, hd1, hw1, ht1'⟩; have ht1 := ht1'.undrew; clear tok1; have bx1 := HB.out.keep ht1; have bq1 := bx1.2.1 4 _ rfl; have hbz1 := bx1.lt; have hsl1 := hd1.1))
              all_goals
                have HR2 : Hid (∃ u k s' e', Rw (w9.setCell ⟨w4.heap.size, 4, none⟩ (.slice A9 (l.length + 1) c9)) F s' e' ∧ Rt2 F w4.heap.size wc (w9.setCell ⟨w4.heap.size, 4, none⟩ (.slice A9 (l.length + 1) c9)) ∧ Bo F (w9.setCell ⟨w4.heap.size, 4, none⟩ (.slice A9 (l.length + 1) c9)) w4.heap.size [.int .i64 x1, .int .i64 x2, .int .i64 x3, .int .i64 x4, u] ∧ Grw (w9.setCell ⟨w4.heap.size, 4, none⟩ (.slice A9 (l.length + 1) c9)) wc.heap.size 49 3 RV0 u k ∧ De (pMany pV (j + 1)) s5 e5 k s' e' ∧ k.length = j + 1 ∧ ((j + 1 : Nat) : Int) ≤ m ∧ s'.length ≤ s5.length) :=
                  hide ⟨_, l ++ [(⟨y1.q, y1.n, y1.s⟩ : V3)], _, _, (hw1.low hb9 hFc).far (b := w4.heap.size) (by omega) 4 _, ((HT2.out.trans (Rt2.of ht1)).below hb9 (Nat.le_of_lt hFc)).set (by omega) 4 _, bx9.set (c := 4) (by simp) _, hg9.set rd_V0 hbl 4 _, HDE.out.snoc (show De pV _ _ _ _ _ by skip; exact hd1), by rw [List.length_append, HJ.out]; rfl, by omega, by omega⟩
                clear bq fq hg9 hb9 hs9 bx9 bq9 fq9 HLOW
                go_wp2
                go_roundw
                case rel => exact ⟨j + 1, by go_num, HR2⟩
                case measure => simp [intOf]; omega
            · have te : (e' == 0) = false := beq_eq_false_iff_ne.2 he
              obtain ⟨-, bb, bf⟩ := HB.out
              have b0 := bb 0 _ rfl
              have b1 := bb 1 _ rfl
              have b2 := bb 2 _ rfl
              have b3 := bb 3 _ rfl
              have b4 := bb 4 _ rfl
              clear bb bf
              have HLL := hide (HDE.out.1)
              have hll := HLL.out
              have HLS : Hid (De (pL pV) s4 e4 l s' e') := hide (HD5.out.counted HDE.out hjn (.inr he))
              have HLV := hide (lst_from rd_V0 (B := wo.heap.size) (HG.out.lst rd_V0 (by decide) (by have := HJ.out; unfold maxLen; omega)) hwc)
              have HX : Hid (REv0 wr (wo.heap.size ≤ ·) [.int .i64 x1, .int .i64 x2, .int .i64 x3, .int .i64 x4, .slice A l.length cp] (⟨x1, x2, x3, x4, l⟩ : Evt)) := hide ⟨_, rfl, HLV.out, HQ1.out, HQ2.out, HQ3.out, HQ4.out⟩
              have HRTo := hide (HTo2.out.then2 (by omega) HT2.out)
              have hwr := HRTo.out.kp.1
              have HG3 := hide (HGo.out.keep rd_Ev0 HRTo.out (by omega))
              go_wp2_with (go_loud (at_builtin; refine wpList_append_grw rd_Ev0 rl_Ev0 rfl _ _ 50 rfl w.heap.size 88 i0E _ 56 Tryz.underlying50 hi0E hz0E [.int .i64 x1, .int .i64 x2, .int .i64 x3, .int .i64 x4, .slice A l.length cp] hz1E hz2E rfl (by simp) u3 _ rfl HG3.out _ rfl (by simp [Value.oneCell']) (⟨x1, x2, x3, x4, l⟩ : Evt) HX.out (by exact hwo) HLOWo.out hleno (by decide) ?c3 ?_; (case c3 => exact Nat.le_trans hwo hwr); intro v2 w9 hg9 hb9 hs9))
              have HR2 : Hid (∃ l s' e', Rw w9 F s' e' ∧ Rt F w w9 ∧ Grw w9 w.heap.size 88 5 REv0 v2 l ∧ De (pMany pEv (jo + 1)) sA eA l s' e' ∧ l.length = jo + 1 ∧ ((jo + 1 : Nat) : Int) ≤ n ∧ s'.length ≤ s.length) :=
                hide ⟨lo ++ [(⟨x1, x2, x3, x4, l⟩ : Evt)], _, _, HW.out.low hb9 (by omega), (HTo.out.trans HRTo.out).below hb9 (by omega), hg9, HDEo.out.snoc (show De pEv _ _ _ _ _ from HD1.out.bind (HD2.out.bind (HD3.out.bind (HD4.out.bind (HLS.out.bind (De.ret _)))))), by rw [List.length_append, HJo.out]; rfl, by omega, by omega⟩
              clear hg9 hb9 hs9 HX HG3
              go_wp2
              go_roundw
              case rel => exact ⟨jo + 1, by go_num, HR2⟩
              case measure => simp [intOf]; omega
          · skip
            obtain ⟨-, bb, bf⟩ := HB.out
            have b0 := bb 0 _ rfl
            have b1 := bb 1 _ rfl
            have b2 := bb 2 _ rfl
            have b3 := bb 3 _ rfl
            have b4 := bb 4 _ rfl
            clear bb bf
            have HLL := hide (HDE.out.1)
            have hll := HLL.out
            have HLS : Hid (De (pL pV) s4 e4 l s' e') := hide (HD5.out.counted HDE.out hjn (.inl (by omega)))
            have HLV := hide (lst_from rd_V0 (B := wo.heap.size) (HG.out.lst rd_V0 (by decide) (by have := HJ.out; unfold maxLen; omega)) hwc)
            have HX : Hid (REv0 wr (wo.heap.size ≤ ·) [.int .i64 x1, .int .i64 x2, .int .i64 x3, .int .i64 x4, .slice A l.length cp] (⟨x1, x2, x3, x4, l⟩ : Evt)) := hide ⟨_, rfl, HLV.out, HQ1.out, HQ2.out, HQ3.out, HQ4.out⟩
            have HRTo := hide (HTo2.out.then2 (by omega) HT2.out)
            have hwr := HRTo.out.kp.1
            have HG3 := hide (HGo.out.keep rd_Ev0 HRTo.out (by omega))
            go_wp2_with (go_loud (at_builtin; refine wpList_append_grw rd_Ev0 rl_Ev0 rfl _ _ 50 rfl w.heap.size 88 i0E _ 56 Tryz.underlying50 hi0E hz0E [.int .i64 x1, .int .i64 x2, .int .i64 x3, .int .i64 x4, .slice A l.length cp] hz1E hz2E rfl (by simp) u3 _ rfl HG3.out _ rfl (by simp [Value.oneCell']) (⟨x1, x2, x3, x4, l⟩ : Evt) HX.out (by exact hwo) HLOWo.out hleno (by decide) ?c3 ?_; (case c3 => exact Nat.le_trans hwo hwr); intro v2 w9 hg9 hb9 hs9))
            have HR2 : Hid (∃ l s' e', Rw w9 F s' e' ∧ Rt F w w9 ∧ Grw w9 w.heap.size 88 5 REv0 v2 l ∧ De (pMany pEv (jo + 1)) sA eA l s' e' ∧ l.length = jo + 1 ∧ ((jo + 1 : Nat) : Int) ≤ n ∧ s'.length ≤ s.length) :=
              hide ⟨lo ++ [(⟨x1, x2, x3, x4, l⟩ : Evt)], _, _, HW.out.low hb9 (by omega), (HTo.out.trans HRTo.out).below hb9 (by omega), hg9, HDEo.out.snoc (show De pEv _ _ _ _ _ from HD1.out.bind (HD2.out.bind (HD3.out.bind (HD4.out.bind (HLS.out.bind (De.ret _)))))), by rw [List.length_append, HJo.out]; rfl, by omega, by omega⟩
            clear hg9 hb9 hs9 HX HG3
            go_wp2
            go_roundw
            case rel => exact ⟨jo + 1, by go_num, HR2⟩
            case measure => simp [intOf]; omega
      · have te : (eo == 0) = false := beq_eq_false_iff_ne.2 he
        go_wp2
        go_ret
        exact ⟨_, lo, so, eo, rfl, ⟨HGo.out.lst rd_Ev0 (by decide) (by have := HJo.out; unfold maxLen; omega), by have := HJo.out; omega⟩, HD.out.counted HDEo.out hjn2 (.inr he), HWo.out, HTo.out⟩
    · skip
      go_wp2
      go_ret
      exact ⟨_, lo, so, eo, rfl, ⟨HGo.out.lst rd_Ev0 (by decide) (by have := HJo.out; unfold maxLen; omega), by have := HJo.out; omega⟩, HD.out.counted HDEo.out hjn2 (.inl (by omega)), HWo.out, HTo.out⟩
end
end Go.Proofs.YtofdcgojgcnopaaGreat
