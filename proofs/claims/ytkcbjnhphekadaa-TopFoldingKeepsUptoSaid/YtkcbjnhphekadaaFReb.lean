/- rebuilt: an expression whose nodes are replaced, the arguments first. -/
import Derived.Test.YtkcbjnhphekadaaFFold4
namespace Go.Proofs.Ytkcbjnhphekadaa
open Go.RowKit
set_option linter.unusedVariables false
set_option linter.unusedSimpArgs false
theorem info_expr : (Try.prog.info? 30).map (fun i => (i.zero, i.size, i.bytes)) = some (some (.agg #[.int .i64 0, .slice none 0 0, .int .i64 0, .int .i64 0, .int .i64 0, .int .i64 0, .int .i64 0, .string ⟨#[]⟩]), 8, 88) := by kernel_rfl
theorem bl_low {w w' : World} {B b : Nat} {xs : List Value} (h : Bl w b xs) (hb : Below B w w') (hB : b < B) : Bl w' b xs :=
  ⟨fun j u hu => (hb.cell (p := ⟨b, j, none⟩) hB).trans (h.c j u hu), fun j => (hb.frozen (p := ⟨b, j, none⟩) hB).trans (h.f j), Nat.lt_of_lt_of_le h.lt hb.size⟩
theorem foldL_len : ∀ l : List Tr, (foldL l).length = l.length
  | [] => by rw [foldL]
  | t :: l => by rw [foldL, List.length_cons, List.length_cons, foldL_len l]
theorem foldL_snoc : ∀ (l : List Tr) (t : Tr), foldL (l ++ [t]) = foldL l ++ [foldT t]
  | [], t => by rw [List.nil_append, foldL, foldL, foldL]; rfl
  | a :: l, t => by rw [List.cons_append, foldL, foldL, foldL_snoc l t, List.cons_append]
theorem foldL_take {l : List Tr} {j : Nat} (h : j < l.length) : foldL (l.take (j + 1)) = foldL (l.take j) ++ [foldT l[j]] := by
  rw [List.take_succ_eq_append_getElem h, foldL_snoc]
theorem foldL_mem : ∀ {l : List Tr} {x : Tr}, x ∈ foldL l → ∃ t ∈ l, x = foldT t
  | [], x, h => by rw [foldL] at h; cases h
  | t :: l, x, h => by
    rw [foldL] at h
    rcases List.mem_cons.1 h with rfl | h
    · exact ⟨t, List.mem_cons_self .., rfl⟩
    · obtain ⟨u, hu, e⟩ := foldL_mem h
      exact ⟨u, List.mem_cons_of_mem _ hu, e⟩
theorem foldL_ok {d : Nd} {args : List Tr} (h : OkT 16 8 (.mk d args)) : OkT 16 8 (.mk d (foldL args)) := by
  cases h with
  | mk hn ha =>
    refine .mk (by rw [foldL_len]; exact hn) fun x hx => ?_
    obtain ⟨t, ht, rfl⟩ := foldL_mem hx
    exact fold_ok t (ha t ht)
def RetV (H : Nat) (t : Tr) : World → Value → Prop := fun w x => ∃ ys, x = .agg ys.toArray ∧ RTx w (fun b => H ≤ b ∧ b < w.heap.size) ys t
def LitX (H : Nat) (t : Tr) : World → Value → Prop := fun w x => ∃ ys, LitH H ys w x ∧ RTx w (fun b => H ≤ b ∧ b < w.heap.size) ys t
def RowX (B : Nat) (l : List Tr) : World → Value → Prop := fun w x => Gq w (B ≤ ·) B 30 8 RTx x l
def trR (B : Nat) (p : Option Nat) (j : Nat) (w w' : World) : Prop := if j = 6 then TrP B p w w' else Below w.heap.size w w'
section
variable {B H : Nat} {p : Option Nat} {j : Nat} {w w' : World} {t : Tr} {l : List Tr} {x : Value} {ys : List Value}
theorem trR_0 (h1 : j ≠ 6) (h : Below w.heap.size w w') : trR B p j w w' := by unfold trR; rw [if_neg h1]; exact h
theorem trR_1 (h : TrP B p w w') : trR B p 6 w w' := by unfold trR; rw [if_pos rfl]; exact h
theorem trR_cases (h : trR B p j w w') : (j = 6 ∧ TrP B p w w') ∨ (j ≠ 6 ∧ Below w.heap.size w w') := by
  unfold trR at h
  by_cases h1 : j = 6
  · rw [if_pos h1] at h; exact .inl ⟨h1, h⟩
  · rw [if_neg h1] at h; exact .inr ⟨h1, h⟩
theorem tx_below (h : RTx w (fun b => H ≤ b ∧ b < w.heap.size) ys t) (hb : Below w.heap.size w w') : RTx w' (fun b => H ≤ b ∧ b < w'.heap.size) ys t :=
  RTx.more (fun _ hz => ⟨hz.1, Nat.lt_of_lt_of_le hz.2 hb.size⟩) (h.keep (Kp.lowBelow hb fun _ hz => hz.2))
theorem tx_grown (h : RTx w (fun b => H ≤ b ∧ b < w.heap.size) ys t) (ht : TrP B p w w') (hp : ∀ k, p = some k → k < H) : RTx w' (fun b => H ≤ b ∧ b < w'.heap.size) ys t :=
  RTx.more (fun _ hz => ⟨hz.1, Nat.lt_of_lt_of_le hz.2 ht.1.size⟩) (h.keep ⟨ht.1.size, fun b hz hl => ht.1.block b hl fun e => by have := hp b e.symm; have := hz.1; omega⟩)
theorem retV_below (h : RetV H t w x) (hb : Below w.heap.size w w') : RetV H t w' x := by obtain ⟨ys, e, h⟩ := h; exact ⟨ys, e, tx_below h hb⟩
theorem retV_grown (h : RetV H t w x) (ht : TrP B p w w') (hp : ∀ k, p = some k → k < H) : RetV H t w' x := by obtain ⟨ys, e, h⟩ := h; exact ⟨ys, e, tx_grown h ht hp⟩
theorem litX_below (h : LitX H t w x) (hb : Below w.heap.size w w') : LitX H t w' x := by obtain ⟨ys, e, h⟩ := h; exact ⟨ys, litH_below e hb, tx_below h hb⟩
theorem litX_grown (h : LitX H t w x) (ht : TrP B p w w') (hp : ∀ k, p = some k → k < H) : LitX H t w' x := by obtain ⟨ys, e, h⟩ := h; exact ⟨ys, litH_grown e ht hp, tx_grown h ht hp⟩
end
def IvX (B g : Nat) (v : Value) (l : List Tr) (ys : List Value) : Nat → World → Prop
  | 0 => fun w => Gq w (B ≤ ·) B 30 8 RTx v l
  | 1 => fun w => ∀ c y, ys[c]? = some y → w.cell? ⟨g, c, none⟩ = some y
  | _ => fun _ => True
def spIX : Nat → List Nat
  | 6 => [0]
  | _ => []
def usX : Nat → List Nat
  | 2 => [1]
  | 6 => [0]
  | _ => []
theorem wp_append_gq {P : Program} {α : Type} {R : World → (Nat → Prop) → List Value → α → Prop} (hR : Rd R) {o : Oper} {a : Act} {K : Act → World → Prop} {Q : Exit → Act → World → Prop} {W : World} (hgd : o.guard = none) (s x : Operand) (t : TypeId)
    (ho : o.op = .call { callee := .builtin .append, args := #[s, x], argTypes := #[t, t] })
    (Y : Nat → Prop) (base : Nat) (e : TypeId) (i : TypeInfo) (z : Value) (sz bytes : Nat) (ht : P.underlying t = some (.slice e)) (hi : P.info? e = some i) (hz : i.zero = some z)
    (hsize : i.size = sz) (hby : i.bytes = bytes) (hzs : z.cells.size = sz) (hsz : 0 < sz)
    (v : Value) (l : List α) (hs : a.eval s = v) (hg : Gq W Y base e sz R v l)
    (g : Nat) (hx : a.eval x = .slice (some ⟨g, 0, none⟩) 1 1) (ys : List Value) (hyl : ys.length = sz) (hcell : ∀ j u, ys[j]? = some u → W.cell? ⟨g, j, none⟩ = some u) (h1 : ∀ y ∈ ys, y.oneCell' = true)
    (y : α) (hy : R W (fun b => Y b ∧ b < W.heap.size ∧ v.ownBlock ≠ some b) ys y) (hY : ∀ b, W.heap.size ≤ b → Y b)
    (hn : l.length < 1099511627776) (hb100 : bytes ≤ 128) (hbase : base ≤ W.heap.size)
    (h : ∀ v' w', Gq w' Y base e sz R v' (l ++ [y]) → W.grownBy w' v.ownBlock → Below base W w' → K (a.put o.dst v') w') :
    Oper.wp P o a W K Q := by
  have hw : Region.wanted o (yielded #[] a.tmps) = true := by simp [Region.wanted, hgd]
  have := step_append_gq (P := P) (E := False) (Q := Q) hR (ops := #[]) hgd s x t ho Y base e i z sz bytes ht hi hz hsize hby hzs hsz v l hs hg g hx ys hyl hcell h1 y hy hY hn hb100 hbase h
  rwa [if_pos hw] at this
set_option maxRecDepth 100000 in
set_option maxHeartbeats 16000000 in
theorem rebuilt_any : ∀ (t : Tr), OkT 16 8 t → ∀ (w : World) (mp : Nat) (xs : List Value), Opz w mp → Tx w xs t →
    Calls Try.prog 19 #[.agg xs.toArray, (.func (.func 21) #[.agg #[.slice none 0 0, .int .i64 (-1), .int .i64 0, .int .i64 0, .int .i64 0, .int .i64 0, .slice none 0 0, .map (some mp)]] #[])] w (RetX w (fun w' b => w.heap.size ≤ b ∧ b < w'.heap.size) (foldT t)) := by
  refine tr_ind fun d args ih => ?_
  intro hok w mp xs h2 h
  obtain ⟨v0, rfl, hl, hd⟩ := RTx.out h
  obtain ⟨A, cap, rfl⟩ := hl.form
  obtain ⟨i0, hi0, hz0, hz1, hz2⟩ := info_parts info_expr
  have HIH := hide (fun j (hj : j < args.length) => ih args[j] (List.getElem_mem hj) (by cases hok with | mk _ ha => exact ha _ (List.getElem_mem hj)))
  have HFO := hide (fun (w' : World) v Z (hZ : ∀ b, Z b → b < w'.heap.size) h2' h' => fold_any w' d (foldL args) v (foldL_ok hok) mp Z hZ h2' h')
  have HL := hide hl
  have H2 := hide h2
  have HND := hide hd
  have hm := hl.len
  unfold maxLen at hm
  have har : args.length ≤ 2 := by
    cases hok with
    | mk hn _ => have := (node_ar hn).2.2; unfold arQ at this; split at this <;> (try split at this) <;> omega
  obtain ⟨m, hmm⟩ : ∃ m, args.length = m := ⟨_, rfl⟩
  have HM := hide hmm
  obtain ⟨R, hR⟩ : ∃ r, foldT (.mk d args) = r := ⟨_, rfl⟩
  have HR0 := hide (show fold1 d (foldL args) = R by rw [← hR, foldT])
  rw [hR]
  rw [hmm] at HL hm har ⊢
  have hB1 := below_laid (w := w) (.cells ([.int .i64 d.op, .slice A m cap, .int .i64 d.var, .int .i64 d.field, .int .i64 d.kind, .int .i64 d.val.q, .int .i64 d.val.n, .string d.val.s]).toArray 30)
  have hB2 := bthen hB1 (below_laid (.cells ([.int .i64 0, .slice none 0 0, .int .i64 0, .int .i64 0, .int .i64 0, .int .i64 0, .int .i64 0, .string ⟨#[]⟩]).toArray 30))
  have hB3 := bthen hB2 (below_laid (.cells ([.int .i64 d.op, .slice none 0 0, .int .i64 d.var, .int .i64 d.field, .int .i64 d.kind, .int .i64 d.val.q, .int .i64 d.val.n, .string d.val.s]).toArray 30))
  have hr := (Bl.new (w.alloc (.cells ([.int .i64 d.op, .slice A m cap, .int .i64 d.var, .int .i64 d.field, .int .i64 d.kind, .int .i64 d.val.q, .int .i64 d.val.n, .string d.val.s]).toArray 30)) ([.int .i64 0, .slice none 0 0, .int .i64 0, .int .i64 0, .int .i64 0, .int .i64 0, .int .i64 0, .string ⟨#[]⟩]) 30).laid (.cells ([.int .i64 d.op, .slice none 0 0, .int .i64 d.var, .int .i64 d.field, .int .i64 d.kind, .int .i64 d.val.q, .int .i64 d.val.n, .string d.val.s]).toArray 30)
  rw [World.size_alloc] at hr
  have ho := Bl.new ((w.alloc (.cells ([.int .i64 d.op, .slice A m cap, .int .i64 d.var, .int .i64 d.field, .int .i64 d.kind, .int .i64 d.val.q, .int .i64 d.val.n, .string d.val.s]).toArray 30)).alloc (.cells ([.int .i64 0, .slice none 0 0, .int .i64 0, .int .i64 0, .int .i64 0, .int .i64 0, .int .i64 0, .string ⟨#[]⟩]).toArray 30)) ([.int .i64 d.op, .slice none 0 0, .int .i64 d.var, .int .i64 d.field, .int .i64 d.kind, .int .i64 d.val.q, .int .i64 d.val.n, .string d.val.s]) 30
  simp only [World.size_alloc] at ho
  have HB := hide hB3
  have HR := hide hr
  have HO := hide ho
  clear h h2 hl hd ih hmm hB1 hB2 hB3 hr ho hok hR
  go_enter Try.func19, Try.ntmps19
  go_wp2_with fail
  have hsz0 : (((w.alloc (.cells #[.int .i64 d.op, .slice A m cap, .int .i64 d.var, .int .i64 d.field, .int .i64 d.kind, .int .i64 d.val.q, .int .i64 d.val.n, .string d.val.s] 30)).alloc (.cells #[.int .i64 0, .slice none 0 0, .int .i64 0, .int .i64 0, .int .i64 0, .int .i64 0, .int .i64 0, .string ⟨#[]⟩] 30)).alloc (.cells #[.int .i64 d.op, .slice none 0 0, .int .i64 d.var, .int .i64 d.field, .int .i64 d.kind, .int .i64 d.val.q, .int .i64 d.val.n, .string d.val.s] 30)).heap.size = w.heap.size + 1 + 1 + 1 := by simp
  obtain ⟨w0, hw0⟩ : ∃ w0, (((w.alloc (.cells #[.int .i64 d.op, .slice A m cap, .int .i64 d.var, .int .i64 d.field, .int .i64 d.kind, .int .i64 d.val.q, .int .i64 d.val.n, .string d.val.s] 30)).alloc (.cells #[.int .i64 0, .slice none 0 0, .int .i64 0, .int .i64 0, .int .i64 0, .int .i64 0, .int .i64 0, .string ⟨#[]⟩] 30)).alloc (.cells #[.int .i64 d.op, .slice none 0 0, .int .i64 d.var, .int .i64 d.field, .int .i64 d.kind, .int .i64 d.val.q, .int .i64 d.val.n, .string d.val.s] 30)) = w0 := ⟨_, rfl⟩
  have e0 : (((w.alloc (.cells ([.int .i64 d.op, .slice A m cap, .int .i64 d.var, .int .i64 d.field, .int .i64 d.kind, .int .i64 d.val.q, .int .i64 d.val.n, .string d.val.s]).toArray 30)).alloc (.cells ([.int .i64 0, .slice none 0 0, .int .i64 0, .int .i64 0, .int .i64 0, .int .i64 0, .int .i64 0, .string ⟨#[]⟩]).toArray 30)).alloc (.cells ([.int .i64 d.op, .slice none 0 0, .int .i64 d.var, .int .i64 d.field, .int .i64 d.kind, .int .i64 d.val.q, .int .i64 d.val.n, .string d.val.s]).toArray 30)) = w0 := hw0
  first | rw [hw0] | rw [e0] | skip
  rw [e0] at HB HR HO
  rw [hw0] at hsz0
  have HSZ := hide hsz0
  clear e0 hw0 hsz0
  go_loopw [13] (fun i wr => ∃ (j : Nat) (v : Value), j ≤ m ∧ i = .int .i64 j ∧ Hid (Bl wr (w.heap.size + 1 + 1) (cellsX d v)) ∧ Hid (Gq wr (w.heap.size + 3 ≤ ·) (w.heap.size + 3) 30 8 RTx v (foldL (args.take j))) ∧ Hid (Below (w.heap.size + 1 + 1) w0 wr)) (fun i _ => m - (intOf i).toNat)
  case atStart => exact ⟨0, .slice none 0 0, Nat.zero_le _, rfl, HO, hide Gq.nil, hide (Below.refl _ _)⟩
  case round =>
    obtain ⟨j, v, hj, rfl, HOr, HG, HW⟩ := hrel
    have HBR := hide (HB.out.trans (HW.out.mono (by omega)))
    have HRr := hide (bl_low HR.out HW.out (by omega))
    have hzr : w.heap.size + 3 ≤ wr.heap.size := by have := HW.out.size; have := HSZ.out; omega
    obtain ⟨Av, cv, rfl⟩ := HG.out.form
    have hlen : (foldL (args.take j)).length = j := by rw [foldL_len, List.length_take, HM.out]; omega
    rw [hlen] at HOr HG
    by_cases hlt : j < m
    · have hja : j < args.length := by rw [HM.out]; exact hlt
      obtain ⟨g, off, ys, e2, hg, hyl, hc, hrx⟩ := Lst.at_ HL.out hja
      subst e2
      have hgw : g < w.heap.size := hg
      have HC := hide (HIH.out j hja)
      have HTK := hide (foldL_take hja)
      obtain ⟨t, ht⟩ : ∃ t, args[j] = t := ⟨_, rfl⟩
      rw [ht] at hrx HC HTK
      obtain ⟨T, hT⟩ : ∃ T, foldT t = T := ⟨_, rfl⟩
      rw [hT] at HC HTK
      have HTX := hide (show Tx w ys t from hrx)
      obtain ⟨L, hL⟩ : ∃ L, foldL (args.take j) = L := ⟨_, rfl⟩
      rw [hL] at HG HTK hlen
      have HLL := hide hlen
      obtain ⟨d2, l2⟩ := t
      obtain ⟨v2, rfl, hl2, hd2⟩ := RTx.out hrx
      obtain ⟨A5, cap5, rfl⟩ := hl2.form
      obtain ⟨n2, hn2⟩ : ∃ n, l2.length = n := ⟨_, rfl⟩
      rw [hn2] at hc HTX
      have k0 := keep1 HBR.out (hc 0 _ rfl)
      have k1 := keep1 HBR.out (hc 1 _ rfl)
      have k2 := keep1 HBR.out (hc 2 _ rfl)
      have k3 := keep1 HBR.out (hc 3 _ rfl)
      have k4 := keep1 HBR.out (hc 4 _ rfl)
      have k5 := keep1 HBR.out (hc 5 _ rfl)
      have k6 := keep1 HBR.out (hc 6 _ rfl)
      have k7 := keep1 HBR.out (hc 7 _ rfl)
      rw [Nat.add_zero] at k0
      have hu0 : (0 : Int) ≤ (j : Int) := by omega
      have hu1 : (j : Int) < (m : Int) := by omega
      clear hc hl2 hd2 hn2 hg hyl hrx ht hT hL hlen
      go_wp2_with fail
      have hbx := cells_lit wr ([.int .i64 d2.op, .slice A5 n2 cap5, .int .i64 d2.var, .int .i64 d2.field, .int .i64 d2.kind, .int .i64 d2.val.q, .int .i64 d2.val.n, .string d2.val.s]) 30
      have hba := below_laid (w := wr) (.cells ([.int .i64 d2.op, .slice A5 n2 cap5, .int .i64 d2.var, .int .i64 d2.field, .int .i64 d2.kind, .int .i64 d2.val.q, .int .i64 d2.val.n, .string d2.val.s]).toArray 30)
      have hza : (wr.alloc (.cells ([.int .i64 d2.op, .slice A5 n2 cap5, .int .i64 d2.var, .int .i64 d2.field, .int .i64 d2.kind, .int .i64 d2.val.q, .int .i64 d2.val.n, .string d2.val.s]).toArray 30)).heap.size = wr.heap.size + 1 := by simp
      have hG := HG.out.keep rd_Tx hba
      have hOa := HOr.out.keep hba
      have hpl : ∀ k, (Value.slice Av j cv).ownBlock = some k → k < wr.heap.size := fun k hk => (HG.out.low k hk).2
      obtain ⟨p, hp⟩ : ∃ p, (Value.slice Av j cv).ownBlock = p := ⟨_, rfl⟩
      rw [hp] at hpl
      have HP := hide hp
      obtain ⟨wa, hwa⟩ : ∃ wa, wr.alloc (.cells #[.int .i64 d2.op, .slice A5 n2 cap5, .int .i64 d2.var, .int .i64 d2.field, .int .i64 d2.kind, .int .i64 d2.val.q, .int .i64 d2.val.n, .string d2.val.s] 30) = wa := ⟨_, rfl⟩
      have e0 : wr.alloc (.cells ([.int .i64 d2.op, .slice A5 n2 cap5, .int .i64 d2.var, .int .i64 d2.field, .int .i64 d2.kind, .int .i64 d2.val.q, .int .i64 d2.val.n, .string d2.val.s]).toArray 30) = wa := hwa
      first | rw [hwa] | rw [e0] | skip
      rw [e0] at hba hza hG hOa hbx
      have HBA := hide (HW.out.trans (hba.mono (by omega)))
      have HBW := hide (bthen HBR.out hba)
      have hpl1 : ∀ k, p = some k → k < wr.heap.size + 1 := fun k hk => by have := hpl k hk; omega
      clear hwa e0 k0 k1 k2 k3 k4 k5 k6 k7 hba HOr HRr hp HG HW
      refine wp_region_grow2 (w.heap.size + 3) (by omega) 8 [17, 18, 19, 20, 21, 22, 23, 24] [Fix (.pointer (some ⟨w.heap.size + 1 + 1, 1, none⟩)), Fix (.slice Av j cv), Fix (.agg #[.int .i64 d2.op, .slice A5 n2 cap5, .int .i64 d2.var, .int .i64 d2.field, .int .i64 d2.kind, .int .i64 d2.val.q, .int .i64 d2.val.n, .string d2.val.s]), Fix (.func (.func 21) #[.agg #[.slice none 0 0, .int .i64 (-1), .int .i64 0, .int .i64 0, .int .i64 0, .int .i64 0, .slice none 0 0, .map (some mp)]] #[]), RetV (wr.heap.size + 1) T, LitX (wr.heap.size + 1) T, RowX (w.heap.size + 3) (L ++ [T]), Fix (.pointer (some ⟨w.heap.size + 1 + 1, 1, none⟩))] (by kernel_rfl) (by kernel_rfl) (by kernel_rfl) (by kernel_rfl) (by kernel_rfl) (IvX (w.heap.size + 3) wr.heap.size (.slice Av j cv) L [.int .i64 d2.op, .slice A5 n2 cap5, .int .i64 d2.var, .int .i64 d2.field, .int .i64 d2.kind, .int .i64 d2.val.q, .int .i64 d2.val.n, .string d2.val.s]) spIX usX (by kernel_rfl) ?_ (trR (w.heap.size + 3) p) spV ?_ ?_ ?_ ?_ ?_
      · intro d9
        match d9 with
        | 0 => exact hG.keep rd_Tx (Below.refl _ _).drew
        | 1 => exact hbx
        | _ + 2 => trivial
      · intro j9 w5 w6 _ ht hsz
        rcases trR_cases ht with ⟨rfl, ht⟩ | ⟨-, ht⟩
        · exact ht.2
        · exact ht.mono (by omega)
      · intro j9 k9 hj9 hk9 hne _ _ w5 w6 v5 hsz ht hP5
        have hkc : k9 = 0 ∨ k9 = 1 ∨ k9 = 2 ∨ k9 = 3 ∨ k9 = 4 ∨ k9 = 5 ∨ k9 = 6 ∨ k9 = 7 := by omega
        rcases trR_cases ht with ⟨rfl, ht⟩ | ⟨-, ht⟩
        · rcases hkc with rfl | rfl | rfl | rfl | rfl | rfl | rfl | rfl
          all_goals first | exact absurd rfl hne | exact hP5 | exact retV_grown hP5 ht hpl1 | exact litX_grown hP5 ht hpl1
        · rcases hkc with rfl | rfl | rfl | rfl | rfl | rfl | rfl | rfl
          all_goals first | exact hP5 | exact retV_below hP5 ht | exact litX_below hP5 ht | exact Gq.keep rd_Tx hP5 ht
      · intro j9 d9 hj9 hd9 w5 w6 hsz ht hI5
        rcases trR_cases ht with ⟨rfl, ht⟩ | ⟨-, ht⟩
        · match d9 with
          | 0 => exact absurd (by decide) hd9
          | 1 => exact fun c y hy => cell_grown (hI5 c y hy) ht fun e => by have := hpl _ e; omega
          | _ + 2 => trivial
        · match d9 with
          | 0 => exact Gq.keep rd_Tx hI5 ht
          | 1 => exact fun c y hy => keep1 ht (hI5 c y hy)
          | _ + 2 => trivial
      · intro j9 o9 hj9 ho x w5 hb hI hd
        have hjc : j9 = 0 ∨ j9 = 1 ∨ j9 = 2 ∨ j9 = 3 ∨ j9 = 4 ∨ j9 = 5 ∨ j9 = 6 ∨ j9 = 7 := by omega
        have hw5 : wr.heap.size + 1 ≤ w5.heap.size := by have := hb.size; omega
        rcases hjc with rfl | rfl | rfl | rfl | rfl | rfl | rfl | rfl
        all_goals obtain rfl := Option.some.inj ho
        all_goals generalize hK : (fun (a' : Act) (w' : World) => _) = K
        all_goals simp only [puts]
        · go_simp
          rw [← hK]
          exact ⟨.pointer (some ⟨w.heap.size + 1 + 1, 1, none⟩), (by simp only [puts]; go_simp), trR_0 (by decide) (Below.refl _ _), rfl⟩
        · have e : x 17 = .pointer (some ⟨w.heap.size + 1 + 1, 1, none⟩) := hd 0 (by kernel_rfl) (by kernel_rfl)
          have c0 := (bl_low hOa hb (by omega)).c 1 _ rfl
          go_simp
          rw [← hK]
          exact ⟨.slice Av j cv, (by simp only [puts]; go_simp), trR_0 (by decide) (Below.refl _ _), rfl⟩
        · have hc := hI 1 (by decide)
          have c0 : w5.cell? ⟨wr.heap.size, 0, none⟩ = _ := hc 0 _ rfl
          have c1 : w5.cell? ⟨wr.heap.size, 1, none⟩ = _ := hc 1 _ rfl
          have c2 : w5.cell? ⟨wr.heap.size, 2, none⟩ = _ := hc 2 _ rfl
          have c3 : w5.cell? ⟨wr.heap.size, 3, none⟩ = _ := hc 3 _ rfl
          have c4 : w5.cell? ⟨wr.heap.size, 4, none⟩ = _ := hc 4 _ rfl
          have c5 : w5.cell? ⟨wr.heap.size, 5, none⟩ = _ := hc 5 _ rfl
          have c6 : w5.cell? ⟨wr.heap.size, 6, none⟩ = _ := hc 6 _ rfl
          have c7 : w5.cell? ⟨wr.heap.size, 7, none⟩ = _ := hc 7 _ rfl
          clear hc
          go_simp
          rw [← hK]
          exact ⟨.agg #[.int .i64 d2.op, .slice A5 n2 cap5, .int .i64 d2.var, .int .i64 d2.field, .int .i64 d2.kind, .int .i64 d2.val.q, .int .i64 d2.val.n, .string d2.val.s], (by simp only [puts]; go_simp), trR_0 (by decide) (Below.refl _ _), rfl⟩
        · go_simp
          rw [← hK]
          exact ⟨(.func (.func 21) #[.agg #[.slice none 0 0, .int .i64 (-1), .int .i64 0, .int .i64 0, .int .i64 0, .int .i64 0, .slice none 0 0, .map (some mp)]] #[]), (by simp only [puts]; go_simp), trR_0 (by decide) (Below.refl _ _), rfl⟩
        · have e : x 19 = .agg #[.int .i64 d2.op, .slice A5 n2 cap5, .int .i64 d2.var, .int .i64 d2.field, .int .i64 d2.kind, .int .i64 d2.val.q, .int .i64 d2.val.n, .string d2.val.s] := hd 2 (by kernel_rfl) (by kernel_rfl)
          have e' : x 20 = (.func (.func 21) #[.agg #[.slice none 0 0, .int .i64 (-1), .int .i64 0, .int .i64 0, .int .i64 0, .int .i64 0, .slice none 0 0, .map (some mp)]] #[]) := hd 3 (by kernel_rfl) (by kernel_rfl)
          have HW5 := hide (HBW.out.trans (hb.mono (by omega)))
          have HCC := hide (HC.out w5 mp _ (H2.out.keep HW5.out) (HTX.out.grow HW5.out))
          clear hI hd
          go_simp
          go_at_call 19
          refine HCC.out.mono ?_
          rintro en9 w9 ⟨ys, rfl, hT9, hbc⟩
          rw [← hK]
          exact ⟨.agg ys.toArray, (by simp only [puts]; go_simp), trR_0 (by decide) hbc, ys, rfl, RTx.more (fun b hb' => ⟨by omega, hb'.2⟩) hT9⟩
        · obtain ⟨ys, e, hT9⟩ : RetV (wr.heap.size + 1) T w5 (x 21) := hd 4 (by kernel_rfl) (by kernel_rfl)
          have HT9 := hide hT9
          obtain ⟨d9, l9⟩ := T
          obtain ⟨v9, rfl, hl9, -⟩ := RTx.out hT9
          obtain ⟨A9, cap9, rfl⟩ := hl9.form
          obtain ⟨n9, hn9⟩ : ∃ n, l9.length = n := ⟨_, rfl⟩
          rw [hn9] at HT9 e
          clear hT9 hl9 hn9 hI hd
          have e8 : cellsX d9 (.slice A9 n9 cap9) = [.int .i64 d9.op, .slice A9 n9 cap9, .int .i64 d9.var, .int .i64 d9.field, .int .i64 d9.kind, .int .i64 d9.val.q, .int .i64 d9.val.n, .string d9.val.s] := rfl
          rw [e8] at HT9 e
          go_simp
          rw [← hK]
          exact ⟨.slice (some ⟨w5.heap.size, 0, none⟩) 1 1, (by simp only [puts]; go_simp), trR_0 (by decide) (below_laid _), _, litH_new w5 _ 30 hw5, tx_below HT9.out (below_laid _)⟩
        · have e : x 18 = .slice Av j cv := hd 1 (by kernel_rfl) (by kernel_rfl)
          obtain ⟨ys, hLt, hT9⟩ : LitX (wr.heap.size + 1) T w5 (x 22) := hd 5 (by kernel_rfl) (by kernel_rfl)
          have hGi : Gq w5 (w.heap.size + 3 ≤ ·) (w.heap.size + 3) 30 8 RTx (.slice Av j cv) L := hI 0 (by decide)
          obtain ⟨g9, te9, fr9, eu, hg9, hgc⟩ := hLt
          have hT9' := hT9
          have hone : ys.length = 8 ∧ ∀ y ∈ ys, y.oneCell' = true := by
            obtain ⟨d9, l9⟩ := T
            obtain ⟨v9, rfl, hl9, -⟩ := RTx.out hT9'
            obtain ⟨A9, cap9, rfl⟩ := hl9.form
            refine ⟨rfl, fun y hy => ?_⟩
            simp at hy
            rcases hy with rfl | rfl | rfl | rfl | rfl | rfl | rfl | rfl <;> rfl
          refine wp_append_gq rd_Tx (by rfl) (.tmp 18) (.tmp 22) 26 (by rfl) (w.heap.size + 3 ≤ ·) (w.heap.size + 3) 30 i0 _ 8 88 Try.underlying26 hi0 hz0 hz1 hz2 (by rfl) (by decide) (.slice Av j cv) L (by go_simp) hGi g9 (by go_simp) ys hone.1 (fun c u hu => by unfold World.cell?; rw [show (⟨g9, c, none⟩ : Addr).block = g9 from rfl, hgc]; simpa using hu) hone.2 T (RTx.more (fun b hb' => ⟨by omega, hb'.2, fun e => by have := HP.out; rw [this] at e; have := hpl b e; omega⟩) hT9) (fun b hb' => by omega) (by have := HLL.out; omega) (by decide) (by omega) ?_
          intro v9 w9 hg9' hgr hb9
          rw [← hK]
          exact ⟨v9, (by simp only [puts]), trR_1 ⟨by rw [← HP.out]; exact hgr, hb9⟩, hg9'⟩
        · go_simp
          rw [← hK]
          exact ⟨.pointer (some ⟨w.heap.size + 1 + 1, 1, none⟩), (by simp only [puts]; go_simp), trR_0 (by decide) (Below.refl _ _), rfl⟩
      · intro x w9 hb hP
        have hRow : RowX (w.heap.size + 3) (L ++ [T]) w9 (x 23) := hP 6 (by decide) (by decide)
        have eP : x 24 = .pointer (some ⟨w.heap.size + 1 + 1, 1, none⟩) := hP 7 (by decide) (by decide)
        obtain ⟨A9, c9, e9⟩ := Gq.form hRow
        rw [List.length_append, List.length_singleton, HLL.out] at e9
        rw [e9] at hRow
        have hO9 := bl_low hOa hb (by omega)
        have o1 := hO9.c 1 _ rfl
        have q1 := hO9.f 1
        have hz9 := hb.size
        have HO9 := hide (hO9.put (k := 1) (by simp) (.slice A9 (j + 1) c9))
        have HG9 := hide (Gq.set rd_Tx hRow (b := w.heap.size + 1 + 1) (by omega) 1 (.slice A9 (j + 1) c9))
        have HB9 := hide ((HBA.out.trans (hb.mono (by omega))).setCell (p := ⟨w.heap.size + 1 + 1, 1, none⟩) (Nat.le_refl _) (.slice A9 (j + 1) c9))
        clear hP hRow hO9 hb hG hOa
        simp only [puts, Act.put, List.setIfInBounds_toArray, List.set_cons_succ, List.set_cons_zero, List.drop]
        go_wp2
        go_roundw
        case rel => exact ⟨j + 1, _, by omega, by go_num, HO9, by rw [HTK.out]; exact HG9, HB9⟩
        case measure => simp [intOf]; omega
    · obtain rfl : j = m := by omega
      have hta : args.take j = args := List.take_of_length_le (by rw [HM.out]; exact Nat.le_refl _)
      rw [hta] at HG
      have hlst := HG.out.lst rd_Tx (by decide) (by rw [foldL_len, HM.out]; unfold maxLen; omega)
      have HFC := hide (HFO.out wr (.slice Av j cv) (fun b => w.heap.size + 3 ≤ b ∧ b < wr.heap.size) (fun b hb => hb.2) (H2.out.keep HBR.out) (RTx.of hlst HND.out))
      rw [HR0.out] at HFC
      clear hta hlst hlen HFO HG
      have o0 := HOr.out.c 0 _ rfl
      have o1 := HOr.out.c 1 _ rfl
      have o2 := HOr.out.c 2 _ rfl
      have o3 := HOr.out.c 3 _ rfl
      have o4 := HOr.out.c 4 _ rfl
      have o5 := HOr.out.c 5 _ rfl
      have o6 := HOr.out.c 6 _ rfl
      have o7 := HOr.out.c 7 _ rfl
      go_wp2_with fail
      refine HFC.out.mono ?_
      rintro e w9 ⟨ys, rfl, hT9, hb⟩
      replace HRr := hide (HRr.out.keep hb)
      have HB9 := hide (bthen HBR.out hb)
      have hz9 := hb.size
      have hrl := HRr.out.lt
      have HT9 := hide hT9
      obtain ⟨d9, l9⟩ := R
      obtain ⟨v9, rfl, hl9, -⟩ := RTx.out hT9
      obtain ⟨A9, cap9, rfl⟩ := hl9.form
      obtain ⟨n9, hn9⟩ : ∃ n, l9.length = n := ⟨_, rfl⟩
      rw [hn9] at HT9 ⊢
      clear hb hT9 hl9 hn9 HFC o0 o1 o2 o3 o4 o5 o6 o7
      have r0 := HRr.out.c 0 _ rfl
      have r1 := HRr.out.c 1 _ rfl
      have r2 := HRr.out.c 2 _ rfl
      have r3 := HRr.out.c 3 _ rfl
      have r4 := HRr.out.c 4 _ rfl
      have r5 := HRr.out.c 5 _ rfl
      have r6 := HRr.out.c 6 _ rfl
      have r7 := HRr.out.c 7 _ rfl
      have g0 := HRr.out.f 0
      have g1 := HRr.out.f 1
      have g2 := HRr.out.f 2
      have g3 := HRr.out.f 3
      have g4 := HRr.out.f 4
      have g5 := HRr.out.f 5
      have g6 := HRr.out.f 6
      have g7 := HRr.out.f 7
      have e9 : cellsX d9 (.slice A9 n9 cap9) = [.int .i64 d9.op, .slice A9 n9 cap9, .int .i64 d9.var, .int .i64 d9.field, .int .i64 d9.kind, .int .i64 d9.val.q, .int .i64 d9.val.n, .string d9.val.s] := rfl
      rw [e9] at HT9 ⊢
      go_wp2
      refine bodyPost_ret (v := .agg #[.int .i64 d9.op, .slice A9 n9 cap9, .int .i64 d9.var, .int .i64 d9.field, .int .i64 d9.kind, .int .i64 d9.val.q, .int .i64 d9.val.n, .string d9.val.s]) (by rw [results_c rfl]; go_simp) rfl ?_
      refine ⟨_, rfl, ?_, below_set8 HB9.out (by omega) _ _ _ _ _ _ _ _⟩
      refine RTx.more (fun b hb => ⟨by omega, by have := (below_set8 HB9.out (F := w.heap.size + 1) (by omega) (.int .i64 d9.op) (.slice A9 n9 cap9) (.int .i64 d9.var) (.int .i64 d9.field) (.int .i64 d9.kind) (.int .i64 d9.val.q) (.int .i64 d9.val.n) (.string d9.val.s)).size; simp only [set8, World.setCell, Array.size_modify] at this ⊢; omega⟩) (HT9.out.keep ((((((((Kp.set ⟨w.heap.size + 1, 0, none⟩ _ (fun b hb => by show b ≠ w.heap.size + 1; omega)).trans (Kp.set ⟨w.heap.size + 1, 1, none⟩ _ (fun b hb => by show b ≠ w.heap.size + 1; omega))).trans (Kp.set ⟨w.heap.size + 1, 2, none⟩ _ (fun b hb => by show b ≠ w.heap.size + 1; omega))).trans (Kp.set ⟨w.heap.size + 1, 3, none⟩ _ (fun b hb => by show b ≠ w.heap.size + 1; omega))).trans (Kp.set ⟨w.heap.size + 1, 4, none⟩ _ (fun b hb => by show b ≠ w.heap.size + 1; omega))).trans (Kp.set ⟨w.heap.size + 1, 5, none⟩ _ (fun b hb => by show b ≠ w.heap.size + 1; omega))).trans (Kp.set ⟨w.heap.size + 1, 6, none⟩ _ (fun b hb => by show b ≠ w.heap.size + 1; omega))).trans (Kp.set ⟨w.heap.size + 1, 7, none⟩ _ (fun b hb => by show b ≠ w.heap.size + 1; omega))))
end Go.Proofs.Ytkcbjnhphekadaa
