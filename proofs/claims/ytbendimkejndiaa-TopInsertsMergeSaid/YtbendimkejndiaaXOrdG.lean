/- A region that draws its order, as in XOrd, where each operation only draws and makes memory: so does the whole. -/
import Derived.Test.YtbendimkejndiaaXOrdA
import Derived.Sort.Grow
namespace Go.Proofs.Ytbendimkejndiaa
open Go.RowKit
set_option linter.unusedVariables false
set_option linter.unusedSimpArgs false
/-- w' is w, with draws and blocks behind it. -/
def GR (w w' : World) : Prop := ∃ q os, w' = Sort.grow (w.drewN q) os
section
variable {a b c : World}
theorem GR.refl (w : World) : GR w w := ⟨0, #[], by rw [Sort.grow_empty]; rfl⟩
theorem GR.trans (h : GR a b) (k : GR b c) : GR a c := by
  obtain ⟨q, os, rfl⟩ := h
  obtain ⟨p, ot, rfl⟩ := k
  refine ⟨q + p, os ++ ot, ?_⟩
  simp only [Sort.grow, World.drewN, Array.append_assoc, Nat.add_assoc]
theorem GR.drewN (h : GR a b) (n : Nat) : GR a (b.drewN n) := h.trans ⟨n, #[], by rw [Sort.grow_empty]⟩
theorem GR.drew (h : GR a b) : GR a b.drew := h.drewN 1
theorem GR.alloc (h : GR a b) (o : Obj) : GR a (b.alloc o) := h.trans ⟨0, #[o], by rw [Sort.alloc_eq_grow]; rfl⟩
theorem GR.below (h : GR a b) : Below a.heap.size a b := by
  obtain ⟨q, os, rfl⟩ := h
  exact ⟨rfl, rfl, rfl, by simp [Sort.grow, World.drewN], fun k hk => by simp [Sort.grow, World.drewN, Array.getElem?_append, hk]⟩
end
section
variable {P : Program} {ops : Array Oper}
theorem wp_region_gr {id : Nat} {Q : Exit → Act → World → Prop} {a : Act} {w0 : World} (n : Nat) (ds : List Nat) (Ps : List (World → Value → Prop)) (hm : P.follows .mixedOrders = true)
    (hh : headB ops n ds = true) (hs : Region.sinkB .any ops n = true) (hc : Region.chainB .any ops n = true) (hq : Region.seqB .any ops (ops.size - n) n (hd0 n (ops.size - n)) = true)
    (hst : ∀ p ∈ Ps, ∀ w w' v, GR w w' → p w v → p w' v)
    (hstep : ∀ (k : Nat) (o : Oper), k < n → ops[k]? = some o → ∀ (x : Nat → Value) (w : World), GR w0 w → (∀ d, waitB ops k d = true → (Ps.getD d fun _ _ => True) w (x (ds.getD d 0))) →
      Oper.wp P o (puts ds x a) w (fun a' w' => ∃ v, a' = (puts ds x a).put o.dst v ∧ GR w w' ∧ (Ps.getD k fun _ _ => True) w' v) Q)
    (htail : ∀ (x : Nat → Value) (w : World), GR w0 w → (∀ k, k < n → (Ps.getD k fun _ _ => True) w (x (ds.getD k 0))) → wpList P ops Q (ops.toList.drop n) (puts ds x a) w) :
    (Code.region id ops true).wp P Q a w0 := by
  have hst' : ∀ k w w' v, GR w w' → (Ps.getD k fun _ _ => True) w v → (Ps.getD k fun _ _ => True) w' v := by
    intro k w w' v hb h
    rcases Nat.lt_or_ge k Ps.length with hk | hk
    · rw [List.getD_eq_getElem?_getD, List.getElem?_eq_getElem hk] at h ⊢
      exact hst _ (List.getElem_mem hk) w w' v hb h
    · rw [List.getD_eq_getElem?_getD, List.getElem?_eq_none hk]; trivial
  simp only [headB, Bool.and_eq_true, decide_eq_true_eq, beq_iff_eq] at hh
  obtain ⟨⟨⟨hnd, hlen⟩, hn⟩, hall⟩ := hh
  have hop : ∀ k, k < n → ∃ o, ops[k]? = some o ∧ o.dst = some (ds.getD k 0) ∧ ds.getD k 0 ∈ ds ∧ o.guard = none ∧ ∀ e ∈ o.after, Region.binds .any e = true → e.on < k := by
    intro k hk
    have h1 := List.all_eq_true.1 hall k (List.mem_range.2 hk)
    cases ho : ops[k]? with
    | none => rw [ho] at h1; cases h1
    | some o =>
      rw [ho] at h1
      simp only [Bool.and_eq_true, beq_iff_eq] at h1
      have hk' : k < ds.length := by omega
      have hd : ds.getD k 0 = ds[k] := by rw [List.getD_eq_getElem?_getD, List.getElem?_eq_getElem hk']; rfl
      refine ⟨o, rfl, by rw [h1.1.1, hd, List.getElem?_eq_getElem hk'], by rw [hd]; exact List.getElem_mem hk', by simpa using h1.1.2, fun e he hb => ?_⟩
      have := Array.all_eq_true'.1 h1.2 e he
      simpa [hb] using this
  have hinj : ∀ j k, j < n → k < n → j ≠ k → ds.getD j 0 ≠ ds.getD k 0 := by
    intro j k hj hk hne e
    rw [List.getD_eq_getElem?_getD, List.getD_eq_getElem?_getD, List.getElem?_eq_getElem (by omega), List.getElem?_eq_getElem (by omega)] at e
    exact hne ((List.getElem_inj hnd).1 e)
  refine wp_region_any hm ?_
  have key : ∀ (m : Nat) (listed : Array Bool) (x : Nat → Value) (w : World), ((List.range n).filter fun i => !listed.getD i true).length = m → HeadInv .any ops n listed → GR w0 w →
      (∀ k, k < n → listed.getD k false = true → (Ps.getD k fun _ _ => True) w (x (ds.getD k 0))) → wpAny P .any ops Q (m + (ops.size - n)) listed (puts ds x a) w := by
    intro m
    induction m with
    | zero =>
      intro listed x w hu inv hb hP
      have hl : ∀ k, k < n → listed.getD k false = true := by
        intro k hk
        have h0 := List.eq_nil_of_length_eq_zero hu
        rw [List.filter_eq_nil_iff] at h0
        have h1 := h0 k (List.mem_range.2 hk)
        have hks : k < listed.size := by rw [inv.size]; omega
        simp [hks] at h1 ⊢
        exact h1
      have hL : listed = hd0 n (ops.size - n) := by
        apply Array.ext
        · simp [hd0, inv.size]; omega
        · intro i h1 h2
          by_cases hi : i < n
          · have := hl i hi
            simp [h1] at this
            rw [this]
            simp [hd0, hi, Array.getElem_append]
          · have := inv.tail i (by omega) (by rw [← inv.size]; exact h1)
            simp [h1] at this
            rw [this]
            simp [hd0, hi, Array.getElem_append]
      rw [Nat.zero_add, hL]
      have hlt : (ops.toList.drop n).length = ops.size - n := by simp
      have := wpAny_of_seq (P := P) (md := .any) (ops := ops) (Q' := Q) (ops.toList.drop n) n (hd0 n (ops.size - n)) (puts ds x a) w (fun j => by rw [List.getElem?_drop]; simp) (by rw [hlt]; exact hq) (htail x w hb fun k hk => hP k hk (hl k hk))
      rwa [hlt] at this
    | succ m ih =>
      intro listed x w hu inv hb hP
      have hex : ∃ i, i < n ∧ listed.getD i true = false := by
        cases hf : (List.range n).filter fun i => !listed.getD i true with
        | nil => rw [hf] at hu; cases hu
        | cons i l =>
          have : i ∈ (List.range n).filter fun i => !listed.getD i true := by rw [hf]; exact List.mem_cons_self ..
          obtain ⟨h1, h2⟩ := List.mem_filter.1 this
          exact ⟨i, List.mem_range.1 h1, by simpa using h2⟩
      rw [show m + 1 + (ops.size - n) = (m + (ops.size - n)) + 1 by omega]
      refine ⟨fun hr => ?_, fun i hi => ?_⟩
      · exfalso
        -- the first one that is not listed may come up
        obtain ⟨i, hi, hun⟩ := hex
        have : ∀ d i, i = d → i < n → listed.getD i true = false → False := by
          intro d
          induction d using Nat.strongRecOn with
          | _ d ihd =>
            intro i hid hi hun
            subst hid
            obtain ⟨o, ho, -, -, -, hback⟩ := hop i hi
            by_cases hex2 : ∃ j, j < i ∧ listed.getD j true = false
            · obtain ⟨j, hj, hju⟩ := hex2
              exact ihd j hj j rfl (by omega) hju
            · have hmem : i ∈ Region.ready .any ops listed := by
                refine mem_ready.2 ⟨hun, o, ho, fun e he hb => ?_⟩
                have hj := hback e he hb
                cases hl : listed.getD e.on false with
                | true => rfl
                | false => exact absurd ⟨e.on, hj, getD_in (by rw [inv.size]; omega) hl⟩ hex2
              rw [hr] at hmem
              cases hmem
        exact this i i rfl hi hun
      · obtain ⟨i', hi', hun'⟩ := hex
        have hin : i < n := by
          rcases Nat.lt_or_ge i n with h | h
          · exact h
          · exact absurd hi (tail_waits hs hc hn inv _ i' rfl hi' hun' i h)
        obtain ⟨o, ho, hdst, hmem, hg, -⟩ := hop i hin
        obtain ⟨hun, o', ho', hdeps⟩ := mem_ready.1 hi
        have : o' = o := Option.some.inj (ho'.symm.trans ho)
        subst this
        have hw : Region.wanted o' (yielded ops (puts ds x a).tmps) = true := by simp [Region.wanted, hg]
        unfold wpOp
        simp only [ho, hw, if_true]
        refine Or.inl (Oper.wp_mono (fun a' w' hK => ?_) (hstep i o' hin ho x w hb fun d hd => ?_))
        · obtain ⟨v, rfl, hb', hv⟩ := hK
          rw [hdst, puts_put x v ds a hmem hnd]
          refine ih (listed.setIfInBounds i true) (upd x (ds.getD i 0) v) w' ?_ (inv.set hi hin) (hb.trans hb') fun k hk hl => ?_
          · have hlt : ((List.range n).filter fun j => !(listed.setIfInBounds i true).getD j true).length < ((List.range n).filter fun j => !listed.getD j true).length := by
              refine filt_lt (fun j => !listed.getD j true) (fun j => !(listed.setIfInBounds i true).getD j true) (fun y hy => ?_) i (by simp [hun]) ?_ _ (List.mem_range.2 hin)
              · by_cases e : i = y
                · subst e
                  have : i < listed.size := by rw [inv.size]; omega
                  simp [Array.getElem?_setIfInBounds, this] at hy
                · simpa [Array.getElem?_setIfInBounds, e] using hy
              · have : i < listed.size := by rw [inv.size]; omega
                simp [Array.getElem?_setIfInBounds, this]
            have hge : ((List.range n).filter fun j => !listed.getD j true).length ≤ ((List.range n).filter fun j => !(listed.setIfInBounds i true).getD j true).length + 1 := by
              have : ∀ (l : List Nat), l.Nodup → (l.filter fun j => !listed.getD j true).length ≤ (l.filter fun j => !(listed.setIfInBounds i true).getD j true).length + 1 := by
                intro l
                induction l with
                | nil => intro _; simp
                | cons y l ihl =>
                  intro hnd
                  obtain ⟨hy, hnd'⟩ := List.nodup_cons.1 hnd
                  rw [List.filter_cons, List.filter_cons]
                  by_cases e : y = i
                  · subst e
                    have h1 : (l.filter fun j => !listed.getD j true) = (l.filter fun j => !(listed.setIfInBounds y true).getD j true) := by
                      apply List.filter_congr
                      intro z hz
                      have hzy : y ≠ z := fun hh => hy (by rw [hh]; exact hz)
                      rw [getD_set_ne true hzy]
                    rw [h1]
                    split <;> split <;> simp <;> omega
                  · have h2 : (listed.setIfInBounds i true).getD y true = listed.getD y true := getD_set_ne true (fun hh => e hh.symm)
                    rw [h2]
                    have := ihl hnd'
                    split
                    · simp only [List.length_cons]; omega
                    · exact this
              exact this _ List.nodup_range
            omega
          · by_cases e : k = i
            · subst e
              simpa [upd] using hv
            · have hne := hinj k i hk hin e
              have hl' : listed.getD k false = true := by rw [getD_set_ne false (fun hh => e hh.symm)] at hl; exact hl
              have := hst' k _ _ _ hb' (hP k hk hl')
              rw [show upd x (ds.getD i 0) v (ds.getD k 0) = x (ds.getD k 0) from if_neg hne]
              exact this
        · unfold waitB at hd
          obtain ⟨oj, hoj, e, he, hbd, hon⟩ := Region.waitsFor_spec hd
          have : oj = o' := Option.some.inj (hoj.symm.trans ho)
          subst this
          have h1 := hdeps e he hbd
          rw [hon] at h1
          by_cases hdn : d < n
          · exact hP d hdn h1
          · exfalso
            obtain ⟨o2, ho2, -, -, -, hback⟩ := hop i hin
            have : o2 = oj := Option.some.inj (ho2.symm.trans hoj)
            subst this
            have := hback e he hbd
            omega
  have h0 := key _ (Array.replicate ops.size false) (fun s => a.tmps.getD s undef) { w0 with drawn := w0.drawn + 1 } rfl
    ⟨by simp, fun j oj _ hl => (by rw [getD_replicate_false] at hl; cases hl), fun t _ ht => getD_in (by simpa using ht) (getD_replicate_false _ _)⟩ (GR.refl _).drew (fun k hk hl => by rw [getD_replicate_false] at hl; cases hl)
  rw [puts_self] at h0
  have hcount : ((List.range n).filter fun i => !(Array.replicate ops.size false).getD i true).length + (ops.size - n) = ops.size := by
    have : ((List.range n).filter fun i => !(Array.replicate ops.size false).getD i true) = List.range n := by
      apply List.filter_eq_self.2
      intro i hi
      have hi' := List.mem_range.1 hi
      have : i < ops.size := by omega
      simp [this]
    rw [this, List.length_range]; omega
  rw [hcount] at h0
  exact h0
end
end Go.Proofs.Ytbendimkejndiaa
