/- A region that draws its order, whose first operations only read and make memory, and whose last ones come one behind another: whatever the order, each operation's value is told by what stays true as memory grows. A region that draws its order: as QOrd, for operations that turn memory made in the region too (an append): what such an operation spoils is used by it alone. -/
import Derived.Test.YtppaiihcaajkaaaGreatShp
import Derived.StillTail
namespace Go.Proofs.YtppaiihcaajkaaaGreat
open Go.RowKit
set_option linter.unusedVariables false
set_option linter.unusedSimpArgs false
def upd (x : Nat → Value) (d : Nat) (v : Value) : Nat → Value := fun s => if s = d then v else x s
def puts : List Nat → (Nat → Value) → Act → Act
  | [], _, a => a
  | d :: ds, x, a => (puts ds x a).put (some d) (x d)
theorem put_comm (a : Act) {d e : Nat} (h : d ≠ e) (v u : Value) : (a.put (some d) v).put (some e) u = (a.put (some e) u).put (some d) v := by
  simp only [Act.put]
  rw [Array.setIfInBounds_comm _ _ h]
theorem put_put (a : Act) (d : Nat) (v u : Value) : (a.put (some d) v).put (some d) u = a.put (some d) u := by
  simp only [Act.put]
  rw [Array.setIfInBounds_setIfInBounds]
theorem puts_far {d : Nat} (x : Nat → Value) (v : Value) : ∀ (ds : List Nat) (a : Act), d ∉ ds → puts ds (upd x d v) a = puts ds x a
  | [], _, _ => rfl
  | e :: ds, a, h => by
    have h1 : e ≠ d := fun hh => h (by rw [hh]; exact List.mem_cons_self ..)
    rw [puts, puts, puts_far x v ds a (fun hh => h (List.mem_cons_of_mem _ hh))]
    simp [upd, h1]
theorem puts_put {d : Nat} (x : Nat → Value) (v : Value) : ∀ (ds : List Nat) (a : Act), d ∈ ds → ds.Nodup → (puts ds x a).put (some d) v = puts ds (upd x d v) a
  | e :: ds, a, h, hn => by
    rw [puts, puts]
    by_cases hed : e = d
    · subst hed
      rw [puts_far x v ds a (List.nodup_cons.1 hn).1, put_put]
      simp [upd]
    · rw [put_comm _ hed, puts_put x v ds a ((List.mem_cons.1 h).resolve_left (fun hh => hed hh.symm)) (List.nodup_cons.1 hn).2]
      simp [upd, hed]
theorem put_self (a : Act) (d : Nat) : a.put (some d) (a.tmps.getD d undef) = a := by
  cases a with
  | mk t f =>
    show (⟨t.setIfInBounds d (t.getD d undef), f⟩ : Act) = ⟨t, f⟩
    have h : t.setIfInBounds d (t.getD d undef) = t := by
      apply Array.ext_getElem?
      intro i
      rw [Array.getElem?_setIfInBounds]
      split
      · rename_i e
        subst e
        split
        · rename_i hlt
          first | (rw [Array.getD_eq_getD_getElem?, Array.getElem?_eq_getElem hlt]; rfl) | (rw [Array.getElem?_eq_getElem hlt]; rfl)
        · rename_i hlt
          rw [Array.getElem?_eq_none (by omega)]
      · rfl
    rw [h]
theorem puts_self (a : Act) : ∀ ds : List Nat, puts ds (fun s => a.tmps.getD s undef) a = a
  | [] => rfl
  | d :: ds => by rw [puts, puts_self a ds]; exact put_self a d

def headB (ops : Array Oper) (n : Nat) (ds : List Nat) : Bool :=
  decide (ds.Nodup) && (ds.length == n) && decide (n < ops.size) && (List.range n).all fun k => match ops[k]? with
    | some o => (o.dst == ds[k]?) && o.guard.isNone && o.after.all fun e => !Region.binds .any e || decide (e.on < k)
    | none => false
/-- Operation k waits for operation d. -/
def waitB (ops : Array Oper) (k d : Nat) : Bool := Region.waitsFor .any ops k d
def hd0 (n m : Nat) : Array Bool := ((List.range n).map fun _ => true).toArray ++ Array.replicate m false

section
variable {P : Program} {ops : Array Oper}
theorem unl_le (n : Nat) (l : Array Bool) : ((List.range n).filter fun i => !l.getD i true).length ≤ n := Nat.le_trans (List.length_filter_le _ _) (by simp)
theorem filt_le {α : Type} (p q : α → Bool) (h : ∀ y, q y = true → p y = true) : ∀ (l : List α), (l.filter q).length ≤ (l.filter p).length
  | [] => Nat.le_refl _
  | z :: l => by
    have ih := filt_le p q h l
    rw [List.filter_cons, List.filter_cons]
    by_cases hz : q z = true
    · rw [if_pos hz, if_pos (h z hz)]; simpa using ih
    · rw [if_neg hz]
      by_cases hp : p z = true
      · rw [if_pos hp, List.length_cons]; omega
      · rw [if_neg hp]; exact ih
theorem filt_lt {α : Type} (p q : α → Bool) (h : ∀ y, q y = true → p y = true) (x : α) (hp : p x = true) (hq : ¬ q x = true) : ∀ (l : List α), x ∈ l → (l.filter q).length < (l.filter p).length
  | [], hx => by cases hx
  | y :: l, hx => by
    rw [List.filter_cons, List.filter_cons]
    rcases List.mem_cons.1 hx with rfl | hx
    · have := filt_le p q h l
      rw [if_neg hq, if_pos hp, List.length_cons]; omega
    · have ih := filt_lt p q h x hp hq l hx
      by_cases hz : q y = true
      · rw [if_pos hz, if_pos (h y hz)]; simpa using ih
      · rw [if_neg hz]
        by_cases hp : p y = true
        · rw [if_pos hp, List.length_cons]; omega
        · rw [if_neg hp]; exact ih
theorem wp_region_grow {id : Nat} {Q : Exit → Act → World → Prop} {a : Act} {w0 : World} (n : Nat) (ds : List Nat) (Ps : List (World → Value → Prop)) (hm : P.follows .mixedOrders = true)
    (hh : headB ops n ds = true) (hs : Region.sinkB .any ops n = true) (hc : Region.chainB .any ops n = true) (hq : Region.seqB .any ops (ops.size - n) n (hd0 n (ops.size - n)) = true)
    (hst : ∀ p ∈ Ps, ∀ w w' v, Below w.heap.size w w' → p w v → p w' v)
    (hstep : ∀ (k : Nat) (o : Oper), k < n → ops[k]? = some o → ∀ (x : Nat → Value) (w : World), Below w0.heap.size w0 w → (∀ d, waitB ops k d = true → (Ps.getD d fun _ _ => True) w (x (ds.getD d 0))) →
      Oper.wp P o (puts ds x a) w (fun a' w' => ∃ v, a' = (puts ds x a).put o.dst v ∧ Below w.heap.size w w' ∧ (Ps.getD k fun _ _ => True) w' v) Q)
    (htail : ∀ (x : Nat → Value) (w : World), Below w0.heap.size w0 w → (∀ k, k < n → (Ps.getD k fun _ _ => True) w (x (ds.getD k 0))) → wpList P ops Q (ops.toList.drop n) (puts ds x a) w) :
    (Code.region id ops true).wp P Q a w0 := by
  have hst' : ∀ k w w' v, Below w.heap.size w w' → (Ps.getD k fun _ _ => True) w v → (Ps.getD k fun _ _ => True) w' v := by
    intro k w w' v hb h
    rcases Nat.lt_or_ge k Ps.length with hk | hk
    · rw [List.getD_eq_getElem?_getD, List.getElem?_eq_getElem hk] at h ⊢
      exact hst _ (List.getElem_mem hk) w w' v hb h
    · rw [List.getD_eq_getElem?_getD, List.getElem?_eq_none hk]; trivial
  simp only [headB, Bool.and_eq_true, decide_eq_true_eq, beq_iff_eq] at hh
  obtain ⟨⟨⟨hnd, hlen⟩, hn⟩, hall⟩ := hh
  have hop : ∀ k, k < n → ∃ o, ops[k]? = some o ∧ o.dst = some (ds.getD k 0) ∧ ds.getD k 0 ∈ ds ∧ o.guard = none ∧ ∀ e ∈ o.after, Region.binds .any e = true → e.on < k := by
    intro k hk
    have h1 := List.all_eq_true.1 hall k (List.mem_range.2 hk)
    cases ho : ops[k]? with
    | none => rw [ho] at h1; cases h1
    | some o =>
      rw [ho] at h1
      simp only [Bool.and_eq_true, beq_iff_eq] at h1
      have hk' : k < ds.length := by omega
      have hd : ds.getD k 0 = ds[k] := by rw [List.getD_eq_getElem?_getD, List.getElem?_eq_getElem hk']; rfl
      refine ⟨o, rfl, by rw [h1.1.1, hd, List.getElem?_eq_getElem hk'], by rw [hd]; exact List.getElem_mem hk', by simpa using h1.1.2, fun e he hb => ?_⟩
      have := Array.all_eq_true'.1 h1.2 e he
      simpa [hb] using this
  have hinj : ∀ j k, j < n → k < n → j ≠ k → ds.getD j 0 ≠ ds.getD k 0 := by
    intro j k hj hk hne e
    rw [List.getD_eq_getElem?_getD, List.getD_eq_getElem?_getD, List.getElem?_eq_getElem (by omega), List.getElem?_eq_getElem (by omega)] at e
    exact hne ((List.getElem_inj hnd).1 e)
  refine wp_region_any hm ?_
  have key : ∀ (m : Nat) (listed : Array Bool) (x : Nat → Value) (w : World), ((List.range n).filter fun i => !listed.getD i true).length = m → HeadInv .any ops n listed → Below w0.heap.size w0 w →
      (∀ k, k < n → listed.getD k false = true → (Ps.getD k fun _ _ => True) w (x (ds.getD k 0))) → wpAny P .any ops Q (m + (ops.size - n)) listed (puts ds x a) w := by
    intro m
    induction m with
    | zero =>
      intro listed x w hu inv hb hP
      have hl : ∀ k, k < n → listed.getD k false = true := by
        intro k hk
        have h0 := List.eq_nil_of_length_eq_zero hu
        rw [List.filter_eq_nil_iff] at h0
        have h1 := h0 k (List.mem_range.2 hk)
        have hks : k < listed.size := by rw [inv.size]; omega
        simp [hks] at h1 ⊢
        exact h1
      have hL : listed = hd0 n (ops.size - n) := by
        apply Array.ext
        · simp [hd0, inv.size]; omega
        · intro i h1 h2
          by_cases hi : i < n
          · have := hl i hi
            simp [h1] at this
            rw [this]
            simp [hd0, hi, Array.getElem_append]
          · have := inv.tail i (by omega) (by rw [← inv.size]; exact h1)
            simp [h1] at this
            rw [this]
            simp [hd0, hi, Array.getElem_append]
      rw [Nat.zero_add, hL]
      have hlt : (ops.toList.drop n).length = ops.size - n := by simp
      have := wpAny_of_seq (P := P) (md := .any) (ops := ops) (Q' := Q) (ops.toList.drop n) n (hd0 n (ops.size - n)) (puts ds x a) w (fun j => by rw [List.getElem?_drop]; simp) (by rw [hlt]; exact hq) (htail x w hb fun k hk => hP k hk (hl k hk))
      rwa [hlt] at this
    | succ m ih =>
      intro listed x w hu inv hb hP
      have hex : ∃ i, i < n ∧ listed.getD i true = false := by
        cases hf : (List.range n).filter fun i => !listed.getD i true with
        | nil => rw [hf] at hu; cases hu
        | cons i l =>
          have : i ∈ (List.range n).filter fun i => !listed.getD i true := by rw [hf]; exact List.mem_cons_self ..
          obtain ⟨h1, h2⟩ := List.mem_filter.1 this
          exact ⟨i, List.mem_range.1 h1, by simpa using h2⟩
      rw [show m + 1 + (ops.size - n) = (m + (ops.size - n)) + 1 by omega]
      refine ⟨fun hr => ?_, fun i hi => ?_⟩
      · exfalso
        -- the first one that is not listed may come up
        obtain ⟨i, hi, hun⟩ := hex
        have : ∀ d i, i = d → i < n → listed.getD i true = false → False := by
          intro d
          induction d using Nat.strongRecOn with
          | _ d ihd =>
            intro i hid hi hun
            subst hid
            obtain ⟨o, ho, -, -, -, hback⟩ := hop i hi
            by_cases hex2 : ∃ j, j < i ∧ listed.getD j true = false
            · obtain ⟨j, hj, hju⟩ := hex2
              exact ihd j hj j rfl (by omega) hju
            · have hmem : i ∈ Region.ready .any ops listed := by
                refine mem_ready.2 ⟨hun, o, ho, fun e he hb => ?_⟩
                have hj := hback e he hb
                cases hl : listed.getD e.on false with
                | true => rfl
                | false => exact absurd ⟨e.on, hj, getD_in (by rw [inv.size]; omega) hl⟩ hex2
              rw [hr] at hmem
              cases hmem
        exact this i i rfl hi hun
      · obtain ⟨i', hi', hun'⟩ := hex
        have hin : i < n := by
          rcases Nat.lt_or_ge i n with h | h
          · exact h
          · exact absurd hi (tail_waits hs hc hn inv _ i' rfl hi' hun' i h)
        obtain ⟨o, ho, hdst, hmem, hg, -⟩ := hop i hin
        obtain ⟨hun, o', ho', hdeps⟩ := mem_ready.1 hi
        have : o' = o := Option.some.inj (ho'.symm.trans ho)
        subst this
        have hw : Region.wanted o' (yielded ops (puts ds x a).tmps) = true := by simp [Region.wanted, hg]
        unfold wpOp
        simp only [ho, hw, if_true]
        refine Or.inl (Oper.wp_mono (fun a' w' hK => ?_) (hstep i o' hin ho x w hb fun d hd => ?_))
        · obtain ⟨v, rfl, hb', hv⟩ := hK
          rw [hdst, puts_put x v ds a hmem hnd]
          refine ih (listed.setIfInBounds i true) (upd x (ds.getD i 0) v) w' ?_ (inv.set hi hin) (bthen hb hb') fun k hk hl => ?_
          · have hlt : ((List.range n).filter fun j => !(listed.setIfInBounds i true).getD j true).length < ((List.range n).filter fun j => !listed.getD j true).length := by
              refine filt_lt (fun j => !listed.getD j true) (fun j => !(listed.setIfInBounds i true).getD j true) (fun y hy => ?_) i (by simp [hun]) ?_ _ (List.mem_range.2 hin)
              · by_cases e : i = y
                · subst e
                  have : i < listed.size := by rw [inv.size]; omega
                  simp [Array.getElem?_setIfInBounds, this] at hy
                · simpa [Array.getElem?_setIfInBounds, e] using hy
              · have : i < listed.size := by rw [inv.size]; omega
                simp [Array.getElem?_setIfInBounds, this]
            have hge : ((List.range n).filter fun j => !listed.getD j true).length ≤ ((List.range n).filter fun j => !(listed.setIfInBounds i true).getD j true).length + 1 := by
              have : ∀ (l : List Nat), l.Nodup → (l.filter fun j => !listed.getD j true).length ≤ (l.filter fun j => !(listed.setIfInBounds i true).getD j true).length + 1 := by
                intro l
                induction l with
                | nil => intro _; simp
                | cons y l ihl =>
                  intro hnd
                  obtain ⟨hy, hnd'⟩ := List.nodup_cons.1 hnd
                  rw [List.filter_cons, List.filter_cons]
                  by_cases e : y = i
                  · subst e
                    have h1 : (l.filter fun j => !listed.getD j true) = (l.filter fun j => !(listed.setIfInBounds y true).getD j true) := by
                      apply List.filter_congr
                      intro z hz
                      have hzy : y ≠ z := fun hh => hy (by rw [hh]; exact hz)
                      rw [getD_set_ne true hzy]
                    rw [h1]
                    split <;> split <;> simp <;> omega
                  · have h2 : (listed.setIfInBounds i true).getD y true = listed.getD y true := getD_set_ne true (fun hh => e hh.symm)
                    rw [h2]
                    have := ihl hnd'
                    split
                    · simp only [List.length_cons]; omega
                    · exact this
              exact this _ List.nodup_range
            omega
          · by_cases e : k = i
            · subst e
              simpa [upd] using hv
            · have hne := hinj k i hk hin e
              have hl' : listed.getD k false = true := by rw [getD_set_ne false (fun hh => e hh.symm)] at hl; exact hl
              have := hst' k _ _ _ hb' (hP k hk hl')
              rw [show upd x (ds.getD i 0) v (ds.getD k 0) = x (ds.getD k 0) from if_neg hne]
              exact this
        · unfold waitB at hd
          obtain ⟨oj, hoj, e, he, hbd, hon⟩ := Region.waitsFor_spec hd
          have : oj = o' := Option.some.inj (hoj.symm.trans ho)
          subst this
          have h1 := hdeps e he hbd
          rw [hon] at h1
          by_cases hdn : d < n
          · exact hP d hdn h1
          · exfalso
            obtain ⟨o2, ho2, -, -, -, hback⟩ := hop i hin
            have : o2 = oj := Option.some.inj (ho2.symm.trans hoj)
            subst this
            have := hback e he hbd
            omega
  have h0 := key _ (Array.replicate ops.size false) (fun s => a.tmps.getD s undef) { w0 with drawn := w0.drawn + 1 } rfl
    ⟨by simp, fun j oj _ hl => (by rw [getD_replicate_false] at hl; cases hl), fun t _ ht => getD_in (by simpa using ht) (getD_replicate_false _ _)⟩ (Below.refl _ _).drew (fun k hk hl => by rw [getD_replicate_false] at hl; cases hl)
  rw [puts_self] at h0
  have hcount : ((List.range n).filter fun i => !(Array.replicate ops.size false).getD i true).length + (ops.size - n) = ops.size := by
    have : ((List.range n).filter fun i => !(Array.replicate ops.size false).getD i true) = List.range n := by
      apply List.filter_eq_self.2
      intro i hi
      have hi' := List.mem_range.1 hi
      have : i < ops.size := by omega
      simp [this]
    rw [this, List.length_range]; omega
  rw [hcount] at h0
  exact h0
end
end Go.Proofs.YtppaiihcaajkaaaGreat

namespace Go.Proofs.YtppaiihcaajkaaaGreat
open Go.RowKit
set_option linter.unusedVariables false
set_option linter.unusedSimpArgs false
/-- Operation k may use what d told: whoever spoils it is k itself or waits for k. -/
def okB (ops : Array Oper) (n : Nat) (sp : Nat → List Nat) (k d : Nat) : Bool := (List.range n).all fun j => !(sp j).contains d || j == k || waitB ops j k
theorem ok_spec {ops : Array Oper} {n : Nat} {sp : Nat → List Nat} {i j d : Nat} (h : okB ops n sp i d = true) (hj : j < n) (hd : d ∈ sp j) (hne : i ≠ j) : waitB ops j i = true := by
  have h1 := List.all_eq_true.1 h j (List.mem_range.2 hj)
  have h2 : j = i ∨ waitB ops j i = true := by simpa [hd] using h1
  exact h2.resolve_left fun e => hne e.symm
/-- Whoever uses the fact d of the world, which j spoils, comes before j. -/
def useB (ops : Array Oper) (n : Nat) (spI us : Nat → List Nat) : Bool := (List.range n).all fun j => (spI j).all fun d => (List.range n).all fun i => i == j || !(us i).contains d || waitB ops j i
theorem use_spec {ops : Array Oper} {n : Nat} {spI us : Nat → List Nat} (h : useB ops n spI us = true) {i j d : Nat} (hj : j < n) (hd : d ∈ spI j) (hi : i < n) (hne : i ≠ j) (hu : d ∈ us i) : waitB ops j i = true := by
  have h1 := List.all_eq_true.1 (List.all_eq_true.1 (List.all_eq_true.1 h j (List.mem_range.2 hj)) d hd) i (List.mem_range.2 hi)
  simpa [hne, hu] using h1
section
variable {P : Program} {ops : Array Oper}
theorem wp_region_grow2 {id : Nat} {Q : Exit → Act → World → Prop} {a : Act} {w0 : World} (B : Nat) (hB0 : B ≤ w0.heap.size) (n : Nat) (ds : List Nat) (Ps : List (World → Value → Prop)) (hm : P.follows .mixedOrders = true)
    (hh : headB ops n ds = true) (hs : Region.sinkB .any ops n = true) (hc : Region.chainB .any ops n = true) (hq : Region.seqB .any ops (ops.size - n) n (hd0 n (ops.size - n)) = true)
    (Iv : Nat → World → Prop) (spI us : Nat → List Nat) (hspI : useB ops n spI us = true) (hI0 : ∀ d, Iv d { w0 with drawn := w0.drawn + 1 })
    (Tr : Nat → World → World → Prop) (sp : Nat → List Nat) (hbel : ∀ j w w', j < n → Tr j w w' → w0.heap.size ≤ w.heap.size → Below B w w')
    (hst : ∀ j k, j < n → k < n → k ≠ j → k ∉ sp j → waitB ops k j = false → ∀ w w' v, w0.heap.size ≤ w.heap.size → Tr j w w' → (Ps.getD k fun _ _ => True) w v → (Ps.getD k fun _ _ => True) w' v)
    (hsI : ∀ j d, j < n → d ∉ spI j → ∀ w w', w0.heap.size ≤ w.heap.size → Tr j w w' → Iv d w → Iv d w')
    (hstep : ∀ (k : Nat) (o : Oper), k < n → ops[k]? = some o → ∀ (x : Nat → Value) (w : World), Below B w0 w → (∀ d ∈ us k, Iv d w) → (∀ d, waitB ops k d = true → okB ops n sp k d = true → (Ps.getD d fun _ _ => True) w (x (ds.getD d 0))) →
      Oper.wp P o (puts ds x a) w (fun a' w' => ∃ v, a' = (puts ds x a).put o.dst v ∧ Tr k w w' ∧ (Ps.getD k fun _ _ => True) w' v) Q)
    (htail : ∀ (x : Nat → Value) (w : World), Below B w0 w → (∀ k, k < n → (∀ j, j < n → k ∉ sp j) → (Ps.getD k fun _ _ => True) w (x (ds.getD k 0))) → wpList P ops Q (ops.toList.drop n) (puts ds x a) w) :
    (Code.region id ops true).wp P Q a w0 := by
  simp only [headB, Bool.and_eq_true, decide_eq_true_eq, beq_iff_eq] at hh
  obtain ⟨⟨⟨hnd, hlen⟩, hn⟩, hall⟩ := hh
  have hop : ∀ k, k < n → ∃ o, ops[k]? = some o ∧ o.dst = some (ds.getD k 0) ∧ ds.getD k 0 ∈ ds ∧ o.guard = none ∧ ∀ e ∈ o.after, Region.binds .any e = true → e.on < k := by
    intro k hk
    have h1 := List.all_eq_true.1 hall k (List.mem_range.2 hk)
    cases ho : ops[k]? with
    | none => rw [ho] at h1; cases h1
    | some o =>
      rw [ho] at h1
      simp only [Bool.and_eq_true, beq_iff_eq] at h1
      have hk' : k < ds.length := by omega
      have hd : ds.getD k 0 = ds[k] := by rw [List.getD_eq_getElem?_getD, List.getElem?_eq_getElem hk']; rfl
      refine ⟨o, rfl, by rw [h1.1.1, hd, List.getElem?_eq_getElem hk'], by rw [hd]; exact List.getElem_mem hk', by simpa using h1.1.2, fun e he hb => ?_⟩
      have := Array.all_eq_true'.1 h1.2 e he
      simpa [hb] using this
  have hinj : ∀ j k, j < n → k < n → j ≠ k → ds.getD j 0 ≠ ds.getD k 0 := by
    intro j k hj hk hne e
    rw [List.getD_eq_getElem?_getD, List.getD_eq_getElem?_getD, List.getElem?_eq_getElem (by omega), List.getElem?_eq_getElem (by omega)] at e
    exact hne ((List.getElem_inj hnd).1 e)
  refine wp_region_any hm ?_
  have key : ∀ (m : Nat) (listed : Array Bool) (x : Nat → Value) (w : World), ((List.range n).filter fun i => !listed.getD i true).length = m → HeadInv .any ops n listed → Below B w0 w →
      (∀ k, k < n → listed.getD k false = true → (∀ j, j < n → k ∈ sp j → listed.getD j false = false) → (Ps.getD k fun _ _ => True) w (x (ds.getD k 0))) → (∀ d, (∀ j, j < n → d ∈ spI j → listed.getD j false = false) → Iv d w) → wpAny P .any ops Q (m + (ops.size - n)) listed (puts ds x a) w := by
    intro m
    induction m with
    | zero =>
      intro listed x w hu inv hb hP hI
      have hl : ∀ k, k < n → listed.getD k false = true := by
        intro k hk
        have h0 := List.eq_nil_of_length_eq_zero hu
        rw [List.filter_eq_nil_iff] at h0
        have h1 := h0 k (List.mem_range.2 hk)
        have hks : k < listed.size := by rw [inv.size]; omega
        simp [hks] at h1 ⊢
        exact h1
      have hL : listed = hd0 n (ops.size - n) := by
        apply Array.ext
        · simp [hd0, inv.size]; omega
        · intro i h1 h2
          by_cases hi : i < n
          · have := hl i hi
            simp [h1] at this
            rw [this]
            simp [hd0, hi, Array.getElem_append]
          · have := inv.tail i (by omega) (by rw [← inv.size]; exact h1)
            simp [h1] at this
            rw [this]
            simp [hd0, hi, Array.getElem_append]
      rw [Nat.zero_add, hL]
      have hlt : (ops.toList.drop n).length = ops.size - n := by simp
      have := wpAny_of_seq (P := P) (md := .any) (ops := ops) (Q' := Q) (ops.toList.drop n) n (hd0 n (ops.size - n)) (puts ds x a) w (fun j => by rw [List.getElem?_drop]; simp) (by rw [hlt]; exact hq) (htail x w hb fun k hk hns => hP k hk (hl k hk) fun j hj hjs => absurd hjs (hns j hj))
      rwa [hlt] at this
    | succ m ih =>
      intro listed x w hu inv hb hP hI
      have hex : ∃ i, i < n ∧ listed.getD i true = false := by
        cases hf : (List.range n).filter fun i => !listed.getD i true with
        | nil => rw [hf] at hu; cases hu
        | cons i l =>
          have : i ∈ (List.range n).filter fun i => !listed.getD i true := by rw [hf]; exact List.mem_cons_self ..
          obtain ⟨h1, h2⟩ := List.mem_filter.1 this
          exact ⟨i, List.mem_range.1 h1, by simpa using h2⟩
      rw [show m + 1 + (ops.size - n) = (m + (ops.size - n)) + 1 by omega]
      refine ⟨fun hr => ?_, fun i hi => ?_⟩
      · exfalso
        -- the first one that is not listed may come up
        obtain ⟨i, hi, hun⟩ := hex
        have : ∀ d i, i = d → i < n → listed.getD i true = false → False := by
          intro d
          induction d using Nat.strongRecOn with
          | _ d ihd =>
            intro i hid hi hun
            subst hid
            obtain ⟨o, ho, -, -, -, hback⟩ := hop i hi
            by_cases hex2 : ∃ j, j < i ∧ listed.getD j true = false
            · obtain ⟨j, hj, hju⟩ := hex2
              exact ihd j hj j rfl (by omega) hju
            · have hmem : i ∈ Region.ready .any ops listed := by
                refine mem_ready.2 ⟨hun, o, ho, fun e he hb => ?_⟩
                have hj := hback e he hb
                cases hl : listed.getD e.on false with
                | true => rfl
                | false => exact absurd ⟨e.on, hj, getD_in (by rw [inv.size]; omega) hl⟩ hex2
              rw [hr] at hmem
              cases hmem
        exact this i i rfl hi hun
      · obtain ⟨i', hi', hun'⟩ := hex
        have hin : i < n := by
          rcases Nat.lt_or_ge i n with h | h
          · exact h
          · exact absurd hi (tail_waits hs hc hn inv _ i' rfl hi' hun' i h)
        obtain ⟨o, ho, hdst, hmem, hg, -⟩ := hop i hin
        obtain ⟨hun, o', ho', hdeps⟩ := mem_ready.1 hi
        have : o' = o := Option.some.inj (ho'.symm.trans ho)
        subst this
        have hw : Region.wanted o' (yielded ops (puts ds x a).tmps) = true := by simp [Region.wanted, hg]
        unfold wpOp
        simp only [ho, hw, if_true]
        refine Or.inl (Oper.wp_mono (fun a' w' hK => ?_) (hstep i o' hin ho x w hb (fun d hd => hI d fun j hj hjs => ?_) fun d hd hok => ?_))
        · obtain ⟨v, rfl, hb', hv⟩ := hK
          rw [hdst, puts_put x v ds a hmem hnd]
          refine ih (listed.setIfInBounds i true) (upd x (ds.getD i 0) v) w' ?_ (inv.set hi hin) (hb.trans (hbel i _ _ hin hb' hb.size)) (fun k hk hl hun2 => ?_) (fun d hd => ?_)
          · have hlt : ((List.range n).filter fun j => !(listed.setIfInBounds i true).getD j true).length < ((List.range n).filter fun j => !listed.getD j true).length := by
              refine filt_lt (fun j => !listed.getD j true) (fun j => !(listed.setIfInBounds i true).getD j true) (fun y hy => ?_) i (by simp [hun]) ?_ _ (List.mem_range.2 hin)
              · by_cases e : i = y
                · subst e
                  have : i < listed.size := by rw [inv.size]; omega
                  simp [Array.getElem?_setIfInBounds, this] at hy
                · simpa [Array.getElem?_setIfInBounds, e] using hy
              · have : i < listed.size := by rw [inv.size]; omega
                simp [Array.getElem?_setIfInBounds, this]
            have hge : ((List.range n).filter fun j => !listed.getD j true).length ≤ ((List.range n).filter fun j => !(listed.setIfInBounds i true).getD j true).length + 1 := by
              have : ∀ (l : List Nat), l.Nodup → (l.filter fun j => !listed.getD j true).length ≤ (l.filter fun j => !(listed.setIfInBounds i true).getD j true).length + 1 := by
                intro l
                induction l with
                | nil => intro _; simp
                | cons y l ihl =>
                  intro hnd
                  obtain ⟨hy, hnd'⟩ := List.nodup_cons.1 hnd
                  rw [List.filter_cons, List.filter_cons]
                  by_cases e : y = i
                  · subst e
                    have h1 : (l.filter fun j => !listed.getD j true) = (l.filter fun j => !(listed.setIfInBounds y true).getD j true) := by
                      apply List.filter_congr
                      intro z hz
                      have hzy : y ≠ z := fun hh => hy (by rw [hh]; exact hz)
                      rw [getD_set_ne true hzy]
                    rw [h1]
                    split <;> split <;> simp <;> omega
                  · have h2 : (listed.setIfInBounds i true).getD y true = listed.getD y true := getD_set_ne true (fun hh => e hh.symm)
                    rw [h2]
                    have := ihl hnd'
                    split
                    · simp only [List.length_cons]; omega
                    · exact this
              exact this _ List.nodup_range
            omega
          · by_cases e : k = i
            · subst e
              simpa [upd] using hv
            · have hne := hinj k i hk hin e
              have hl' : listed.getD k false = true := by rw [getD_set_ne false (fun hh => e hh.symm)] at hl; exact hl
              have hki : k ∉ sp i := fun hs => by
                have h1 := hun2 i hin hs
                have : i < listed.size := by rw [inv.size]; omega
                simp [this] at h1
              have hkw : waitB ops k i = false := by
                cases hw : waitB ops k i with
                | false => rfl
                | true =>
                  unfold waitB at hw
                  obtain ⟨o4, ho4, e4, he4, hb4, hon4⟩ := Region.waitsFor_spec hw
                  have h5 := inv.closed k o4 ho4 hl' e4 he4 hb4
                  rw [hon4, getD_both hun] at h5
                  cases h5
              have := hst i k hin hk e hki hkw _ _ _ hb.size hb' (hP k hk hl' fun j hj hjs => by
                have h1 := hun2 j hj hjs
                by_cases eji : j = i
                · subst eji; exact absurd hjs hki
                · rw [getD_set_ne false (fun hh => eji hh.symm)] at h1; exact h1)
              rw [show upd x (ds.getD i 0) v (ds.getD k 0) = x (ds.getD k 0) from if_neg hne]
              exact this
          · refine hsI i d hin (fun hs => ?_) _ _ hb.size hb' (hI d fun j hj hjs => ?_)
            · have h1 := hd i hin hs
              have : i < listed.size := by rw [inv.size]; omega
              simp [this] at h1
            · have h1 := hd j hj hjs
              by_cases eji : j = i
              · subst eji; exact getD_both hun
              · rw [getD_set_ne false (fun hh => eji hh.symm)] at h1; exact h1
        · by_cases eji : j = i
          · subst eji; exact getD_both hun
          · cases hlj : listed.getD j false with
            | false => rfl
            | true =>
              have hw2 := use_spec hspI hj hjs hin (fun hh => eji hh.symm) hd
              unfold waitB at hw2
              obtain ⟨o3, ho3, e3, he3, hb3, hon3⟩ := Region.waitsFor_spec hw2
              have h4 := inv.closed j o3 ho3 hlj e3 he3 hb3
              rw [hon3, getD_both hun] at h4
              cases h4
        · have hd0 := hd
          unfold waitB at hd
          obtain ⟨oj, hoj, e, he, hbd, hon⟩ := Region.waitsFor_spec hd
          have : oj = o' := Option.some.inj (hoj.symm.trans ho)
          subst this
          have h1 := hdeps e he hbd
          rw [hon] at h1
          by_cases hdn : d < n
          · refine hP d hdn h1 fun j hj hjs => ?_
            by_cases eji : j = i
            · subst eji; exact getD_both hun
            · cases hlj : listed.getD j false with
              | false => rfl
              | true =>
                have hw2 := ok_spec hok hj hjs (fun hh => eji hh.symm)
                obtain ⟨o3, ho3, e3, he3, hb3, hon3⟩ := Region.waitsFor_spec hw2
                have h4 := inv.closed j o3 ho3 hlj e3 he3 hb3
                rw [hon3, getD_both hun] at h4
                cases h4
          · exfalso
            obtain ⟨o2, ho2, -, -, -, hback⟩ := hop i hin
            have : o2 = oj := Option.some.inj (ho2.symm.trans hoj)
            subst this
            have := hback e he hbd
            omega
  have h0 := key _ (Array.replicate ops.size false) (fun s => a.tmps.getD s undef) { w0 with drawn := w0.drawn + 1 } rfl
    ⟨by simp, fun j oj _ hl => (by rw [getD_replicate_false] at hl; cases hl), fun t _ ht => getD_in (by simpa using ht) (getD_replicate_false _ _)⟩ (Below.refl _ _).drew (fun k hk hl => by rw [getD_replicate_false] at hl; cases hl) (fun d _ => hI0 d)
  rw [puts_self] at h0
  have hcount : ((List.range n).filter fun i => !(Array.replicate ops.size false).getD i true).length + (ops.size - n) = ops.size := by
    have : ((List.range n).filter fun i => !(Array.replicate ops.size false).getD i true) = List.range n := by
      apply List.filter_eq_self.2
      intro i hi
      have hi' := List.mem_range.1 hi
      have : i < ops.size := by omega
      simp [this]
    rw [this, List.length_range]; omega
  rw [hcount] at h0
  exact h0
end
end Go.Proofs.YtppaiihcaajkaaaGreat
