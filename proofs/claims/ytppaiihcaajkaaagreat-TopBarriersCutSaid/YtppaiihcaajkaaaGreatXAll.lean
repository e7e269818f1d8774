/- A region that draws its order, whatever its operations are: each one told by what stays true behind it. -/
import Derived.Test.YtppaiihcaajkaaaGreatXOrdA
import Derived.Test.YtppaiihcaajkaaaGreatKSeqN
namespace Go.Proofs.YtppaiihcaajkaaaGreat
open Go.RowKit
set_option linter.unusedVariables false
set_option linter.unusedSimpArgs false
def updO (x : Nat → Value) (d : Option Nat) (v : Value) : Nat → Value := match d with | some d => upd x d v | none => x
def valsL (x : Nat → Value) (l : List Nat) : List Value := l.map x
/-- The slots that an operation's fact speaks of are its own and those of operations that it waits for. -/
def allB (ops : Array Oper) (ds : List (Option Nat)) (ls : List (List Nat)) : Bool :=
  decide ((ds.filterMap id).Nodup) && (ds.length == ops.size) && (List.range ops.size).all fun k => match ops[k]? with
    | some o => (o.dst == ds.getD k none) && (o.after.all fun e => !Region.binds .any e || decide (e.on < k)) && (ls.getD k []).all fun s => (List.range ops.size).any fun j => (j == k || waitB ops k j) && ds.getD j none == some s
    | none => false
def stepG (P : Program) (ops : Array Oper) (o : Oper) (a : Act) (w : World) (K : Act → World → Prop) (Q : Exit → Act → World → Prop) : Prop :=
  if Region.wanted o (yielded ops a.tmps) = true then Oper.wp P o a w K Q else K (a.put o.dst undef) w
theorem fix1 {a b : Value} (h : [a] = [b]) : a = b := by injection h
def Fix1 (v : Value) : World → List Value → Prop := fun _ vs => vs = [v]
/-- A fact on the own slot alone. -/
def Own1 (p : World → Value → Prop) : World → List Value → Prop := fun w vs => ∃ v, vs = [v] ∧ p w v
theorem Own1.out {p : World → Value → Prop} {w : World} {v : Value} (h : Own1 p w [v]) : p w v := by
  obtain ⟨u, e, h⟩ := h
  injection e with e
  rw [e]; exact h
section
variable {P : Program} {ops : Array Oper}
theorem stepG_of {o : Oper} {a : Act} {w : World} {K : Act → World → Prop} {Q : Exit → Act → World → Prop} (hg : o.guard = none) (h : Oper.wp P o a w K Q) : stepG P ops o a w K Q := by
  unfold stepG
  rw [if_pos (by simp [Region.wanted, hg])]
  exact h
theorem valsL_upd {x : Nat → Value} {d : Option Nat} {v : Value} {l : List Nat} (h : ∀ s ∈ l, d ≠ some s) : valsL (updO x d v) l = valsL x l := by
  unfold valsL
  apply List.map_congr_left
  intro s hs
  cases d with
  | none => rfl
  | some d =>
    have hne : s ≠ d := fun e => h s hs (by rw [e])
    simp [updO, upd, hne]
theorem wp_region_all {id : Nat} {Q : Exit → Act → World → Prop} {a : Act} {w0 : World} (ds : List (Option Nat)) (ls : List (List Nat)) (Ps : List (World → List Value → Prop)) (hm : P.follows .mixedOrders = true)
    (hh : allB ops ds ls = true)
    (Iv : Nat → World → Prop) (spI us : Nat → List Nat) (hspI : useB ops ops.size spI us = true) (hI0 : ∀ d, Iv d { w0 with drawn := w0.drawn + 1 })
    (Tr : Nat → World → World → Prop) (sp : Nat → List Nat) (hmono : ∀ j w w', Tr j w w' → w.heap.size ≤ w'.heap.size)
    (hst : ∀ j k, j < ops.size → k < ops.size → k ≠ j → k ∉ sp j → waitB ops k j = false → ∀ w w' vs, w0.heap.size ≤ w.heap.size → Tr j w w' → (Ps.getD k fun _ _ => True) w vs → (Ps.getD k fun _ _ => True) w' vs)
    (hsI : ∀ j d, j < ops.size → d ∉ spI j → ∀ w w', w0.heap.size ≤ w.heap.size → Tr j w w' → Iv d w → Iv d w')
    (hstep : ∀ (k : Nat) (o : Oper), k < ops.size → ops[k]? = some o → ∀ (x : Nat → Value) (w : World), w0.heap.size ≤ w.heap.size → (∀ d ∈ us k, Iv d w) → (∀ d, waitB ops k d = true → okB ops ops.size sp k d = true → (Ps.getD d fun _ _ => True) w (valsL x (ls.getD d []))) →
      stepG P ops o (puts (ds.filterMap _root_.id) x a) w (fun a' w' => ∃ v, a' = (puts (ds.filterMap _root_.id) x a).put o.dst v ∧ Tr k w w' ∧ (Ps.getD k fun _ _ => True) w' (valsL (updO x o.dst v) (ls.getD k []))) Q)
    (hend : ∀ (x : Nat → Value) (w : World), w0.heap.size ≤ w.heap.size → (∀ d, (∀ j, j < ops.size → d ∉ spI j) → Iv d w) → (∀ k, k < ops.size → (∀ j, j < ops.size → k ∉ sp j) → (Ps.getD k fun _ _ => True) w (valsL x (ls.getD k []))) → wpList P ops Q [] (puts (ds.filterMap _root_.id) x a) w) :
    (Code.region id ops true).wp P Q a w0 := by
  simp only [allB, Bool.and_eq_true, decide_eq_true_eq, beq_iff_eq] at hh
  obtain ⟨⟨hnd, hlen⟩, hall⟩ := hh
  have hop : ∀ k, k < ops.size → ∃ o, ops[k]? = some o ∧ o.dst = ds.getD k none ∧ (∀ e ∈ o.after, Region.binds .any e = true → e.on < k) ∧ ∀ s ∈ ls.getD k [], ∃ j, j < ops.size ∧ (j = k ∨ waitB ops k j = true) ∧ ds.getD j none = some s := by
    intro k hk
    have h1 := List.all_eq_true.1 hall k (List.mem_range.2 hk)
    cases ho : ops[k]? with
    | none => rw [ho] at h1; cases h1
    | some o =>
      rw [ho] at h1
      simp only [Bool.and_eq_true, beq_iff_eq] at h1
      refine ⟨o, rfl, h1.1.1, fun e he hb => ?_, fun s hs => ?_⟩
      · have := Array.all_eq_true'.1 h1.1.2 e he
        simpa [hb] using this
      · obtain ⟨j, hj, hjs⟩ := List.any_eq_true.1 (List.all_eq_true.1 h1.2 s hs)
        simp only [Bool.and_eq_true, Bool.or_eq_true, beq_iff_eq] at hjs
        exact ⟨j, List.mem_range.1 hj, hjs.1, hjs.2⟩
  have hdl : ∀ k d, k < ops.size → ds.getD k none = some d → ∃ hk : k < ds.length, ds[k] = some d := by
    intro k d hk h
    have hk' : k < ds.length := by omega
    refine ⟨hk', ?_⟩
    rw [List.getD_eq_getElem?_getD, List.getElem?_eq_getElem hk'] at h
    exact h
  have hmem : ∀ k d, k < ops.size → ds.getD k none = some d → d ∈ ds.filterMap _root_.id := by
    intro k d hk h
    obtain ⟨hk', h⟩ := hdl k d hk h
    exact List.mem_filterMap.2 ⟨some d, by rw [← h]; exact List.getElem_mem hk', rfl⟩
  have hnd2 : ∀ (l : List (Option Nat)), (l.filterMap _root_.id).Nodup → ∀ j k d (hj : j < l.length) (hk : k < l.length), l[j] = some d → l[k] = some d → j = k := by
    intro l
    induction l with
    | nil => intro _ j k d hj; cases hj
    | cons y l ih =>
      intro hn j k d hj hk h1 h2
      cases y with
      | none =>
        replace hn : (l.filterMap _root_.id).Nodup := by simpa [List.filterMap_cons] using hn
        cases j with
        | zero => cases h1
        | succ j => cases k with
          | zero => cases h2
          | succ k => rw [ih hn j k d (by simpa using hj) (by simpa using hk) h1 h2]
      | some y =>
        have hn' : (y :: l.filterMap _root_.id).Nodup := by simpa [List.filterMap_cons] using hn
        obtain ⟨hy, hn⟩ := List.nodup_cons.1 hn'
        cases j with
        | zero =>
          cases h1
          cases k with
          | zero => rfl
          | succ k => exact absurd (show d ∈ l.filterMap _root_.id from List.mem_filterMap.2 ⟨some d, by rw [← show l[k]'(by simpa using hk) = some d from h2]; exact List.getElem_mem _, rfl⟩) hy
        | succ j => cases k with
          | zero =>
            cases h2
            exact absurd (show d ∈ l.filterMap _root_.id from List.mem_filterMap.2 ⟨some d, by rw [← show l[j]'(by simpa using hj) = some d from h1]; exact List.getElem_mem _, rfl⟩) hy
          | succ k => rw [ih hn j k d (by simpa using hj) (by simpa using hk) h1 h2]
  have hinj : ∀ j k d, j < ops.size → k < ops.size → ds.getD j none = some d → ds.getD k none = some d → j = k := by
    intro j k d hj hk h1 h2
    obtain ⟨hj', h1⟩ := hdl j d hj h1
    obtain ⟨hk', h2⟩ := hdl k d hk h2
    exact hnd2 ds hnd j k d hj' hk' h1 h2
  have hput : ∀ (x : Nat → Value) (k : Nat) (v : Value), k < ops.size → (puts (ds.filterMap _root_.id) x a).put (ds.getD k none) v = puts (ds.filterMap _root_.id) (updO x (ds.getD k none) v) a := by
    intro x k v hk
    cases h : ds.getD k none with
    | none => rfl
    | some d => exact puts_put x v _ a (hmem k d hk h) hnd
  refine wp_region_any hm ?_
  have key : ∀ (m : Nat) (listed : Array Bool) (x : Nat → Value) (w : World), ((List.range ops.size).filter fun i => !listed.getD i true).length = m → HeadInv .any ops ops.size listed → w0.heap.size ≤ w.heap.size →
      (∀ k, k < ops.size → listed.getD k false = true → (∀ j, j < ops.size → k ∈ sp j → listed.getD j false = false) → (Ps.getD k fun _ _ => True) w (valsL x (ls.getD k []))) → (∀ d, (∀ j, j < ops.size → d ∈ spI j → listed.getD j false = false) → Iv d w) → wpAny P .any ops Q m listed (puts (ds.filterMap _root_.id) x a) w := by
    intro m
    induction m with
    | zero =>
      intro listed x w hu inv hb hP hI
      have hl : ∀ k, k < ops.size → listed.getD k false = true := by
        intro k hk
        have h0 := List.eq_nil_of_length_eq_zero hu
        rw [List.filter_eq_nil_iff] at h0
        have h1 := h0 k (List.mem_range.2 hk)
        have hks : k < listed.size := by rw [inv.size]; omega
        simp [hks] at h1 ⊢
        exact h1
      refine ⟨?_, hend x w hb (fun d hd => hI d fun j hj hjs => absurd hjs (hd j hj)) fun k hk hns => hP k hk (hl k hk) fun j hj hjs => absurd hjs (hns j hj)⟩
      cases hr : Region.ready .any ops listed with
      | nil => rfl
      | cons i r =>
        have hi : i ∈ Region.ready .any ops listed := by rw [hr]; exact List.mem_cons_self ..
        obtain ⟨hun, o', ho', -⟩ := mem_ready.1 hi
        have hil : i < ops.size := (Array.getElem?_eq_some_iff.1 ho').1
        have := hl i hil
        rw [getD_both hun] at this
        cases this
    | succ m ih =>
      intro listed x w hu inv hb hP hI
      have hex : ∃ i, i < ops.size ∧ listed.getD i true = false := by
        cases hf : (List.range ops.size).filter fun i => !listed.getD i true with
        | nil => rw [hf] at hu; cases hu
        | cons i l =>
          have : i ∈ (List.range ops.size).filter fun i => !listed.getD i true := by rw [hf]; exact List.mem_cons_self ..
          obtain ⟨h1, h2⟩ := List.mem_filter.1 this
          exact ⟨i, List.mem_range.1 h1, by simpa using h2⟩
      refine ⟨fun hr => ?_, fun i hi => ?_⟩
      · exfalso
        obtain ⟨i, hi, hun⟩ := hex
        have : ∀ d i, i = d → i < ops.size → listed.getD i true = false → False := by
          intro d
          induction d using Nat.strongRecOn with
          | _ d ihd =>
            intro i hid hi hun
            subst hid
            obtain ⟨o, ho, -, hback, -⟩ := hop i hi
            by_cases hex2 : ∃ j, j < i ∧ listed.getD j true = false
            · obtain ⟨j, hj, hju⟩ := hex2
              exact ihd j hj j rfl (by omega) hju
            · have hmem : i ∈ Region.ready .any ops listed := by
                refine mem_ready.2 ⟨hun, o, ho, fun e he hb => ?_⟩
                have hj := hback e he hb
                cases hl : listed.getD e.on false with
                | true => rfl
                | false => exact absurd ⟨e.on, hj, getD_in (by rw [inv.size]; omega) hl⟩ hex2
              rw [hr] at hmem
              cases hmem
        exact this i i rfl hi hun
      · obtain ⟨hun, o', ho', hdeps⟩ := mem_ready.1 hi
        have hin : i < ops.size := (Array.getElem?_eq_some_iff.1 ho').1
        obtain ⟨o, ho, hdst, hback, hls⟩ := hop i hin
        have : o' = o := Option.some.inj (ho'.symm.trans ho)
        subst this
        have hwl : ∀ j, waitB ops i j = true → listed.getD j false = true := by
          intro j hw
          unfold waitB at hw
          obtain ⟨o2, ho2, e, he, hbd, hon⟩ := Region.waitsFor_spec hw
          have : o2 = o' := Option.some.inj (ho2.symm.trans ho)
          subst this
          have h1 := hdeps e he hbd
          rwa [hon] at h1
        have hgo : stepG P ops o' (puts (ds.filterMap _root_.id) x a) w (fun a' w' => wpAny P .any ops Q m (listed.setIfInBounds i true) a' w') Q := by
          have hs := hstep i o' hin ho x w hb (fun d hd => hI d fun j hj hjs => ?_) fun d hd hok => ?_
          · have hK : ∀ a' w', (∃ v, a' = (puts (ds.filterMap _root_.id) x a).put o'.dst v ∧ Tr i w w' ∧ (Ps.getD i fun _ _ => True) w' (valsL (updO x o'.dst v) (ls.getD i []))) → wpAny P .any ops Q m (listed.setIfInBounds i true) a' w' := by
              rintro a' w' ⟨v, rfl, hb', hv⟩
              rw [hdst, hput x i v hin]
              rw [hdst] at hv
              refine ih (listed.setIfInBounds i true) (updO x (ds.getD i none) v) w' ?_ (inv.set hi hin) (Nat.le_trans hb (hmono i w w' hb')) (fun k hk hl hun2 => ?_) (fun d hd => ?_)
              · have hlt : ((List.range ops.size).filter fun j => !(listed.setIfInBounds i true).getD j true).length < ((List.range ops.size).filter fun j => !listed.getD j true).length := by
                  refine filt_lt (fun j => !listed.getD j true) (fun j => !(listed.setIfInBounds i true).getD j true) (fun y hy => ?_) i (by simp [hun]) ?_ _ (List.mem_range.2 hin)
                  · by_cases e : i = y
                    · subst e
                      have : i < listed.size := by rw [inv.size]; omega
                      simp [Array.getElem?_setIfInBounds, this] at hy
                    · simpa [Array.getElem?_setIfInBounds, e] using hy
                  · have : i < listed.size := by rw [inv.size]; omega
                    simp [Array.getElem?_setIfInBounds, this]
                have hge : ((List.range ops.size).filter fun j => !listed.getD j true).length ≤ ((List.range ops.size).filter fun j => !(listed.setIfInBounds i true).getD j true).length + 1 := by
                  have : ∀ (l : List Nat), l.Nodup → (l.filter fun j => !listed.getD j true).length ≤ (l.filter fun j => !(listed.setIfInBounds i true).getD j true).length + 1 := by
                    intro l
                    induction l with
                    | nil => intro _; simp
                    | cons y l ihl =>
                      intro hnd
                      obtain ⟨hy, hnd'⟩ := List.nodup_cons.1 hnd
                      rw [List.filter_cons, List.filter_cons]
                      by_cases e : y = i
                      · subst e
                        have h1 : (l.filter fun j => !listed.getD j true) = (l.filter fun j => !(listed.setIfInBounds y true).getD j true) := by
                          apply List.filter_congr
                          intro z hz
                          have hzy : y ≠ z := fun hh => hy (by rw [hh]; exact hz)
                          rw [getD_set_ne true hzy]
                        rw [h1]
                        split <;> split <;> simp <;> omega
                      · have h2 : (listed.setIfInBounds i true).getD y true = listed.getD y true := getD_set_ne true (fun hh => e hh.symm)
                        rw [h2]
                        have := ihl hnd'
                        split
                        · simp only [List.length_cons]; omega
                        · exact this
                  exact this _ List.nodup_range
                omega
              · by_cases e : k = i
                · subst e
                  exact hv
                · have hl' : listed.getD k false = true := by rw [getD_set_ne false (fun hh => e hh.symm)] at hl; exact hl
                  have hki : k ∉ sp i := fun hs => by
                    have h1 := hun2 i hin hs
                    have : i < listed.size := by rw [inv.size]; omega
                    simp [this] at h1
                  have hkw : waitB ops k i = false := by
                    cases hw : waitB ops k i with
                    | false => rfl
                    | true =>
                      unfold waitB at hw
                      obtain ⟨o4, ho4, e4, he4, hb4, hon4⟩ := Region.waitsFor_spec hw
                      have h5 := inv.closed k o4 ho4 hl' e4 he4 hb4
                      rw [hon4, getD_both hun] at h5
                      cases h5
                  have hold := hst i k hin hk e hki hkw _ _ _ hb hb' (hP k hk hl' fun j hj hjs => by
                    have h1 := hun2 j hj hjs
                    by_cases eji : j = i
                    · subst eji; exact absurd hjs hki
                    · rw [getD_set_ne false (fun hh => eji hh.symm)] at h1; exact h1)
                  rw [valsL_upd (fun s hs hd => ?_)]
                  · exact hold
                  · obtain ⟨ok, hok, -, -, hlsk⟩ := hop k hk
                    obtain ⟨j, hj, hjk, hjd⟩ := hlsk s hs
                    have hji : j = i := hinj j i s hj hin hjd hd
                    subst hji
                    rcases hjk with h | h
                    · exact e h.symm
                    · rw [hkw] at h; cases h
              · refine hsI i d hin (fun hs => ?_) _ _ hb hb' (hI d fun j hj hjs => ?_)
                · have h1 := hd i hin hs
                  have : i < listed.size := by rw [inv.size]; omega
                  simp [this] at h1
                · have h1 := hd j hj hjs
                  by_cases eji : j = i
                  · subst eji; exact getD_both hun
                  · rw [getD_set_ne false (fun hh => eji hh.symm)] at h1; exact h1
            unfold stepG at hs ⊢
            split
            · rename_i hw
              rw [if_pos hw] at hs
              exact Oper.wp_mono hK hs
            · rename_i hw
              rw [if_neg hw] at hs
              exact hK _ _ hs
          · by_cases eji : j = i
            · subst eji; exact getD_both hun
            · cases hlj : listed.getD j false with
              | false => rfl
              | true =>
                have hw2 := use_spec hspI hj hjs hin (fun hh => eji hh.symm) hd
                unfold waitB at hw2
                obtain ⟨o3, ho3, e3, he3, hb3, hon3⟩ := Region.waitsFor_spec hw2
                have h4 := inv.closed j o3 ho3 hlj e3 he3 hb3
                rw [hon3, getD_both hun] at h4
                cases h4
          · have hdl := hwl d hd
            have hdn : d < ops.size := by
              have hd' := hd
              unfold waitB at hd'
              obtain ⟨oj, hoj, e, he, hbd, hon⟩ := Region.waitsFor_spec hd'
              have : oj = o' := Option.some.inj (hoj.symm.trans ho)
              subst this
              have := hback e he hbd
              omega
            refine hP d hdn hdl fun j hj hjs => ?_
            by_cases eji : j = i
            · subst eji; exact getD_both hun
            · cases hlj : listed.getD j false with
              | false => rfl
              | true =>
                have hw2 := ok_spec hok hj hjs (fun hh => eji hh.symm)
                unfold waitB at hw2
                obtain ⟨o3, ho3, e3, he3, hb3, hon3⟩ := Region.waitsFor_spec hw2
                have h4 := inv.closed j o3 ho3 hlj e3 he3 hb3
                rw [hon3, getD_both hun] at h4
                cases h4
        unfold wpOp
        unfold stepG at hgo
        simp only [ho]
        split
        · rename_i hw
          rw [if_pos hw] at hgo
          exact Or.inl hgo
        · rename_i hw
          rw [if_neg hw] at hgo
          exact hgo
  have h0 := key _ (Array.replicate ops.size false) (fun s => a.tmps.getD s undef) { w0 with drawn := w0.drawn + 1 } rfl
    ⟨by simp, fun j oj _ hl => (by rw [getD_replicate_false] at hl; cases hl), fun t _ ht => getD_in (by simpa using ht) (getD_replicate_false _ _)⟩ (Nat.le_refl _) (fun k hk hl => by rw [getD_replicate_false] at hl; cases hl) (fun d _ => hI0 d)
  rw [puts_self] at h0
  have hcount : ((List.range ops.size).filter fun i => !(Array.replicate ops.size false).getD i true).length = ops.size := by
    have : ((List.range ops.size).filter fun i => !(Array.replicate ops.size false).getD i true) = List.range ops.size := by
      apply List.filter_eq_self.2
      intro i hi
      have hi' := List.mem_range.1 hi
      simp [hi']
    rw [this, List.length_range]
  rw [hcount] at h0
  exact h0
theorem wp_region_all0 {id : Nat} {Q : Exit → Act → World → Prop} {a : Act} {w0 : World} (ds : List (Option Nat)) (ls : List (List Nat)) (Ps : List (World → List Value → Prop)) (hm : P.follows .mixedOrders = true)
    (hh : allB ops ds ls = true) (hng : ops.all (fun o => o.guard.isNone) = true)
    (Iv : Nat → World → Prop) (spI us : Nat → List Nat) (hspI : useB ops ops.size spI us = true) (hI0 : ∀ d, Iv d { w0 with drawn := w0.drawn + 1 })
    (Tr : Nat → World → World → Prop) (sp : Nat → List Nat) (hmono : ∀ j w w', Tr j w w' → w.heap.size ≤ w'.heap.size)
    (hst : ∀ j k, j < ops.size → k < ops.size → k ≠ j → k ∉ sp j → waitB ops k j = false → ∀ w w' vs, w0.heap.size ≤ w.heap.size → Tr j w w' → (Ps.getD k fun _ _ => True) w vs → (Ps.getD k fun _ _ => True) w' vs)
    (hsI : ∀ j d, j < ops.size → d ∉ spI j → ∀ w w', w0.heap.size ≤ w.heap.size → Tr j w w' → Iv d w → Iv d w')
    (hstep : ∀ (k : Nat) (o : Oper), k < ops.size → ops[k]? = some o → ∀ (x : Nat → Value) (w : World), w0.heap.size ≤ w.heap.size → (∀ d ∈ us k, Iv d w) → (∀ d, waitB ops k d = true → okB ops ops.size sp k d = true → (Ps.getD d fun _ _ => True) w (valsL x (ls.getD d []))) →
      Oper.wp P o (puts (ds.filterMap _root_.id) x a) w (fun a' w' => ∃ v, a' = (puts (ds.filterMap _root_.id) x a).put o.dst v ∧ Tr k w w' ∧ (Ps.getD k fun _ _ => True) w' (valsL (updO x o.dst v) (ls.getD k []))) Q)
    (hend : ∀ (x : Nat → Value) (w : World), w0.heap.size ≤ w.heap.size → (∀ d, (∀ j, j < ops.size → d ∉ spI j) → Iv d w) → (∀ k, k < ops.size → (∀ j, j < ops.size → k ∉ sp j) → (Ps.getD k fun _ _ => True) w (valsL x (ls.getD k []))) → wpList P ops Q [] (puts (ds.filterMap _root_.id) x a) w) :
    (Code.region id ops true).wp P Q a w0 :=
  wp_region_all ds ls Ps hm hh Iv spI us hspI hI0 Tr sp hmono hst hsI (fun k o hk ho x w hb hI hP => stepG_of (by
    have h1 := Array.all_eq_true'.1 hng o (Array.mem_of_getElem? ho)
    simpa using h1) (hstep k o hk ho x w hb hI hP)) hend
end
end Go.Proofs.YtppaiihcaajkaaaGreat
