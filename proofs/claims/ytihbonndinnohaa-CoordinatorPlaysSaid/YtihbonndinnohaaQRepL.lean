/- What a report leaves in memory: one attempt of those that 'with' returns has turned. -/
import Derived.Test.YtihbonndinnohaaQTrig
namespace Go.Proofs.Ytihbonndinnohaa
open Go.RowKit
set_option linter.unusedVariables false
set_option linter.unusedSimpArgs false
section
variable {w w' : World} {B : Nat → Prop} {lo hi i : Nat} {xs ys : List Value} {a : Aq}
theorem AtW.set2 (h : AtW w B lo hi xs i a) {p : Addr} (hp : p.block < lo ∨ hi ≤ p.block) (hB : ¬ B p.block) (x : Value) : AtW (w.setCell p x) B lo hi xs i a := by
  obtain ⟨v, u, t, s1, s2, cr, co, h1, h2, h3, k0, k1, k2, k3, o1, l1, o2, l2, o3, l3, e1, e2, hq⟩ := h
  have hk : Kp B w (w.setCell p x) := Kp.set p x fun b hb => by rintro rfl; exact hB hb
  have ne : ∀ {base : Nat} {te : TypeId} {sz n top : Nat} {v : Value} {zs : List Value}, lo ≤ base → top ≤ hi → w.ownsRow base te sz v n zs → (∀ k, v.ownBlock = some k → k < top) → v.ownBlock ≠ some p.block := fun hb ht ho hl e => by
    have := (ho.lt _ e).1
    have := hl _ e
    omega
  exact ⟨v, u, t, s1, s2, cr, co, h1, h2, h3, k0, k1, k2, k3, own_set o1 (ne (Nat.le_refl _) (by omega) o1 l1) x, l1, own_set o2 (ne h1 h3 o2 l2) x, l2, own_set o3 (ne (by omega) (Nat.le_refl _) o3 l3) x, l3, e1.keep rd_Rq hk, e2.keep rd_Oq hk, hq⟩
end
theorem WthV.step {w w' : World} {B : Nat → Prop} {c : Cq} {V : Value} {xs : List Value} {s : Nat → Nat} (h : WthV w B w' c V xs s) : ∀ d m, m + d ≤ c.atts.length → s m ≤ s (m + d) := by
  intro d
  induction d with
  | zero => intro m _; exact Nat.le_refl _
  | succ d ih => intro m hm; exact Nat.le_trans (ih m (by omega)) (h.2.2.1 (m + d) (by omega)).1
theorem own_some {w : World} {base : Nat} {te : TypeId} {sz n : Nat} {v : Value} {xs : List Value} (h : w.ownsRow base te sz v n xs) (hn : 0 < n) : ∃ g c, v = .slice (some ⟨g, 0, none⟩) n c ∧ base ≤ g ∧ g < w.heap.size := by
  rcases h.2 with ⟨-, h0⟩ | ⟨g, cap, cur, e, hb, hg, -⟩
  · omega
  · exact ⟨g, cap, e, hb, (Array.getElem?_eq_some_iff.1 hg).1⟩
theorem rep_mem {w w' : World} {L : Nat → Prop} {c : Cq} {V : Value} {xs : List Value} {s : Nat → Nat} (h : WthV w L w' c V xs s) (hc : chkQ c = 0) (hL : ∀ b, L b → b < w.heap.size) {i : Nat} (hi : i < c.atts.length) {k : Nat} (hk : k < (attQ c i).hv.length) :
    ∃ g q go c2 gt c3 y1 y2, V = .slice (some ⟨g, 0, none⟩) c.atts.length q ∧ w'.cell? ⟨g, i * 4 + 2, none⟩ = some (.slice (some ⟨go, 0, none⟩) (attQ c i).ops.length c2) ∧ w'.cell? ⟨g, i * 4 + 3, none⟩ = some (.slice (some ⟨gt, 0, none⟩) (attQ c i).hv.length c3) ∧
      (∀ j, w'.frozen? ⟨go, j, none⟩ = false) ∧ (∀ j, w'.frozen? ⟨gt, j, none⟩ = false) ∧ w'.cell? ⟨gt, k, none⟩ = some (.bool ((attQ c i).hv.getD k false)) ∧ w'.cell? ⟨go, k * 2, none⟩ = some y1 ∧ w'.cell? ⟨go, k * 2 + 1, none⟩ = some y2 ∧
      w.heap.size ≤ g ∧ w.heap.size ≤ go ∧ w.heap.size ≤ gt ∧ g < w'.heap.size ∧ go < w'.heap.size ∧ gt < w'.heap.size ∧ g ≠ go ∧ g ≠ gt ∧ go ≠ gt ∧
      ∀ (w5 w7 : World) (v1 v2 : Value) (o : Oq) (Z : Nat → Prop), Below w'.heap.size w' w5 → Below (w5.setCell ⟨gt, k, none⟩ (.bool true)).heap.size (w5.setCell ⟨gt, k, none⟩ (.bool true)) w7 →
        Lst w7 (fun b => w5.heap.size ≤ b ∧ b < w7.heap.size) 1 RIq v1 o.marks → Lst w7 (fun b => w5.heap.size ≤ b ∧ b < w7.heap.size) 8 RKq v2 o.engs → o.marks.length ≤ 140737488351232 → o.engs.length ≤ 140737488351232 →
        (∀ b, L b → Z b) → (∀ b, w.heap.size ≤ b → b < w7.heap.size → Z b) →
        Lst ((w7.setCell ⟨go, k * 2, none⟩ v1).setCell ⟨go, k * 2 + 1, none⟩ v2) Z 4 RAq V (c.atts.set i (repA (attQ c i) k o)) := by
  obtain ⟨-, -, -, -, hm5, hq6⟩ := chk0 hc
  have h8 := err0 (hq6 i hi)
  obtain ⟨hown, hs0, hel, hsz, h0, hbel⟩ := id h
  obtain ⟨hsi, v, u, t, s1, s2, cr, co, q1, q2, q3, k0, k1, k2, k3, o1, l1, o2, l2, o3, l3, e1, e2, hq⟩ := hel i hi
  rw [attQ_get hi] at hk h8 ⊢
  obtain ⟨a, ha⟩ : ∃ a, c.atts[i] = a := ⟨_, rfl⟩
  rw [ha] at hk h8 k0 o1 o2 o3 e1 e2 hq ⊢
  obtain ⟨g, cV, rfl, hg1, hg2⟩ := own_some hown (by omega)
  obtain ⟨go, c2, rfl, hgo1, hgo2⟩ := own_some o2 (by omega)
  obtain ⟨gt, c3, rfl, hgt1, hgt2⟩ := own_some o3 (by omega)
  have hgs := hs0 g rfl
  have hgos := l2 go rfl
  have hgts := l3 gt rfl
  have hmi := h.mono i (Nat.le_of_lt hi)
  have hto : ∀ j, i < j → j ≤ c.atts.length → s (i + 1) ≤ s j := fun j h1 h2 => by
    have := h.step (j - (i + 1)) (i + 1) (by omega)
    rwa [show i + 1 + (j - (i + 1)) = j by omega] at this
  have hfrom : ∀ j, j < i → s (j + 1) ≤ s i := fun j h1 => by
    have := h.step (i - (j + 1)) (j + 1) (by omega)
    rwa [show j + 1 + (i - (j + 1)) = i by omega] at this
  have hcok : k * 2 + 1 < co.length := by rw [o2.1]; omega
  have hkb : (bools a.hv)[k]? = some (.bool (a.hv.getD k false)) := by simp [bools, List.getD_eq_getElem?_getD, hk]
  refine ⟨g, cV, go, c2, gt, c3, co[k * 2], co[k * 2 + 1], rfl, own_cell hown k2, own_cell hown k3, own_free o2, own_free o3, own_cell o3 hkb, own_cell o2 (List.getElem?_eq_getElem (by omega)), own_cell o2 (List.getElem?_eq_getElem hcok), hg1, by omega, by omega, hg2, hgo2, hgt2, by omega, by omega, by omega, ?_⟩
  intro w5 w7 x1 x2 o Z hb5 hb7 hm he hlm hle hZL hZn
  have z5 := hb5.size
  have hss : ∀ (W : World) (p : Addr) (x : Value), (W.setCell p x).heap.size = W.heap.size := by intro W p x; simp [World.setCell]
  have z7 := hb7.size
  rw [hss] at z7
  have z8 : ((w7.setCell ⟨go, k * 2, none⟩ x1).setCell ⟨go, k * 2 + 1, none⟩ x2).heap.size = w7.heap.size := by rw [hss, hss]
  have K : Kp L w' ((w7.setCell ⟨go, k * 2, none⟩ x1).setCell ⟨go, k * 2 + 1, none⟩ x2) := by
    have hgo : ∀ b, L b → b ≠ go := fun b hb => by have := hL b hb; omega
    have hgt : ∀ b, L b → b ≠ gt := fun b hb => by have := hL b hb; omega
    exact (Kp.of_below hb5).trans ((Kp.set ⟨gt, k, none⟩ _ hgt).trans ((Kp.of_below hb7).trans ((Kp.set ⟨go, k * 2, none⟩ _ hgo).trans (Kp.set ⟨go, k * 2 + 1, none⟩ _ hgo))))
  -- a row that is neither of the two
  have row : ∀ {base : Nat} {te : TypeId} {sz n : Nat} {v' : Value} {zs : List Value}, v'.ownBlock ≠ some gt → v'.ownBlock ≠ some go → w'.ownsRow base te sz v' n zs → ((w7.setCell ⟨go, k * 2, none⟩ x1).setCell ⟨go, k * 2 + 1, none⟩ x2).ownsRow base te sz v' n zs := fun n1 n2 ho =>
    own_set (p := ⟨go, k * 2 + 1, none⟩) (own_set (p := ⟨go, k * 2, none⟩) (own_keep (own_set (p := ⟨gt, k, none⟩) (own_keep ho hb5) n1 _) hb7) n2 _) n2 _
  have rV := row (v' := .slice (some ⟨g, 0, none⟩) c.atts.length cV) (by show some g ≠ some gt; intro e; injection e; omega) (by show some g ≠ some go; intro e; injection e; omega) hown
  have rv := row (fun e => by have := l1 _ e; omega) (fun e => by have := l1 _ e; omega) o1
  have ru := own_put (own_put (own_keep (own_set (p := ⟨gt, k, none⟩) (own_keep o2 hb5) (by show some go ≠ some gt; intro e; injection e; omega) (.bool true)) hb7) (k := k * 2) (by omega) x1) (k := k * 2 + 1) (by omega) x2
  have rt := own_set (p := ⟨go, k * 2 + 1, none⟩) (own_set (p := ⟨go, k * 2, none⟩) (own_keep (own_put (own_keep o3 hb5) (k := k) (by omega) (.bool true)) hb7) (by show some gt ≠ some go; intro e; injection e; omega) x1) (by show some gt ≠ some go; intro e; injection e; omega) x2
  have hbt : (bools a.hv).set k (.bool true) = bools (a.hv.set k true) := by simp [bools, List.map_set]
  rw [hbt] at rt
  have hms := small0 hc
  refine row_lst (by decide) (by rw [List.length_set]) (by rw [List.length_set]; unfold maxLen; omega) rV (fun j hj => ?_) (fun b hb => by have e : some g = some b := hb; injection e with e; subst e; exact hZn g hg1 (by omega))
  rw [List.length_set] at hj
  by_cases e : i = j
  · subst e
    rw [List.getElem_set_self]
    refine ⟨[.int .i64 a.num, v, .slice (some ⟨go, 0, none⟩) a.ops.length c2, .slice (some ⟨gt, 0, none⟩) a.hv.length c3], rfl, ?_, v, _, _, rfl, ?_, ?_, ?_, hq⟩
    · intro c' y hy
      match c', hy with
      | 0, hy => simp at hy; subst hy; simpa using k0
      | 1, hy => simp at hy; subst hy; exact k1
      | 2, hy => simp at hy; subst hy; exact k2
      | 3, hy => simp at hy; subst hy; exact k3
    · exact els_lst rd_Rq (by decide) rfl (by show a.rds.length ≤ maxLen; unfold maxLen; omega) rv (e1.keep rd_Rq K) hZL (fun b hb => hZn b (by have := (o1.lt b hb).1; omega) (by have := l1 b hb; omega))
    · refine row_lst (l := a.ops.set k o) (by decide) (by rw [List.length_set]) (by rw [List.length_set]; unfold maxLen; omega) ru (fun j hj => ?_) (fun b hb => by have e : some go = some b := hb; injection e with e; subst e; exact hZn go (by omega) (by omega))
      rw [List.length_set] at hj
      by_cases ek : k = j
      · subst ek
        rw [List.getElem_set_self]
        have kz : Kp (fun b => w5.heap.size ≤ b ∧ b < w7.heap.size) w7 ((w7.setCell ⟨go, k * 2, none⟩ x1).setCell ⟨go, k * 2 + 1, none⟩ x2) := by
          have hgo : ∀ b, (w5.heap.size ≤ b ∧ b < w7.heap.size) → b ≠ go := fun b hb => by omega
          exact (Kp.set ⟨go, k * 2, none⟩ _ hgo).trans (Kp.set ⟨go, k * 2 + 1, none⟩ _ hgo)
        refine ⟨[x1, x2], rfl, ?_, x1, x2, rfl, (hm.keep rd_Iq kz).more rd_Iq (fun b hb => hZn b (by omega) hb.2), (he.keep rd_Kq kz).more rd_Kq (fun b hb => hZn b (by omega) hb.2), hlm, hle⟩
        intro c' y hy
        match c', hy with
        | 0, hy =>
          simp at hy; subst hy
          rw [List.getElem?_set_ne (by omega), Nat.add_zero, List.getElem?_set_self (by omega)]
        | 1, hy =>
          simp at hy; subst hy
          rw [List.getElem?_set_self (by rw [List.length_set]; omega)]
      · rw [List.getElem_set_ne ek]
        obtain ⟨zs, z1, z2, z3⟩ := e2 j hj
        refine ⟨zs, z1, fun c' y hy => ?_, rd_Oq.more hZL (rd_Oq.keep K z3)⟩
        have hc' : c' < 2 := by have := (List.getElem?_eq_some_iff.1 hy).1; omega
        rw [List.getElem?_set_ne (by omega), List.getElem?_set_ne (by omega)]
        exact z2 c' y hy
    · refine els_lst (l := a.hv.set k true) (B := L) rd_Bq (by decide) (by rw [List.length_set]) (by rw [List.length_set]; unfold maxLen; omega) rt ?_ hZL (fun b hb => by have e : some gt = some b := hb; injection e with e; subst e; exact hZn gt (by omega) (by omega))
      intro j hj
      refine ⟨[.bool (a.hv.set k true)[j]], rfl, fun c' y hy => ?_, rfl⟩
      match c', hy with
      | 0, hy => simp at hy; subst hy; rw [Nat.mul_one, Nat.add_zero]; simp only [bools, List.getElem?_map]; rw [List.getElem?_eq_getElem hj]; rfl
  · rw [List.getElem_set_ne e]
    obtain ⟨hsj, haj⟩ := hel j hj
    have hlo : gt < s j ∨ s (j + 1) ≤ gt := by
      rcases Nat.lt_or_ge i j with hij | hij
      · have := hto j hij (by omega); left; omega
      · have := hfrom j (by omega); right; omega
    have hlo2 : go < s j ∨ s (j + 1) ≤ go := by
      rcases Nat.lt_or_ge i j with hij | hij
      · have := hto j hij (by omega); left; omega
      · have := hfrom j (by omega); right; omega
    have hj0 := h.mono j (Nat.le_of_lt hj)
    have a5 := (haj.keep hb5 (Kp.of_below hb5)).set2 (p := ⟨gt, k, none⟩) hlo (fun h => by have := hL gt h; omega) (.bool true)
    have a8 := ((a5.keep hb7 (Kp.of_below hb7)).set2 (p := ⟨go, k * 2, none⟩) hlo2 (fun h => by have := hL go h; omega) x1).set2 (p := ⟨go, k * 2 + 1, none⟩) hlo2 (fun h => by have := hL go h; omega) x2
    have hm8 := hms _ (List.getElem_mem hj)
    exact a8.reads hZL (fun b h1 h2 => hZn b (by omega) (by rw [z8] at h2; exact h2)) (by unfold maxLen; omega)
end Go.Proofs.Ytihbonndinnohaa
