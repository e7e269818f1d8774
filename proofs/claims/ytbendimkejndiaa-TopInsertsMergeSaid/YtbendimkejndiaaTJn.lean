/- stream.joined, stream.Merge, stream.Insert, stream.Sort. -/
import Derived.Test.YtbendimkejndiaaTCat
namespace Go.Proofs.Ytbendimkejndiaa
open Go.RowKit
set_option linter.unusedVariables false
set_option linter.unusedSimpArgs false
/-- A stream and an error: no error if and only if p holds and l is consistent; then it is the stream of l. -/
def RetMg (p : Prop) (l : List Evt) (w : World) (e : Ending) (w' : World) : Prop :=
  ∃ (k : Int) (v : Value), e = .returned (.tuple #[v, .int .i64 k]) ∧ Below w.heap.size w w' ∧ (k = 0 ↔ p ∧ Compat l) ∧ (k = 0 → ∃ o, SrtOf l o ∧ Lst w' (fun b => w.heap.size ≤ b ∧ b < w'.heap.size) 5 REv0 v o)
theorem Lst.up {α : Type} {R : World → (Nat → Prop) → List Value → α → Prop} (hR : Rd R) {w w' : World} {sz : Nat} {v : Value} {l : List α} (h : Lst w (· < w.heap.size) sz R v l) (hb : Below w.heap.size w w') : Lst w' (· < w'.heap.size) sz R v l :=
  (h.keep hR (Kp.of_below hb)).more hR fun b (hlt : b < w.heap.size) => Nat.lt_of_lt_of_le hlt hb.size
theorem RetMg.fail {p : Prop} {l : List Evt} {w w' : World} {k : Int} (hk : k ≠ 0) (hn : ¬ (p ∧ Compat l)) (hb : Below w.heap.size w w') : RetMg p l w (.returned (.tuple #[.slice none 0 0, .int .i64 k])) w' :=
  ⟨k, _, rfl, hb, ⟨fun h => absurd h hk, fun h => absurd h hn⟩, fun h => absurd h hk⟩
/-- The rest of a call that returns what another one returns. -/
theorem RetMg.hand {p q : Prop} {l : List Evt} {w w1 w2 : World} {k : Int} {v : Value} (hb : Below w.heap.size w w1) (hb2 : Below w1.heap.size w1 w2) (h : k = 0 ↔ p ∧ Compat l) (ho : k = 0 → ∃ o, SrtOf l o ∧ Lst w2 (fun b => w1.heap.size ≤ b ∧ b < w2.heap.size) 5 REv0 v o) (hq : p ↔ q) :
    RetMg q l w (.returned (.tuple #[v, .int .i64 k])) w2 :=
  ⟨k, v, rfl, bthen hb hb2, by rw [h, hq], fun hk => by
    obtain ⟨o, h1, h2⟩ := ho hk
    exact ⟨o, h1, h2.more rd_Ev0 fun b hb' => ⟨Nat.le_trans hb.size hb'.1, hb'.2⟩⟩⟩
set_option maxRecDepth 100000 in
set_option maxHeartbeats 8000000 in
theorem joined_any (va vb : Value) (a b : List Evt) (w : World) (ha : Lst w (· < w.heap.size) 5 REv0 va a) (hb : Lst w (· < w.heap.size) 5 REv0 vb b) (hl : a.length + b.length ≤ 1000) (hva : ∀ x ∈ a, x.vs.length ≤ 1000) (hvb : ∀ x ∈ b, x.vs.length ≤ 1000) :
    Calls Try.prog 20 #[va, vb] w (RetMg True (a ++ b) w) := by
  have HB0 := hide (below_laid (w := w) (.cells #[va, vb] 22))
  have HCL := hide (cells_lit w [va, vb] 22)
  have HCC := hide (concat_any w.heap.size va vb a b (w.alloc (.cells #[va, vb] 22)) (ha.up rd_Ev0 HB0.out) (hb.up rd_Ev0 HB0.out) (HCL.out 0 _ rfl) (HCL.out 1 _ rfl) hl)
  have HSD := hide (fun (w' : World) v (hv : Lst w' (· < w'.heap.size) 5 REv0 v (a ++ b)) => sorted_any v (a ++ b) w' hv (by simpa using hl) (fun x hx => (List.mem_append.1 hx).elim (hva x) (hvb x)))
  have HLE : Hid (∀ o, SrtOf (a ++ b) o → o.length ≤ 1000) := hide (fun o h => by have := h.2.2; simp at this; omega)
  obtain ⟨A, p, rfl⟩ := ha.form
  obtain ⟨B, q, rfl⟩ := hb.form
  clear ha hb hva hvb HCL
  obtain ⟨l, hl2⟩ : ∃ l, a ++ b = l := ⟨_, rfl⟩
  rw [hl2] at HCC HSD HLE ⊢
  obtain ⟨n, hn⟩ : ∃ n, a.length = n := ⟨_, rfl⟩
  obtain ⟨m, hm⟩ : ∃ n, b.length = n := ⟨_, rfl⟩
  rw [hn, hm] at HCC HB0 ⊢
  clear hl hl2 hn hm
  go_enter Try.func20, Try.ntmps20
  go_wp2_with fail
  refine HCC.out.mono ?_
  rintro en w1 ⟨v1, rfl, hv1, hb1⟩
  have HB1 := hide (bthen HB0.out hb1)
  have HS := hide (HSD.out _ _ hv1)
  clear hv1 hb1 HCC HSD HB0
  go_wp2_with fail
  refine HS.out.mono ?_
  rintro en w2 ⟨hb2, ⟨hc, v2, o, rfl, hs, hls⟩ | ⟨hc, rfl⟩⟩
  · obtain ⟨C, r, rfl⟩ := hls.form
    have HLS := hide hls
    have HSO := hide hs
    have HC := hide hc
    have hol := HLE.out o hs
    obtain ⟨k, hk⟩ : ∃ k, o.length = k := ⟨_, rfl⟩
    have HK := hide hk
    rw [hk] at HLS hol
    have t1 : decide ((4096 : Int) < (k : Int)) = false := decide_eq_false (by omega)
    have hk9 : (k : Int) ≤ 4096 := by omega
    clear hls hs hc hk
    rw [HK.out]
    go_wp2
    go_ret2
    exact RetMg.hand HB1.out hb2 ⟨fun _ => ⟨trivial, HC.out⟩, fun _ => rfl⟩ (fun _ => ⟨o, HSO.out, HLS.out⟩) Iff.rfl
  · have HC := hide hc
    clear hc
    go_wp2
    go_ret2
    exact RetMg.fail (by decide) (fun h => HC.out h.2) (bthen HB1.out hb2)
set_option maxRecDepth 100000 in
set_option maxHeartbeats 8000000 in
theorem merge_any (va vb : Value) (a b : List Evt) (w : World) (ha : Lst w (· < w.heap.size) 5 REv0 va a) (hb : Lst w (· < w.heap.size) 5 REv0 vb b) (hl : a.length + b.length ≤ 1000) (hva : ∀ x ∈ a, x.vs.length ≤ 1000) (hvb : ∀ x ∈ b, x.vs.length ≤ 1000) :
    Calls Try.prog 6 #[va, vb] w (RetMg (Strm a ∧ Strm b) (a ++ b) w) := by
  have HC1 := hide (scheck_any va a w ha)
  have HC2 := hide (fun (w' : World) (h : Below w.heap.size w w') => scheck_any vb b w' (hb.up rd_Ev0 h))
  have HJN := hide (fun (w' : World) (h : Below w.heap.size w w') => joined_any va vb a b w' (ha.up rd_Ev0 h) (hb.up rd_Ev0 h) hl hva hvb)
  have HP1 : Hid (a.length ≤ 4096 ∧ Strm a ↔ Strm a) := hide ⟨fun h => h.2, fun h => ⟨by omega, h⟩⟩
  have HP2 : Hid (b.length ≤ 4096 ∧ Strm b ↔ Strm b) := hide ⟨fun h => h.2, fun h => ⟨by omega, h⟩⟩
  rw [propext HP1.out] at HC1
  rw [propext HP2.out] at HC2
  obtain ⟨A, p, rfl⟩ := ha.form
  obtain ⟨B, q, rfl⟩ := hb.form
  obtain ⟨n, hn⟩ : ∃ n, a.length = n := ⟨_, rfl⟩
  obtain ⟨m, hm⟩ : ∃ n, b.length = n := ⟨_, rfl⟩
  clear ha hb hva hvb HP1 HP2
  rw [hn] at HC1
  rw [hm] at HC2
  rw [hn, hm] at HJN ⊢
  clear hl hn hm
  go_enter Try.func6, Try.ntmps6
  go_wp2_with fail
  refine HC1.out.mono ?_
  rintro en w1 ⟨k1, rfl, hk1, hb1⟩
  by_cases e1 : k1 = 0
  · subst e1
    have HA := hide (hk1.1 rfl)
    have HB1 := hide hb1
    clear hk1 HC1
    go_wp2_with fail
    refine (HC2.out _ HB1.out).mono ?_
    rintro en w2 ⟨k2, rfl, hk2, hb2⟩
    by_cases e2 : k2 = 0
    · subst e2
      have HBB := hide (hk2.1 rfl)
      have HB2 := hide (bthen HB1.out hb2)
      clear hk2 hb2 hb1 HC2
      go_wp2_with fail
      refine (HJN.out _ HB2.out).mono ?_
      rintro en w3 ⟨k, v, rfl, hb3, hk, ho⟩
      have HK := hide hk
      have HO := hide ho
      clear hk ho
      go_wp2
      go_ret2
      exact RetMg.hand HB2.out hb3 HK.out HO.out ⟨fun _ => ⟨HA.out, HBB.out⟩, fun _ => trivial⟩
    · have t2 : (k2 != 0) = true := bne_iff_ne.2 e2
      have HN := hide (show ¬ Strm b from fun h => e2 (hk2.2 h))
      have HE := hide e2
      clear hk2 e2
      go_wp2
      go_ret2
      exact RetMg.fail HE.out (fun h => HN.out h.1.2) (bthen HB1.out hb2)
  · have t1 : (k1 != 0) = true := bne_iff_ne.2 e1
    have HN := hide (show ¬ Strm a from fun h => e1 (hk1.2 h))
    have HE := hide e1
    clear hk1 e1
    go_wp2
    go_ret2
    exact RetMg.fail HE.out (fun h => HN.out h.1.1) hb1
set_option maxRecDepth 100000 in
set_option maxHeartbeats 8000000 in
theorem insert_any (va : Value) (a : List Evt) (x : Evt) (A' : Option Addr) (c' : Nat) (w : World) (ha : Lst w (· < w.heap.size) 5 REv0 va a) (hx : REv0 w (· < w.heap.size) [.int .i64 x.a, .int .i64 x.b, .int .i64 x.c, .int .i64 x.d, .slice A' x.vs.length c'] x) (hl : a.length + 1 ≤ 1000) (hva : ∀ x ∈ a, x.vs.length ≤ 1000) (hvx : x.vs.length ≤ 1000) :
    Calls Try.prog 7 #[va, .agg #[.int .i64 x.a, .int .i64 x.b, .int .i64 x.c, .int .i64 x.d, .slice A' x.vs.length c']] w (RetMg (Strm a ∧ Plcd x) (a ++ [x]) w) := by
  have HC1 := hide (fun (w' : World) (h : Below w.heap.size w w') => scheck_any va a w' (ha.up rd_Ev0 h))
  have HP1 : Hid (a.length ≤ 4096 ∧ Strm a ↔ Strm a) := hide ⟨fun h => h.2, fun h => ⟨by omega, h⟩⟩
  rw [propext HP1.out] at HC1
  have HJN := hide (fun (w' : World) (h : Below w.heap.size w w') => joined_any va (.slice (some ⟨w'.heap.size, 0, none⟩) 1 1) a [x] (w'.alloc (.cells #[.int .i64 x.a, .int .i64 x.b, .int .i64 x.c, .int .i64 x.d, .slice A' x.vs.length c'] 32)) (ha.up rd_Ev0 (bthen h (below_laid _)))
    (by
      refine ⟨⟨_, 1, rfl, Nat.le_refl _, by show 1 ≤ maxLen; unfold maxLen; omega⟩, fun j hj => ?_⟩
      have hj0 : j = 0 := by simpa using hj
      subst hj0
      refine ⟨w'.heap.size, 0, 1, [.int .i64 x.a, .int .i64 x.b, .int .i64 x.c, .int .i64 x.d, .slice A' x.vs.length c'], rfl, by simp, rfl, fun c u hu => ?_, ?_⟩
      · simpa using cells_lit w' [.int .i64 x.a, .int .i64 x.b, .int .i64 x.c, .int .i64 x.d, .slice A' x.vs.length c'] 32 c u hu
      · exact rd_Ev0.more (fun b (hlt : b < w.heap.size) => Nat.lt_of_lt_of_le hlt (bthen h (below_laid _)).size) (rd_Ev0.keep (Kp.of_below (bthen h (below_laid _))) hx)) hl hva (by simpa using hvx))
  have HPL := hide (fun w => placed_any x A' x.vs.length c' w)
  have HX := hide (Bl.new w [.int .i64 x.a, .int .i64 x.b, .int .i64 x.c, .int .i64 x.d, .slice A' x.vs.length c'] 32)
  have HB0 := hide (below_laid (w := w) (.cells #[.int .i64 x.a, .int .i64 x.b, .int .i64 x.c, .int .i64 x.d, .slice A' x.vs.length c'] 32))
  obtain ⟨A, p, rfl⟩ := ha.form
  obtain ⟨n, hn⟩ : ∃ n, a.length = n := ⟨_, rfl⟩
  obtain ⟨m, hm⟩ : ∃ n, x.vs.length = n := ⟨_, rfl⟩
  clear ha hx hva hvx HP1
  rw [hn] at HC1
  rw [hm] at HPL HX HB0
  rw [hn, hm] at HJN ⊢
  clear hl hn hm
  go_enter Try.func7, Try.ntmps7
  go_wp2_with fail
  refine (HC1.out _ HB0.out).mono ?_
  rintro en w1 ⟨k1, rfl, hk1, hb1⟩
  have HB1 := hide (bthen HB0.out hb1)
  have HX1 := hide (HX.out.keep hb1)
  by_cases e1 : k1 = 0
  · subst e1
    have HA := hide (hk1.1 rfl)
    have x0 := HX1.out.c 0 _ rfl
    have x1 := HX1.out.c 1 _ rfl
    have x2 := HX1.out.c 2 _ rfl
    have x3 := HX1.out.c 3 _ rfl
    have x4 := HX1.out.c 4 _ rfl
    clear hk1 HC1 hb1
    go_wp2_with fail
    by_cases hp : Plcd x
    · rw [decide_eq_true hp] at HPL
      have HPX := hide hp
      clear hp
      refine (HPL.out _).mono ?_
      rintro en w2 ⟨rfl, hg2⟩
      have HB2 := hide (bthen HB1.out hg2.below)
      have x0 := keepG hg2 x0
      have x1 := keepG hg2 x1
      have x2 := keepG hg2 x2
      have x3 := keepG hg2 x3
      have x4 := keepG hg2 x4
      go_wp2_with fail
      refine (HJN.out _ HB2.out).mono ?_
      rintro en w3 ⟨k, v, rfl, hb3, hk, ho⟩
      have HK := hide hk
      have HO := hide ho
      clear hk ho
      go_wp2
      go_ret2
      exact RetMg.hand (bthen HB2.out (below_laid _)) hb3 HK.out HO.out ⟨fun _ => ⟨HA.out, HPX.out⟩, fun _ => trivial⟩
    · rw [decide_eq_false hp] at HPL
      have HPX := hide hp
      clear hp
      refine (HPL.out _).mono ?_
      rintro en w2 ⟨rfl, hg2⟩
      go_wp2
      go_ret2
      exact RetMg.fail (by decide) (fun h => HPX.out h.1.2) (bthen HB1.out hg2.below)
  · have t1 : (k1 != 0) = true := bne_iff_ne.2 e1
    have HN := hide (show ¬ Strm a from fun h => e1 (hk1.2 h))
    have HE := hide e1
    clear hk1 e1
    go_wp2
    go_ret2
    exact RetMg.fail HE.out (fun h => HN.out h.1.1) HB1.out
set_option maxRecDepth 100000 in
set_option maxHeartbeats 8000000 in
theorem sort_any (v : Value) (l : List Evt) (w : World) (hv : Lst w (· < w.heap.size) 5 REv0 v l) (hl : l.length ≤ 1000) (hvl : ∀ x ∈ l, x.vs.length ≤ 1000) :
    Calls Try.prog 15 #[v] w (RetMg (∀ x ∈ l, Plcd x) l w) := by
  have HC1 := hide (all_any v l w hv)
  have HP1 : Hid (l.length ≤ 4096 ∧ (∀ x ∈ l, Plcd x) ↔ ∀ x ∈ l, Plcd x) := hide ⟨fun h => h.2, fun h => ⟨by omega, h⟩⟩
  rw [propext HP1.out] at HC1
  have HSD := hide (fun (w' : World) (h : Below w.heap.size w w') => sorted_any v l w' (hv.up rd_Ev0 h) hl hvl)
  obtain ⟨A, p, rfl⟩ := hv.form
  obtain ⟨n, hn⟩ : ∃ n, l.length = n := ⟨_, rfl⟩
  rw [hn] at HC1 HSD ⊢
  obtain ⟨P, hP⟩ : ∃ P : Prop, (∀ x ∈ l, Plcd x) = P := ⟨_, rfl⟩
  rw [hP] at HC1 ⊢
  clear hv hl hvl hn hP HP1
  go_enter Try.func15, Try.ntmps15
  go_wp2_with fail
  refine HC1.out.mono ?_
  rintro en w1 ⟨k1, rfl, hk1, hb1⟩
  by_cases e1 : k1 = 0
  · subst e1
    have HA := hide (hk1.1 rfl)
    have HB1 := hide hb1
    clear hk1 HC1
    go_wp2_with fail
    refine (HSD.out _ HB1.out).mono ?_
    rintro en w2 ⟨hb2, ⟨hc, v2, o, rfl, hs, hls⟩ | ⟨hc, rfl⟩⟩
    · have HLS := hide hls
      have HSO := hide hs
      have HC := hide hc
      clear hls hs hc
      go_wp2
      go_ret2
      exact RetMg.hand HB1.out hb2 (p := True) ⟨fun _ => ⟨trivial, HC.out⟩, fun _ => rfl⟩ (fun _ => ⟨o, HSO.out, HLS.out⟩) ⟨fun _ => HA.out, fun _ => trivial⟩
    · have HC := hide hc
      clear hc
      go_wp2
      go_ret2
      exact RetMg.fail (by decide) (fun h => HC.out h.2) (bthen HB1.out hb2)
  · have t1 : (k1 != 0) = true := bne_iff_ne.2 e1
    have HN := hide (show ¬ P from fun h => e1 (hk1.2 h))
    have HE := hide e1
    clear hk1 e1
    go_wp2
    go_ret2
    exact RetMg.fail HE.out (fun h => HN.out h.1) hb1
end Go.Proofs.Ytbendimkejndiaa
