/- Count and Depth of the reference, Few. FewEnv of the reference. -/
import Derived.Test.YtkcbjnhphekadaaFFoldC
namespace Go.Proofs.Ytkcbjnhphekadaa
open Go.RowKit
set_option linter.unusedVariables false
set_option linter.unusedSimpArgs false
mutual
def cntT : Tr → Nat
  | .mk _ args => cntL 1 args
def cntL : Nat → List Tr → Nat
  | n, [] => n
  | n, t :: l => if n ≤ 200 then cntL (n + cntT t) l else n
end
theorem cntL_le {l : List Tr} (ih : ∀ a ∈ l, cntT a ≤ nodesT a) : ∀ n, cntL n l ≤ n + nodesL l := by
  induction l with
  | nil => intro n; rw [cntL, nodesL]; exact Nat.le_refl _
  | cons t l ihl =>
    intro n
    have h1 := ih t (by simp)
    have h2 := ihl (fun a ha => ih a (by simp [ha])) (n + cntT t)
    rw [cntL, nodesL]
    split <;> omega
theorem cnt_le : ∀ t : Tr, cntT t ≤ nodesT t := by
  refine tr_ind fun d args ih => ?_
  rw [cntT, nodesT]
  have := cntL_le ih 1
  omega
theorem cntL_few {l : List Tr} (ih : ∀ a ∈ l, cntT a ≤ 200 → nodesT a = cntT a) : ∀ n, cntL n l ≤ 200 → cntL n l = n + nodesL l := by
  induction l with
  | nil => intro n _; rw [cntL, nodesL]; rfl
  | cons t l ihl =>
    intro n h
    rw [cntL] at h ⊢
    rw [nodesL]
    by_cases hn : n ≤ 200
    · rw [if_pos hn] at h ⊢
      have h2 := ihl (fun a ha => ih a (by simp [ha])) _ h
      have h3 := ih t (by simp) (by omega)
      omega
    · rw [if_neg hn] at h; omega
theorem cnt_few : ∀ t : Tr, cntT t ≤ 200 → nodesT t = cntT t := by
  refine tr_ind fun d args ih h => ?_
  rw [cntT] at h ⊢
  rw [nodesT, cntL_few ih 1 h]
  omega
theorem cntL_drop {l : List Tr} {j n : Nat} (h : j < l.length) : cntL n (l.drop j) = if n ≤ 200 then cntL (n + cntT l[j]) (l.drop (j + 1)) else n := by
  rw [List.drop_eq_getElem_cons h, cntL]
theorem cntL_far {l : List Tr} {n : Nat} (h : ¬ n ≤ 200) : cntL n l = n := by
  cases l with
  | nil => rw [cntL]
  | cons t l => rw [cntL, if_neg h]
def fewB (t : Tr) : Bool := decide (cntT t ≤ 200) && decide (depthT t ≤ 100)
set_option maxRecDepth 100000 in
set_option maxHeartbeats 8000000 in
theorem cnt_any : ∀ (t : Tr) (w : World) (xs : List Value), Tx w xs t → nodesT t ≤ 2000000 → Calls Try.prog 15 #[.agg xs.toArray, .int .i64 200] w (Ret (.int .i64 (cntT t : Int)) w) := by
  refine tr_ind fun d args ih => ?_
  intro w xs h hn
  obtain ⟨v, rfl, hl, hd⟩ := RTx.out h
  obtain ⟨A, cap, rfl⟩ := hl.form
  have hN : nodesT (.mk d args) = nodesL args + 1 := by rw [nodesT]
  rw [hN] at hn
  have HL := hide hl
  have HIH := hide ih
  have hm := hl.len
  unfold maxLen at hm
  obtain ⟨m, hmm⟩ : ∃ m, args.length = m := ⟨_, rfl⟩
  have HM := hide hmm
  rw [hmm] at HL hm ⊢
  obtain ⟨N, hNN⟩ : ∃ n, nodesL args = n := ⟨_, rfl⟩
  have HN := hide hNN
  rw [hNN] at hn
  obtain ⟨R, hR⟩ : ∃ r, cntT (.mk d args) = r := ⟨_, rfl⟩
  have HR := hide (show cntL 1 args = R by rw [← hR, cntT])
  rw [hR]
  have hX := cells_lit w ([.int .i64 d.op, .slice A m cap, .int .i64 d.var, .int .i64 d.field, .int .i64 d.kind, .int .i64 d.val.q, .int .i64 d.val.n, .string d.val.s]) 30
  have HX := hide (show ∀ wr, Below w.heap.size (w.alloc (.cells ([.int .i64 d.op, .slice A m cap, .int .i64 d.var, .int .i64 d.field, .int .i64 d.kind, .int .i64 d.val.q, .int .i64 d.val.n, .string d.val.s]).toArray 30)) wr → True from fun _ _ => trivial)
  have HB := hide (below_laid (w := w) (.cells ([.int .i64 d.op, .slice A m cap, .int .i64 d.var, .int .i64 d.field, .int .i64 d.kind, .int .i64 d.val.q, .int .i64 d.val.n, .string d.val.s]).toArray 30))
  have HBX := hide (Bxs.new w ([.int .i64 d.op, .slice A m cap, .int .i64 d.var, .int .i64 d.field, .int .i64 d.kind, .int .i64 d.val.q, .int .i64 d.val.n, .string d.val.s]) 30)
  clear h hl hd ih hmm hNN hN hR hX HX
  go_enter Try.func15, Try.ntmps15
  go_wp2_with fail
  have hsz0 : (w.alloc (.cells #[.int .i64 d.op, .slice A m cap, .int .i64 d.var, .int .i64 d.field, .int .i64 d.kind, .int .i64 d.val.q, .int .i64 d.val.n, .string d.val.s] 30)).heap.size = w.heap.size + 1 := by simp
  obtain ⟨w0, hw0⟩ : ∃ w0, w.alloc (.cells #[.int .i64 d.op, .slice A m cap, .int .i64 d.var, .int .i64 d.field, .int .i64 d.kind, .int .i64 d.val.q, .int .i64 d.val.n, .string d.val.s] 30) = w0 := ⟨_, rfl⟩
  have e0 : w.alloc (.cells ([.int .i64 d.op, .slice A m cap, .int .i64 d.var, .int .i64 d.field, .int .i64 d.kind, .int .i64 d.val.q, .int .i64 d.val.n, .string d.val.s]).toArray 30) = w0 := hw0
  first | rw [hw0] | rw [e0] | skip
  rw [e0] at HB HBX
  rw [hw0] at hsz0
  have HSZ := hide hsz0
  clear e0 hw0 hsz0
  go_loopw [5, 6] (fun a i wr => ∃ j n : Nat, j ≤ m ∧ i = .int .i64 j ∧ a = .int .i64 n ∧ Hid (cntL n (args.drop j) = R ∧ n ≤ nodesL (args.take j) + 1) ∧ Hid (Below w0.heap.size w0 wr)) (fun _ i _ => m - (intOf i).toNat)
  case atStart => exact ⟨0, 1, Nat.zero_le _, rfl, rfl, hide ⟨by simpa using HR.out, by omega⟩, hide (Below.refl _ _)⟩
  case round =>
    obtain ⟨j, n, hj, rfl, rfl, HRE, HW0⟩ := hrel
    have HW := hide (bthen HB.out HW0.out)
    replace HBX := hide (HBX.out.keep HW0.out)
    have a1 := HBX.out 1 _ rfl
    have hnl := HRE.out.2
    have hnt := nodesL_le (l := args) (j := j)
    rw [HN.out] at hnt
    have hn1 : n ≤ N + 1 := by omega
    by_cases hlt : j < m
    · have t1 : decide ((j : Int) < (m : Int)) = true := decide_eq_true (by omega)
      have t1' : decide (j < m) = true := decide_eq_true hlt
      by_cases hn2 : n ≤ 200
      · have t2 : decide ((n : Int) ≤ 200) = true := decide_eq_true (by omega)
        have t2' : decide (n ≤ 200) = true := decide_eq_true hn2
        have hja : j < args.length := by rw [HM.out]; exact hlt
        obtain ⟨g, off, ys, e2, hg, hyl, hc, hr⟩ := Lst.at_ HL.out hja
        subst e2
        have hgw : g < w.heap.size := hg
        have HC := hide (HIH.out args[j] (List.getElem_mem hja))
        have HDR := hide (show cntL (n + cntT args[j]) (args.drop (j + 1)) = R by rw [← HRE.out.1, cntL_drop hja, if_pos hn2])
        have hle := cnt_le args[j]
        have hnk := nodesL_take hja
        have hnt2 := nodesL_le (l := args) (j := j + 1)
        rw [HN.out] at hnt2
        obtain ⟨t, ht⟩ : ∃ t, args[j] = t := ⟨_, rfl⟩
        rw [ht] at hr HC HDR hle hnk
        clear ht
        have HCW := hide (fun w' h' => HC.out w' ys h' (by omega))
        have hcb : n + cntT t ≤ nodesL (args.take (j + 1)) + 1 := by omega
        have HCB := hide hcb
        obtain ⟨c, hcc⟩ : ∃ c, cntT t = c := ⟨_, rfl⟩
        rw [hcc] at HCW HDR HCB hle hcb
        have hc1 : c ≤ 2000000 := by omega
        clear hnk hcb hle hcc hnt hnt2 hnl HC
        obtain ⟨d2, l2⟩ := t
        obtain ⟨v2, rfl, hl2, hd2⟩ := RTx.out hr
        obtain ⟨A2, cap2, rfl⟩ := hl2.form
        have k0 := keep1 HW.out (hc 0 _ rfl)
        have k1 := keep1 HW.out (hc 1 _ rfl)
        have k2 := keep1 HW.out (hc 2 _ rfl)
        have k3 := keep1 HW.out (hc 3 _ rfl)
        have k4 := keep1 HW.out (hc 4 _ rfl)
        have k5 := keep1 HW.out (hc 5 _ rfl)
        have k6 := keep1 HW.out (hc 6 _ rfl)
        have k7 := keep1 HW.out (hc 7 _ rfl)
        rw [Nat.add_zero] at k0
        have hu0 : (0 : Int) ≤ (j : Int) := by omega
        have hu1 : (j : Int) < (m : Int) := by omega
        have HTX : Hid (Tx w (cellsX d2 (.slice A2 l2.length cap2)) (.mk d2 l2)) := hide hr
        obtain ⟨n2, hn2⟩ : ∃ n, l2.length = n := ⟨_, rfl⟩
        rw [hn2] at k1 HTX
        have HBB := hide (below_laid (w := wr) (.cells ([.int .i64 d2.op, .slice A2 n2 cap2, .int .i64 d2.var, .int .i64 d2.field, .int .i64 d2.kind, .int .i64 d2.val.q, .int .i64 d2.val.n, .string d2.val.s]).toArray 30))
        rw [hn2] at HCW
        replace HCW := hide (HCW.out wr (HTX.out.grow HW.out))
        clear hc hyl hr hl2 hd2 hg hn2 HTX
        go_wp2_with fail
        refine HCW.out.mono ?_
        rintro r w3 ⟨rfl, hb3⟩
        have HW3 := hide (bthen HW0.out hb3)
        clear k0 k1 k2 k3 k4 k5 k6 k7 hb3 HCW HW HW0
        go_wp2
        go_roundw
        case rel => exact ⟨j + 1, n + c, by omega, by go_num, by go_num, hide ⟨HDR.out, HCB.out⟩, HW3⟩
        case measure => simp [intOf]; omega
      · have t2 : decide ((n : Int) ≤ 200) = false := decide_eq_false (by omega)
        have t2' : decide (n ≤ 200) = false := decide_eq_false hn2
        have HQ := hide (show n = R by rw [← HRE.out.1, cntL_far hn2])
        clear HRE hnl hnt
        go_wp2
        go_ret
        exact Ret.int (by rw [HQ.out]) HW.out
    · have t1 : decide ((j : Int) < (m : Int)) = false := decide_eq_false (by omega)
      have t1' : decide (j < m) = false := decide_eq_false hlt
      obtain rfl : j = m := by omega
      have hta : args.drop j = [] := List.drop_of_length_le (by rw [HM.out]; exact Nat.le_refl _)
      have HQ := hide (show n = R by rw [← HRE.out.1, hta, cntL])
      clear HRE hnl hnt hta
      go_wp2
      go_ret
      exact Ret.int (by rw [HQ.out]) HW.out
set_option maxRecDepth 100000 in
set_option maxHeartbeats 8000000 in
theorem dep_any : ∀ (t : Tr) (w : World) (xs : List Value), Tx w xs t → nodesT t ≤ 1000 → Calls Try.prog 16 #[.agg xs.toArray] w (Ret (.int .i64 (depthT t : Int)) w) := by
  refine tr_ind fun d args ih => ?_
  intro w xs h hn
  obtain ⟨v, rfl, hl, hd⟩ := RTx.out h
  obtain ⟨A, cap, rfl⟩ := hl.form
  have hN : nodesT (.mk d args) = nodesL args + 1 := by rw [nodesT]
  have hD : depthT (.mk d args) = depthL args + 1 := by rw [depthT]
  have hdn := depth_nodes (.mk d args)
  rw [hN] at hn hdn
  rw [hD] at hdn
  rw [hD]
  have HL := hide hl
  have HIH := hide ih
  have hm := hl.len
  unfold maxLen at hm
  obtain ⟨m, hmm⟩ : ∃ m, args.length = m := ⟨_, rfl⟩
  have HM := hide hmm
  rw [hmm] at HL hm ⊢
  obtain ⟨N, hNN⟩ : ∃ n, nodesL args = n := ⟨_, rfl⟩
  obtain ⟨D, hDD⟩ : ∃ n, depthL args = n := ⟨_, rfl⟩
  have HND := hide (And.intro hNN hDD)
  rw [hNN] at hn hdn
  rw [hDD] at hdn ⊢
  have HB := hide (below_laid (w := w) (.cells ([.int .i64 d.op, .slice A m cap, .int .i64 d.var, .int .i64 d.field, .int .i64 d.kind, .int .i64 d.val.q, .int .i64 d.val.n, .string d.val.s]).toArray 30))
  have HBX := hide (Bxs.new w ([.int .i64 d.op, .slice A m cap, .int .i64 d.var, .int .i64 d.field, .int .i64 d.kind, .int .i64 d.val.q, .int .i64 d.val.n, .string d.val.s]) 30)
  clear h hl hd ih hmm hNN hDD hN hD
  go_enter Try.func16, Try.ntmps16
  go_wp2_with fail
  have hsz0 : (w.alloc (.cells #[.int .i64 d.op, .slice A m cap, .int .i64 d.var, .int .i64 d.field, .int .i64 d.kind, .int .i64 d.val.q, .int .i64 d.val.n, .string d.val.s] 30)).heap.size = w.heap.size + 1 := by simp
  obtain ⟨w0, hw0⟩ : ∃ w0, w.alloc (.cells #[.int .i64 d.op, .slice A m cap, .int .i64 d.var, .int .i64 d.field, .int .i64 d.kind, .int .i64 d.val.q, .int .i64 d.val.n, .string d.val.s] 30) = w0 := ⟨_, rfl⟩
  have e0 : w.alloc (.cells ([.int .i64 d.op, .slice A m cap, .int .i64 d.var, .int .i64 d.field, .int .i64 d.kind, .int .i64 d.val.q, .int .i64 d.val.n, .string d.val.s]).toArray 30) = w0 := hw0
  first | rw [hw0] | rw [e0] | skip
  rw [e0] at HB HBX
  clear e0 hw0 hsz0
  go_loopw [3, 4] (fun a i wr => ∃ j : Nat, j ≤ m ∧ i = .int .i64 j ∧ a = .int .i64 (depthL (args.take j) : Int) ∧ Hid (Below w0.heap.size w0 wr)) (fun _ i _ => m - (intOf i).toNat)
  case atStart => exact ⟨0, Nat.zero_le _, rfl, by simp [depthL], hide (Below.refl _ _)⟩
  case round =>
    obtain ⟨j, hj, rfl, rfl, HW0⟩ := hrel
    have HW := hide (bthen HB.out HW0.out)
    replace HBX := hide (HBX.out.keep HW0.out)
    have a1 := HBX.out 1 _ rfl
    by_cases hlt : j < m
    · have t1 : decide ((j : Int) < (m : Int)) = true := decide_eq_true (by omega)
      have t1' : decide (j < m) = true := decide_eq_true hlt
      have hja : j < args.length := by rw [HM.out]; exact hlt
      obtain ⟨g, off, ys, e2, hg, hyl, hc, hr⟩ := Lst.at_ HL.out hja
      subst e2
      have hgw : g < w.heap.size := hg
      have HC := hide (HIH.out args[j] (List.getElem_mem hja))
      have HDT := hide (depthL_take hja)
      have hnk := nodesL_take hja
      have hnt := nodesL_le (l := args) (j := j + 1)
      rw [HND.out.1] at hnt
      have hde := depth_nodes args[j]
      obtain ⟨t, ht⟩ : ∃ t, args[j] = t := ⟨_, rfl⟩
      rw [ht] at hr HC HDT hnk hde
      clear ht
      have HCW := hide (fun w' h' => HC.out w' ys h' (by omega))
      obtain ⟨q, hq⟩ : ∃ n, depthT t = n := ⟨_, rfl⟩
      rw [hq] at HCW HDT hde
      have hq1 : q ≤ 1000 := by omega
      have hbd : depthL (args.take j) ≤ 1000 := by
        have h1 := depth_nodes (.mk d (args.take j))
        have h2 := nodesL_le (l := args) (j := j)
        rw [HND.out.1] at h2
        rw [depthT, nodesT] at h1
        omega
      obtain ⟨b, hb⟩ : ∃ n, depthL (args.take j) = n := ⟨_, rfl⟩
      rw [hb] at HDT hbd ⊢
      clear hnk hnt hde hq HC hb
      obtain ⟨d2, l2⟩ := t
      obtain ⟨v2, rfl, hl2, hd2⟩ := RTx.out hr
      obtain ⟨A2, cap2, rfl⟩ := hl2.form
      have k0 := keep1 HW.out (hc 0 _ rfl)
      have k1 := keep1 HW.out (hc 1 _ rfl)
      have k2 := keep1 HW.out (hc 2 _ rfl)
      have k3 := keep1 HW.out (hc 3 _ rfl)
      have k4 := keep1 HW.out (hc 4 _ rfl)
      have k5 := keep1 HW.out (hc 5 _ rfl)
      have k6 := keep1 HW.out (hc 6 _ rfl)
      have k7 := keep1 HW.out (hc 7 _ rfl)
      rw [Nat.add_zero] at k0
      have hu0 : (0 : Int) ≤ (j : Int) := by omega
      have hu1 : (j : Int) < (m : Int) := by omega
      have HTX : Hid (Tx w (cellsX d2 (.slice A2 l2.length cap2)) (.mk d2 l2)) := hide hr
      obtain ⟨n2, hn2⟩ : ∃ n, l2.length = n := ⟨_, rfl⟩
      rw [hn2] at k1 HTX
      rw [hn2] at HCW
      replace HCW := hide (HCW.out wr (HTX.out.grow HW.out))
      clear hc hyl hr hl2 hd2 hg hn2 HTX
      go_wp2_with fail
      refine HCW.out.mono ?_
      rintro r w3 ⟨rfl, hb3⟩
      have HW3 := hide (bthen HW0.out hb3)
      clear k0 k1 k2 k3 k4 k5 k6 k7 hb3 HCW HW HW0
      by_cases hm3 : b < q
      · have t5 : decide ((b : Int) < (q : Int)) = true := decide_eq_true (by omega)
        have t6 : decide (b < q) = true := decide_eq_true hm3
        go_wp2
        go_roundw
        case rel => exact ⟨j + 1, by omega, by go_num, by rw [HDT.out, Nat.max_eq_right (by omega)], HW3⟩
        case measure => simp [intOf]; omega
      · have t5 : decide ((b : Int) < (q : Int)) = false := decide_eq_false (by omega)
        have t6 : decide (b < q) = false := decide_eq_false hm3
        go_wp2
        go_roundw
        case rel => exact ⟨j + 1, by omega, by go_num, by rw [HDT.out, Nat.max_eq_left (by omega)], HW3⟩
        case measure => simp [intOf]; omega
    · have t1 : decide ((j : Int) < (m : Int)) = false := decide_eq_false (by omega)
      have t1' : decide (j < m) = false := decide_eq_false hlt
      obtain rfl : j = m := by omega
      have hta : args.take j = args := List.take_of_length_le (by rw [HM.out]; exact Nat.le_refl _)
      rw [hta, HND.out.2]
      clear hta
      go_wp2
      go_ret
      exact Ret.int (by go_num) HW.out
set_option maxRecDepth 100000 in
set_option maxHeartbeats 4000000 in
theorem xFew_any (t : Tr) (w : World) (xs : List Value) (h : Tx w xs t) (hn : nodesT t ≤ 2000000) : Calls Try.prog 5 #[.agg xs.toArray] w (Ret (.bool (fewB t)) w) := by
  have HC := hide (fun w' h' => cnt_any t w' xs h' hn)
  have HD := hide (fun hc w' h' => dep_any t w' xs h' (by have := cnt_few t hc; omega))
  obtain ⟨R, hR⟩ : ∃ r, fewB t = r := ⟨_, rfl⟩
  have HR := hide (show (decide (cntT t ≤ 200) && decide (depthT t ≤ 100)) = R from hR)
  rw [hR]
  have hcb := cnt_le t
  obtain ⟨c, hcc⟩ : ∃ c, cntT t = c := ⟨_, rfl⟩
  obtain ⟨q, hq⟩ : ∃ c, depthT t = c := ⟨_, rfl⟩
  rw [hcc] at HC HD HR hcb
  rw [hq] at HD HR
  have hc1 : c ≤ 2000000 := by omega
  have HX := hide h
  obtain ⟨d, args⟩ := t
  obtain ⟨v, rfl, hl, hd⟩ := RTx.out h
  obtain ⟨A, cap, rfl⟩ := hl.form
  obtain ⟨m, hmm⟩ : ∃ m, args.length = m := ⟨_, rfl⟩
  rw [hmm] at HC HD HX ⊢
  clear h hl hd hmm hR hcc hq hcb hn
  have HB := hide (below_laid (w := w) (.cells ([.int .i64 d.op, .slice A m cap, .int .i64 d.var, .int .i64 d.field, .int .i64 d.kind, .int .i64 d.val.q, .int .i64 d.val.n, .string d.val.s]).toArray 30))
  have HBX := hide (Bxs.new w ([.int .i64 d.op, .slice A m cap, .int .i64 d.var, .int .i64 d.field, .int .i64 d.kind, .int .i64 d.val.q, .int .i64 d.val.n, .string d.val.s]) 30)
  replace HX := hide (HX.out.grow HB.out)
  have a0 := HBX.out 0 _ rfl
  have a1 := HBX.out 1 _ rfl
  have a2 := HBX.out 2 _ rfl
  have a3 := HBX.out 3 _ rfl
  have a4 := HBX.out 4 _ rfl
  have a5 := HBX.out 5 _ rfl
  have a6 := HBX.out 6 _ rfl
  have a7 := HBX.out 7 _ rfl
  go_enter Try.func5, Try.ntmps5
  go_wp2_with fail
  refine (HC.out _ HX.out).mono ?_
  rintro e w1 ⟨rfl, hb⟩
  replace HB := hide (bthen HB.out hb)
  replace HBX := hide (HBX.out.keep hb)
  replace HX := hide (HX.out.grow hb)
  clear hb a0 a1 a2 a3 a4 a5 a6 a7 HC
  by_cases hcs : c ≤ 200
  · have t1 : decide ((c : Int) ≤ 200) = true := decide_eq_true (by omega)
    have t1' : decide (c ≤ 200) = true := decide_eq_true hcs
    have HQ := hide (show decide (q ≤ 100) = R by
      have h9 := HR.out
      rw [t1', Bool.true_and] at h9
      exact h9)
    have HDC := hide (HD.out hcs _ HX.out)
    have a0 := HBX.out 0 _ rfl
    have a1 := HBX.out 1 _ rfl
    have a2 := HBX.out 2 _ rfl
    have a3 := HBX.out 3 _ rfl
    have a4 := HBX.out 4 _ rfl
    have a5 := HBX.out 5 _ rfl
    have a6 := HBX.out 6 _ rfl
    have a7 := HBX.out 7 _ rfl
    clear HR HD
    go_wp2_with fail
    refine HDC.out.mono ?_
    rintro e w2 ⟨rfl, hb⟩
    replace HB := hide (bthen HB.out hb)
    clear hb a0 a1 a2 a3 a4 a5 a6 a7 HDC
    by_cases hqs : q ≤ 100
    · have t2 : decide ((q : Int) ≤ 100) = true := decide_eq_true (by omega)
      have t2' : decide (q ≤ 100) = true := decide_eq_true hqs
      have HQ2 := hide (show true = R by rw [← HQ.out, t2'])
      clear HQ
      go_wp2
      go_ret
      exact Ret.mk (by rw [← HQ2.out]; first | done | rfl) HB.out
    · have t2 : decide ((q : Int) ≤ 100) = false := decide_eq_false (by omega)
      have t2' : decide (q ≤ 100) = false := decide_eq_false hqs
      have HQ2 := hide (show false = R by rw [← HQ.out, t2'])
      clear HQ
      go_wp2
      go_ret
      exact Ret.mk (by rw [← HQ2.out]; first | done | rfl) HB.out
  · have t1 : decide ((c : Int) ≤ 200) = false := decide_eq_false (by omega)
    have t1' : decide (c ≤ 200) = false := decide_eq_false hcs
    have HQ2 := hide (show false = R by
      have h9 := HR.out
      rw [t1', Bool.false_and] at h9
      exact h9)
    clear HR HD
    go_wp2
    go_ret
    exact Ret.mk (by rw [← HQ2.out]; first | done | rfl) HB.out
theorem few_nodes {t : Tr} (h : fewB t = true) : nodesT t ≤ 200 := by
  unfold fewB at h
  simp only [Bool.and_eq_true, decide_eq_true_eq] at h
  have := cnt_few t h.1
  omega
end Go.Proofs.Ytkcbjnhphekadaa

namespace Go.Proofs.Ytkcbjnhphekadaa
open Go.RowKit
set_option linter.unusedVariables false
set_option linter.unusedSimpArgs false
def fewLB (l : List Evx) : Bool := decide (l.length ≤ 12) && l.all fun e => decide (e.vs.length ≤ 10)
def fewEB (E : List (List Evx)) : Bool := (E.take 20).all fewLB && decide (E.length ≤ 20)
theorem fewE_len {E : List (List Evx)} (h : fewEB E = true) (k : Int) : (evsQ E k).length ≤ 4096 := by
  unfold fewEB at h
  simp only [Bool.and_eq_true, decide_eq_true_eq] at h
  obtain ⟨h1, h2⟩ := h
  rw [List.take_of_length_le h2] at h1
  unfold evsQ
  split
  · simp
  · by_cases hk : k.toNat < E.length
    · rw [List.getD_eq_getElem?_getD, List.getElem?_eq_getElem hk]
      have := List.all_eq_true.1 h1 _ (List.getElem_mem hk)
      unfold fewLB at this
      simp only [Bool.and_eq_true, decide_eq_true_eq] at this
      have := this.1
      show (E[k.toNat]).length ≤ 4096
      omega
    · rw [List.getD_eq_getElem?_getD, List.getElem?_eq_none (by omega)]; simp
theorem all_snoc {α : Type} {f : α → Bool} {l : List α} {j : Nat} (h : j < l.length) (ht : (l.take j).all f = true) (h0 : f l[j] = true) : (l.take (j + 1)).all f = true := by
  rw [List.take_succ_eq_append_getElem h, List.all_append, ht]
  simp [h0]
theorem all_bad {α : Type} {f : α → Bool} {l : List α} {j : Nat} (h : j < l.length) (h0 : f l[j] = false) : l.all f = false := by
  rw [List.all_eq_false]
  exact ⟨l[j], List.getElem_mem h, by simp [h0]⟩
set_option maxRecDepth 100000 in
set_option maxHeartbeats 8000000 in
theorem xFewEnv_any (E : List (List Evx)) (v : Value) (w : World) (h : There RLx 1 w v E) : Calls Try.prog 6 #[.agg #[v]] w (Ret (.bool (fewEB E)) w) := by
  obtain ⟨R, hR⟩ : ∃ r, fewEB E = r := ⟨_, rfl⟩
  have HR := hide (show ((E.take 20).all fewLB && decide (E.length ≤ 20)) = R from hR)
  rw [hR]
  clear hR
  have HT := hide h
  obtain ⟨A, cap, rfl⟩ := h.form
  have hm := h.len
  unfold maxLen at hm
  obtain ⟨m, hmm⟩ : ∃ m, E.length = m := ⟨_, rfl⟩
  have HM := hide hmm
  rw [hmm] at HT HR hm ⊢
  have hB := below_laid (w := w) (.cells #[.slice A m cap] 37)
  have HB := hide hB
  have hc0 := cells_lit w [.slice A m cap] 37 0 _ rfl
  have b0 : (w.alloc (.cells #[.slice A m cap] 37)).cell? ⟨w.heap.size, 0, none⟩ = some (.slice A m cap) := hc0
  clear h hmm hB hc0
  go_enter Try.func6, Try.ntmps6
  go_wp2_with fail
  obtain ⟨w0, hw0⟩ : ∃ w0, w.alloc (.cells #[.slice A m cap] 37) = w0 := ⟨_, rfl⟩
  rw [hw0] at HB b0 ⊢
  clear hw0
  go_loop [3] (fun i => ∃ j : Nat, j ≤ m ∧ j ≤ 20 ∧ i = .int .i64 j ∧ Hid ((E.take j).all fewLB = true)) (fun i => m - (intOf i).toNat)
  case atStart => exact ⟨0, Nat.zero_le _, Nat.zero_le _, rfl, hide rfl⟩
  case round =>
    obtain ⟨j, hj, hj20, rfl, HA⟩ := hrel
    by_cases hlt : j < m
    · have t1 : decide ((j : Int) < (m : Int)) = true := decide_eq_true (by omega)
      have t1' : decide (j < m) = true := decide_eq_true hlt
      by_cases h20 : j < 20
      · have t2 : decide ((j : Int) < 20) = true := decide_eq_true (by omega)
        have t2' : decide (j < 20) = true := decide_eq_true h20
        have hja : j < E.length := by rw [HM.out]; exact hlt
        have hj2 : j < (E.take 20).length := by rw [List.length_take, HM.out]; omega
        have HBAD := hide (fun h0 => all_bad (f := fewLB) hj2 h0)
        rw [List.getElem_take] at HBAD
        have HOK := hide (fun h0 => all_snoc (f := fewLB) hja HA.out h0)
        obtain ⟨g, off, ys, e2, hg, hyl, hc, ⟨u, rfl, hl⟩⟩ := Lst.at_ HT.out hja
        subst e2
        have hgw : g < w.heap.size := hg
        have k0 := keep1 HB.out (hc 0 _ rfl)
        simp only [Nat.mul_one, Nat.add_zero] at k0
        obtain ⟨L, hL⟩ : ∃ L, E[j] = L := ⟨_, rfl⟩
        rw [hL] at hl HBAD HOK
        have HL := hide (show There REx 5 w u L from hl)
        obtain ⟨A2, cap2, rfl⟩ := HL.out.form
        have hl2 := HL.out.len
        unfold maxLen at hl2
        obtain ⟨n, hn⟩ : ∃ n, L.length = n := ⟨_, rfl⟩
        have HN := hide hn
        rw [hn] at HL k0 hl2
        have hu0 : (0 : Int) ≤ (j : Int) := by omega
        have hu1 : (j : Int) < (m : Int) := by omega
        clear hc hl hg hyl hL hn
        by_cases h12 : 12 < n
        · have t3 : decide ((12 : Int) < (n : Int)) = true := decide_eq_true (by omega)
          have t3' : decide (12 < n) = true := decide_eq_true h12
          have HQ := hide (show false = R by rw [← HR.out, HBAD.out (by unfold fewLB; rw [HN.out, decide_eq_false (by omega), Bool.false_and]), Bool.false_and])
          clear HBAD HOK h12 HR
          go_wp2
          go_ret
          exact Ret.mk (by rw [← HQ.out]; first | done | rfl) HB.out
        · have t3 : decide ((12 : Int) < (n : Int)) = false := decide_eq_false (by omega)
          have t3' : decide (12 < n) = false := decide_eq_false h12
          go_wp2_with fail
          go_loop [4] (fun i => ∃ k : Nat, k ≤ n ∧ i = .int .i64 k ∧ Hid ((L.take k).all (fun e => decide (e.vs.length ≤ 10)) = true)) (fun i => n - (intOf i).toNat)
          case atStart => exact ⟨0, Nat.zero_le _, rfl, hide rfl⟩
          case round =>
            obtain ⟨k, hk, rfl, HK⟩ := hrel
            by_cases hkn : k < n
            · have t4 : decide ((k : Int) < (n : Int)) = true := decide_eq_true (by omega)
              have t4' : decide (k < n) = true := decide_eq_true hkn
              have hka : k < L.length := by rw [HN.out]; exact hkn
              obtain ⟨g2, off2, ys2, e3, hg2, hyl2, hc2, ⟨u2, rfl, hl3⟩⟩ := Lst.at_ HL.out hka
              subst e3
              have hgw2 : g2 < w.heap.size := hg2
              obtain ⟨A3, cap3, rfl⟩ := hl3.form
              have hl4 := hl3.len
              unfold maxLen at hl4
              have HKB := hide (fun h0 => all_bad (f := fun e : Evx => decide (e.vs.length ≤ 10)) hka h0)
              have HKO := hide (fun h0 => all_snoc (f := fun e : Evx => decide (e.vs.length ≤ 10)) hka HK.out h0)
              obtain ⟨n3, hn3⟩ : ∃ n, (L[k]).vs.length = n := ⟨_, rfl⟩
              simp only [hn3] at HKB HKO
              rw [hn3] at hc2 hl4
              have q4 := keep1 HB.out (hc2 4 _ rfl)
              have hv0 : (0 : Int) ≤ (k : Int) := by omega
              have hv1 : (k : Int) < (n : Int) := by omega
              clear hc2 hl3 hg2 hyl2 hn3
              by_cases h10 : 10 < n3
              · have t5 : decide ((10 : Int) < (n3 : Int)) = true := decide_eq_true (by omega)
                have t5' : decide (10 < n3) = true := decide_eq_true h10
                have HQ := hide (show false = R by rw [← HR.out, HBAD.out (by unfold fewLB; rw [HKB.out (decide_eq_false (by omega)), Bool.and_false]), Bool.false_and])
                clear HBAD HOK h10 HR HKB HKO
                go_wp2
                go_ret
                exact Ret.mk (by rw [← HQ.out]; first | done | rfl) HB.out
              · have t5 : decide ((10 : Int) < (n3 : Int)) = false := decide_eq_false (by omega)
                have t5' : decide (10 < n3) = false := decide_eq_false h10
                have HKN := hide (HKO.out (decide_eq_true (by omega)))
                clear h10 HKB HKO
                go_wp2
                go_round
                case rel => exact ⟨k + 1, by omega, by go_num, HKN⟩
                case measure => simp [intOf]; omega
            · have t4 : decide ((k : Int) < (n : Int)) = false := decide_eq_false (by omega)
              have t4' : decide (k < n) = false := decide_eq_false hkn
              obtain rfl : k = n := by omega
              have hta : L.take k = L := List.take_of_length_le (by rw [HN.out]; exact Nat.le_refl _)
              have HKA := hide (show fewLB L = true by unfold fewLB; rw [HN.out, decide_eq_true (by omega), Bool.true_and, ← hta]; simpa [hta] using HK.out)
              have HAN := hide (HOK.out HKA.out)
              clear hta HK HKA HOK HBAD
              go_wp2
              go_round
              case rel => exact ⟨j + 1, by omega, by omega, by go_num, HAN⟩
              case measure => simp [intOf]; omega
      · have t2 : decide ((j : Int) < 20) = false := decide_eq_false (by omega)
        have t2' : decide (j < 20) = false := decide_eq_false h20
        have t3 : decide ((m : Int) ≤ 20) = false := decide_eq_false (by omega)
        have t3' : decide (m ≤ 20) = false := decide_eq_false (by omega)
        have HQ := hide (show false = R by rw [← HR.out, t3', Bool.and_false])
        clear HR HA
        go_wp2
        go_ret
        exact Ret.mk (by rw [← HQ.out]; first | done | rfl) HB.out
    · have t1 : decide ((j : Int) < (m : Int)) = false := decide_eq_false (by omega)
      have t1' : decide (j < m) = false := decide_eq_false hlt
      obtain rfl : j = m := by omega
      have t3 : decide ((j : Int) ≤ 20) = true := decide_eq_true (by omega)
      have t3' : decide (j ≤ 20) = true := decide_eq_true (by omega)
      have hta : E.take j = E := List.take_of_length_le (by rw [HM.out]; exact Nat.le_refl _)
      have hta2 : E.take 20 = E := List.take_of_length_le (by rw [HM.out]; omega)
      have HQ := hide (show true = R by
        have h9 := HA.out
        rw [hta] at h9
        rw [← HR.out, t3', hta2, h9]; rfl)
      clear HR HA hta hta2
      go_wp2
      go_ret
      exact Ret.mk (by rw [← HQ.out]; first | done | rfl) HB.out
end Go.Proofs.Ytkcbjnhphekadaa
