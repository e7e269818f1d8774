/- The writer's methods: int, ints, fail. -/
import Derived.Test.YtofdcgojgcnopaaGreatCWr
namespace Go.Proofs.YtofdcgojgcnopaaGreat
open Go.RowKit
set_option linter.unusedVariables false
set_option linter.unusedSimpArgs false
theorem info_u8 : (Tryz.prog.info? 5).map (fun i => (i.zero, i.size, i.bytes)) = some (some (.int .u8 0), 1, 1) := by kernel_rfl
theorem own_form {w : World} {base : Nat} {te : TypeId} {sz n : Nat} {v : Value} {xs : List Value} (h : w.ownsRow base te sz v n xs) : ∃ A m c, v = .slice A m c := by
  rcases h.2 with ⟨rfl, -⟩ | ⟨g, cap, cur, rfl, -⟩
  · exact ⟨_, _, _, rfl⟩
  · exact ⟨_, _, _, rfl⟩
section
variable {P : Program}
/-- append(w.out, b) of a byte that a composite literal has just laid. -/
theorem wpList_append_byte {ops : Array Oper} {rest : List Oper} {o : Oper} {a : Act} {Q : Exit → Act → World → Prop} (hgd : o.guard = none) (s x : Operand) (t : TypeId)
    (ho : o.op = .call { callee := .builtin .append, args := #[s, x], argTypes := #[t, t] })
    (i : TypeInfo) (ht : P.underlying t = some (.slice 5)) (hi : P.info? 5 = some i) (hz : i.zero = some (.int .u8 0)) (hsize : i.size = 1) (hby : i.bytes = 1)
    {F : Nat} {wr : World} {v : Value} {out : Bs} {e : Int} (hW : WrV wr F v out e) (hs : a.eval s = v) (te : TypeId) (bv : Value) (b : UInt8) (hb : bv = .int .u8 (b.toNat : Int))
    (hx : a.eval x = .slice (some ⟨wr.heap.size, 0, none⟩) 1 1) (hn : out.length < 1099511627776)
    (h : ∀ A m c w', w'.cell? ⟨F, 0, none⟩ = some v → w'.frozen? ⟨F, 0, none⟩ = false → Wr (w'.setCell ⟨F, 0, none⟩ (.slice A m c)) F (out ++ [b]) e → Wt F wr (w'.setCell ⟨F, 0, none⟩ (.slice A m c)) → wpList P ops Q rest (a.put o.dst (.slice A m c)) w') :
    wpList P ops Q (o :: rest) a (wr.alloc (.cells #[bv] te)) := by
  subst hb
  have hlt := hW.lt
  have hrow := hW.row
  refine wpList_append_own_at (wr.alloc (.cells #[.int .u8 (b.toNat : Int)] te)) hgd s x t ho (F + 1) 5 i (.int .u8 0) 1 1 ht hi hz hsize hby rfl (by decide) v out.length (bytes out) hs (hW.own.alloc _) ⟨wr.heap.size, 0, none⟩ 1 1 [.int .u8 (b.toNat : Int)] hx rfl ?_ (by simp [Value.oneCell']) (by unfold maxLen; omega) (by omega) (by simp; omega) ?_
  · intro j u hj
    rw [show (⟨wr.heap.size, 0, none⟩ : Addr).add j = ⟨wr.heap.size, j, none⟩ by unfold Addr.add; split <;> simp_all]
    exact cells_lit wr [.int .u8 (b.toNat : Int)] te j u hj
  · intro v' w' hown hg _ hat
    have hF : w'.heap[F]? = wr.heap[F]? := (hg.block F (by simp; omega) (fun he => by have := (hrow F he.symm).1; omega)).trans ((below_laid (w := wr) (.cells #[.int .u8 (b.toNat : Int)] te)).block F hlt)
    have hown' : w'.ownsRow (F + 1) 5 1 v' (out ++ [b]).length (bytes (out ++ [b])) := by
      rw [bytes_app, List.length_append]; exact hown
    obtain ⟨h1, h2⟩ := hW.store (below_laid _) hown' hg (hat.imp id fun h => ⟨_, h, by simp⟩)
    obtain ⟨A, m, c, rfl⟩ := own_form hown'
    exact h A m c w' ((World.cell?_of_block (w := wr) hF).trans hW.c0) ((World.frozen?_of_block (w := wr) hF).trans hW.f0) h1 h2
end
theorem vint_small {u : Nat} (h : u < 128) : vint u = [UInt8.ofNat u] := by rw [vint, if_pos h]
theorem vint_big {u : Nat} (h : ¬ u < 128) : vint u = UInt8.ofNat (u % 128 + 128) :: vint (u / 128) := by rw [vint, if_neg h]
theorem wrap_u64 (x : Int) : IntKind.u64.wrap x = x % 18446744073709551616 := by simp [IntKind.wrap, IntKind.bits, IntKind.signed]
theorem wrap_u8 (x : Int) : IntKind.u8.wrap x = x % 256 := by simp [IntKind.wrap, IntKind.bits, IntKind.signed]
theorem ofInt_64 (a : Nat) (ha : a < 18446744073709551616) : (BitVec.ofInt 64 (a : Int)).toNat = a := by
  rw [BitVec.ofInt_natCast, BitVec.toNat_ofNat]; exact Nat.mod_eq_of_lt (by omega)
theorem u64_xor_nat (a b : Nat) (ha : a < 18446744073709551616) (hb : b < 18446744073709551616) : bits .xor .u64 (a : Int) (b : Int) = ((a ^^^ b : Nat) : Int) := by
  have hx : a ^^^ b < 2 ^ 64 := Nat.xor_lt_two_pow (by omega) (by omega)
  show IntKind.u64.wrap ((BitVec.ofInt 64 (a : Int) ^^^ BitVec.ofInt 64 (b : Int)).toNat : Int) = _
  rw [BitVec.toNat_xor, ofInt_64 a ha, ofInt_64 b hb, wrap_u64]
  omega
theorem xor_ones {a : Nat} (ha : a < 18446744073709551616) : a ^^^ 18446744073709551615 = 18446744073709551615 - a := by
  have h := BitVec.toNat_not (x := BitVec.ofNat 64 a)
  have h2 : (BitVec.ofNat 64 a ^^^ BitVec.allOnes 64) = ~~~(BitVec.ofNat 64 a) := BitVec.xor_allOnes
  rw [← h2, BitVec.toNat_xor, BitVec.toNat_allOnes, BitVec.toNat_ofNat, Nat.mod_eq_of_lt (by simpa using ha)] at h
  simpa using h
theorem zz_bits {n : Int} (h : inI n) : bits .xor .u64 (IntKind.u64.wrap (wrap64 (n * 2))) (IntKind.u64.wrap (n / 9223372036854775808)) = (zz n : Int) := by
  unfold inI at h
  have e1 : IntKind.u64.wrap (wrap64 (n * 2)) = ((n * 2 % 18446744073709551616).toNat : Int) := by
    rw [wrap_u64]; unfold wrap64; omega
  rw [e1, wrap_u64]
  by_cases h0 : 0 ≤ n
  · have e2 : n / 9223372036854775808 % 18446744073709551616 = ((0 : Nat) : Int) := by omega
    rw [e2, u64_xor_nat _ _ (by omega) (by omega), Nat.xor_zero]
    unfold zz
    rw [if_pos h0]
    omega
  · have e2 : n / 9223372036854775808 % 18446744073709551616 = ((18446744073709551615 : Nat) : Int) := by omega
    rw [e2, u64_xor_nat _ _ (by omega) (by omega), xor_ones (by omega)]
    unfold zz
    rw [if_neg h0]
    omega
theorem or_128 {k : Nat} : bits .or .u8 ((k : Int) % 256) 128 = ((UInt8.ofNat (k % 128 + 128)).toNat : Int) := by
  have e1 : (k : Int) % 256 = ((k % 256 : Nat) : Int) := by omega
  rw [e1]
  have key : ∀ j : Fin 256, bits .or .u8 ((j.val : Nat) : Int) 128 = ((UInt8.ofNat (j.val % 128 + 128)).toNat : Int) := by decide +kernel
  have := key ⟨k % 256, Nat.mod_lt _ (by decide)⟩
  rw [this, show (k % 256) % 128 = k % 128 by omega]
theorem low_8 {k : Nat} (h : k < 128) : (k : Int) = ((UInt8.ofNat k).toNat : Int) := by rw [ofNat_toNat (by omega)]
/-- A call behind which o is written. -/
def WrX (F : Nat) (o : Bs) (e : Int) (w : World) (en : Ending) (w' : World) : Prop := en = .returned (.tuple #[]) ∧ Wr w' F o e ∧ Wt F w w'
section
variable (F : Nat) (o : Bs) (e : Int) (w : World)
set_option maxRecDepth 100000 in
set_option maxHeartbeats 4000000 in
theorem wint_ex (n : Int) (hn : inI n) (h : Wr w F o e) (ho : o.length ≤ 1000000000) : Calls Tryz.prog 36 #[.pointer (some ⟨F, 0, none⟩), .int .i64 n] w (WrX F (o ++ num n) e w) := by
  have HN := hide hn
  have HW := hide h
  have hz := zz_bits hn
  have HZ := hide (zz_lt hn)
  obtain ⟨i0, hi0, hz0, hz1, hz2⟩ := info_parts info_u8
  unfold inI at hn
  clear h
  go_enter Tryz.func36, Tryz.ntmps36
  go_wp2
  clear hz
  go_loopw [4] (fun u wr => ∃ k : Nat, u = .int .u64 k ∧ k < 18446744073709551616 ∧ Hid (∃ o1, o1 ++ vint k = o ++ num n ∧ Wr wr F o1 e ∧ Wt F w wr)) (fun u _ => (intOf u).toNat)
  case atStart => exact ⟨zz n, rfl, HZ.out, hide ⟨o, rfl, HW.out, Wt.refl⟩⟩
  case round =>
    obtain ⟨k, rfl, hk, HR⟩ := hrel
    by_cases hlt : k < 128
    · have t1 : decide ((128 : Int) ≤ (k : Int)) = false := decide_eq_false (by omega)
      obtain ⟨o1, ho1, ⟨v, hv⟩, hwt⟩ := HR.out
      have HT := hide hwt
      have HO1 := hide ho1
      have hlen := congrArg List.length ho1
      rw [vint_small hlt, List.length_append, List.length_append] at hlen
      have hnl := num_len HN.out
      have HL : Hid (o1.length < 1099511627776) := hide (by omega)
      have hc0 := hv.c0
      have HV := hide hv
      clear hv hwt ho1 hlen hnl HR
      go_wp2_with ((at_builtin; refine wpList_append_byte rfl _ _ 92 rfl i0 Tryz.underlying92 hi0 hz0 hz1 hz2 HV.out rfl _ _ (UInt8.ofNat k) (congrArg _ (low_8 hlt)) (by rfl) HL.out ?_; intro A' m' c' w' hc hf hr ht; have HR := hide hr; have HT2 := hide ht; clear hr ht hc0))
      go_end0
      exact ⟨rfl, by have := HO1.out; rw [vint_small hlt] at this; rw [← this]; exact HR.out, HT.out.trans HT2.out⟩
    · have t1 : decide ((128 : Int) ≤ (k : Int)) = true := decide_eq_true (by omega)
      obtain ⟨o1, ho1, ⟨v, hv⟩, hwt⟩ := HR.out
      have HT := hide hwt
      have HO1 : Hid (o1 ++ [UInt8.ofNat (k % 128 + 128)] ++ vint (k / 128) = o ++ num n) := hide (by rw [List.append_assoc, ← ho1, vint_big hlt]; rfl)
      have hlen := congrArg List.length ho1
      rw [List.length_append, List.length_append] at hlen
      have hnl := num_len HN.out
      have HL : Hid (o1.length < 1099511627776) := hide (by omega)
      have hc0 := hv.c0
      have HV := hide hv
      clear hv hwt ho1 hlen hnl HR
      go_wp2_with ((at_builtin; refine wpList_append_byte rfl _ _ 92 rfl i0 Tryz.underlying92 hi0 hz0 hz1 hz2 HV.out rfl _ _ (UInt8.ofNat (k % 128 + 128)) (congrArg _ or_128) (by rfl) HL.out ?_; intro A' m' c' w' hc hf hr ht; have HR := hide hr; have HT2 := hide ht; clear hr ht hc0))
      go_roundw
      case rel => exact ⟨k / 128, by go_num, by omega, hide ⟨_, HO1.out, HR.out, HT.out.trans HT2.out⟩⟩
      case measure => simp [intOf]; omega
theorem wint_any (n : Int) (hn : inI n) (h : Wr w F o e) (ho : o.length ≤ 1000000000) : Calls Tryz.prog 36 #[.pointer (some ⟨F, 0, none⟩), .int .i64 n] w (Wrs F (eN n) 10 o e w) :=
  (wint_ex F o e w n hn h ho).mono fun _ _ ⟨h1, h2, h3⟩ => ⟨h1, _, _, Wd.num hn o e, h2, h3⟩
set_option maxHeartbeats 400000 in
theorem wfail_any (c : Int) (h : Wr w F o e) : Calls Tryz.prog 35 #[.pointer (some ⟨F, 0, none⟩), .int .i64 c] w (WrX F o (if e = 0 then c else e) w) := by
  obtain ⟨h1, h2⟩ := h.fail c
  have HF := hide (And.intro h1 h2)
  have HW := hide h
  obtain ⟨v, hv⟩ := h
  have c1 := hv.c1
  have f1 := hv.f1
  clear h1 h2 hv
  by_cases he : e = 0
  · have t1 : (e == 0) = true := beq_iff_eq.2 he
    have HE := hide he
    clear he
    go_enter Tryz.func35, Tryz.ntmps35
    go_wp2
    go_end0
    exact ⟨rfl, HF.out⟩
  · have t1 : (e == 0) = false := beq_eq_false_iff_ne.2 he
    have HE := hide he
    clear he
    go_enter Tryz.func35, Tryz.ntmps35
    go_wp2
    go_end0
    exact ⟨rfl, HW.out, Wt.refl⟩
set_option maxRecDepth 100000 in
set_option maxHeartbeats 4000000 in
theorem wints_any (l : List Int) (b cap : Nat) (hl : ∀ x ∈ l, inI x) (hB : Bx F w b (ints l)) (h : Wr w F o e) (hn : l.length ≤ 1000) (ho : o.length + 10 * l.length ≤ 1000000000) :
    Calls Tryz.prog 63 #[.pointer (some ⟨F, 0, none⟩), .slice (some ⟨b, 0, none⟩) l.length cap] w (WrX F (o ++ l.flatMap num) e w) := by
  have HB := hide hB
  have HL := hide hl
  have HW := hide h
  obtain ⟨m, hm⟩ : ∃ m, l.length = m := ⟨_, rfl⟩
  rw [hm] at hn ho ⊢
  have HM := hide hm
  clear h hB hl hm
  go_enter Tryz.func63, Tryz.ntmps63
  go_wp2
  go_loopw [8] (fun i wr => ∃ j : Nat, j ≤ m ∧ i = .int .i64 j ∧ Hid (Wr wr F (o ++ (l.take j).flatMap num) e ∧ Wt F w wr ∧ (o ++ (l.take j).flatMap num).length ≤ o.length + 10 * j)) (fun i _ => m - (intOf i).toNat)
  case atStart => exact ⟨0, by omega, rfl, hide ⟨by simpa using HW.out, Wt.refl, by simp⟩⟩
  case round =>
    obtain ⟨j, hj, rfl, HR⟩ := hrel
    by_cases hlt : j < m
    · have hjl : j < l.length := by rw [HM.out]; exact hlt
      have hb := HB.out.keep HR.out.2.1
      have c0 : wr.cell? ⟨b, j, none⟩ = some (.int .i64 l[j]) := hb.2 j _ (by simp [ints, hjl])
      have HX := hide (HL.out l[j] (List.getElem_mem hjl))
      have HS : Hid (o ++ (l.take (j + 1)).flatMap num = o ++ (l.take j).flatMap num ++ num l[j]) := hide (by rw [List.take_succ_eq_append_getElem hjl, List.flatMap_append]; simp)
      obtain ⟨x, hx⟩ : ∃ x, l[j] = x := ⟨_, rfl⟩
      rw [hx] at c0 HX HS
      have hu0 : (0 : Int) ≤ (j : Int) := by omega
      have hu1 : (j : Int) < (m : Int) := by omega
      clear hb hx
      go_wp2_with fail
      refine (wint_ex F _ e _ x HX.out HR.out.1 (by have := HR.out.2.2; omega)).mono ?_
      rintro en w2 ⟨rfl, hr, ht⟩
      have HR2 : Hid (Wr w2 F (o ++ (l.take (j + 1)).flatMap num) e ∧ Wt F w w2 ∧ (o ++ (l.take (j + 1)).flatMap num).length ≤ o.length + 10 * (j + 1)) := hide (by
        rw [HS.out]
        refine ⟨hr, HR.out.2.1.trans ht, ?_⟩
        rw [List.length_append]
        have := num_len HX.out
        have := HR.out.2.2
        omega)
      clear hr ht
      go_wp2
      go_roundw
      case rel => exact ⟨j + 1, by omega, by go_num, HR2⟩
      case measure => simp [intOf]; omega
    · obtain rfl : j = m := by omega
      go_wp2
      go_end0
      have := HR.out
      rw [List.take_of_length_le (by rw [HM.out]; exact Nat.le_refl _)] at this
      exact ⟨rfl, this.1, this.2.1⟩
end
end Go.Proofs.YtofdcgojgcnopaaGreat
