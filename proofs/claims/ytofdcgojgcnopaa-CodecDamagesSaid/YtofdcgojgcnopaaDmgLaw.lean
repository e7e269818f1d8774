/- The law of damaged encodings. -/
import Derived.Test.YtofdcgojgcnopaaDmgPl
import Derived.Test.YtofdcgojgcnopaaCNz
import Derived.Test.YtofdcgojgcnopaaCEnc
import Derived.Test.YtofdcgojgcnopaaDDecV
import Derived.Test.YtofdcgojgcnopaaDDecL
import Derived.Test.YtofdcgojgcnopaaDDecEn
import Derived.Test.YtofdcgojgcnopaaDDecSn
import Derived.Lib.ConvBytes
namespace Go.Proofs.Ytofdcgojgcnopaa
open Go.RowKit Go.Lib
set_option linter.unusedVariables false
set_option linter.unusedSimpArgs false
theorem conv_bytes (w : World) (S : ByteArray) : ∃ cap wB, (convert 9 59 (.string S)).run Try.prog w = .ok (.slice (some ⟨w.heap.size, 0, none⟩) S.size cap) wB ∧ Below w.heap.size w wB ∧ w.heap.size < wB.heap.size ∧
    (∀ j, j < S.size → wB.cell? ⟨w.heap.size, j, none⟩ = some (.int .u8 (S.data.toList.getD j 0).toNat)) ∧ ∀ j, j < S.size → wB.frozen? ⟨w.heap.size, j, none⟩ = false := by
  refine ⟨_, _, Lib.run_convert_string_bytes w _ _ 5 S Try.underlying9 Try.underlying59 Try.underlying5, ⟨rfl, rfl, rfl, ?_, fun j hj => bytesWorld_at_old w _ S j hj⟩, by rw [bytesWorld_size]; omega, fun j hj => bytesWorld_cell w _ S j hj, fun j hj => ?_⟩
  · rw [bytesWorld_size]; omega
  · unfold World.frozen?
    rw [show (⟨w.heap.size, j, none⟩ : Addr).block = w.heap.size from rfl, bytesWorld_at_new]
    have : j < (bytesCells w 5 S).size := by unfold bytesCells; rw [Array.size_append, Array.size_map]; exact Nat.lt_of_lt_of_le hj (Nat.le_add_right _ _)
    simp
    omega
theorem u8_xor_nat (a b : Nat) (ha : a < 256) (hb : b < 256) : bits .xor .u8 (a : Int) (b : Int) = ((a ^^^ b : Nat) : Int) := by
  have hx : a ^^^ b < 2 ^ 8 := Nat.xor_lt_two_pow (by omega) (by omega)
  have o : ∀ a : Nat, a < 256 → (BitVec.ofInt 8 (a : Int)).toNat = a := fun a ha => by rw [BitVec.ofInt_natCast, BitVec.toNat_ofNat]; exact Nat.mod_eq_of_lt (by omega)
  show IntKind.u8.wrap ((BitVec.ofInt 8 (a : Int) ^^^ BitVec.ofInt 8 (b : Int)).toNat : Int) = _
  rw [BitVec.toNat_xor, o a ha, o b hb]
  simp only [IntKind.wrap, IntKind.bits, IntKind.signed]
  simp
  omega
theorem byte_xor (x : UInt8) {b : Int} (h0 : 0 < b) (h1 : b < 256) : ∃ y : UInt8, bits .xor .u8 (x.toNat : Int) b = (y.toNat : Int) ∧ y ≠ x := by
  obtain ⟨n, rfl⟩ : ∃ n : Nat, b = n := ⟨b.toNat, by omega⟩
  have hx : x.toNat ^^^ n < 2 ^ 8 := Nat.xor_lt_two_pow x.toNat_lt (by omega)
  have e : (UInt8.ofNat (x.toNat ^^^ n)).toNat = x.toNat ^^^ n := ofNat_toNat hx
  refine ⟨UInt8.ofNat (x.toNat ^^^ n), by rw [u8_xor_nat _ _ x.toNat_lt (by omega), e], fun h => ?_⟩
  have := congrArg UInt8.toNat h
  rw [e] at this
  have h2 := congrArg (x.toNat ^^^ ·) this
  simp only [← Nat.xor_assoc, Nat.xor_self, Nat.zero_xor] at h2
  omega
theorem Opd.err {α : Type} {p : Ps α} {R : (Nat → Prop) → World → Value → α → Prop} {z : Value} {s : Bs} {w w' : World} {en : Ending} {c : Int} (h : openE p s = .error c) (ho : Opd p R z s w en w') : Ret (.tuple #[z, .int .i64 c]) w en w' := by
  obtain ⟨v, rfl, hb, hr⟩ := ho
  rw [h] at hr
  obtain rfl := hr
  rw [h]
  exact ⟨rfl, hb⟩
theorem Opd.ok {α : Type} {p : Ps α} {R : (Nat → Prop) → World → Value → α → Prop} {z : Value} {s : Bs} {w w' : World} {en : Ending} {x : α} (h : openE p s = .ok x) (ho : Opd p R z s w en w') : ∃ v, en = .returned (.tuple #[v, .int .i64 0]) ∧ R (w.heap.size ≤ ·) w' v x ∧ Below w.heap.size w w' := by
  obtain ⟨v, rfl, hb, hr⟩ := ho
  rw [h] at hr
  exact ⟨v, by rw [h]; rfl, hr, hb⟩
section
variable (w : World)
set_option maxRecDepth 100000 in
set_option maxHeartbeats 8000000 in
theorem damages_any (v : Value) (l : List Evt) (a b : Int) (ha0 : 0 ≤ a) (ha1 : a < 65536) (hb0 : 0 ≤ b) (hb1 : b < 256) (hv : Lst w (· < w.heap.size) 5 REv0 v l) : Calls Try.prog 7 #[v, .int .u16 a, .int .u8 b] w (Ret (.bool true) w) := by
  have HFA := hide (few_any w v l hv)
  have HGA := hide (lst_ge hv)
  obtain ⟨A, cap, rfl⟩ := hv.form
  cases hf : fewE l
  · rw [hf] at HFA
    clear hv HGA hf
    go_enter Try.func7, Try.ntmps7
    go_wp2_with fail
    refine HFA.out.mono ?_
    rintro en w1 ⟨rfl, rfl⟩
    go_wp2_with fail
    refine (awake_any _).mono ?_
    rintro en w1 ⟨rfl, hb⟩
    go_wp2
    go_ret
    exact Ret.bool rfl hb
  have HEA := hide (encL_any w _ l (Nat.le_trans (few_wt hf) (by decide)) (few_lst hv hf))
  rw [hf] at HFA
  clear hv hf
  rcases nz_num (nz_seal (nz_L nz_Ev l)) with ⟨s, hs⟩ | h1
  · obtain ⟨B, hB, hBl, hs5, hsm⟩ := list_seal hs
    have HOK := hide (open_seal (inv_list inv_Ev) HGA.out hs)
    have HDM := hide (fun i hi y hy => @open_damaged B s hB hBl i hi y hy)
    have hS : strE (sealE (eL eEv l)) = bstr s := by rw [hs]; rfl
    have h1 : numE (sealE (eL eEv l)) = 0 := by rw [hs]; rfl
    rw [hS, h1] at HEA
    have HSL := hide (bstr_data s)
    obtain ⟨S, hS'⟩ : ∃ S, bstr s = S := ⟨_, rfl⟩
    rw [hS'] at HEA HSL
    have hSz : S.size = s.length := by rw [← hS', bstr_size]
    obtain ⟨n, hn⟩ : ∃ n, S.size = n := ⟨_, rfl⟩
    have hn5 : 5 ≤ n := by omega
    have hnm : n ≤ 1048576 := by omega
    have HN := hide hn
    have HNS := hide (show s.length = n by omega)
    clear hS h1 hS' hSz hs5 hsm hB hBl hs hn
    by_cases hb : b = 0
    · subst hb
      have HD := hide (fun w => decL_any S w (by have := HN.out; omega))
      rw [HSL.out] at HD
      have hn5' : 5 ≤ S.size := by rw [HN.out]; exact hn5
      go_enter Try.func7, Try.ntmps7
      go_wp2_with fail
      refine HFA.out.mono ?_
      rintro en w1 ⟨rfl, rfl⟩
      go_wp2_with fail
      refine HEA.out.mono ?_
      rintro en w1 ⟨rfl, hb⟩
      have HB := hide hb
      clear hb
      go_wp2_with fail
      refine (HD.out _).mono ?_
      intro en w2 ho
      obtain ⟨u, rfl, -, hb⟩ := ho.ok HOK.out
      replace HB := hide (bthen HB.out hb)
      clear hb ho
      go_wp2_with fail
      refine (awake_any _).mono ?_
      rintro en w4 ⟨rfl, hb⟩
      replace HB := hide (bthen HB.out hb)
      clear hb
      go_wp2
      go_ret
      exact Ret.bool rfl HB.out
    · have hb2 : 0 < b := by omega
      have tb : (b == 0) = false := beq_eq_false_iff_ne.2 hb
      obtain ⟨k, hk⟩ : ∃ k : Nat, a % (n : Int) = k := ⟨(a % (n : Int)).toNat, by have := Int.emod_nonneg a (show (n : Int) ≠ 0 by omega); omega⟩
      have hkn : k < n := by have := Int.emod_lt_of_pos a (show (0 : Int) < n by omega); omega
      have hks : k < s.length := by rw [HNS.out]; exact hkn
      obtain ⟨x, hx⟩ : ∃ x, s[k] = x := ⟨_, rfl⟩
      obtain ⟨y, hy, hyx⟩ := byte_xor x hb2 hb1
      have HOD : Hid (∀ {α : Type} (p : Ps α), openE p (s.set k y) = .error 26) := hide (fun p => HDM.out k hks y (by rw [hx]; exact hyx) p)
      obtain ⟨D, hD⟩ : ∃ D, bstr (s.set k y) = D := ⟨_, rfl⟩
      have HDL : Hid (D.data.toList = s.set k y) := hide (by rw [← hD]; exact bstr_data _)
      have HDZ : D.size ≤ 1048576 := by rw [← hD, bstr_size, List.length_set, HNS.out]; exact hnm
      have HDD := hide hD
      have HX := hide hx
      have HKN := hide hkn
      have HD1 := hide (fun w en w' ho => Opd.err (HDL.out ▸ HOD.out _) (ho : Opd (pL pEv) ROL (.slice none 0 0) D.data.toList w en w'))
      have HD2 := hide (fun w en w' ho => Opd.err (HDL.out ▸ HOD.out _) (ho : Opd pV (fun _ w v x => RV3 w v x) (.agg #[.int .i64 0, .int .i64 0, .string ⟨#[]⟩]) D.data.toList w en w'))
      have HD3 := hide (fun w en w' ho => Opd.err (HDL.out ▸ HOD.out _) (ho : Opd pEng (ROs REn) (.agg #[.int .i64 0, .slice none 0 0, .slice none 0 0, .slice none 0 0]) D.data.toList w en w'))
      have HD4 := hide (fun w en w' ho => Opd.err (HDL.out ▸ HOD.out _) (ho : Opd pSnp (ROs RSn) (.agg #[.int .i64 0, .slice none 0 0, .slice none 0 0]) D.data.toList w en w'))
      have HC1 := hide (fun w => decL_any D w (by omega))
      have HC2 := hide (fun w => decV_any D w (by omega))
      have HC3 := hide (fun w => decEn_any D w (by omega))
      have HC4 := hide (fun w => decSn_any D w (by omega))
      have hn5' : 5 ≤ S.size := by rw [HN.out]; exact hn5
      clear hD hx hkn hb hyx
      go_enter Try.func7, Try.ntmps7
      go_wp2_with fail
      refine HFA.out.mono ?_
      rintro en w1 ⟨rfl, rfl⟩
      go_wp2_with fail
      refine HEA.out.mono ?_
      rintro en w2 ⟨rfl, hb⟩
      have HB := hide hb
      obtain ⟨cp, wB, hcv, hbB, hzB, hcell, hfr⟩ := conv_bytes w2 S
      rw [HN.out] at hcv
      replace HB := hide (bthen HB.out hbB)
      have HBZ := hide (Nat.le_of_lt (Nat.lt_of_le_of_lt hb.size hzB))
      have ck := hcell k (by rw [HN.out]; exact HKN.out)
      have fk := hfr k (by rw [HN.out]; exact HKN.out)
      rw [HSL.out] at ck
      have hgd : s.getD k 0 = x := by rw [List.getD_eq_getElem?_getD, List.getElem?_eq_getElem hks, HX.out]; rfl
      rw [hgd] at ck
      have hback : (convert 59 9 (.slice (some ⟨w2.heap.size, 0, none⟩) n cp)).run Try.prog (wB.setCell ⟨w2.heap.size, k, none⟩ (.int .u8 (y.toNat : Int))) = .ok (.string D) (wB.setCell ⟨w2.heap.size, k, none⟩ (.int .u8 (y.toNat : Int))) := by
        have hlen : (s.set k y).length = n := by rw [List.length_set]; exact HNS.out
        rw [← hlen, ← HDD.out]
        refine run_convert_bytes_back _ _ _ 5 ⟨w2.heap.size, 0, none⟩ cp (s.set k y) Try.underlying59 Try.underlying5 Try.underlying9 fun j hj => ?_
        have hjn : j < n := by rw [hlen] at hj; exact hj
        rw [show (⟨w2.heap.size, 0, none⟩ : Addr).add j = ⟨w2.heap.size, j, none⟩ by unfold Addr.add; split <;> simp_all]
        by_cases hjk : j = k
        · subst hjk
          rw [World.cell?_setCell_same' _ _ _ (by rw [ck]; rfl)]
          simp
        · rw [World.cell?_setCell_other _ _ _ _ (by intro e'; injection e' with _ e' _; exact hjk e'.symm)]
          rw [hcell j (by rw [HN.out]; exact hjn), HSL.out, List.getD_eq_getElem?_getD, List.getElem?_eq_getElem (by rw [HNS.out]; exact hjn)]
          rw [List.getElem_set_ne (by omega)]
          rfl
      have hk0 : (0 : Int) ≤ (k : Int) := by omega
      have hk1 : (k : Int) < (n : Int) := by have := HKN.out; omega
      have hn0 : ((n : Int) == 0) = false := beq_eq_false_iff_ne.2 (by omega)
      have hB2 := hide ((Below.refl w.heap.size wB).setCell (p := ⟨w2.heap.size, k, none⟩) (by exact hb.size) (.int .u8 (y.toNat : Int)))
      clear hcell hfr hb hbB hgd
      go_wp2_with fail
      obtain ⟨wC, hwC⟩ : ∃ wC, wB.setCell ⟨w2.heap.size, k, none⟩ (.int .u8 (y.toNat : Int)) = wC := ⟨_, rfl⟩
      rw [hwC] at hB2 hback ⊢
      replace HB := hide (HB.out.trans hB2.out)
      clear hwC hB2 hback hcv ck fk hzB
      refine (HC1.out _).mono ?_
      intro en w5 ho
      obtain ⟨rfl, hb⟩ := HD1.out _ _ _ ho
      replace HB := hide (bthen HB.out hb)
      clear hb ho
      go_wp2_with fail
      refine (HC2.out _).mono ?_
      intro en w6 ho
      obtain ⟨rfl, hb⟩ := HD2.out _ _ _ ho
      replace HB := hide (bthen (bthen HB.out hb) (below_laid (.cells #[.int .i64 0, .int .i64 0, .string ⟨#[]⟩] 30)))
      clear hb ho
      go_wp2_with fail
      refine (HC3.out _).mono ?_
      intro en w7 ho
      obtain ⟨rfl, hb⟩ := HD3.out _ _ _ ho
      replace HB := hide (bthen (bthen HB.out hb) (below_laid (.cells #[.int .i64 0, .slice none 0 0, .slice none 0 0, .slice none 0 0] 48)))
      clear hb ho
      go_wp2_with fail
      refine (HC4.out _).mono ?_
      intro en w8 ho
      obtain ⟨rfl, hb⟩ := HD4.out _ _ _ ho
      replace HB := hide (bthen (bthen HB.out hb) (below_laid (.cells #[.int .i64 0, .slice none 0 0, .slice none 0 0] 63)))
      clear hb ho
      go_wp2_with fail
      refine (awake_any _).mono ?_
      rintro en w9 ⟨rfl, hb⟩
      replace HB := hide (bthen HB.out hb)
      clear hb
      go_wp2
      go_ret
      exact Ret.bool rfl HB.out
  · go_enter Try.func7, Try.ntmps7
    go_wp2_with fail
    refine HFA.out.mono ?_
    rintro en w1 ⟨rfl, rfl⟩
    go_wp2_with fail
    refine HEA.out.mono ?_
    rintro en w1 ⟨rfl, hb⟩
    have HB := hide hb
    clear hb
    go_wp2_with fail
    refine (awake_any _).mono ?_
    rintro en w4 ⟨rfl, hb⟩
    replace HB := hide (bthen HB.out hb)
    clear hb
    go_wp2
    go_ret
    exact Ret.bool rfl HB.out
end
theorem wf_u16 {n : Int} (h : (Lit.int .u16 n).wf = true) : 0 ≤ n ∧ n < 65536 := by
  have : 0 ≤ n ∧ n ≤ 65535 := by simpa [Lit.wf, IntKind.min, IntKind.max, IntKind.bits, IntKind.signed] using h
  omega
theorem wf_u8 {n : Int} (h : (Lit.int .u8 n).wf = true) : 0 ≤ n ∧ n < 256 := by
  have : 0 ≤ n ∧ n ≤ 255 := by simpa [Lit.wf, IntKind.min, IntKind.max, IntKind.bits, IntKind.signed] using h
  omega
end Go.Proofs.Ytofdcgojgcnopaa
