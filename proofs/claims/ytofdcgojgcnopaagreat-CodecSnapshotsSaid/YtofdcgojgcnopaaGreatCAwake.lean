/- awake, of the laws. -/
import Derived.Test.YtofdcgojgcnopaaGreatCFew
namespace Go.Proofs.YtofdcgojgcnopaaGreat
open Go.RowKit Go.Lib
set_option linter.unusedVariables false
set_option linter.unusedSimpArgs false
theorem num_of {n : Int} {u : Nat} (h : zz n = u) (hu : u < 128) : num n = [UInt8.ofNat u] := by unfold num; rw [h, vint_small hu]
theorem num_of2 {n : Int} {u : Nat} (h : zz n = u) (hu : ¬ u < 128) (hv : u / 128 < 128) : num n = [UInt8.ofNat (u % 128 + 128), UInt8.ofNat (u / 128)] := by unfold num; rw [h, vint_big hu, vint_small hv]
theorem awn0 : num 0 = [0] := num_of (u := 0) (by decide) (by decide)
theorem awn1 : num 1 = [2] := num_of (u := 2) (by decide) (by decide)
theorem awn2 : num 2 = [4] := num_of (u := 4) (by decide) (by decide)
theorem awn3 : num 64 = [128, 1] := num_of2 (u := 128) (by decide) (by decide) (by decide)
theorem awn4 : num (-1) = [1] := num_of (u := 1) (by decide) (by decide)
theorem seal_of {b c : Bs} (h : b.length + 4 ≤ 1048576) (hc : sealB b = c) : sealE (.ok b) = .ok c := by
  subst hc
  exact if_neg (by omega)
theorem aw0 : sealE (eL eEv []) = .ok [0, 5, 12, 93, 31] := by
  have h : eL eEv [] = .ok (num 0 ++ []) := rfl
  rw [h, awn0]
  exact seal_of (by decide) (by kernel_rfl)
theorem aw1 : sealE (eV ⟨1, 1, ⟨#[]⟩⟩) = .ok [2, 2, 95, 123, 143, 197] := by
  have h : eV ⟨1, 1, ⟨#[]⟩⟩ = .ok (num 1 ++ num 1) := rfl
  rw [h, awn1]
  exact seal_of (by decide) (by kernel_rfl)
theorem aw2 : sealE (eV ⟨2, 0, ⟨#[97]⟩⟩) = .ok [4, 2, 97, 98, 17, 203, 70] := by
  have h : eV ⟨2, 0, ⟨#[97]⟩⟩ = .ok (num 2 ++ (num 1 ++ [97])) := rfl
  rw [h, awn1, awn2]
  exact seal_of (by decide) (by kernel_rfl)
theorem aw3 : sealE (eV ⟨0, 64, ⟨#[]⟩⟩) = .ok [0, 128, 1, 74, 238, 42, 164] := by
  have h : eV ⟨0, 64, ⟨#[]⟩⟩ = .ok (num 0 ++ num 64) := rfl
  rw [h, awn0, awn3]
  exact seal_of (by decide) (by kernel_rfl)
theorem aw4 : sealE (eV ⟨0, -1, ⟨#[]⟩⟩) = .ok [0, 1, 16, 118, 150, 58] := by
  have h : eV ⟨0, -1, ⟨#[]⟩⟩ = .ok (num 0 ++ num (-1)) := rfl
  rw [h, awn0, awn4]
  exact seal_of (by decide) (by kernel_rfl)
theorem aws0 : sumS [] = 2166136261 := by kernel_rfl
theorem aws1 : sumS [0] = 84696351 := by kernel_rfl
section
variable (w : World)
set_option maxRecDepth 100000 in
set_option maxHeartbeats 4000000 in
theorem hp2_any (s p : ByteArray) (h1 : p.size ≤ s.size) (h2 : ((s.extract 0 p.size).toList == p.toList) = true) : Calls Tryz.prog 34 #[.string s, .string p] w (fun e w' => e = .returned (.bool true) ∧ w = w') := by
  go_enter Tryz.func34, Tryz.ntmps34
  go_wp2
  all_goals
    go_ret
    exact ⟨by first | rfl | (rw [← h2]; rfl), rfl⟩
set_option maxRecDepth 100000 in
set_option maxHeartbeats 4000000 in
theorem hp_any (s p : ByteArray) (h1 : p.size ≤ s.size) (h2 : ((s.extract 0 p.size).toList == p.toList) = true) : Calls Tryz.prog 15 #[.string s, .string p] w (fun e w' => e = .returned (.bool true) ∧ w = w') := by
  have HP := hide (hp2_any w s p h1 h2)
  clear h1 h2
  go_enter Tryz.func15, Tryz.ntmps15
  go_wp2_with fail
  refine HP.out.mono ?_
  rintro en w1 ⟨rfl, rfl⟩
  go_wp2
  go_ret
  exact ⟨rfl, rfl⟩
theorem pre_of (a b : Bs) : (((⟨(a ++ b).toArray⟩ : ByteArray).extract 0 (⟨a.toArray⟩ : ByteArray).size).toList == (⟨a.toArray⟩ : ByteArray).toList) = true := by
  have h := Lib.extract_data (⟨(a ++ b).toArray⟩ : ByteArray)
  rw [Lib.toList_data, Lib.toList_data, beq_iff_eq]
  simp [ByteArray.size, ByteArray.extract, ByteArray.copySlice]
set_option maxRecDepth 100000 in
set_option maxHeartbeats 4000000 in
theorem awake_any : Calls Tryz.prog 5 #[] w (Ret (.bool true) w) := by
  have H0 := hide (fun w => encL_any w (.slice none 0 0) [] (by decide) Lst.nil)
  have H1 := hide (fun w => encV_any w ⟨1, 1, ⟨#[]⟩⟩ ⟨by show inI (1); unfold inI; omega, by show inI (1); unfold inI; omega⟩ (Nat.zero_le _))
  have H2 := hide (fun w => encV_any w ⟨2, 0, ⟨#[97]⟩⟩ ⟨by show inI (2); unfold inI; omega, by show inI (0); unfold inI; omega⟩ (by decide))
  have H3 := hide (fun w => encV_any w ⟨0, 64, ⟨#[]⟩⟩ ⟨by show inI (0); unfold inI; omega, by show inI (64); unfold inI; omega⟩ (Nat.zero_le _))
  have H4 := hide (fun w => encV_any w ⟨0, -1, ⟨#[]⟩⟩ ⟨by show inI (0); unfold inI; omega, by show inI (-1); unfold inI; omega⟩ (Nat.zero_le _))
  rw [aw0] at H0
  rw [aw1] at H1
  rw [aw2] at H2
  rw [aw3] at H3
  rw [aw4] at H4
  simp only [strE, numE] at H0 H1 H2 H3 H4
  have H5 := hide (fun w => checksum_any ⟨#[]⟩ w (Nat.zero_le _))
  have H6 := hide (fun w => checksum_any ⟨#[0]⟩ w (by decide))
  rw [show ((⟨#[]⟩ : ByteArray).data.toList) = [] from rfl, aws0] at H5
  rw [show ((⟨#[0]⟩ : ByteArray).data.toList) = [0] from rfl, aws1] at H6
  have P1 := hide (fun w => hp_any w ⟨([2, 2] ++ [95, 123, 143, 197] : Bs).toArray⟩ ⟨([2, 2] : Bs).toArray⟩ (by decide) (pre_of _ _))
  have P2 := hide (fun w => hp_any w ⟨([4, 2, 97] ++ [98, 17, 203, 70] : Bs).toArray⟩ ⟨([4, 2, 97] : Bs).toArray⟩ (by decide) (pre_of _ _))
  have P3 := hide (fun w => hp_any w ⟨([0, 128, 1] ++ [74, 238, 42, 164] : Bs).toArray⟩ ⟨([0, 128, 1] : Bs).toArray⟩ (by decide) (pre_of _ _))
  have P4 := hide (fun w => hp_any w ⟨([0, 1] ++ [16, 118, 150, 58] : Bs).toArray⟩ ⟨([0, 1] : Bs).toArray⟩ (by decide) (pre_of _ _))
  go_enter Tryz.func5, Tryz.ntmps5
  go_wp2_with fail
  refine (H0.out _).mono ?_
  rintro en w1 ⟨rfl, hb⟩
  have HB := hide hb
  clear hb
  go_wp2_with fail
  refine (H1.out _).mono ?_
  rintro en w2 ⟨rfl, hb⟩
  replace HB := hide (bthen HB.out hb)
  clear hb
  go_wp2_with fail
  refine (H2.out _).mono ?_
  rintro en w3 ⟨rfl, hb⟩
  replace HB := hide (bthen HB.out hb)
  clear hb
  go_wp2_with fail
  refine (H3.out _).mono ?_
  rintro en w4 ⟨rfl, hb⟩
  replace HB := hide (bthen HB.out hb)
  clear hb
  go_wp2_with fail
  refine (H4.out _).mono ?_
  rintro en w5 ⟨rfl, hb⟩
  replace HB := hide (bthen HB.out hb)
  clear hb
  go_wp2_with fail
  refine (H5.out _).mono ?_
  rintro en w6 ⟨rfl, rfl⟩
  go_wp2_with fail
  refine (H6.out _).mono ?_
  rintro en w6 ⟨rfl, rfl⟩
  go_wp2_with fail
  refine (P1.out _).mono ?_
  rintro en w6 ⟨rfl, rfl⟩
  go_wp2_with fail
  refine (P2.out _).mono ?_
  rintro en w6 ⟨rfl, rfl⟩
  go_wp2_with fail
  refine (P3.out _).mono ?_
  rintro en w6 ⟨rfl, rfl⟩
  go_wp2_with fail
  refine (P4.out _).mono ?_
  rintro en w6 ⟨rfl, rfl⟩
  go_wp2
  go_ret
  exact Ret.bool rfl HB.out
end
end Go.Proofs.YtofdcgojgcnopaaGreat
