/- tryExecute. The play of the fixed example, in plain words. -/
import Derived.Test.YtppaiihcaajkaaaGreatKDel
import Derived.Test.YtppaiihcaajkaaaGreatKJRd
namespace Go.Proofs.YtppaiihcaajkaaaGreat
open Go.RowKit
set_option linter.unusedVariables false
set_option linter.unusedSimpArgs false
/-- A predicate that each step of the play keeps. -/
structure QKeep (L : Nat → List Msg) (Q : Job → Prop) : Prop where
  ins : ∀ J i, i < 2 → JInv (fun i => (L i).length) sl0 J → Q J → Q (insJ J i)
  rd : ∀ J i J', i < 2 → JInv (fun i => (L i).length) sl0 J → Rdd L J i J' → Q J → Q J'
  del : ∀ J w f, w < 2 → f < 2 → JInv (fun i => (L i).length) sl0 J → Q J → Q (delJ J w f)
def RU8 (_ : World) (_ : Nat → Prop) (xs : List Value) (n : Int) : Prop := xs = [.int .u8 n] ∧ 0 ≤ n ∧ n < 256
theorem rd_U8 : Rd RU8 := ⟨fun _ h => h, fun _ h => h⟩
theorem and_bit : ∀ k ∈ List.range 256, bits BinOp.and IntKind.i64 ((k : Nat) : Int) 1 = 0 ∨ bits BinOp.and IntKind.i64 ((k : Nat) : Int) 1 = 1 := by decide +kernel
theorem and_two : ∀ k ∈ List.range 256, bits BinOp.and IntKind.u8 ((k : Nat) : Int) 3 = 0 ∨ bits BinOp.and IntKind.u8 ((k : Nat) : Int) 3 = 1 ∨ bits BinOp.and IntKind.u8 ((k : Nat) : Int) 3 = 2 ∨ bits BinOp.and IntKind.u8 ((k : Nat) : Int) 3 = 3 := by decide +kernel
theorem bit_of {x : Int} (h0 : 0 ≤ x) (h1 : x < 256) : ∃ i : Nat, i < 2 ∧ bits BinOp.and IntKind.i64 x 1 = (i : Int) := by
  have h := and_bit x.toNat (List.mem_range.2 (by omega))
  rw [Int.toNat_of_nonneg h0] at h
  rcases h with h | h
  · exact ⟨0, by omega, h⟩
  · exact ⟨1, by omega, h⟩
theorem two_of {x : Int} (h0 : 0 ≤ x) (h1 : x < 256) : bits BinOp.and IntKind.u8 x 3 = 0 ∨ bits BinOp.and IntKind.u8 x 3 = 1 ∨ bits BinOp.and IntKind.u8 x 3 = 2 ∨ bits BinOp.and IntKind.u8 x 3 = 3 := by
  have h := and_two x.toNat (List.mem_range.2 (by omega))
  rwa [Int.toNat_of_nonneg h0] at h
def RetEx (W0 : World) (L : Nat → List Msg) (b : Nat) (Q : Job → Prop) (e : Ending) (w' : World) : Prop := e = .returned (.tuple #[]) ∧ ∃ f' J', JobAt W0 L w' b f' J' ∧ Rd80 (fun i => (L i).length) 80 0 J' ∧ Q J'
section
variable (w : World)
set_option maxRecDepth 100000 in
set_option maxHeartbeats 32000000 in
theorem texec_any (W0 : World) (L : Nat → List Msg) (b : Nat) (f : Nat → Value) (J : Job) (Q : Job → Prop) (hQ : QKeep L Q) (hJ : JobAt W0 L w b f J) (hI : JInv (fun i => (L i).length) sl0 J) (hq : Q J) (acts : List Int) (A : Option Addr) (c : Nat) (ha : Lst W0 (· < W0.heap.size) 1 RU8 (.slice A acts.length c) acts) :
    Calls Tryz.prog 7 #[.pointer (some ⟨b, 0, none⟩), .slice A acts.length c] w (RetEx W0 L b Q) := by
  have HQ := hide hQ
  have HJ := hide hJ
  have HI := hide hI
  have HQJ := hide hq
  have HA := hide ha
  have hlen := ha.len
  unfold maxLen at hlen
  have HRD := hide (fun (w1 : World) (f : Nat → Value) (J : Job) (h : JobAt W0 L w1 b f J) (hi : JInv (fun i => (L i).length) sl0 J) (i : Nat) (hi2 : i < 2) => jread_any w1 W0 L b f J h hi i hi2)
  have HIN := hide (fun (w1 : World) (f : Nat → Value) (J : Job) (h : JobAt W0 L w1 b f J) (hi : JInv (fun i => (L i).length) sl0 J) (i : Nat) (hi2 : i < 2) => insert_any w1 W0 L b f J h hi i hi2)
  have HDE := hide (fun (w1 : World) (f : Nat → Value) (J : Job) (h : JobAt W0 L w1 b f J) (hi : JInv (fun i => (L i).length) sl0 J) (k i : Nat) (hk : k < 2) (hi2 : i < 2) => del_any w1 W0 L b f J h hi k i hk hi2)
  obtain ⟨m, hm⟩ : ∃ m, acts.length = m := ⟨_, rfl⟩
  have HM := hide hm
  rw [hm] at hlen HA ⊢
  clear hQ hJ hI hq ha hm
  go_enter Tryz.func7, Tryz.ntmps7
  go_wp2
  go_loopw [11] (fun ix wr => ∃ (j : Nat) (fr : Nat → Value) (Jr : Job), j ≤ m ∧ ix = .int .i64 j ∧ Hid (JobAt W0 L wr b fr Jr) ∧ Hid (JInv (fun i => (L i).length) sl0 Jr) ∧ Hid (Q Jr)) (fun ix _ => m - (intOf ix).toNat)
  case atStart => exact ⟨0, f, J, by omega, rfl, HJ, HI, HQJ⟩
  case round =>
    clear HJ HI HQJ
    obtain ⟨j, fr, Jr, hj, rfl, HJR, HIR, HQR⟩ := hrel
    have k27 : wr.cell? ⟨b, 27, none⟩ = some (.bool true) := by rw [← HJR.out.ok]; exact HJR.out.bl.c 27 (by omega)
    by_cases hlt : j < m
    · have hu0 : (0 : Int) ≤ (j : Int) := by omega
      have hu1 : (j : Int) < (m : Int) := by omega
      obtain ⟨g, off, xs, e2, hg, hxl, hc, hR⟩ := (HA.out.keep rd_U8 (Kp.of_below HJR.out.hw)).at_ (j := j) (by rw [HM.out]; exact hlt)
      obtain ⟨n, hn⟩ : ∃ n, acts[j]'(by rw [HM.out]; exact hlt) = n := ⟨_, rfl⟩
      rw [hn] at hR
      obtain ⟨rfl, hn0, hn1⟩ := hR
      cases e2
      have k0 := hc 0 _ rfl
      rw [Nat.mul_one, Nat.add_zero] at k0
      clear hc hxl hg hn
      obtain ⟨i9, hi9, e1⟩ := bit_of (x := n / 4) (by omega) (by omega)
      obtain ⟨k9, hk9, e3⟩ := bit_of (x := n / 8) (by omega) (by omega)
      have h2 := two_of hn0 hn1
      have h4 := two_of (x := n / 16) (by omega) (by omega)
      have HRD1 := hide (HRD.out wr fr Jr HJR.out HIR.out i9 hi9)
      have HIN1 := hide (HIN.out wr fr Jr HJR.out HIR.out i9 hi9)
      have HDE1 := hide (HDE.out wr fr Jr HJR.out HIR.out i9 k9 hi9 hk9)
      have HLT := hide hlt
      have fin : ∀ (w' : World) (f' : Nat → Value) (J' : Job), JobAt W0 L w' b f' J' → JInv (fun i => (L i).length) sl0 J' → Q J' → ∃ (j' : Nat) (fr : Nat → Value) (Jr : Job), j' ≤ m ∧ Value.int .i64 ((j : Int) + 1) = .int .i64 j' ∧ Hid (JobAt W0 L w' b fr Jr) ∧ Hid (JInv (fun i => (L i).length) sl0 Jr) ∧ Hid (Q Jr) := fun w' f' J' h1 h2 h3 => ⟨j + 1, f', J', by omega, by go_num, hide h1, hide h2, hide h3⟩
      have HFIN := hide fin
      clear fin
      rcases h2 with h2 | h2 | h2 | h2
      · go_wp2_with fail
        refine HRD1.out.mono ?_
        rintro e1 w1 ⟨J1, hr, rfl, f1, hJ1, hT1⟩
        have HE := hide (And.intro hJ1 (And.intro ((hr.step).inv hi9 HIR.out).1 (HQ.out.rd _ _ _ hi9 HIR.out hr HQR.out)))
        clear hJ1 hT1 HRD1 HIN1 HDE1 k0 k27
        go_wp2
        go_roundw
        case rel => exact HFIN.out _ _ _ HE.out.1 HE.out.2.1 HE.out.2.2
        case measure => simp [intOf]; omega
      · go_wp2_with fail
        refine HRD1.out.mono ?_
        rintro e1 w1 ⟨J1, hr, rfl, f1, hJ1, hT1⟩
        have HE := hide (And.intro hJ1 (And.intro ((hr.step).inv hi9 HIR.out).1 (HQ.out.rd _ _ _ hi9 HIR.out hr HQR.out)))
        clear hJ1 hT1 HRD1 HIN1 HDE1 k0 k27
        go_wp2
        go_roundw
        case rel => exact HFIN.out _ _ _ HE.out.1 HE.out.2.1 HE.out.2.2
        case measure => simp [intOf]; omega
      · go_wp2_with fail
        refine HDE1.out.mono ?_
        rintro e1 w1 ⟨rfl, f1, hJ1, hT1⟩
        have HE := hide (And.intro hJ1 (And.intro (delJ_inv HIR.out hi9 hk9) (HQ.out.del _ _ _ hi9 hk9 HIR.out HQR.out)))
        clear hJ1 hT1 HRD1 HIN1 HDE1 k0 k27
        go_wp2
        go_roundw
        case rel => exact HFIN.out _ _ _ HE.out.1 HE.out.2.1 HE.out.2.2
        case measure => simp [intOf]; omega
      · rcases h4 with h4 | h4 | h4 | h4
        · go_wp2_with fail
          refine HIN1.out.mono ?_
          rintro e1 w1 ⟨rfl, f1, hJ1, hT1⟩
          have HE := hide (And.intro hJ1 (And.intro (insJ_inv HIR.out hi9) (HQ.out.ins _ _ hi9 HIR.out HQR.out)))
          clear hJ1 hT1 HRD1 HIN1 HDE1 k0 k27
          go_wp2
          go_roundw
          case rel => exact HFIN.out _ _ _ HE.out.1 HE.out.2.1 HE.out.2.2
          case measure => simp [intOf]; omega
        · go_wp2_with fail
          refine HDE1.out.mono ?_
          rintro e1 w1 ⟨rfl, f1, hJ1, hT1⟩
          have HE := hide (And.intro hJ1 (And.intro (delJ_inv HIR.out hi9 hk9) (HQ.out.del _ _ _ hi9 hk9 HIR.out HQR.out)))
          clear hJ1 hT1 HRD1 HIN1 HDE1 k0 k27
          go_wp2
          go_roundw
          case rel => exact HFIN.out _ _ _ HE.out.1 HE.out.2.1 HE.out.2.2
          case measure => simp [intOf]; omega
        · go_wp2_with fail
          refine HDE1.out.mono ?_
          rintro e1 w1 ⟨rfl, f1, hJ1, hT1⟩
          have HE := hide (And.intro hJ1 (And.intro (delJ_inv HIR.out hi9 hk9) (HQ.out.del _ _ _ hi9 hk9 HIR.out HQR.out)))
          clear hJ1 hT1 HRD1 HIN1 HDE1 k0 k27
          go_wp2
          go_roundw
          case rel => exact HFIN.out _ _ _ HE.out.1 HE.out.2.1 HE.out.2.2
          case measure => simp [intOf]; omega
        · go_wp2_with fail
          refine HDE1.out.mono ?_
          rintro e1 w1 ⟨rfl, f1, hJ1, hT1⟩
          have HE := hide (And.intro hJ1 (And.intro (delJ_inv HIR.out hi9 hk9) (HQ.out.del _ _ _ hi9 hk9 HIR.out HQR.out)))
          clear hJ1 hT1 HRD1 HIN1 HDE1 k0 k27
          go_wp2
          go_roundw
          case rel => exact HFIN.out _ _ _ HE.out.1 HE.out.2.1 HE.out.2.2
          case measure => simp [intOf]; omega
    · obtain rfl : j = m := by omega
      have HD0 := hide (show ∀ (w1 : World) (f : Nat → Value) (J : Job) (k : Nat), JobAt W0 L w1 b f J → JInv (fun i => (L i).length) sl0 J → k < 2 → Calls Tryz.prog 19 #[.pointer (some ⟨b, 0, none⟩), .int .i64 (k : Int), .int .i64 0] w1 (RetJ W0 L b f (delJ J k 0) w1) from fun w1 f J k h hi hk => HDE.out w1 f J h hi k 0 hk (by omega))
      have HD1 := hide (show ∀ (w1 : World) (f : Nat → Value) (J : Job) (k : Nat), JobAt W0 L w1 b f J → JInv (fun i => (L i).length) sl0 J → k < 2 → Calls Tryz.prog 19 #[.pointer (some ⟨b, 0, none⟩), .int .i64 (k : Int), .int .i64 1] w1 (RetJ W0 L b f (delJ J k 1) w1) from fun w1 f J k h hi hk => HDE.out w1 f J h hi k 1 hk (by omega))
      have HR0 := hide (rd80_begin HIR.out)
      clear HDE k27
      go_wp2
      go_loopw [7] (fun ix wy => ∃ (r : Nat) (fr : Nat → Value) (Jr : Job), r ≤ 80 ∧ ix = .int .i64 r ∧ Hid (JobAt W0 L wy b fr Jr) ∧ Hid (Rd80 (fun i => (L i).length) r 0 Jr) ∧ Hid (Q Jr)) (fun ix _ => 80 - (intOf ix).toNat)
      case atStart => exact ⟨0, fr, Jr, by omega, rfl, HJR, HR0, HQR⟩
      case round =>
        clear HJR HR0 HQR HIR
        obtain ⟨r, fr, Jr, hr80, rfl, HJR, HRR, HQR⟩ := hrel
        have k27 : wr.cell? ⟨b, 27, none⟩ = some (.bool true) := by rw [← HJR.out.ok]; exact HJR.out.bl.c 27 (by omega)
        by_cases hr8 : r < 80
        · have t80 : decide ((r : Int) < 80) = true := decide_eq_true (by omega)
          go_wp2
          clear k27 t80
          go_loopw [66] (fun ix wy => ∃ (i : Nat) (fr : Nat → Value) (Jr : Job), i ≤ 2 ∧ ix = .int .i64 i ∧ Hid (JobAt W0 L wy b fr Jr) ∧ Hid (Rd80 (fun i => (L i).length) r i Jr) ∧ Hid (Q Jr)) (fun ix _ => 2 - (intOf ix).toNat)
          case atStart => exact ⟨0, fr, Jr, by omega, rfl, HJR, HRR, HQR⟩
          case round =>
            clear HJR HRR HQR
            obtain ⟨i, fr, Jr, hi, rfl, HJR, HRR, HQR⟩ := hrel
            by_cases hi2 : i < 2
            · have hi0 : (0 : Int) ≤ (i : Int) := by omega
              have hi1 : (i : Int) < 2 := by omega
              by_cases h8 : 8 < r
              · have t8 : decide ((8 : Int) < (r : Int)) = true := decide_eq_true (by omega)
                have H8 := hide h8
                have hin := hide (HIN.out wr fr Jr HJR.out HRR.out.inv i hi2)
                go_wp2_with fail
                refine hin.out.mono ?_
                rintro e1 w1 ⟨rfl, f1, hJ1, -⟩
                have HJ1 := hide hJ1
                have HI1 := hide (insJ_inv HRR.out.inv hi2)
                have HQ1 := hide (HQ.out.ins _ _ hi2 HRR.out.inv HQR.out)
                clear hJ1 hin t8 h8
                have hrd := hide (HRD.out w1 f1 _ HJ1.out HI1.out i hi2)
                go_wp2_with fail
                refine hrd.out.mono ?_
                rintro e2 w2 ⟨J2, hr, rfl, f2, hJ2, -⟩
                have HRS := hide hr
                have HJ2 := hide hJ2
                have HI2 := hide ((hr.step).inv hi2 HI1.out).1
                have HQ2 := hide (HQ.out.rd _ _ _ hi2 HI1.out hr HQ1.out)
                clear hr hJ2 hrd
                have HTU := hide (HRR.out.turn hi2 (by rw [if_pos H8.out]) (Rdd.step HRS.out))
                have HTQ := hide (HQ.out.del _ _ 1 hi2 (by omega) (delJ_inv HI2.out hi2 (by omega)) (HQ.out.del _ _ 0 hi2 (by omega) HI2.out HQ2.out))
                have hd0 := hide (HD0.out w2 f2 J2 i HJ2.out HI2.out hi2)
                go_wp2_with fail
                refine hd0.out.mono ?_
                rintro e3 w3 ⟨rfl, f3, hJ3, -⟩
                have HJ3 := hide hJ3
                have hd1 := hide (HD1.out w3 f3 _ i hJ3 (delJ_inv HI2.out hi2 (by omega)) hi2)
                clear hJ3 hd0
                go_wp2_with fail
                refine hd1.out.mono ?_
                rintro e4 w4 ⟨rfl, f4, hJ4, -⟩
                have HJ4 := hide hJ4
                clear hJ4 hd1
                go_wp2
                go_roundw
                case rel => exact ⟨i + 1, f4, _, by omega, by go_num, HJ4, HTU, HTQ⟩
                case measure => simp [intOf]; omega
              · have t8 : decide ((8 : Int) < (r : Int)) = false := decide_eq_false (by omega)
                have H8 := hide h8
                clear h8
                have hrd := hide (HRD.out wr fr Jr HJR.out HRR.out.inv i hi2)
                go_wp2_with fail
                refine hrd.out.mono ?_
                rintro e2 w2 ⟨J2, hr, rfl, f2, hJ2, -⟩
                have HRS := hide hr
                have HJ2 := hide hJ2
                have HI2 := hide ((hr.step).inv hi2 HRR.out.inv).1
                have HQ2 := hide (HQ.out.rd _ _ _ hi2 HRR.out.inv hr HQR.out)
                clear hr hJ2 hrd
                have HTU := hide (HRR.out.turn hi2 (by rw [if_neg H8.out]) (Rdd.step HRS.out))
                have HTQ := hide (HQ.out.del _ _ 1 hi2 (by omega) (delJ_inv HI2.out hi2 (by omega)) (HQ.out.del _ _ 0 hi2 (by omega) HI2.out HQ2.out))
                have hd0 := hide (HD0.out w2 f2 J2 i HJ2.out HI2.out hi2)
                go_wp2_with fail
                refine hd0.out.mono ?_
                rintro e3 w3 ⟨rfl, f3, hJ3, -⟩
                have HJ3 := hide hJ3
                have hd1 := hide (HD1.out w3 f3 _ i hJ3 (delJ_inv HI2.out hi2 (by omega)) hi2)
                clear hJ3 hd0
                go_wp2_with fail
                refine hd1.out.mono ?_
                rintro e4 w4 ⟨rfl, f4, hJ4, -⟩
                have HJ4 := hide hJ4
                clear hJ4 hd1
                go_wp2
                go_roundw
                case rel => exact ⟨i + 1, f4, _, by omega, by go_num, HJ4, HTU, HTQ⟩
                case measure => simp [intOf]; omega
            · obtain rfl : i = 2 := by omega
              go_wp2
              go_roundw
              case rel => exact ⟨r + 1, fr, Jr, by omega, by go_num, HJR, hide HRR.out.next, HQR⟩
              case measure => simp [intOf]; omega
        · obtain rfl : r = 80 := by omega
          go_wp2
          go_end0
          exact ⟨rfl, fr, Jr, HJR.out, HRR.out, HQR.out⟩
end
end Go.Proofs.YtppaiihcaajkaaaGreat

namespace Go.Proofs.YtppaiihcaajkaaaGreat
set_option linter.unusedVariables false
set_option linter.unusedSimpArgs false
def xA : Evt := ⟨0, 0, 0, 1, [⟨2, 0, ⟨#[97]⟩⟩]⟩
def xB : Evt := ⟨0, 1, 0, 2, [⟨2, 0, ⟨#[]⟩⟩]⟩
def iA : Itm := ⟨0, xA, 0⟩
def iB : Itm := ⟨0, xB, 0⟩
def LX : Nat → List Msg := fun i => if i = 0 then [⟨0, xA, 0, 0, 0⟩, ⟨0, xB, 0, 0, 0⟩] else []
theorem route_A : routeN iA = [1] := by decide +kernel
theorem route_B : routeN iB = [0] := by decide +kernel
theorem evok_A : EvOK xA := ⟨⟨⟨by decide, by decide⟩, ⟨by decide, by decide⟩, ⟨by decide, by decide⟩⟩, rfl, _, rfl, by unfold valOK; decide⟩
theorem evok_B : EvOK xB := ⟨⟨⟨by decide, by decide⟩, ⟨by decide, by decide⟩, ⟨by decide, by decide⟩⟩, rfl, _, rfl, by unfold valOK; decide⟩
theorem pass_A : PassE ⟨0, xA, 0, 0, 0⟩ := ⟨rfl, rfl, rfl, ⟨by decide, by decide⟩, ⟨by decide, by decide⟩, ⟨by decide, by decide⟩⟩
theorem pass_B : PassE ⟨0, xB, 0, 0, 0⟩ := ⟨rfl, rfl, rfl, ⟨by decide, by decide⟩, ⟨by decide, by decide⟩, ⟨by decide, by decide⟩⟩
theorem lx0 : (LX 0).length = 2 := rfl
theorem lx1 : (LX 1).length = 0 := rfl
/-- What stays true of the example behind its barrier. -/
def QC (J : Job) : Prop := J.ins 0 = true ∧ J.sent 0 = [] ∧ J.sent 1 = [iA] ∧ J.all 1 = [iA] ∧ ((J.off 0 = 1 ∧ J.all 0 = []) ∨ (J.off 0 = 2 ∧ J.all 0 = [iB])) ∧ J.trk 0 = ⟨(J.off 0 : Int), [], [], -1⟩
theorem QC.off {J : Job} (h : QC J) : J.off 0 = 1 ∨ J.off 0 = 2 := by
  rcases h.2.2.2.2.1 with h | h
  · exact .inl h.1
  · exact .inr h.1
theorem sendJ_bar (J : Job) (i : Nat) : (sendJ J i barI).sent = J.sent ∧ (sendJ J i barI).all = J.all := by
  unfold sendJ
  rw [route_bar]
  simp only [List.foldl_cons, List.foldl_nil]
  exact ⟨(send1_bar _ _ _).1.trans (send1_bar _ _ _).1, (send1_bar _ _ _).2.trans (send1_bar _ _ _).2⟩
theorem QC.of_eq {J J' : Job} (h : QC J) (h1 : J'.ins 0 = J.ins 0) (h2 : J'.sent = J.sent) (h3 : J'.all = J.all) (h4 : J'.off = J.off) (h5 : J'.trk = J.trk) : QC J' := by
  unfold QC
  rw [h1, h2, h3, h4, h5]
  exact h
theorem sim_A (x : Trk) (hx : x = ⟨0, [], [], -1⟩) : SimA ((0 : Nat) : Int) x ⟨0, xA, 0, 0, 0⟩ := by
  subst hx
  exact ⟨⟨rfl, pass_A, by unfold Sim; simp [xA]⟩, evok_A, rfl⟩
theorem sim_B (x : Trk) (hx : x = ⟨((1 : Nat) : Int), [], [], -1⟩) : SimA ((0 : Nat) : Int) x ⟨0, xB, 0, 0, 0⟩ := by
  subst hx
  exact ⟨⟨rfl, pass_B, by unfold Sim; simp [xB]⟩, evok_B, rfl⟩
theorem qc_keep : QKeep LX QC := by
  refine ⟨fun J i hi _ h => ?_, fun J i J' hi hI hr h => ?_, fun J w f _ _ _ h => ?_⟩
  · have hc : i = 0 ∨ i = 1 := by omega
    rcases hc with rfl | rfl
    · unfold insJ
      rw [if_pos h.1]
      exact h
    · unfold insJ
      split
      · exact h
      · obtain ⟨h1, h2, h3⟩ := sendJ_off J 1 barI
        obtain ⟨h4, h5⟩ := sendJ_bar J 1
        refine h.of_eq ?_ h4 h5 h1 h3
        show fset (sendJ J 1 barI).ins 1 true 0 = J.ins 0
        rw [fset_ne (by omega), h2]
  · have hc : i = 0 ∨ i = 1 := by omega
    rcases hc with rfl | rfl
    · rcases hr with ⟨-, rfl⟩ | ⟨hlt, l, y, -, -, -, hs, rfl⟩
      · exact h
      · have ho : J.off 0 = 1 := by
          rcases h.off with e | e
          · exact e
          · rw [e, lx0] at hlt; omega
        have hM : (LX 0)[J.off 0] = ⟨0, xB, 0, 0, 0⟩ := by simp only [ho]; rfl
        rw [hM] at hs
        obtain ⟨rfl, rfl⟩ := hs (sim_B _ (by rw [h.2.2.2.2.2, ho]))
        obtain ⟨q1, q2, q3, q4, q5, q6⟩ := h
        have ha : J.all 0 = [] := by
          rcases q5 with e | e
          · exact e.2
          · omega
        have hb : isB iB = false := rfl
        have e : readJ J 0 [⟨0, xB, 0⟩] ⟨(J.trk 0).next + 1, [], [], (J.trk 0).mark⟩ = send1 { J with off := fset J.off 0 (J.off 0 + 1), trk := fset J.trk 0 ⟨(J.trk 0).next + 1, [], [], (J.trk 0).mark⟩ } 0 0 iB := by
          unfold readJ
          simp only [List.foldl_cons, List.foldl_nil]
          show sendJ _ 0 iB = _
          unfold sendJ
          rw [route_B]
          rfl
        show QC (readJ J 0 [⟨0, xB, 0⟩] ⟨(J.trk 0).next + 1, [], [], (J.trk 0).mark⟩)
        rw [e]
        refine ⟨q1, ?_, ?_, ?_, .inr ⟨?_, ?_⟩, ?_⟩
        · simp only [send1, q1, hb]; simp [q2]
        · simp only [send1, q1, hb]; simp [q3]
        · simp only [send1, hb, if_true]; rw [fset_ne (by omega)]; exact q4
        · show fset J.off 0 (J.off 0 + 1) 0 = 2
          rw [fset_same, ho]
        · simp only [send1, hb, if_true]; rw [fset_same, ha]; rfl
        · show fset J.trk 0 _ 0 = (⟨((fset J.off 0 (J.off 0 + 1) 0 : Nat) : Int), [], [], -1⟩ : Trk)
          rw [fset_same, fset_same, q6, ho]; rfl
    · rcases hr with ⟨-, rfl⟩ | ⟨hlt, -⟩
      · exact h
      · rw [lx1] at hlt; omega
  · obtain ⟨h1, h2, h3, h4, h5⟩ := delJ_off (J := J) (w := w) (f := f)
    exact h.of_eq (by rw [h2]) h5 h4 h1 h3
theorem qc_start {J' : Job} (hr : Rdd LX job0 0 J') : QC (insJ J' 0) := by
  rcases hr with ⟨e, -⟩ | ⟨hlt, l, y, -, -, -, hs, rfl⟩
  · rw [lx0] at e; exact absurd e (by decide)
  · have hM : (LX 0)[job0.off 0] = ⟨0, xA, 0, 0, 0⟩ := rfl
    rw [hM] at hs
    obtain ⟨rfl, rfl⟩ := hs (sim_A _ rfl)
    have hb : isB iA = false := rfl
    have e : readJ job0 0 [⟨0, xA, 0⟩] ⟨(job0.trk 0).next + 1, [], [], (job0.trk 0).mark⟩ = send1 { job0 with off := fset job0.off 0 (job0.off 0 + 1), trk := fset job0.trk 0 ⟨(job0.trk 0).next + 1, [], [], (job0.trk 0).mark⟩ } 0 1 iA := by
      unfold readJ
      simp only [List.foldl_cons, List.foldl_nil]
      show sendJ _ 0 iA = _
      unfold sendJ
      rw [route_A]
      rfl
    show QC (insJ (readJ job0 0 [⟨0, xA, 0⟩] ⟨(job0.trk 0).next + 1, [], [], (job0.trk 0).mark⟩) 0)
    rw [e]
    generalize hG : send1 { job0 with off := fset job0.off 0 (job0.off 0 + 1), trk := fset job0.trk 0 ⟨(job0.trk 0).next + 1, [], [], (job0.trk 0).mark⟩ } 0 1 iA = G
    have g1 : G.sent 0 = [] := by rw [← hG]; rfl
    have g2 : G.sent 1 = [iA] := by rw [← hG]; rfl
    have g3 : G.all 1 = [iA] := by rw [← hG]; rfl
    have g4 : G.all 0 = [] := by rw [← hG]; rfl
    have g5 : G.off 0 = 1 := by rw [← hG]; rfl
    have g6 : G.trk 0 = ⟨1, [], [], -1⟩ := by rw [← hG]; rfl
    have g7 : G.ins 0 = false := by rw [← hG]; rfl
    unfold insJ
    rw [if_neg (by rw [g7]; decide)]
    obtain ⟨h1, h2, h3⟩ := sendJ_off G 0 barI
    obtain ⟨h4, h5⟩ := sendJ_bar G 0
    refine ⟨?_, ?_, ?_, ?_, .inl ⟨?_, ?_⟩, ?_⟩
    · show fset G.ins 0 true 0 = true
      exact fset_same
    · show (sendJ G 0 barI).sent 0 = []
      rw [h4]; exact g1
    · show (sendJ G 0 barI).sent 1 = [iA]
      rw [h4]; exact g2
    · show (sendJ G 0 barI).all 1 = [iA]
      rw [h5]; exact g3
    · show (sendJ G 0 barI).off 0 = 1
      rw [h1]; exact g5
    · show (sendJ G 0 barI).all 0 = []
      rw [h5]; exact g4
    · show (sendJ G 0 barI).trk 0 = (⟨((sendJ G 0 barI).off 0 : Nat), [], [], -1⟩ : Trk)
      rw [h3, h1, g5]; exact g6
/-- The end of the example. -/
theorem qc_end {J : Job} (h : Rd80 (fun i => (LX i).length) 80 0 J) (hq : QC J) : J.num 0 = 1 ∧ J.num 1 = 1 ∧ J.taken 0 = [] ∧ J.taken 1 = [iA] ∧ (J.later 0).length = 1 ∧ (J.later 1).length = 0 := by
  obtain ⟨n0, s0, a0⟩ := rd80_end h 0 (by omega)
  obtain ⟨n1, s1, a1⟩ := rd80_end h 1 (by omega)
  obtain ⟨q1, q2, q3, q4, q5, q6⟩ := hq
  have ho := h.off 0 (by omega)
  rw [lx0, if_neg (by omega)] at ho
  have hb : J.all 0 = [iB] := by
    rcases q5 with e | e
    · omega
    · exact e.2
  rw [q2] at s0
  rw [q3] at s1
  have t0 : J.taken 0 = [] := s0.symm.eq_nil
  have t1 : J.taken 1 = [iA] := List.perm_singleton.1 s1.symm
  rw [hb, t0, List.nil_append] at a0
  rw [q4, t1] at a1
  have l0 := a0.length_eq
  have l1 := a1.length_eq
  simp only [List.length_singleton, List.length_append] at l0 l1
  exact ⟨n0, n1, t0, t1, by omega, by omega⟩
end Go.Proofs.YtppaiihcaajkaaaGreat
