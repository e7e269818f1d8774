/- value.Hash, keygroup.Group: written by genHash.py. -/
import Derived.Test.YtppaiihcaajkaaaGreatKBaseM
namespace Go.Proofs.YtppaiihcaajkaaaGreat
open Go.RowKit
set_option linter.unusedVariables false
set_option linter.unusedSimpArgs false

def mixN (h c : Nat) : Nat := (h ^^^ c) * 16777619 % 4294967296
theorem mixN_lt (h c : Nat) : mixN h c < 4294967296 := by unfold mixN; omega
theorem foldl_snoc' {α β : Type} (f : β → α → β) (b : β) (l : List α) (c : α) : (l ++ [c]).foldl f b = f (l.foldl f b) c := by rw [List.foldl_append]; rfl
def hashF (h : Nat) (l : List Nat) : Nat := l.foldl mixN h
theorem hashF_snoc (h : Nat) (l : List Nat) (c : Nat) : hashF h (l ++ [c]) = mixN (hashF h l) c := by unfold hashF; exact foldl_snoc' _ _ _ _
theorem hashF_lt (h : Nat) (hh : h < 4294967296) (l : List Nat) : hashF h l < 4294967296 := by
  rcases List.eq_nil_or_concat l with rfl | ⟨l', c, rfl⟩
  · exact hh
  · rw [List.concat_eq_append, hashF_snoc]; exact mixN_lt _ _
def hashL (l : List Nat) : Nat := hashF 2166136261 l
theorem hashL_snoc (l : List Nat) (c : Nat) : hashL (l ++ [c]) = mixN (hashL l) c := hashF_snoc _ l c
theorem hashL_lt (l : List Nat) : hashL l < 4294967296 := hashF_lt _ (by omega) l

theorem info_u8 : (Tryz.prog.info? 5).map (fun i => (i.zero, i.size, i.bytes)) = some (some (.int .u8 0), 1, 1) := by kernel_rfl

def u8s (l : List Nat) : List Value := l.map fun (c : Nat) => Value.int .u8 (c : Int)
theorem u8s_str (c : Nat) (s : ByteArray) : [Value.int .u8 (c : Int)] ++ Lib.strCells s = u8s (c :: s.data.toList.map (·.toNat)) := by
  simp [u8s, Lib.strCells, Function.comp_def]
theorem str_len (c : Nat) (s : ByteArray) : (c :: s.data.toList.map (·.toNat)).length = 1 + s.size := by
  rw [List.length_cons, List.length_map, Array.length_toList, Nat.add_comm]; rfl
theorem str_256 (c : Nat) (hc : c < 256) (s : ByteArray) : ∀ x ∈ c :: s.data.toList.map (·.toNat), x < 256 := by
  intro x hx
  rcases List.mem_cons.1 hx with rfl | hx
  · exact hc
  · obtain ⟨b, _, rfl⟩ := List.mem_map.1 hx
    exact b.toNat_lt
theorem hashL_take (L : List Nat) (k : Nat) (hk : k < L.length) : hashL (L.take (k + 1)) = mixN (hashL (L.take k)) L[k] := by
  rw [List.take_succ_eq_append_getElem hk, hashL_snoc]
theorem mix_u32 (h c : Nat) (hh : h < 4294967296) (hc : c < 256) : bits .xor .u32 (h : Int) (c : Int) * 16777619 % 4294967296 = (mixN h c : Nat) := by
  rw [u32_xor_nat h c hh (by omega)]
  unfold mixN
  simp

set_option maxRecDepth 100000 in
set_option maxHeartbeats 400000 in
theorem hash_str (n : Int) (s : ByteArray) (w : World) (hs : s.size ≤ maxLen) (hck : checkC 2 n s.size = 0) (h64 : s.size ≤ 64) (L : List Nat) (hL : 2 :: s.data.toList.map (·.toNat) = L) :
    Calls Tryz.prog 71 #[.agg #[.int .i64 2, .int .i64 n, .string s]] w (Ret (.tuple #[.int .i64 (hashL L : Nat), .int .i64 0]) w) := by
  obtain ⟨i0, hi0, hz0, hz1, hz2⟩ := info_parts info_u8
  have hlen : Hid (L.length = 1 + s.size) := hL ▸ str_len 2 s
  have h256 : Hid (∀ c ∈ L, c < 256) := hL ▸ str_256 2 (by omega) s
  have hxs := u8s_str 2 s
  rw [hL] at hxs
  have HX := hide hxs
  clear hxs hL
  go_enter Tryz.func71, Tryz.ntmps71
  go_wp2_with (first
    | (go_at_call 86; refine (check_any _ _ _ _ hs).mono ?_; rintro e w1 ⟨rfl, hb⟩; obtain ⟨hc, hf⟩ := bcell hb; have hz : w.heap.size < w1.heap.size := by have := hb.size; simp at this; omega)
    | (at_builtin; refine Lib.wpList_append_own_string _ rfl _ _ 23 9 rfl (w.heap.size + 1) 5 i0 Tryz.underlying23 Tryz.underlying9 hi0 hz0 hz1 hz2 (.slice (some ⟨w1.heap.size, 0, none⟩) 1 1) 1 [.int .u8 2] rfl (own_lit w1 _ _ _ _ _ hz rfl (by decide)) s rfl ?c1 ?c2 ?c3 ?_; (case c1 => unfold maxLen; omega); (case c2 => omega); (case c3 => simp; omega); intro v2 w2 hown2 hg2 _; obtain ⟨g, cap, rfl, hg, hgs, hcap, hcell⟩ := own_cells hown2 (by omega)))
  go_loop [7, 9, 40] (fun h c i => ∃ k : Nat, k ≤ 1 + s.size ∧ i = .int .i64 k ∧ h = .int .u32 (hashL (L.take k) : Nat)) (fun _ _ i => 1 + s.size - (intOf i).toNat)
  case atStart => exact ⟨0, Nat.zero_le _, rfl, rfl⟩
  case round =>
    obtain ⟨k, hk, rfl, rfl⟩ := hrel
    by_cases hlt : k < 1 + s.size
    · have hkL : k < L.length := by rw [hlen.out]; exact hlt
      have hcl : w2.cell? ⟨g, k, none⟩ = some (.int .u8 (L[k] : Nat)) := hcell k _ (by rw [show [Value.int .u8 2] ++ Lib.strCells s = u8s L from HX.out]; simp [u8s, hkL])
      have h8 : L[k] < 256 := h256.out _ (List.getElem_mem hkL)
      have HS := hide (hashL_take L k hkL)
      have HM := hide (mix_u32 (hashL (L.take k)) L[k] (hashL_lt _) h8)
      obtain ⟨c, hcc⟩ : ∃ c, L[k] = c := ⟨_, rfl⟩
      rw [hcc] at hcl h8 HS HM
      clear hcc hcell hc hf
      go_wp2
      go_round
      case rel => exact ⟨k + 1, by omega, by go_num, by rw [HS.out, HM.out]⟩
      case measure => simp [intOf]; omega
    · have hkk : k = L.length := by rw [hlen.out]; omega
      have hW : Below w.heap.size w w2 := (((Below.refl _ _).alloc (Nat.le_refl _) _).trans (hb.mono (by simp))).trans (((Below.refl _ w1).alloc (by omega) _).grown hg2 (by simp; omega) (by intro j hj; simp [Value.ownBlock] at hj; omega))
      have HT := hide (show L.take k = L by rw [hkk, List.take_length])
      have hlt2 := hashL_lt (L.take k)
      clear hkk hcell hc hf
      go_wp2
      go_ret2
      exact Ret.int2 (by rw [HT.out]) rfl hW

def byteAt (n : Int) (sh : Nat) : Nat := (n / 2 ^ sh % 256).toNat
theorem byteAt_int (n : Int) (sh : Nat) : ((byteAt n sh : Nat) : Int) = n / 2 ^ sh % 256 := by unfold byteAt; omega
theorem byteAt_lt (n : Int) (sh : Nat) : byteAt n sh < 256 := by unfold byteAt; omega
def numB (q n : Int) (j : Nat) : List Nat := q.toNat :: (List.range j).map fun i => byteAt n (56 - 8 * i)
theorem numB_succ (q n : Int) (j : Nat) : numB q n (j + 1) = numB q n j ++ [byteAt n (56 - 8 * j)] := by
  unfold numB; rw [List.range_succ, List.map_append, List.cons_append]; rfl
theorem numB_len (q n : Int) (j : Nat) : (numB q n j).length = j + 1 := by simp [numB]
theorem numB_256 (q n : Int) (hq0 : 0 ≤ q) (hq1 : q ≤ 1) (j : Nat) : ∀ x ∈ numB q n j, x < 256 := by
  intro x hx
  rcases List.mem_cons.1 hx with rfl | hx
  · omega
  · obtain ⟨b, _, rfl⟩ := List.mem_map.1 hx
    exact byteAt_lt _ _
theorem u8s_snoc (l : List Nat) (c : Nat) : u8s l ++ [Value.int .u8 (c : Int)] = u8s (l ++ [c]) := by simp [u8s]
theorem u8s_one (q n : Int) (hq0 : 0 ≤ q) : [Value.int .u8 q] = u8s (numB q n 0) := by
  simp [u8s, numB]; omega

set_option maxRecDepth 100000 in
set_option maxHeartbeats 400000 in
theorem hash_num (q n : Int) (s : ByteArray) (w : World) (hs : s.size ≤ maxLen) (hck : checkC q n s.size = 0) (hq0 : 0 ≤ q) (hq1 : q ≤ 1) :
    Calls Tryz.prog 71 #[.agg #[.int .i64 q, .int .i64 n, .string s]] w (Ret (.tuple #[.int .i64 (hashL (numB q n 8) : Nat), .int .i64 0]) w) := by
  obtain ⟨i0, hi0, hz0, hz1, hz2⟩ := info_parts info_u8
  have hq2 : (q == 2) = false := by rw [beq_eq_false_iff_ne]; omega
  go_enter Tryz.func71, Tryz.ntmps71
  go_wp2_with (first
    | (go_at_call 86; refine (check_any _ _ _ _ hs).mono ?_; rintro e w1 ⟨rfl, hb⟩; obtain ⟨hc, hf⟩ := bcell hb; have hz : w.heap.size < w1.heap.size := by have := hb.size; simp at this; omega))
  have hW1 : Below w.heap.size w w1 := bthen ((Below.refl _ _).alloc (Nat.le_refl _) _) hb
  go_loopw [5, 6] (fun v i wr => ∃ j : Nat, j ≤ 8 ∧ i = .int .i64 (56 - 8 * (j : Int)) ∧ wr.ownsRow (w.heap.size + 1) 5 1 v (j + 1) (u8s (numB q n j)) ∧ Below (w.heap.size + 1) w1 wr) (fun _ i _ => (8 + intOf i).toNat)
  case atStart =>
    exact ⟨0, by omega, rfl, u8s_one q n hq0 ▸ own_lit w1 _ _ _ _ _ hz rfl (by decide), (Below.refl _ _).alloc (by omega) _⟩
  case round =>
    obtain ⟨j, hj, rfl, hown, hB⟩ := hrel
    have hcN : wr.cell? ⟨w.heap.size, 1, none⟩ = some (.int .i64 n) := by rw [hB.cell (p := ⟨w.heap.size, 1, none⟩) (by simp), hc _ _ (by simp)]; simp
    have hsz := hB.size
    by_cases hlt : j < 8
    · clear hc hf hb
      go_wp2_with (at_builtin; refine wpList_append_one rfl _ _ 23 rfl (w.heap.size + 1) 5 i0 _ 1 Tryz.underlying23 hi0 hz0 [.int .u8 (n / 2 ^ (56 - 8 * j) % 256)] hz1 hz2 rfl (Nat.le_refl 1) _ _ _ rfl hown _ rfl (by simp [Value.oneCell']) ?c1 (by decide) ?c2 ?_; (case c1 => omega); (case c2 => omega); intro v2 w2 hown2 hb2 _)
      go_roundw
      case rel => exact ⟨j + 1, by omega, by go_num, by rw [numB_succ, ← u8s_snoc, byteAt_int]; exact hown2, hB.trans hb2⟩
      case measure => simp [intOf]; omega
    · obtain rfl : j = 8 := by omega
      obtain ⟨g, cap, rfl, hg, hgs, hcap, hcell⟩ := own_cells hown (by omega)
      have hW : Below w.heap.size w wr := hW1.trans (hB.mono (by omega))
      obtain ⟨L, hL⟩ : ∃ L, numB q n 8 = L := ⟨_, rfl⟩
      have hlen : Hid (L.length = 9) := hL ▸ numB_len q n 8
      have h256 : Hid (∀ c ∈ L, c < 256) := hL ▸ numB_256 q n hq0 hq1 8
      rw [hL] at hcell
      clear hc hf hb hown hcN hsz
      go_wp2_with fail
      go_loop [7, 9, 40] (fun h c i => ∃ k : Nat, k ≤ 9 ∧ i = .int .i64 k ∧ h = .int .u32 (hashL (L.take k) : Nat)) (fun _ _ i => 9 - (intOf i).toNat)
      case atStart => exact ⟨0, Nat.zero_le _, rfl, rfl⟩
      case round =>
        obtain ⟨k, hk, rfl, rfl⟩ := hrel
        by_cases hlt : k < 9
        · have hkL : k < L.length := by rw [hlen.out]; exact hlt
          have hcl : wr.cell? ⟨g, k, none⟩ = some (.int .u8 (L[k] : Nat)) := hcell k _ (by simp [u8s, hkL])
          have h8 : L[k] < 256 := h256.out _ (List.getElem_mem hkL)
          have HS := hide (hashL_take L k hkL)
          have HM := hide (mix_u32 (hashL (L.take k)) L[k] (hashL_lt _) h8)
          obtain ⟨c, hcc⟩ : ∃ c, L[k] = c := ⟨_, rfl⟩
          rw [hcc] at hcl h8 HS HM
          clear hcc hcell
          go_wp2
          go_round
          case rel => exact ⟨k + 1, by omega, by go_num, by rw [HS.out, HM.out]⟩
          case measure => simp [intOf]; omega
        · have hkk : k = L.length := by rw [hlen.out]; omega
          have HT := hide (show L.take k = L by rw [hkk, List.take_length])
          have hlt2 := hashL_lt (L.take k)
          clear hkk hcell
          go_wp2
          go_ret2
          exact Ret.int2 (by rw [HT.out]) rfl hW

set_option maxRecDepth 100000 in
set_option maxHeartbeats 400000 in
theorem hash_bad (q n : Int) (s : ByteArray) (w : World) (hs : s.size ≤ maxLen) (hck : (checkC q n s.size != 0) = true) :
    Calls Tryz.prog 71 #[.agg #[.int .i64 q, .int .i64 n, .string s]] w (Ret (.tuple #[.int .i64 0, .int .i64 (checkC q n s.size)]) w) := by
  go_enter Tryz.func71, Tryz.ntmps71
  go_wp2_with (go_at_call 86; refine (check_any _ _ _ _ hs).mono ?_; rintro e w1 ⟨rfl, hb⟩)
  go_ret2
  exact Ret.int2 rfl rfl (bthen ((Below.refl _ _).alloc (Nat.le_refl _) _) hb)

theorem hash_one (k : Nat) : hashL [k] = mixN 2166136261 k := by unfold hashL hashF; rw [List.foldl_cons, List.foldl_nil]
theorem hash_numB (q n : Int) : hashL (numB q n 0) = mixN 2166136261 q.toNat := by
  rw [show numB q n 0 = [q.toNat] from by simp [numB], hash_one]

theorem str_take (s : ByteArray) (k : Nat) (hk : k < s.size) (L : List Nat) (hL : 2 :: s.data.toList.map (·.toNat) = L) : hashL (L.take (k + 2)) = mixN (hashL (L.take (k + 1))) s[k].toNat := by
  have hl : k + 1 < L.length := by rw [← hL, str_len]; omega
  rw [hashL_take L (k + 1) hl]
  congr 1
  subst hL
  simp
  rfl

/-- What both compute: the hash, or 0. -/
def hashV (q n : Int) (s : ByteArray) : Int := if checkC q n s.size = 0 then (if q = 2 then (hashL (2 :: s.data.toList.map (·.toNat)) : Nat) else (hashL (numB q n 8) : Nat)) else 0
theorem hashV_bad {q n : Int} {s : ByteArray} (h : ¬ checkC q n s.size = 0) : hashV q n s = 0 := if_neg h
theorem hashV_str {n : Int} {s : ByteArray} (h : checkC 2 n s.size = 0) : hashV 2 n s = (hashL (2 :: s.data.toList.map (·.toNat)) : Nat) := by unfold hashV; rw [if_pos h, if_pos rfl]
theorem hashV_num {q n : Int} {s : ByteArray} (h : checkC q n s.size = 0) (h2 : ¬ q = 2) : hashV q n s = (hashL (numB q n 8) : Nat) := by unfold hashV; rw [if_pos h, if_neg h2]
theorem hashV_range (q n : Int) (s : ByteArray) : 0 ≤ hashV q n s ∧ hashV q n s < 4294967296 := by
  unfold hashV
  have h1 := hashL_lt (2 :: s.data.toList.map (·.toNat))
  have h2 := hashL_lt (numB q n 8)
  split
  · split <;> omega
  · omega
theorem checkC_okH {q n : Int} {l : Nat} (h : checkC q n l = 0) : (q = 0 ∨ q = 1 ∨ q = 2) ∧ l ≤ 64 := by
  unfold checkC sizeC at h
  repeat' split at h
  all_goals omega

theorem hash_any (q n : Int) (s : ByteArray) (w : World) (hs : s.size ≤ maxLen) :
    Calls Tryz.prog 71 #[.agg #[.int .i64 q, .int .i64 n, .string s]] w (Ret (.tuple #[.int .i64 (hashV q n s), .int .i64 (checkC q n s.size)]) w) := by
  by_cases h : checkC q n s.size = 0
  · obtain ⟨h1, h64⟩ := checkC_okH h
    by_cases h2 : q = 2
    · subst h2
      rw [hashV_str h, h]
      exact hash_str n s w hs h h64 _ rfl
    · rw [hashV_num h h2, h]
      exact hash_num q n s w hs h (by omega) (by omega)
  · rw [hashV_bad h]
    exact hash_bad q n s w hs (by simpa using h)

set_option maxRecDepth 100000 in
set_option maxHeartbeats 400000 in
theorem group_any (q n : Int) (s : ByteArray) (w : World) (hs : s.size ≤ maxLen) :
    Calls Tryz.prog 54 #[.agg #[.int .i64 q, .int .i64 n, .string s]] w (Ret (.tuple #[.int .i64 (hashV q n s % 16), .int .i64 (checkC q n s.size)]) w) := by
  have hr := hashV_range q n s
  have hbad := hide (@hashV_bad q n s)
  go_enter Tryz.func54, Tryz.ntmps54
  go_wp2_with (go_at_call 71; refine (hash_any _ _ _ _ hs).mono ?_; rintro e w1 ⟨rfl, hb⟩)
  all_goals go_ret2
  all_goals refine Ret.int2 ?_ ?_ (bthen ((Below.refl _ _).alloc (Nat.le_refl _) _) hb)
  all_goals (try simp only [isEmpty_size, bne_iff_ne, ne_eq, bne_eq_false_iff_eq, beq_iff_eq, beq_eq_false_iff_ne, Bool.not_eq_true', Bool.not_eq_false', decide_eq_true_eq, decide_eq_false_iff_not] at *)
  all_goals first | rfl | (rw [hbad.out ‹_›]; rfl) | omega

end Go.Proofs.YtppaiihcaajkaaaGreat
