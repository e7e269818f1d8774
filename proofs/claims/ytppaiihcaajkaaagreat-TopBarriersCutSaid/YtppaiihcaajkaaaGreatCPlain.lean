/- The encodings, as plain functions on lists of bytes; that decoding an encoding returns what was encoded. -/
import Derived.Test.YtppaiihcaajkaaaGreatShp
import Derived.Test.YtppaiihcaajkaaaGreatValue
namespace Go.Proofs.YtppaiihcaajkaaaGreat
set_option linter.unusedVariables false
set_option linter.unusedSimpArgs false
abbrev Bs := List UInt8
/-- A value: kind, number, text. -/
structure V3 where
  q : Int
  n : Int
  s : ByteArray
def V3.z : V3 := ⟨0, 0, ⟨#[]⟩⟩
structure Evt where
  (a b c d : Int)
  vs : List V3
structure Bnd where
  (v t s q : Int)
structure Srt where
  (s t : Int)
structure Cfg where
  st : Int
  bs : List Bnd
  ss : List Srt
structure Eng where
  mark : Int
  wait : List Evt
  runs : List Cfg
  held : List Evt
structure Pnt where
  (s t : Int)
structure Rdr where
  (src off next : Int)
  beyond : List Int
  points : List Pnt
  mark : Int
structure Kyd where
  query : Int
  key : V3
  eng : Eng
structure Opr where
  marks : List Int
  engs : List Kyd
structure Snp where
  number : Int
  rs : List Rdr
  os : List Opr
/-- The sign goes into the lowest bit. -/
def zz (n : Int) : Nat := if 0 ≤ n then (2 * n).toNat else (-2 * n - 1).toNat
def unzz (u : Nat) : Int := if u % 2 = 1 then -((u / 2 : Nat) : Int) - 1 else ((u / 2 : Nat) : Int)
def vint (u : Nat) : Bs := if u < 128 then [UInt8.ofNat u] else UInt8.ofNat (u % 128 + 128) :: vint (u / 128)
termination_by u
decreasing_by omega
def num (n : Int) : Bs := vint (zz n)
def pint (i acc : Nat) : Bs → Option (Nat × Bs)
  | [] => none
  | c :: s => if 10 ≤ i then none else if (0 < i ∧ c.toNat = 0) ∨ (i = 9 ∧ 1 < c.toNat) then none else if c.toNat < 128 then some (acc + c.toNat * 128 ^ i, s) else pint (i + 1) (acc + c.toNat % 128 * 128 ^ i) s
abbrev Ex (α : Type) := Except Int α
abbrev Ps (α : Type) := Bs → Ex (α × Bs)
def pnum : Ps Int := fun s => match pint 0 0 s with | some (u, r) => .ok (unzz u, r) | none => .error 26
def inI (n : Int) : Prop := -9223372036854775808 ≤ n ∧ n ≤ 9223372036854775807
theorem zz_lt {n : Int} (h : inI n) : zz n < 18446744073709551616 := by unfold inI at h; unfold zz; split <;> omega
theorem unzz_zz (n : Int) : unzz (zz n) = n := by
  unfold zz unzz
  split <;> split <;> omega
theorem ofNat_toNat {a : Nat} (h : a < 256) : (UInt8.ofNat a).toNat = a := by simp [UInt8.toNat_ofNat']; omega
theorem pint_vint : ∀ (k u i acc : Nat) (r : Bs), u ≤ k → u * 128 ^ i < 18446744073709551616 → i < 10 → (0 < i → 0 < u) → pint i acc (vint u ++ r) = some (acc + u * 128 ^ i, r) := by
  intro k
  induction k with
  | zero =>
    intro u i acc r hu hlt hi hp
    obtain rfl : u = 0 := by omega
    obtain rfl : i = 0 := by omega
    rw [vint]
    simp [pint]
  | succ k ih =>
    intro u i acc r hu hlt hi hp
    rw [vint]
    have h9 : i = 9 → u ≤ 1 := by
      rintro rfl
      have : u * 9223372036854775808 < 18446744073709551616 := hlt
      omega
    by_cases h : u < 128
    · rw [if_pos h, List.singleton_append, pint, ofNat_toNat (by omega), if_neg (by omega), if_neg (by omega), if_pos h]
    · rw [if_neg h, List.cons_append, pint, ofNat_toNat (by omega), if_neg (by omega), if_neg (by omega), if_neg (by omega)]
      have hd : u / 128 * 128 ^ (i + 1) + u % 128 * 128 ^ i = u * 128 ^ i := by
        have e := Nat.div_add_mod u 128
        rw [Nat.pow_succ, ← Nat.mul_assoc, Nat.mul_right_comm, ← Nat.add_mul]
        congr 1; omega
      rw [ih (u / 128) (i + 1) _ r (by omega) (by omega) (by by_cases h9' : i = 9; (have := h9 h9'; omega); omega) (by omega)]
      have hm : (u % 128 + 128) % 128 = u % 128 := by omega
      rw [hm]
      congr 2; omega
theorem pnum_num {n : Int} (h : inI n) (r : Bs) : pnum (num n ++ r) = .ok (n, r) := by
  unfold pnum num
  rw [pint_vint (zz n) (zz n) 0 0 r (Nat.le_refl _) (by simpa using zz_lt h) (by omega) (by omega)]
  simp [unzz_zz]
theorem vint_len : ∀ (k u i : Nat), u ≤ k → u * 128 ^ i < 18446744073709551616 → i < 10 → (0 < i → 0 < u) → (vint u).length ≤ 10 - i := by
  intro k
  induction k with
  | zero =>
    intro u i hu hlt hi hp
    obtain rfl : u = 0 := by omega
    rw [vint]; simp; omega
  | succ k ih =>
    intro u i hu hlt hi hp
    rw [vint]
    have h9 : i = 9 → u ≤ 1 := by
      rintro rfl
      have : u * 9223372036854775808 < 18446744073709551616 := hlt
      omega
    by_cases h : u < 128
    · rw [if_pos h]; simp; omega
    · rw [if_neg h, List.length_cons]
      have hd : u / 128 * 128 ^ (i + 1) ≤ u * 128 ^ i := by
        rw [Nat.pow_succ, ← Nat.mul_assoc, Nat.mul_right_comm]
        exact Nat.mul_le_mul_right _ (Nat.div_mul_le_self u 128)
      have := ih (u / 128) (i + 1) (by omega) (by omega) (by by_cases h9' : i = 9; (have := h9 h9'; omega); omega) (by omega)
      have h9' : i ≠ 9 := fun e => by have := h9 e; omega
      omega
theorem num_len {n : Int} (h : inI n) : (num n).length ≤ 10 := vint_len (zz n) (zz n) 0 (Nat.le_refl _) (by simpa using zz_lt h) (by omega) (by omega)

/-- One encoding behind another. -/
def andE (a b : Ex Bs) : Ex Bs := match a with | .error c => .error c | .ok x => match b with | .error c => .error c | .ok y => .ok (x ++ y)
def eMany {α : Type} (f : α → Ex Bs) : List α → Ex Bs
  | [] => .ok []
  | x :: l => andE (f x) (eMany f l)
def eL {α : Type} (f : α → Ex Bs) (l : List α) : Ex Bs := if 4096 < l.length then .error 5 else andE (.ok (num l.length)) (eMany f l)
def eN (n : Int) : Ex Bs := .ok (num n)
def eV (x : V3) : Ex Bs := if checkC x.q x.n x.s.size ≠ 0 then .error (checkC x.q x.n x.s.size) else if x.q = 2 then andE (eN x.q) (andE (eN x.s.size) (.ok x.s.data.toList)) else andE (eN x.q) (eN x.n)
def eEv (e : Evt) : Ex Bs := andE (eN e.a) (andE (eN e.b) (andE (eN e.c) (andE (eN e.d) (eL eV e.vs))))
def eBnd (b : Bnd) : Ex Bs := andE (eN b.v) (andE (eN b.t) (andE (eN b.s) (eN b.q)))
def eSrt (b : Srt) : Ex Bs := andE (eN b.s) (eN b.t)
def ePnt (b : Pnt) : Ex Bs := andE (eN b.s) (eN b.t)
def eCfg (c : Cfg) : Ex Bs := andE (eN c.st) (andE (eL eBnd c.bs) (eL eSrt c.ss))
def eEng (e : Eng) : Ex Bs := andE (eN e.mark) (andE (eL eEv e.wait) (andE (eL eCfg e.runs) (eL eEv e.held)))
def eRdr (r : Rdr) : Ex Bs := andE (eN r.src) (andE (eN r.off) (andE (eN r.next) (andE (eL eN r.beyond) (andE (eL ePnt r.points) (eN r.mark)))))
def eKyd (k : Kyd) : Ex Bs := andE (eN k.query) (andE (eV k.key) (eEng k.eng))
def eOpr (o : Opr) : Ex Bs := andE (eL eN o.marks) (eL eKyd o.engs)
def eSnp (s : Snp) : Ex Bs := andE (eN s.number) (andE (eL eRdr s.rs) (eL eOpr s.os))

/-- One reader behind another. -/
def pBind {α β : Type} (p : Ps α) (q : α → Ps β) : Ps β := fun s => match p s with | .error c => .error c | .ok (x, r) => q x r
def pRet {α : Type} (x : α) : Ps α := fun s => .ok (x, s)
def pErr {α : Type} (c : Int) : Ps α := fun _ => .error c
def pMany {α : Type} (p : Ps α) : Nat → Ps (List α)
  | 0 => pRet []
  | n + 1 => pBind p fun x => pBind (pMany p n) fun l => pRet (x :: l)
def pL {α : Type} (p : Ps α) : Ps (List α) := pBind pnum fun n => if n < 0 ∨ 4096 < n then pErr 5 else pMany p n.toNat
/-- A text of n bytes. -/
def pTake (n : Int) : Ps ByteArray := fun s => if n < 0 ∨ 64 < n then .error 13 else if (s.length : Int) < n then .error 26 else .ok (⟨(s.take n.toNat).toArray⟩, s.drop n.toNat)
def pText : Ps ByteArray := pBind pnum pTake
def pOk (v : V3) : Ps V3 := if checkC v.q v.n v.s.size ≠ 0 then pErr (checkC v.q v.n v.s.size) else pRet v
def pV : Ps V3 := pBind pnum fun k => if k < 0 ∨ 2 < k then pErr 1 else if k = 2 then pBind pText fun t => pOk ⟨k, 0, t⟩ else pBind pnum fun n => pOk ⟨k, n, ⟨#[]⟩⟩
def pEv : Ps Evt := pBind pnum fun a => pBind pnum fun b => pBind pnum fun c => pBind pnum fun d => pBind (pL pV) fun vs => pRet ⟨a, b, c, d, vs⟩
def pBnd : Ps Bnd := pBind pnum fun a => pBind pnum fun b => pBind pnum fun c => pBind pnum fun d => pRet ⟨a, b, c, d⟩
def pSrt : Ps Srt := pBind pnum fun a => pBind pnum fun b => pRet ⟨a, b⟩
def pPnt : Ps Pnt := pBind pnum fun a => pBind pnum fun b => pRet ⟨a, b⟩
def pCfg : Ps Cfg := pBind pnum fun a => pBind (pL pBnd) fun b => pBind (pL pSrt) fun c => pRet ⟨a, b, c⟩
def pEng : Ps Eng := pBind pnum fun a => pBind (pL pEv) fun b => pBind (pL pCfg) fun c => pBind (pL pEv) fun d => pRet ⟨a, b, c, d⟩
def pRdr : Ps Rdr := pBind pnum fun a => pBind pnum fun b => pBind pnum fun c => pBind (pL pnum) fun d => pBind (pL pPnt) fun e => pBind pnum fun f => pRet ⟨a, b, c, d, e, f⟩
def pKyd : Ps Kyd := pBind pnum fun a => pBind pV fun b => pBind pEng fun c => pRet ⟨a, b, c⟩
def pOpr : Ps Opr := pBind (pL pnum) fun a => pBind (pL pKyd) fun b => pRet ⟨a, b⟩
def pSnp : Ps Snp := pBind pnum fun a => pBind (pL pRdr) fun b => pBind (pL pOpr) fun c => pRet ⟨a, b, c⟩

/-- p reads what f writes, of what is well-formed. -/
def Inv {α : Type} (f : α → Ex Bs) (p : Ps α) (G : α → Prop) : Prop := ∀ x b r, G x → f x = .ok b → p (b ++ r) = .ok (x, r)
theorem andE_ok {a b : Ex Bs} {x : Bs} (h : andE a b = .ok x) : ∃ y z, a = .ok y ∧ b = .ok z ∧ x = y ++ z := by
  unfold andE at h
  cases a with
  | error c => cases h
  | ok y => cases b with
    | error c => cases h
    | ok z => cases h; exact ⟨y, z, rfl, rfl, rfl⟩
theorem pBind_ok {α β : Type} {p : Ps α} {q : α → Ps β} {s r : Bs} {x : α} (h : p s = .ok (x, r)) : pBind p q s = q x r := by unfold pBind; rw [h]
theorem inv_num : Inv eN pnum inI := by
  intro x b r hx h
  cases h
  exact pnum_num hx r
theorem inv_many {α : Type} {f : α → Ex Bs} {p : Ps α} {G : α → Prop} (h : Inv f p G) : ∀ l b r, (∀ x ∈ l, G x) → eMany f l = .ok b → pMany p l.length (b ++ r) = .ok (l, r) := by
  intro l
  induction l with
  | nil => intro b r _ hb; cases hb; rfl
  | cons x l ih =>
    intro b r hg hb
    obtain ⟨y, z, h1, h2, rfl⟩ := andE_ok hb
    rw [List.length_cons, pMany, List.append_assoc, pBind_ok (h x y _ (hg x (List.mem_cons_self ..)) h1), pBind_ok (ih z r (fun x hx => hg x (List.mem_cons_of_mem _ hx)) h2)]
    rfl
theorem inv_list {α : Type} {f : α → Ex Bs} {p : Ps α} {G : α → Prop} (h : Inv f p G) : Inv (eL f) (pL p) (fun l => ∀ x ∈ l, G x) := by
  intro l b r hg hb
  unfold eL at hb
  by_cases hl : 4096 < l.length
  · rw [if_pos hl] at hb; cases hb
  · rw [if_neg hl] at hb
    obtain ⟨y, z, h1, h2, rfl⟩ := andE_ok hb
    cases h1
    rw [pL, List.append_assoc, pBind_ok (pnum_num (by unfold inI; omega) _), if_neg (by omega), Int.toNat_natCast]
    exact inv_many h l z r hg h2
def gV (x : V3) : Prop := inI x.q ∧ inI x.n
theorem checkC_ok {k n : Int} {len : Nat} (h : checkC k n len = 0) : (k = 0 ∧ len = 0) ∨ (k = 1 ∧ len = 0) ∨ (k = 2 ∧ n = 0 ∧ len ≤ 64) := by
  unfold checkC sizeC at h
  (repeat' split at h) <;> omega
theorem bytes_nil {s : ByteArray} (h : s.size = 0) : s = ⟨#[]⟩ := by
  rcases s with ⟨⟨l⟩⟩
  cases l
  · rfl
  · simp [ByteArray.size] at h
theorem inv_V : Inv eV pV gV := by
  intro x b r hg hb
  unfold eV at hb
  by_cases hc : checkC x.q x.n x.s.size = 0
  · rw [if_neg (by simp [hc])] at hb
    obtain ⟨q, n, s⟩ := x
    simp only at hc hb hg
    have hk := checkC_ok hc
    by_cases h2 : q = 2
    · rw [if_pos h2] at hb
      obtain ⟨y, z, h1, h3, rfl⟩ := andE_ok hb
      obtain ⟨y', z', h4, h5, rfl⟩ := andE_ok h3
      cases h1; cases h4; cases h5
      have hs : s.size ≤ 64 := by omega
      have hn : n = 0 := by omega
      subst hn h2
      have hd : s.data.toList.length = s.size := by rw [Array.length_toList]; rfl
      rw [pV, List.append_assoc, pBind_ok (pnum_num (by unfold inI; omega) _), if_neg (by omega), if_pos rfl]
      have ht : pText (num s.size ++ s.data.toList ++ r) = .ok (s, r) := by
        rw [pText, List.append_assoc, pBind_ok (pnum_num (by unfold inI; omega) _), pTake, if_neg (by omega), if_neg (by rw [List.length_append, hd]; omega), Int.toNat_natCast, List.take_left' hd, List.drop_left' hd]
      rw [pBind_ok ht, pOk, if_neg (fun hx => hx hc)]
      rfl
    · rw [if_neg h2] at hb
      obtain ⟨y, z, h1, h3, rfl⟩ := andE_ok hb
      cases h1; cases h3
      have hs : s = ⟨#[]⟩ := bytes_nil (by omega)
      subst hs
      have hk2 : ¬ (q < 0 ∨ 2 < q) := by omega
      rw [pV, List.append_assoc, pBind_ok (pnum_num hg.1 _), if_neg hk2, if_neg h2, pBind_ok (pnum_num hg.2 _), pOk, if_neg (fun hx => hx hc)]
      rfl
  · rw [if_pos hc] at hb; cases hb
def gEv (e : Evt) : Prop := inI e.a ∧ inI e.b ∧ inI e.c ∧ inI e.d ∧ ∀ x ∈ e.vs, gV x
theorem inv_Ev : Inv eEv pEv gEv := by
  rintro ⟨a, b, c, d, vs⟩ y r ⟨ha, hb, hc, hd, hv⟩ h
  obtain ⟨_, _, e1, g1, rfl⟩ := andE_ok h
  obtain ⟨_, _, e2, g2, rfl⟩ := andE_ok g1
  obtain ⟨_, _, e3, g3, rfl⟩ := andE_ok g2
  obtain ⟨_, z, e4, g4, rfl⟩ := andE_ok g3
  cases e1; cases e2; cases e3; cases e4
  simp only [List.append_assoc]
  rw [pEv, pBind_ok (pnum_num ha _), pBind_ok (pnum_num hb _), pBind_ok (pnum_num hc _), pBind_ok (pnum_num hd _), pBind_ok (inv_list inv_V vs z r hv g4)]
  rfl
def gBnd (b : Bnd) : Prop := inI b.v ∧ inI b.t ∧ inI b.s ∧ inI b.q
theorem inv_Bnd : Inv eBnd pBnd gBnd := by
  rintro ⟨a, b, c, d⟩ y r ⟨ha, hb, hc, hd⟩ h
  obtain ⟨_, _, e1, g1, rfl⟩ := andE_ok h
  obtain ⟨_, _, e2, g2, rfl⟩ := andE_ok g1
  obtain ⟨_, _, e3, g3, rfl⟩ := andE_ok g2
  cases e1; cases e2; cases e3; cases g3
  simp only [List.append_assoc]
  rw [pBnd, pBind_ok (pnum_num ha _), pBind_ok (pnum_num hb _), pBind_ok (pnum_num hc _), pBind_ok (pnum_num hd _)]
  rfl
def gSrt (b : Srt) : Prop := inI b.s ∧ inI b.t
theorem inv_Srt : Inv eSrt pSrt gSrt := by
  rintro ⟨a, b⟩ y r ⟨ha, hb⟩ h
  obtain ⟨_, _, e1, g1, rfl⟩ := andE_ok h
  cases e1; cases g1
  simp only [List.append_assoc]
  rw [pSrt, pBind_ok (pnum_num ha _), pBind_ok (pnum_num hb _)]
  rfl
def gPnt (b : Pnt) : Prop := inI b.s ∧ inI b.t
theorem inv_Pnt : Inv ePnt pPnt gPnt := by
  rintro ⟨a, b⟩ y r ⟨ha, hb⟩ h
  obtain ⟨_, _, e1, g1, rfl⟩ := andE_ok h
  cases e1; cases g1
  simp only [List.append_assoc]
  rw [pPnt, pBind_ok (pnum_num ha _), pBind_ok (pnum_num hb _)]
  rfl
def gCfg (c : Cfg) : Prop := inI c.st ∧ (∀ x ∈ c.bs, gBnd x) ∧ ∀ x ∈ c.ss, gSrt x
theorem inv_Cfg : Inv eCfg pCfg gCfg := by
  rintro ⟨a, b, c⟩ y r ⟨ha, hb, hc⟩ h
  obtain ⟨_, _, e1, g1, rfl⟩ := andE_ok h
  obtain ⟨y2, z, e2, g2, rfl⟩ := andE_ok g1
  cases e1
  simp only [List.append_assoc]
  rw [pCfg, pBind_ok (pnum_num ha _), pBind_ok (inv_list inv_Bnd b y2 _ hb e2), pBind_ok (inv_list inv_Srt c z r hc g2)]
  rfl
def gEng (e : Eng) : Prop := inI e.mark ∧ (∀ x ∈ e.wait, gEv x) ∧ (∀ x ∈ e.runs, gCfg x) ∧ ∀ x ∈ e.held, gEv x
theorem inv_Eng : Inv eEng pEng gEng := by
  rintro ⟨a, b, c, d⟩ y r ⟨ha, hb, hc, hd⟩ h
  obtain ⟨_, _, e1, g1, rfl⟩ := andE_ok h
  obtain ⟨y2, _, e2, g2, rfl⟩ := andE_ok g1
  obtain ⟨y3, z, e3, g3, rfl⟩ := andE_ok g2
  cases e1
  simp only [List.append_assoc]
  rw [pEng, pBind_ok (pnum_num ha _), pBind_ok (inv_list inv_Ev b y2 _ hb e2), pBind_ok (inv_list inv_Cfg c y3 _ hc e3), pBind_ok (inv_list inv_Ev d z r hd g3)]
  rfl
def gRdr (e : Rdr) : Prop := inI e.src ∧ inI e.off ∧ inI e.next ∧ (∀ x ∈ e.beyond, inI x) ∧ (∀ x ∈ e.points, gPnt x) ∧ inI e.mark
theorem inv_Rdr : Inv eRdr pRdr gRdr := by
  rintro ⟨a, b, c, d, e, f⟩ y r ⟨ha, hb, hc, hd, he, hf⟩ h
  obtain ⟨_, _, e1, g1, rfl⟩ := andE_ok h
  obtain ⟨_, _, e2, g2, rfl⟩ := andE_ok g1
  obtain ⟨_, _, e3, g3, rfl⟩ := andE_ok g2
  obtain ⟨y4, _, e4, g4, rfl⟩ := andE_ok g3
  obtain ⟨y5, _, e5, g5, rfl⟩ := andE_ok g4
  cases e1; cases e2; cases e3; cases g5
  simp only [List.append_assoc]
  rw [pRdr, pBind_ok (pnum_num ha _), pBind_ok (pnum_num hb _), pBind_ok (pnum_num hc _), pBind_ok (inv_list inv_num d y4 _ hd e4), pBind_ok (inv_list inv_Pnt e y5 _ he e5), pBind_ok (pnum_num hf _)]
  rfl
def gKyd (k : Kyd) : Prop := inI k.query ∧ gV k.key ∧ gEng k.eng
theorem inv_Kyd : Inv eKyd pKyd gKyd := by
  rintro ⟨a, b, c⟩ y r ⟨ha, hb, hc⟩ h
  obtain ⟨_, _, e1, g1, rfl⟩ := andE_ok h
  obtain ⟨y2, z, e2, g2, rfl⟩ := andE_ok g1
  cases e1
  simp only [List.append_assoc]
  rw [pKyd, pBind_ok (pnum_num ha _), pBind_ok (inv_V b y2 _ hb e2), pBind_ok (inv_Eng c z r hc g2)]
  rfl
def gOpr (o : Opr) : Prop := (∀ x ∈ o.marks, inI x) ∧ ∀ x ∈ o.engs, gKyd x
theorem inv_Opr : Inv eOpr pOpr gOpr := by
  rintro ⟨a, b⟩ y r ⟨ha, hb⟩ h
  obtain ⟨y1, z, e1, g1, rfl⟩ := andE_ok h
  simp only [List.append_assoc]
  rw [pOpr, pBind_ok (inv_list inv_num a y1 _ ha e1), pBind_ok (inv_list inv_Kyd b z r hb g1)]
  rfl
def gSnp (s : Snp) : Prop := inI s.number ∧ (∀ x ∈ s.rs, gRdr x) ∧ ∀ x ∈ s.os, gOpr x
theorem inv_Snp : Inv eSnp pSnp gSnp := by
  rintro ⟨a, b, c⟩ y r ⟨ha, hb, hc⟩ h
  obtain ⟨_, _, e1, g1, rfl⟩ := andE_ok h
  obtain ⟨y2, z, e2, g2, rfl⟩ := andE_ok g1
  cases e1
  simp only [List.append_assoc]
  rw [pSnp, pBind_ok (pnum_num ha _), pBind_ok (inv_list inv_Rdr b y2 _ hb e2), pBind_ok (inv_list inv_Opr c z r hc g2)]
  rfl

/-- The checksum. -/
def sumStep (h : Nat) (c : UInt8) : Nat := (h ^^^ c.toNat) * 16777619 % 4294967296
def sumS (l : Bs) : Nat := l.foldl sumStep 2166136261
def sumBytes (n : Nat) : Bs := [UInt8.ofNat (n / 16777216), UInt8.ofNat (n / 65536), UInt8.ofNat (n / 256), UInt8.ofNat n]
def sealB (b : Bs) : Bs := b ++ sumBytes (sumS b)
/-- The sealed encoding, or the number of the error. -/
def sealE (r : Ex Bs) : Ex Bs := match r with | .error c => .error c | .ok b => if 1048576 < b.length + 4 then .error 13 else .ok (sealB b)
/-- What a sealed encoding holds, or the number of the error. -/
def openE {α : Type} (p : Ps α) (s : Bs) : Ex α :=
  if 1048576 < s.length then .error 13 else if s.length < 4 then .error 26 else if sealB (s.take (s.length - 4)) ≠ s then .error 26
  else match p (s.take (s.length - 4)) with | .error c => .error c | .ok (x, []) => .ok x | .ok (_, _ :: _) => .error 3
theorem open_seal {α : Type} {f : α → Ex Bs} {p : Ps α} {G : α → Prop} (h : Inv f p G) {x : α} {s : Bs} (hg : G x) (hs : sealE (f x) = .ok s) : openE p s = .ok x := by
  unfold sealE at hs
  cases hf : f x with
  | error c => rw [hf] at hs; cases hs
  | ok b =>
    rw [hf] at hs
    simp only at hs
    by_cases hl : 1048576 < b.length + 4
    · rw [if_pos hl] at hs; cases hs
    · rw [if_neg hl] at hs
      cases hs
      have hlen : (sealB b).length = b.length + 4 := by simp [sealB, sumBytes]
      have htk : (sealB b).take ((sealB b).length - 4) = b := by rw [hlen, Nat.add_sub_cancel]; exact List.take_left' rfl
      have hp := h x b [] hg hf
      rw [List.append_nil] at hp
      unfold openE
      rw [htk, if_neg (by omega), if_neg (by omega), if_neg (by simp), hp]
end Go.Proofs.YtppaiihcaajkaaaGreat
