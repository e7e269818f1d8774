/- A range over a function whose body is told which elements came before. -/
import Derived.Test.YtihbonndinnohaaSeqs
namespace Go.Proofs.Ytihbonndinnohaa
open Go.RowKit Go.Shelf
set_option linter.unusedVariables false
set_option linter.unusedSimpArgs false
attribute [local go_sem] Oper.semAt_some
/-- The iterator's contract: yield is asked for x behind pre only where G says so. -/
def SeqTold {α : Type} (F : Fence) (n : Nat) (P : Program) (gf : Nat) (lb : Array Value) (encs : α → Array Value) (Kp : World → World → Prop) (G : List α → α → Prop) (S Sp : List α → Prop) (w : World) : Prop :=
  ∀ (l : Nat) (J Jx : List α → World → Prop) (W : World), Below w.heap.size w W → AbidesFrom W.heap.size J → AbidesFrom W.heap.size Jx →
    (∀ pre x W1, J pre W1 → G pre x → YieldAt F (n - 1) P l (encs x) W1 fun e W' => (e = .returned (.bool true) ∧ J (pre ++ [x]) W' ∧ Kp W1 W') ∨ (e = .returned (.bool false) ∧ Jx (pre ++ [x]) W')) →
    J [] W → CallsIn F n P gf (#[.func (.yield l) #[] #[]] ++ lb) W fun e W' => (∃ v, e = .returned v) ∧ ((∃ xs, S xs ∧ J xs W') ∨ (∃ pre, Sp pre ∧ Jx pre W'))
/-- How the body of a round is left: it goes on, or it returns. -/
def leftQ (B : Nat) (Kp : World → World → Prop) (I Ix : World → Prop) (W : World) : Exit → Act → World → Prop
  | .normal, _, W' => KeepsFrom B W W' ∧ Kp W W' ∧ I W'
  | .ret, _, W' => KeepsFrom B W W' ∧ Ix W'
  | _, _, _ => False
section
variable {F : Fence} {n : Nat} {P : Program} {α : Type}
theorem rangeFunc_told {g : Operand} {ps : Array Tmp} {assign body : Code} {Q : Exit → Act → World → Prop} {a : Act} {w w0 : World} (hro : F.round = none) (h1 : 1 ≤ n) {gf : Nat} {lb : Array Value} (hg : a.eval g = .func (.func gf) #[] lb) (hFg : F.fn gf)
    (eg : ∀ args w, (callFunc gf args).run P w = .ok (.enter gf args) w) {encs : α → Array Value} {Kp : World → World → Prop} {G : List α → α → Prop} {S Sp : List α → Prop} (hseq : SeqTold F (n - 1) P gf lb encs Kp G S Sp w0)
    (hKt : ∀ {A B C : World}, Kp A B → Kp B C → Kp A C) (hKb : ∀ (W : World) (l : Nat) (o o' : Obj), w.heap.size ≤ l → W.heap[l]? = some o → o.isCells = false → o.isWalk = false → Kp W (W.putObj l o')) (hb0 : Below w0.heap.size w0 w) (hps : ∀ x, (encs x).size = ps.size)
    (I Ix : List α → World → Prop) (hI : OwnFrom w.heap.size I) (hIx : OwnFrom w.heap.size Ix) (h0 : I [] w) (a₁ : α → Act)
    (hassign : ∀ (l : Nat) (x : α) (W : World) (K : Act → World → Prop), K (a₁ x) W → assign.wpIn (F.inRound l) (n - 1 - 1) P (Exit.then K (fun _ _ _ => False)) { tmps := (ps.zip (encs x)).foldl (fun t (p, v) => t.setIfInBounds p v) a.tmps, defers := [] } W)
    (hbody : ∀ (l : Nat) (pre : List α) (x : α) (W : World), I pre W → G pre x → body.wpIn (F.inRound l) (n - 1 - 1) P (leftQ w.heap.size Kp (I (pre ++ [x])) (Ix (pre ++ [x])) W) (a₁ x) W)
    (hdone : ∀ (D : Nat) (xs : List α) (W : World), w.heap.size ≤ D → S xs → I xs W → W.heap[D]? = some (.deferred (some [])) → Q .normal { a with defers := { target := .collected D, args := #[] } :: a.defers } W)
    (hstop : ∀ (D : Nat) (pre : List α) (W : World), w.heap.size ≤ D → Sp pre → Ix pre W → W.heap[D]? = some (.deferred (some [])) → Code.ret.wpIn F n P Q { a with defers := { target := .collected D, args := #[] } :: a.defers } W) :
    (Code.rangeFunc g ps assign body).wpIn F n P Q a w := by
  refine wpIn_rangeFunc ?_
  intro fn hfn
  rw [hro]
  -- the two blocks that the loop lays: the mark D0, the record L0
  let rec' : LoopState → Option Code → Loop := fun st pe => { state := st, pending := pe, fn, tmps := a.tmps, params := ps, assign, body, defers := w.heap.size }
  obtain ⟨D0, hD0⟩ : ∃ D0, w.heap.size = D0 := ⟨_, rfl⟩
  obtain ⟨X, hX⟩ : ∃ X, (w.alloc (.deferred (some []))).alloc (.loop (rec' .ready none)) = X := ⟨_, rfl⟩
  have xl : X.heap[D0 + 1]? = some (.loop (rec' .ready none)) := by
    subst hX hD0
    have := World.alloc_heap_new (w.alloc (.deferred (some []))) (.loop (rec' .ready none))
    rwa [World.size_alloc] at this
  have xd : X.heap[D0]? = some (.deferred (some [])) := by
    subst hX hD0
    exact (Below.heap_alloc _ _ _ (by simp)).trans (World.alloc_heap_new w _)
  have xs : X.heap.size = D0 + 2 := by subst hX hD0; simp
  have xI : I [] X := by subst hX; exact hI.alloc _ (hI.alloc _ h0)
  have xb : Below w0.heap.size w0 X := by
    subst hX
    exact hb0.trans ((((Below.refl _ w).alloc (Nat.le_refl _) _).alloc (by simp) _).mono hb0.size)
  have hrun : (Instr.enterLoop fn a.tmps ps assign body none).run P w = .ok (D0 + 1, [{ target := .collected D0, args := #[] }]) X := by
    subst hX hD0
    exact run_enterLoop_outer _ _ _ _ _
  rw [hD0] at hI hIx hKb hbody hdone hstop
  have own : ∀ {β : Type} {K : β → World → Prop} {s : β} {U : World} {l : Nat} {o : Obj} (o' : Obj), OwnFrom D0 K → K s U → D0 ≤ l → U.heap[l]? = some o → o.isCells = false → K s (U.putObj l o') := fun o' hK hs hB hl ho => hK.putObj o' hs hB hl ho
  have walk : ∀ {A B : World} {row : Option Nat}, (∀ r, row = some r → X.heap.size ≤ r ∧ ∃ o : Obj, A.heap[r]? = some o ∧ o.isWalk = true) → ∀ r, row = some r → D0 ≤ r ∧ ∃ o : Obj, A.heap[r]? = some o ∧ o.isCells = false :=
    fun hr r e => by obtain ⟨hB, o, ho, hw⟩ := hr r e; exact ⟨by omega, o, ho, Obj.not_cells_of_walk hw⟩
  refine ⟨D0 + 1, _, X, { target := .fn (.func gf) lb, args := #[.func (.yield (D0 + 1)) #[] #[]] }, X, gf, #[.func (.yield (D0 + 1)) #[] #[]] ++ lb, X, hrun, ?_, ?_, ?_, fun _ => h1, ?_⟩
  · simp only [resolve, hg]; simp [go_sem]
  · intro f' hf'; simp [Target.leads] at hf'; subst hf'; exact hFg
  · simp [invoke, go_sem, eg]
  have told := hseq (D0 + 1) (fun pre U => I pre U ∧ U.heap[D0 + 1]? = some (.loop (rec' .ready none)) ∧ U.heap[D0]? = some (.deferred (some [])))
    (fun pre U => Ix pre U ∧ U.heap[D0 + 1]? = some (.loop (rec' .done (some .ret))) ∧ U.heap[D0]? = some (.deferred (some []))) X xb
    (fun s A B row hs hgr hr => ⟨hI s A B row hs.1 hgr (walk (B := B) hr), (grownBy_keeps hgr (fun r e => (hr r e).2) hs.2.1 rfl).trans hs.2.1, (grownBy_keeps hgr (fun r e => (hr r e).2) hs.2.2 rfl).trans hs.2.2⟩)
    (fun s A B row hs hgr hr => ⟨hIx s A B row hs.1 hgr (walk (B := B) hr), (grownBy_keeps hgr (fun r e => (hr r e).2) hs.2.1 rfl).trans hs.2.1, (grownBy_keeps hgr (fun r e => (hr r e).2) hs.2.2 rfl).trans hs.2.2⟩)
    ?round ⟨xI, xl, xd⟩
  case round =>
    rintro pre x U ⟨hi, hl, hd⟩ hGx
    have hlt := (Array.getElem?_eq_some_iff.1 hl).1
    refine ⟨fn, _, assign, body, run_yield (P := P) (args := encs x) hl (hps x), roundIn_of_wpIn hfn (hassign _ x U _ ⟨_, run_beginRound hl rfl, ?_⟩)⟩
    obtain ⟨V, hV⟩ : ∃ V, U.putObj (D0 + 1) (.loop { rec' .ready none with state := .busy }) = V := ⟨_, rfl⟩
    have vl : V.heap[D0 + 1]? = some (.loop { rec' .ready none with state := .busy }) := by subst hV; exact World.putObj_heap_same hlt
    have vd : V.heap[D0]? = some (.deferred (some [])) := by subst hV; exact (World.putObj_heap_other (by omega)).trans hd
    have vk : Kp U V := by subst hV; exact hKb _ _ _ _ (by omega) hl rfl rfl
    have vi : I pre V := by subst hV; exact own _ hI hi (by omega) hl rfl
    show body.wpIn _ _ _ _ _ (U.putObj (D0 + 1) (.loop { rec' .ready none with state := .busy }))
    rw [hV]
    refine wpIn_mono (hbody _ pre x V vi hGx) ?_
    rintro e a3 T hp
    have ends : ∀ (j : Option Code), KeepsFrom D0 V T → T.heap[D0 + 1]? = some (.loop { rec' .ready none with state := .busy }) ∧ (T.putObj (D0 + 1) (.loop (rec' (if j.isNone then .ready else .done) j))).heap[D0 + 1]? = some (.loop (rec' (if j.isNone then .ready else .done) j)) ∧
        (T.putObj (D0 + 1) (.loop (rec' (if j.isNone then .ready else .done) j))).heap[D0]? = some (.deferred (some [])) ∧ (Instr.endRound (D0 + 1) j).run P T = .ok (.bool j.isNone) (T.putObj (D0 + 1) (.loop (rec' (if j.isNone then .ready else .done) j))) := by
      intro j hk
      have tl := hk.same _ _ (by omega) vl rfl
      exact ⟨tl, World.putObj_heap_same (Array.getElem?_eq_some_iff.1 tl).1, (World.putObj_heap_other (by omega)).trans (hk.same _ _ (Nat.le_refl _) vd rfl), run_endRound (P := P) j tl⟩
    cases e with
    | normal =>
      obtain ⟨hk, hkp, hiT⟩ := hp
      obtain ⟨e1, e2, e3, e4⟩ := ends none hk
      exact ⟨_, _, e4, .inl ⟨rfl, ⟨own _ hI hiT (by omega) e1 rfl, e2, e3⟩, hKt (hKt vk hkp) (hKb _ _ _ _ (by omega) e1 rfl rfl)⟩⟩
    | ret =>
      obtain ⟨hk, hiT⟩ := hp
      obtain ⟨e1, e2, e3, e4⟩ := ends (some .ret) hk
      exact ⟨_, _, e4, .inr ⟨rfl, own _ hIx hiT (by omega) e1 rfl, e2, e3⟩⟩
    | exit id => exact hp.elim
    | goto t => exact hp.elim
    | panic ch => exact hp.elim
    | outgrown => exact hp.elim
  refine told.mono ?_
  rintro e U ⟨⟨v, rfl⟩, h⟩
  rcases h with ⟨ys, hS, hi, hl, hd⟩ | ⟨pre, hSp, hi, hl, hd⟩
  · exact ⟨none, _, run_endLoop (P := P) hl (by simp [rec']), hdone _ ys _ (Nat.le_refl _) hS (own _ hI hi (by omega) hl rfl) ((World.putObj_heap_other (by omega)).trans hd)⟩
  · exact ⟨some .ret, _, run_endLoop (P := P) hl (by simp [rec']), hstop _ pre _ (Nat.le_refl _) hSp (own _ hIx hi (by omega) hl rfl) ((World.putObj_heap_other (by omega)).trans hd)⟩
end
end Go.Proofs.Ytihbonndinnohaa
