/- A loop over an iterator that may turn blocks of its own: what the iterator promises (SeqX), and the loop's law (rangeX). Written after the library's laws for iterators that turn nothing; the blocks that the iterator may turn are a parameter here. -/
import Derived.Maps.AppendAt
import Derived.RangeFuncNested
import Derived.RangeFuncBound
import Derived.RangeFuncCalls
import Derived.RangeFuncLeaves
import Derived.RangeFuncFrom
import Derived.Shelf.Abstract
import Derived.WalkKit
import Derived.OwnWalkIn
import Derived.TacticsInMore
import Derived.LoopNIn
import Derived.LoopIn

namespace Go.Proofs.PxR
open Go Go.RowKit
set_option linter.unusedVariables false
set_option linter.unusedSimpArgs false
/-- J abides the turn of the blocks that Ok names. -/
def Stab {β : Type} (Ok : Nat → Prop) (J : β → World → Prop) : Prop :=
  ∀ s A B row, J s A → A.grownBy B row → (∀ r, row = some r → Ok r) → J s B
/-- .. and of the loop's own two blocks, which are no cells. -/
def StabB {β : Type} (Ok : Nat → Prop) (b : Nat) (I : β → World → Prop) : Prop :=
  ∀ s A B row, I s A → A.grownBy B row → (∀ r, row = some r → Ok r ∨ (r = b ∨ r = b + 1) ∧ ∃ o : Obj, A.heap[r]? = some o ∧ o.isCells = false) → I s B
theorem StabB.putObj {β : Type} {Ok : Nat → Prop} {b : Nat} {I : β → World → Prop} (h : StabB Ok b I) {s : β} {W : World} {l : Nat} {o : Obj} (o' : Obj) (hs : I s W) (hb : l = b ∨ l = b + 1) (hl : W.heap[l]? = some o) (ho : o.isCells = false) : I s (W.putObj l o') :=
  h s W _ (some l) hs (grownBy_putObj' W l o') (fun r e => by cases e; exact Or.inr ⟨hb, o, hl, ho⟩)
theorem StabB.alloc {β : Type} {Ok : Nat → Prop} {b : Nat} {I : β → World → Prop} (h : StabB Ok b I) {s : β} {W : World} (o : Obj) (hs : I s W) : I s (W.alloc o) :=
  h s W _ none hs (World.grownBy_alloc W o none) (fun r e => by cases e)
theorem StabB.and {β : Type} {Ok : Nat → Prop} {b : Nat} {I I' : β → World → Prop} (h : StabB Ok b I) (h' : StabB Ok b I') : StabB Ok b (fun s W => I s W ∧ I' s W) :=
  fun s A B row hs hg hr => ⟨h s A B row hs.1 hg hr, h' s A B row hs.2 hg hr⟩
/-- An iterator: it tells all of a row that S names, or stops behind a part of it that Sp names; between its calls of yield it turns blocks that Ok names alone (Ok is told how great the heap was when it was called). -/
def SeqX {α : Type} (F : Fence) (n : Nat) (P : Program) (g : Nat) (lb : Array Value) (encs : α → Array Value) (Kp : World → World → Prop) (Ok : Nat → Nat → Prop) (S Sp : List α → Prop) (N : Nat) (w : World) : Prop :=
  ∀ (l : Nat) (J Jx : List α → World → Prop) (W : World), Below w.heap.size w W → Stab (Ok W.heap.size) J → Stab (Ok W.heap.size) Jx →
    (∀ pre x W1, J pre W1 → pre.length < N → YieldAt F (n - 1) P l (encs x) W1 fun e W' =>
      (e = .returned (.bool true) ∧ J (pre ++ [x]) W' ∧ Kp W1 W') ∨ (e = .returned (.bool false) ∧ Jx (pre ++ [x]) W')) →
    J [] W →
    CallsIn F n P g (#[.func (.yield l) #[] #[]] ++ lb) W fun e W' => (∃ v, e = .returned v) ∧ ((∃ xs, S xs ∧ J xs W') ∨ (∃ pre, Sp pre ∧ Jx pre W'))
theorem grown_set (W : World) (p : Addr) (v : Value) : W.grownBy (W.setCell p v) (some p.block) :=
  ⟨rfl, rfl, rfl, by simp, fun i _ hne => Below.heap_setCell W p v i (fun e => hne (by rw [e]))⟩
theorem blk_other {A B : World} {row : Option Nat} {k : Nat} {o : Obj} (hg : A.grownBy B row) (h : A.heap[k]? = some o) (hne : some k ≠ row) : B.heap[k]? = some o :=
  (hg.block k (Array.getElem?_eq_some_iff.1 h).1 hne).trans h
theorem rangeX {α : Type} {F : Fence} {n : Nat} {P : Program} {g : Operand} {ps : Array Tmp} {assign body : Code} {Q : Exit → Act → World → Prop} {a : Act} {w : World}
    (hro : F.round = none) (h1 : 1 ≤ n) {gf : Nat} {lb : Array Value} (hg : a.eval g = .func (.func gf) #[] lb) (hFg : F.fn gf) (eg : ∀ args w, (callFunc gf args).run P w = .ok (.enter gf args) w)
    {encs : α → Array Value} {Kp : World → World → Prop} {Ok : Nat → Nat → Prop} {S Sp : List α → Prop} {N : Nat} {w0 : World} (hseq : SeqX F (n - 1) P gf lb encs Kp Ok S Sp N w0)
    (hKt : ∀ {A B C : World}, Kp A B → Kp B C → Kp A C) (hKb : ∀ (W : World) (o o' : Obj), W.heap[w.heap.size + 1]? = some o → o.isCells = false → Kp W (W.putObj (w.heap.size + 1) o')) (hb0 : Below w0.heap.size w0 w) (hps : ∀ x, (encs x).size = ps.size)
    (hOk : ∀ r, Ok (w.heap.size + 2) r → r ≠ w.heap.size ∧ r ≠ w.heap.size + 1)
    (I : List α → World → Prop) (Ix : Code → List α → World → Prop) (hI : StabB (Ok (w.heap.size + 2)) w.heap.size I) (hIx : ∀ c, StabB (Ok (w.heap.size + 2)) w.heap.size (Ix c)) (h0 : I [] w) (a₁ : α → Act)
    (hassign : ∀ (l : Nat) (x : α) (W : World) (K : Act → World → Prop), K (a₁ x) W →
      assign.wpIn (F.inRound l) (n - 1 - 1) P (Exit.then K (fun _ _ _ => False)) { tmps := (ps.zip (encs x)).foldl (fun t (p, v) => t.setIfInBounds p v) a.tmps, defers := [] } W)
    (hbody : ∀ (l : Nat) (pre : List α) (x : α) (W : World), I pre W → pre.length < N → body.wpIn (F.inRound l) (n - 1 - 1) P (ownPostK Kp I Ix (pre ++ [x]) W) (a₁ x) W)
    (hdone : ∀ (D : Nat) (xs : List α) (W : World), w.heap.size ≤ D → S xs → I xs W → W.heap[D]? = some (.deferred (some [])) → Q .normal { a with defers := { target := .collected D, args := #[] } :: a.defers } W)
    (hstop : ∀ (D : Nat) (c : Code) (pre : List α) (W : World), w.heap.size ≤ D → Sp pre → Ix c pre W → W.heap[D]? = some (.deferred (some [])) → c.wpIn F n P Q { a with defers := { target := .collected D, args := #[] } :: a.defers } W) :
    (Code.rangeFunc g ps assign body).wpIn F n P Q a w := by
  refine wpIn_rangeFunc ?_
  intro fn hfn
  rw [hro]
  generalize hb : w.heap.size = b at *
  let lp : LoopState → Option Code → Loop := fun st pe => { state := st, pending := pe, fn, tmps := a.tmps, params := ps, assign, body, defers := b }
  obtain ⟨rec, hrec⟩ : ∃ rec, rec = lp := ⟨lp, rfl⟩
  obtain ⟨V, hV⟩ : ∃ V, (w.alloc (.deferred (some []))).alloc (.loop (rec .ready none)) = V := ⟨_, rfl⟩
  have vs : V.heap.size = b + 2 := by rw [← hV]; simp [hb]
  have vl : V.heap[b + 1]? = some (.loop (rec .ready none)) := by
    have := World.alloc_heap_new (w.alloc (.deferred (some []))) (.loop (rec .ready none))
    rw [World.size_alloc, hb, hV] at this; exact this
  have vd : V.heap[b]? = some (.deferred (some [])) := by
    rw [← hV, ← hb]; exact (Below.heap_alloc _ _ _ (by simp)).trans (World.alloc_heap_new w _)
  have vI : I [] V := by rw [← hV]; exact hI.alloc _ (hI.alloc _ h0)
  have vb : Below w0.heap.size w0 V := by
    rw [← hV]; exact hb0.trans ((((Below.refl _ w).alloc (Nat.le_refl _) _).alloc (by simp) _).mono hb0.size)
  refine ⟨b + 1, [{ target := .collected b, args := #[] }], V, { target := .fn (.func gf) lb, args := #[.func (.yield (b + 1)) #[] #[]] }, V, gf,
    #[.func (.yield (b + 1)) #[] #[]] ++ lb, V, ?_, ?_, ?_, ?_, fun _ => h1, ?_⟩
  · rw [← hV, hrec]; simp only [lp]; rw [← hb]; exact run_enterLoop_outer _ _ _ _ _
  · simp only [resolve, hg]
    simp [go_sem]
  · intro f' hf'; simp [Target.leads] at hf'; subst hf'; exact hFg
  · simp [invoke, go_sem, eg]
  · have keep : ∀ {A B : World} {row : Option Nat} {k : Nat} {o : Obj}, (k = b ∨ k = b + 1) → A.grownBy B row → (∀ r, row = some r → Ok V.heap.size r) → A.heap[k]? = some o → B.heap[k]? = some o := by
      intro A B row k o hk hgr hr ho
      refine blk_other hgr ho (fun e => ?_)
      have := hOk k (by have := hr k e.symm; rwa [vs] at this)
      omega
    refine (hseq (b + 1)
      (fun pre W => I pre W ∧ W.heap[b + 1]? = some (.loop (rec .ready none)) ∧ W.heap[b]? = some (.deferred (some [])))
      (fun pre W => ∃ c, Ix c pre W ∧ W.heap[b + 1]? = some (.loop (rec .done (some c))) ∧ W.heap[b]? = some (.deferred (some [])))
      V vb
      (fun s A B row hs hgr hr => ⟨hI s A B row hs.1 hgr (fun r e => Or.inl (by have := hr r e; rwa [vs] at this)), keep (Or.inr rfl) hgr hr hs.2.1, keep (Or.inl rfl) hgr hr hs.2.2⟩)
      (fun s A B row hs hgr hr => by
        obtain ⟨c, hc, hl, hk⟩ := hs
        exact ⟨c, hIx c s A B row hc hgr (fun r e => Or.inl (by have := hr r e; rwa [vs] at this)), keep (Or.inr rfl) hgr hr hl, keep (Or.inl rfl) hgr hr hk⟩)
      ?_ ⟨vI, vl, vd⟩).mono ?_
    · rintro pre x W ⟨hi, hl, hk⟩ hlen
      have hlt : b + 1 < W.heap.size := (Array.getElem?_eq_some_iff.1 hl).1
      have hy := run_yield (P := P) (args := encs x) hl (by rw [hrec]; exact hps x)
      rw [hrec] at hy
      refine ⟨fn, _, assign, body, hy, roundIn_of_wpIn hfn (hassign _ x W _ ⟨_, run_beginRound hl (by rw [hrec]), ?_⟩)⟩
      obtain ⟨U, hU⟩ : ∃ U, W.putObj (b + 1) (.loop { rec .ready none with state := .busy }) = U := ⟨_, rfl⟩
      rw [hU]
      have ul : U.heap[b + 1]? = some (.loop { rec .ready none with state := .busy }) := by rw [← hU]; exact World.putObj_heap_same hlt
      have uk : U.heap[b]? = some (.deferred (some [])) := by rw [← hU]; exact (World.putObj_heap_other (by omega)).trans hk
      have uw : Kp W U := by rw [← hU]; exact hKb _ _ _ hl rfl
      have ui : I pre U := by rw [← hU]; exact hI.putObj _ hi (Or.inr rfl) hl rfl
      refine wpIn_mono (hbody _ pre x _ ui hlen) ?_
      have fin : ∀ (jump : Option Code) (Z : World), KeepsOthers U Z →
          (Instr.endRound (b + 1) jump).run P Z = .ok (.bool jump.isNone) (Z.putObj (b + 1) (.loop (rec (if jump.isNone then .ready else .done) jump))) ∧
          Z.heap[b + 1]? = some (.loop { rec .ready none with state := .busy }) ∧
          (Z.putObj (b + 1) (.loop (rec (if jump.isNone then .ready else .done) jump))).heap[b + 1]? = some (.loop (rec (if jump.isNone then .ready else .done) jump)) ∧
          (Z.putObj (b + 1) (.loop (rec (if jump.isNone then .ready else .done) jump))).heap[b]? = some (.deferred (some [])) := fun jump Z hz => by
        have zl := hz.same _ _ ul rfl
        have hrun := run_endRound (P := P) jump zl
        rw [hrec] at hrun ⊢
        exact ⟨hrun, by rw [hrec] at zl; exact zl, World.putObj_heap_same (Array.getElem?_eq_some_iff.1 zl).1, (World.putObj_heap_other (by omega)).trans (hz.same _ _ uk rfl)⟩
      rintro e a3 Z hp
      cases e with
      | normal =>
        obtain ⟨hz, hkz, hiz⟩ := hp
        obtain ⟨hr, zl, zl2, zk⟩ := fin none Z hz
        exact ⟨_, _, hr, Or.inl ⟨rfl, ⟨hI.putObj _ hiz (Or.inr rfl) zl rfl, zl2, zk⟩, hKt (hKt uw hkz) (hKb _ _ _ zl rfl)⟩⟩
      | ret =>
        obtain ⟨hz, hiz⟩ := hp
        obtain ⟨hr, zl, zl2, zk⟩ := fin (some .ret) Z hz
        exact ⟨_, _, hr, Or.inr ⟨rfl, .ret, (hIx _).putObj _ hiz (Or.inr rfl) zl rfl, zl2, zk⟩⟩
      | exit id =>
        obtain ⟨hz, hiz⟩ := hp
        obtain ⟨hr, zl, zl2, zk⟩ := fin (some (.exit id)) Z hz
        exact ⟨_, _, hr, Or.inr ⟨rfl, (.exit id), (hIx _).putObj _ hiz (Or.inr rfl) zl rfl, zl2, zk⟩⟩
      | goto t =>
        obtain ⟨hz, hiz⟩ := hp
        obtain ⟨hr, zl, zl2, zk⟩ := fin (some (.goto t)) Z hz
        exact ⟨_, _, hr, Or.inr ⟨rfl, (.goto t), (hIx _).putObj _ hiz (Or.inr rfl) zl rfl, zl2, zk⟩⟩
      | panic ch => exact hp.elim
      | outgrown => exact hp.elim
    · rintro e W2 ⟨⟨v, rfl⟩, (⟨xs, hS, hi, hl, hk⟩ | ⟨pre, hSp, c, hi, hl, hk⟩)⟩
      · exact ⟨none, _, by have := run_endLoop (P := P) hl (by rw [hrec]; simp [lp]); rw [hrec] at this; exact this, hdone _ xs _ (Nat.le_refl _) hS (hI.putObj _ hi (Or.inr rfl) hl rfl) ((World.putObj_heap_other (by omega)).trans hk)⟩
      · exact ⟨some c, _, by have := run_endLoop (P := P) hl (by rw [hrec]; simp [lp]); rw [hrec] at this; exact this, hstop _ c pre _ (Nat.le_refl _) hSp ((hIx c).putObj _ hi (Or.inr rfl) hl rfl) ((World.putObj_heap_other (by omega)).trans hk)⟩
end Go.Proofs.PxR
