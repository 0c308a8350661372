/-
  A RANGE OVER A FUNCTION WHOSE ITERATOR ITSELF WRITES MEMORY THAT THE LOOP's BODY READS: the caller has one invariant behind a round (I) and another at the yield (Iy); the iterator's own step T leads from the one to the other.
-/
import Derived.Test.YthjclpfddfjfhaaRows
import Derived.RangeFuncNested
import Derived.RangeFuncBound
import Derived.RangeFuncCalls
import Derived.RangeFuncLeaves
import Derived.WalkKit
namespace Go.Proofs.Ythjclpfddfjfhaa
open Go.RowKit

section
variable {F : Fence} {n : Nat} {P : Program}
/-- the iterator g: from a world at which J holds of what has come it goes by its own step T to one at which it yields -/
def SeqT {α : Type} (F : Fence) (n : Nat) (P : Program) (g : Nat) (lb : Array Value) (encs : α → Array Value) (Kp : World → World → Prop) (T : List α → α → World → World → Prop) (S Sp : List α → Prop) (N : Nat) (w : World) : Prop :=
  ∀ (l : Nat) (J Jx : List α → World → Prop) (Jy : List α → α → World → Prop) (W : World), Below w.heap.size w W →
    (∀ pre x W0 W1, J pre W0 → T pre x W0 W1 → Jy pre x W1) →
    (∀ pre x W1, Jy pre x W1 → pre.length < N → YieldAt F (n - 1) P l (encs x) W1 fun e W' =>
      (e = .returned (.bool true) ∧ J (pre ++ [x]) W' ∧ Kp W1 W') ∨ (e = .returned (.bool false) ∧ Jx (pre ++ [x]) W')) →
    J [] W →
    CallsIn F n P g (#[.func (.yield l) #[] #[]] ++ lb) W fun e W' => (∃ v, e = .returned v) ∧ ((∃ xs, S xs ∧ J xs W') ∨ (∃ pre, Sp pre ∧ Jx pre W'))

theorem wpIn_rangeT {α : Type} {g : Operand} {ps : Array Tmp} {assign body : Code} {Q : Exit → Act → World → Prop} {a : Act} {w : World}
    (hro : F.round = none) (h1 : 1 ≤ n) {gf : Nat} {lb : Array Value} (hg : a.eval g = .func (.func gf) #[] lb) (hFg : F.fn gf) (eg : ∀ args w, (callFunc gf args).run P w = .ok (.enter gf args) w)
    {encs : α → Array Value} {Kp : World → World → Prop} {T : List α → α → World → World → Prop} {S Sp : List α → Prop} {N : Nat} {w0 : World} (hseq : SeqT F (n - 1) P gf lb encs Kp T S Sp N w0)
    (hKt : ∀ {A B C : World}, Kp A B → Kp B C → Kp A C) (hKb : ∀ (W : World) (l : Nat) (o o' : Obj), w.heap.size ≤ l → W.heap[l]? = some o → o.isCells = false → o.isWalk = false → Kp W (W.putObj l o')) (hb0 : Below w0.heap.size w0 w) (hps : ∀ x, (encs x).size = ps.size)
    (I : List α → World → Prop) (Iy : List α → α → World → Prop) (Ix : Code → List α → World → Prop) (hI : OwnFrom w.heap.size I) (hIy : ∀ x, OwnFrom w.heap.size (fun pre => Iy pre x)) (hIx : ∀ c, OwnFrom w.heap.size (Ix c)) (h0 : I [] w)
    (hTk : ∀ pre x W0 W1, T pre x W0 W1 → KeepsOthers W0 W1) (hTI : ∀ pre x W0 W1, I pre W0 → T pre x W0 W1 → Iy pre x W1) (a₁ : α → Act)
    (hassign : ∀ (l : Nat) (x : α) (W : World) (K : Act → World → Prop), K (a₁ x) W →
      assign.wpIn (F.inRound l) (n - 1 - 1) P (Exit.then K (fun _ _ _ => False)) { tmps := (ps.zip (encs x)).foldl (fun t (p, v) => t.setIfInBounds p v) a.tmps, defers := [] } W)
    (hbody : ∀ (l : Nat) (pre : List α) (x : α) (W : World), Iy pre x W → pre.length < N → body.wpIn (F.inRound l) (n - 1 - 1) P (ownPostK Kp I Ix (pre ++ [x]) W) (a₁ x) W)
    (hdone : ∀ (D : Nat) (xs : List α) (W : World), w.heap.size ≤ D → S xs → I xs W → W.heap[D]? = some (.deferred (some [])) → Q .normal { a with defers := { target := .collected D, args := #[] } :: a.defers } W)
    (hstop : ∀ (D : Nat) (c : Code) (pre : List α) (W : World), w.heap.size ≤ D → Sp pre → Ix c pre W → W.heap[D]? = some (.deferred (some [])) → c.wpIn F n P Q { a with defers := { target := .collected D, args := #[] } :: a.defers } W) :
    (Code.rangeFunc g ps assign body).wpIn F n P Q a w := by
  refine wpIn_rangeFunc fun fn hfn => ?_
  rw [hro]
  obtain ⟨rec, hrec⟩ : ∃ rec : LoopState → Option Code → Loop, rec = fun st pe => { state := st, pending := pe, fn, tmps := a.tmps, params := ps, assign, body, defers := w.heap.size } := ⟨_, rfl⟩
  obtain ⟨W1, hW1⟩ : ∃ W1, (w.alloc (.deferred (some []))).alloc (.loop (rec .ready none)) = W1 := ⟨_, rfl⟩
  have eL : W1.heap[w.heap.size + 1]? = some (.loop (rec .ready none)) := by
    rw [← hW1]
    have q := World.alloc_heap_new (w.alloc (.deferred (some []))) (.loop (rec .ready none))
    rwa [World.size_alloc] at q
  have eD : W1.heap[w.heap.size]? = some (.deferred (some [])) := by
    rw [← hW1]
    exact (Below.heap_alloc _ _ _ (by simp)).trans (World.alloc_heap_new w _)
  have eI : I [] W1 := by rw [← hW1]; exact hI.alloc _ (hI.alloc _ h0)
  have eB : Below w0.heap.size w0 W1 := by
    rw [← hW1]
    exact hb0.trans ((((Below.refl _ w).alloc (Nat.le_refl _) _).alloc (by simp) _).mono hb0.size)
  refine ⟨w.heap.size + 1, [{ target := .collected w.heap.size, args := #[] }], W1, { target := .fn (.func gf) lb, args := #[.func (.yield (w.heap.size + 1)) #[] #[]] }, W1, gf,
    #[.func (.yield (w.heap.size + 1)) #[] #[]] ++ lb, W1, ?_, ?_, ?_, ?_, fun _ => h1, ?_⟩
  · rw [← hW1, hrec]; exact run_enterLoop_outer _ _ _ _ _
  · simp only [resolve, hg]; simp [go_sem]
  · intro f' hf'; simp [Target.leads] at hf'; subst hf'; exact hFg
  · simp [invoke, go_sem, eg]
  · refine (hseq (w.heap.size + 1)
      (fun pre W => I pre W ∧ W.heap[w.heap.size + 1]? = some (.loop (rec .ready none)) ∧ W.heap[w.heap.size]? = some (.deferred (some [])))
      (fun pre W => ∃ c, Ix c pre W ∧ W.heap[w.heap.size + 1]? = some (.loop (rec .done (some c))) ∧ W.heap[w.heap.size]? = some (.deferred (some [])))
      (fun pre x W => Iy pre x W ∧ W.heap[w.heap.size + 1]? = some (.loop (rec .ready none)) ∧ W.heap[w.heap.size]? = some (.deferred (some [])))
      W1 eB
      (fun pre x A B hJ hT => ⟨hTI pre x A B hJ.1 hT, (hTk pre x A B hT).same _ _ hJ.2.1 rfl, (hTk pre x A B hT).same _ _ hJ.2.2 rfl⟩)
      ?_ ⟨eI, eL, eD⟩).mono ?_
    · -- a round: the record goes busy, the body runs, the record is given back
      rintro pre x W ⟨hi, hl, hd⟩ hlen
      have hlt : w.heap.size + 1 < W.heap.size := (Array.getElem?_eq_some_iff.1 hl).1
      have hy := run_yield (P := P) (args := encs x) hl (by rw [hrec]; exact hps x)
      rw [hrec] at hy
      refine ⟨fn, _, assign, body, hy, roundIn_of_wpIn hfn (hassign _ x W _ ⟨_, run_beginRound hl (by rw [hrec]), ?_⟩)⟩
      obtain ⟨V, hV⟩ : ∃ V, W.putObj (w.heap.size + 1) (.loop { rec .ready none with state := .busy }) = V := ⟨_, rfl⟩
      have vL : V.heap[w.heap.size + 1]? = some (.loop { rec .ready none with state := .busy }) := by rw [← hV]; exact World.putObj_heap_same hlt
      have vD : V.heap[w.heap.size]? = some (.deferred (some [])) := by rw [← hV]; exact (World.putObj_heap_other (by omega)).trans hd
      have vK : Kp W V := by rw [← hV]; exact hKb _ _ _ _ (by omega) hl rfl rfl
      have vI : Iy pre x V := by rw [← hV]; exact (hIy x).putObj _ hi (by omega) hl rfl
      rw [hV]
      refine wpIn_mono (hbody _ pre x V vI hlen) ?_
      have back : ∀ (jump : Option Code) (U : World), KeepsOthers V U →
          (Instr.endRound (w.heap.size + 1) jump).run P U = .ok (.bool jump.isNone) (U.putObj (w.heap.size + 1) (.loop (rec (if jump.isNone then .ready else .done) jump))) ∧
          U.heap[w.heap.size + 1]? = some (.loop { rec .ready none with state := .busy }) ∧
          (U.putObj (w.heap.size + 1) (.loop (rec (if jump.isNone then .ready else .done) jump))).heap[w.heap.size + 1]? = some (.loop (rec (if jump.isNone then .ready else .done) jump)) ∧
          (U.putObj (w.heap.size + 1) (.loop (rec (if jump.isNone then .ready else .done) jump))).heap[w.heap.size]? = some (.deferred (some [])) := by
        intro jump U hk
        have uL := hk.same _ _ vL rfl
        have q := run_endRound (P := P) jump uL
        rw [hrec] at q ⊢
        exact ⟨q, by rw [hrec] at uL; exact uL, World.putObj_heap_same (Array.getElem?_eq_some_iff.1 uL).1, (World.putObj_heap_other (by omega)).trans (hk.same _ _ vD rfl)⟩
      intro e a3 U hp
      cases e with
      | normal =>
        obtain ⟨hk, hkp, hi3⟩ := hp
        obtain ⟨q1, q2, q3, q4⟩ := back none U hk
        exact ⟨_, _, q1, .inl ⟨rfl, ⟨hI.putObj _ hi3 (by omega) q2 rfl, q3, q4⟩, hKt (hKt vK hkp) (hKb _ _ _ _ (by omega) q2 rfl rfl)⟩⟩
      | ret =>
        obtain ⟨q1, q2, q3, q4⟩ := back (some .ret) U hp.1
        exact ⟨_, _, q1, .inr ⟨rfl, .ret, (hIx _).putObj _ hp.2 (by omega) q2 rfl, q3, q4⟩⟩
      | exit id =>
        obtain ⟨q1, q2, q3, q4⟩ := back (some (.exit id)) U hp.1
        exact ⟨_, _, q1, .inr ⟨rfl, .exit id, (hIx _).putObj _ hp.2 (by omega) q2 rfl, q3, q4⟩⟩
      | goto t =>
        obtain ⟨q1, q2, q3, q4⟩ := back (some (.goto t)) U hp.1
        exact ⟨_, _, q1, .inr ⟨rfl, .goto t, (hIx _).putObj _ hp.2 (by omega) q2 rfl, q3, q4⟩⟩
      | panic ch => exact hp.elim
      | outgrown => exact hp.elim
    · rintro e W2 ⟨⟨v, rfl⟩, (⟨xs, hS, hi, hl, hd⟩ | ⟨pre, hSp, c, hi, hl, hd⟩)⟩
      · exact ⟨none, _, by have q := run_endLoop (P := P) hl (by rw [hrec]; simp); rw [hrec] at q; exact q, hdone _ xs _ (Nat.le_refl _) hS (hI.putObj _ hi (by omega) hl rfl) ((World.putObj_heap_other (by omega)).trans hd)⟩
      · exact ⟨some c, _, by have q := run_endLoop (P := P) hl (by rw [hrec]; simp); rw [hrec] at q; exact q, hstop _ c pre _ (Nat.le_refl _) hSp ((hIx c).putObj _ hi (by omega) hl rfl) ((World.putObj_heap_other (by omega)).trans hd)⟩
end
end Go.Proofs.Ythjclpfddfjfhaa
